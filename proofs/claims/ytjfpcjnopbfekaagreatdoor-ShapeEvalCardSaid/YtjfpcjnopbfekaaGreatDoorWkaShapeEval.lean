/- What functions of the program compute, walked: each as a plain function, with the theorem that the code computes it wherever that answers. Printed by a program, part 1. -/
import Derived.Test.YtjfpcjnopbfekaaGreatDoorFrdShapeEval
import Derived.KernelRfl
import Derived.Test.YtjfpcjnopbfekaaGreatDoorProg
set_option linter.unusedSimpArgs false
set_option linter.unusedVariables false
namespace Go.Proofs.YtjfpcjnopbfekaaGreatDoor
open Go.RowKit Go.Ab Go.Sh
theorem cB {a b:Bool} (h:a=b):AV.bool a=AV.bool b:=congrArg AV.bool h
theorem cN {a b:Bool} (h:a=b):AV.bool (!a)=AV.bool (!b):=congrArg (fun x=>AV.bool (!x)) h
theorem aC {p:Prop} {ps:List Prop} (h:p) (h2:bt ps):bt (p::ps):=all_cons h h2
theorem aN:bt []:=all_nil
theorem aT {ps:List Prop} (h2:bt ps):bt (True::ps):=all_cons trivial h2
theorem aB {a b:Bool} {ps:List Prop} (h:a=b) (h2:bt ps):bt ((AV.bool a=AV.bool b)::ps):=all_cons (cB h) h2
theorem aM {a b:Bool} {ps:List Prop} (h:a=b) (h2:bt ps):bt ((AV.bool (!a)=AV.bool (!b))::ps):=all_cons (cN h) h2
theorem aF {P:Program} {f:FuncId} {args:List AV} {v:AV} {ps:List Prop} (h:a8 P f args v) (h2:bt ps):bt (bo P f args [] (fun r _=>r=v)::ps):=all_cons (a8.is h) h2
theorem pI (n:Nat) (h:n<9223372036854775807):yL (((n:Nat):Int)+1):=by unfold yL;omega
theorem lF (i n:Nat) (h:¬ i<n):decide (((i:Nat):Int)<((n:Nat):Int))=false:=KU (by omega)
theorem lT (i n:Nat) (h:i<n):decide (((i:Nat):Int)<((n:Nat):Int))=true:=KV (by omega)
def nI (n:Nat):AV:=.int .i64 ((n:Nat):Int)
def iI (n:Int):AV:=.int .i64 n
def dS {α:Type} (c:α→List AV) (x:List α):AV:=.dslice (x.map c)
def r0 (d:List pO):Sg:=.rg 0 [] d
section
variable {c:Code} {fs:List Fr} {s:AS} {Q:Exit→AS→Prop}
theorem pR (n:Nat) (sg:List Sg) (cs:List Cd) (ks:List Nat) {rs:List ResultVar} {v:AV} {h1:List (Nat×AO)} {ps:List Prop} (hp:bt ps) (h:JJ Tryz.prog rs cs ks (path Tryz.prog n sg c fs s)=some (ps,v,h1):=by kernel_rfl):eC Tryz.prog c (cg Tryz.prog fs (IG Tryz.prog rs v h1)) s:=HE Tryz.mo n sg cs ks hp h
theorem pB (n:Nat) (sg:List Sg) (cs:List Cd) (S:AS) {ps:List Prop} (hp:bt ps) (h:Jo cs (path Tryz.prog n sg c fs s)=some (ps,S,S):=by kernel_rfl):eC Tryz.prog c (cg Tryz.prog fs Q) s:=sO Tryz.mo n sg cs S hp h
theorem pA (n:Nat) (sg:List Sg) (cs:List Cd) (m:Nat) (bs:List Bool) (S:AS) {ps:List Prop} (hp:bt ps) (ht:eC Tryz.prog (pc m bs c fs).1 (cg Tryz.prog (pc m bs c fs).2 Q) S)
 (h:KH cs (path Tryz.prog n sg c fs s)=some (ps,(pc m bs c fs).1,(pc m bs c fs).2,S):=by kernel_rfl):eC Tryz.prog c (cg Tryz.prog fs Q) s:=IU Tryz.mo n sg cs m bs S hp h ht
theorem aX {f:FuncId} {fn:Func} {args:List AV} {h h1:List (Nat×AO)} {v:AV} (hf:Tryz.prog.funcs[f]? = some fn) (n:Nat) (rs:List ResultVar) (ht:eC Tryz.prog (xC fn) (cg Tryz.prog [] (IG Tryz.prog rs v h1)) ⟨n,nv args 0,h⟩)
 (hok:(sU fn&&Nat.beq fn.ntmps n&&Nat.ble args.length n)=true:=by kernel_rfl) (hrs:fn.results.toList=rs:=by kernel_rfl):bo Tryz.prog f args h (fun r h'=>r=v∧h'=h1):=FX hf n rs hok hrs ht
theorem pJ {ε ρ:Type} (k:Nat) (S:ε→AS) (R:Out ε ρ) (h1:eC Tryz.prog c (cg Tryz.prog (Cm k (Kc S R) fs) Q) s) (h2:∀ e,R = .brk e→eC Tryz.prog (xu k fs) (cg Tryz.prog (fs.drop (k+1)) Q) (S e)) (hk:tg k fs=true:=by kernel_rfl):eC Tryz.prog c (cg Tryz.prog fs Q) s:=Is k S R hk h1 h2
theorem pC {σ ε ρ:Type} {body:Nat→σ→Option (gZ σ ε ρ)} {fin:Nat→σ→ε} {N i0:Nat} {st0:σ} {R:Out ε ρ} (S:Nat→σ→AS) (H:cY body fin (N-i0) i0 st0=some R)
 (zero:∀ i st,N≤i→R = .brk (fin i st)→eC Tryz.prog (lY c) (cg Tryz.prog (.bar dead::fs) Q) (S i st))
 (succ:∀ i st,i<N→∀ q,body i st=some q→sQ q R→eC Tryz.prog (lY c) (cg Tryz.prog (.bar (KJ (S (i+1)) q)::fs) Q) (S i st)) (hc:vS c=true:=by kernel_rfl):eC Tryz.prog c (cg Tryz.prog fs Q) (S i0 st0):=Kj S hc H zero succ
end
theorem aO (n:Int) {ps:List Prop} (h2:bt ps) (h:yL n:=by unfold yL;omega):bt (yL n::ps):=all_cons h h2
theorem aI {α:Type} {f:α→List AV} {sz:Nat} (hf:∀ x,(f x).length=sz) (l:List α) (n:Nat) (d:α) {ps:List Prop} (h2:bt ps) (h:n<l.length:=by omega) (h0:0<sz:=by decide) :
 bt ((((0:Int)≤(n:Int)∧(n:Int)<((l.map f).length:Int))∧(((l.map f).getD (n:Int).toNat []).length=sz∧0<sz))::(AV.dptr ((l.map f).getD (n:Int).toNat []) = .dptr (f (l.getD n d)))::ps):=aY (ix d hf h0 h) h2
theorem aH (n:Nat) {ps:List Prop} (h2:bt ps) (h:n<9223372036854775807:=by omega):bt (yL (((n:Nat):Int)+1)::ps):=all_cons (pI n h) h2
def V:Nat→List pO→List pO
 | 0,l=>l
 | n+1,l=>.v::V n l
def V1:Sg:=r0 [.v]
def V2:Sg:=r0 [.v,.v]
def V3:Sg:=r0 [.v,.v,.v]
def V4:Sg:=r0 (V 4 [])
def V5:Sg:=r0 (V 5 [])
def V6:Sg:=r0 (V 6 [])
theorem sI {α:Type} {x r:α} (h:some x=some r):x=r:=K4 h
theorem mo:Tryz.prog.follows .mixedOrders=true:=Tryz.mo
structure Coef where
 Var:ai
 C:Int
 deriving DecidableEq
def aq (x:Coef):List AV:=[.str x.Var,.int .i64 x.C]
theorem cU (x:Coef):(aq x).length=2:=rfl
theorem xH (x:Coef):(aq x).length=2∧(aq x).all (fun v=>v.one&&v.fl)=true:=⟨rfl,rfl⟩
structure Linear where
 Const:Int
 Terms:(List Coef)
 deriving DecidableEq
def ah (x:Linear):List AV:=[.int .i64 x.Const,.dslice (x.Terms.map aq)]
theorem cD (x:Linear):(ah x).length=2:=rfl
theorem rR (x:Linear):(ah x).length=2∧(ah x).all (fun v=>v.one&&v.fl)=true:=⟨rfl,rfl⟩
structure Shape where
 Row:ai
 Dims:(List Linear)
 deriving DecidableEq
def zS (x:Shape):List AV:=[.str x.Row,.dslice (x.Dims.map ah)]
theorem Jh (x:Shape):(zS x).length=2:=rfl
theorem J4 (x:Shape):(zS x).length=2∧(zS x).all (fun v=>v.one&&v.fl)=true:=⟨rfl,rfl⟩
structure Value where
 Var:ai
 N:Int
 deriving DecidableEq
def aR (x:Value):List AV:=[.str x.Var,.int .i64 x.N]
theorem dI (x:Value):(aR x).length=2:=rfl
theorem JX (x:Value):(aR x).length=2∧(aR x).all (fun v=>v.one&&v.fl)=true:=⟨rfl,rfl⟩
def wV (x:UInt8):List AV:=[.int .u8 ((x).toNat:Int)]
theorem Fv (x:UInt8):(wV x).length=1:=rfl
theorem Kv (x:UInt8):(wV x).length=1∧(wV x).all (fun v=>v.one&&v.fl)=true:=⟨rfl,rfl⟩
def ax (x:ai):List AV:=[.str x]
theorem bM (x:ai):(ax x).length=1:=rfl
theorem oT (x:ai):(ax x).length=1∧(ax x).all (fun v=>v.one&&v.fl)=true:=⟨rfl,rfl⟩
structure Bind where
 Kind:Int
 Var:ai
 Dim:Linear
 Row:Shape
 Elem:ai
 deriving DecidableEq
def bV (x:Bind):List AV:=[.int .i64 x.Kind,.str x.Var,.int .i64 x.Dim.Const,.dslice (x.Dim.Terms.map aq),.str x.Row.Row,.dslice (x.Row.Dims.map ah),.str x.Elem]
theorem iR (x:Bind):(bV x).length=7:=rfl
theorem Ke (x:Bind):(bV x).length=7∧(bV x).all (fun v=>v.one&&v.fl)=true:=⟨rfl,rfl⟩
def ab (x:Int):List AV:=[.int .i64 x]
theorem cm (x:Int):(ab x).length=1:=rfl
theorem dW (x:Int):(ab x).length=1∧(ab x).all (fun v=>v.one&&v.fl)=true:=⟨rfl,rfl⟩
structure aa where
 Coef:Int
 Vars:(List ai)
 deriving DecidableEq
def ag (x:aa):List AV:=[.int .i64 x.Coef,.dslice (x.Vars.map ax)]
theorem aS (x:aa):(ag x).length=2:=rfl
theorem kY (x:aa):(ag x).length=2∧(ag x).all (fun v=>v.one&&v.fl)=true:=⟨rfl,rfl⟩
def aG (x:(List ai)):List AV:=[.dslice (x.map ax)]
theorem I4 (x:(List ai)):(aG x).length=1:=rfl
theorem w4 (x:(List ai)):(aG x).length=1∧(aG x).all (fun v=>v.one&&v.fl)=true:=⟨rfl,rfl⟩
def aZ (x:(List Int)):List AV:=[.dslice (x.map ab)]
theorem pw (x:(List Int)):(aZ x).length=1:=rfl
theorem GV (x:(List Int)):(aZ x).length=1∧(aZ x).all (fun v=>v.one&&v.fl)=true:=⟨rfl,rfl⟩
def bI (x:(List aa)):List AV:=[.dslice (x.map ag)]
theorem FK (x:(List aa)):(bI x).length=1:=rfl
theorem vj (x:(List aa)):(bI x).length=1∧(bI x).all (fun v=>v.one&&v.fl)=true:=⟨rfl,rfl⟩
def fU (x0:Int) (x1:ai) (x2:Int):Option Linear :=
 bif (x0==0) then (
  some (Linear.mk x2 [])
 ) else (
  some (Linear.mk x2 [(Coef.mk x1 x0)])
 )
theorem mP (x0:Int) (x1:ai) (x2:Int) (r:Linear) (H:fU x0 x1 x2=some r):a8 Tryz.prog 79 [iI x0,.str x1,iI x2] (.agg [iI r.Const,dS aq r.Terms]):=by
 unfold fU at H;refine aX Tryz.func79 17 [.cell 6 39] ?_;refine aK H (fun c0 H0 => ?_) (fun c1 H1 => ?_)
 ·obtain rfl:=sI H0;exact pR 10 [r0 [.m],V2,.eqT 8 (.bool true),r0 [.v,.b,.m]] [.wkH 6 1 []] [] (aB c0 aN)
 ·obtain rfl:=sI H1;exact pR 11 [r0 [.m],V2,.eqT 8 (.bool false),r0 [.v,.v,.v,.b,.b,.b,.m]] [] [] (aB c1 aN)
def bJ (x0 x1:ai):Option Bool :=
 bif decide (((x0.length:Nat):Int)≥((x1.length:Nat):Int)) then (
  cy (x1.length≤x0.length) <|
  some ((x0.take x1.length)==x1)
 ) else (
  some false
 )
theorem cP (x0 x1:ai) (r:Bool) (H:bJ x0 x1=some r):a8 Tryz.prog 220 [.str x0,.str x1] (.bool r):=by
 unfold bJ at H;refine aX Tryz.func220 18 [.tmp 4] ?_;refine aK H (fun c0 H0 => ?_) (fun c1 H1 => ?_)
 ·have c0p:=KT c0;refine aU H0 fun g0 H2 => ?_;obtain rfl:=sI H2;exact pR 5 [V1,r0 (V 4 [.e (.bool true),.v,.v,.v,.v,.e (.str (x0.take x1.length)),.v,.v,.v,.v])] [] [] (aT (aT (aB c0 (aT (aC (show (0:Int)≤0∧0≤((x1.length:Nat):Int)∧((x1.length:Nat):Int)≤(x0.length:Int) from by omega) (aC (sx x0 x1.length) aN))))))
 ·obtain rfl:=sI H1;exact pR 5 [V1,r0 (V 4 [.e (.bool false),.v,.s,.s,.s,.s,.s,.s,.v,.v])] [] [] (aT (aT (aB c1 aN)))
def cQ (x0 x1:ai):Option Bool :=
 (bJ x0 x1).bind fun y0 =>
 some y0
theorem fg (x0 x1:ai) (r:Bool) (H:cQ x0 x1=some r):a8 Tryz.prog 166 [.str x0,.str x1] (.bool r):=by unfold cQ at H;refine aX Tryz.func166 8 [.tmp 4] ?_;refine az H fun y0 h0 H0 => ?_;refine bB H0 fun e0 => ?_;subst e0;exact pR 5 [V1,r0 [.v,.v,.c true (.bool y0),.v]] [] [] (aC Tryz.call220 (aF (cP _ _ _ h0) aN))
def dV (x0:ai):Option Bool :=
 (cQ x0 [95]).bind fun y0 =>
 bif y0 then (
  cy (1≤x0.length) <|
  (nV (x0.drop 1)).bind fun y1 =>
  bif y1.2 then (
   bif decide (y1.1>0) then (
    bif decide (((x0.length:Nat):Int)≤10) then (
     (jb y1.1).bind fun y2 =>
     some (y2==(x0.drop 1))
    ) else (
     some false
    )
   ) else (
    some false
   )
  ) else (
   some false
  )
 ) else (
  (cY (σ:=Unit) (ε:=Unit) (ρ:=Bool) (fun i0 s0 =>
   ((
    bif decide ((((x0.getD i0 0)).toNat:Int)<97) then (
     bif (((i0:Nat):Int)==0) then (
      some (.ret (.ret false))
     ) else (
      bif decide ((((x0.getD i0 0)).toNat:Int)<48) then (
       some (.ret (.ret false))
      ) else (
       bif decide ((((x0.getD i0 0)).toNat:Int)>57) then (
        some (.ret (.ret false))
       ) else (
        some (.brk ())
       )
      )
     )
    ) else (
     bif decide ((((x0.getD i0 0)).toNat:Int)>122) then (
      bif (((i0:Nat):Int)==0) then (
       some (.ret (.ret false))
      ) else (
       bif decide ((((x0.getD i0 0)).toNat:Int)<48) then (
        some (.ret (.ret false))
       ) else (
        bif decide ((((x0.getD i0 0)).toNat:Int)>57) then (
         some (.ret (.ret false))
        ) else (
         some (.brk ())
        )
       )
      )
     ) else (
      some (.brk ())
     )
    )
   ):Option (Out Unit (gZ Unit Unit Bool))).bind (aft fun u0 =>
    some (.go ())
   )
  ) (fun i0 s0=>()) (x0.length-0) 0 ()).bind <| aft fun u1 =>
  bif (x0==[]) then (
   some false
  ) else (
   some (decide (((x0.length:Nat):Int)≤30))
  )
 )
def mm (x0:ai) (i0:Nat) (s0:Unit):AS:=⟨67,[(0,.str x0),(2,.bool false),(34,dS wV x0),(35,nI x0.length),(36,nI i0)],[]⟩
def qF (x0:ai) (u2:Unit):AS:=⟨67,[(0,.str x0),(2,.bool false)],[]⟩
def ja (x0:ai) (i0:Nat) (u0:Unit):AS:=⟨67,[(0,.str x0),(2,.bool false),(34,dS wV x0),(35,nI x0.length),(36,nI i0)],[]⟩
theorem bh (x0:ai) (r:Bool) (H:dV x0=some r):a8 Tryz.prog 96 [.str x0] (.bool r):=by
 unfold dV at H;refine aX Tryz.func96 67 [.tmp 2] ?_;refine az H fun y0 h0 H0 => ?_;refine aK H0 (fun c0 H1 => ?_) (fun c1 H2 => ?_)
 ·refine aU H1 fun g0 H3 => ?_;refine az H3 fun y1 h1 H4 => ?_;refine pA 10 [V1,r0 [.v,.c true (.bool y0)],.eqT 8 (.bool true),r0 [.v,.e (.str (x0.drop 1)),.cf true (.tup [iI y1.1,qZ 272 y1.2]),.v,.v,.v,.v,.v]] [.only [0,2,3,4] []] 9 [true] ⟨67,[(0,.str x0),(2,.bool false),(3,iI y1.1),(4,qZ 272 y1.2)],[]⟩ (aC Tryz.call166 (aF (fg _ _ _ h0) (aB c0 (aC (show (0:Int)≤1∧1≤(x0.length:Int)∧(x0.length:Int)≤(x0.length:Int) from by omega) (aC (jW x0 1) (aC Tryz.call167 (aF (wo (x0.drop 1) y1 h1) (aC (show xk true (.tup [iI y1.1,qZ 272 y1.2])=true from by cases h2:y1.2<;>rfl) aN)))))))) ?_;refine aK H4 (fun c2 H5 => ?_) (fun c3 H6 => ?_)
  ·refine aK H5 (fun c4 H7 => ?_) (fun c5 H8 => ?_)
   ·have c4p:=KT c4;refine aK H7 (fun c6 H9 => ?_) (fun c7 H10 => ?_)
    ·have c6p:=KT c6;refine az H9 fun y2 h3 H11 => ?_;obtain rfl:=sI H11;exact pR 3 [.eqT 4 (.nilI),.rg 16 (V 4 [.e (.bool true),.v,.v,.v,.v,.e (.bool true),.v,.v,.v,.c true (.str y2),.v,.e (.str (x0.drop 1))]) [.v,.v,.v]] [] [] (aC (congrArg (qZ 272) c2) (aB c4 (aT (aB c6 (aC Tryz.call168 (aF (wL y1.1 y2 h3) (aC (show (0:Int)≤1∧1≤(x0.length:Int)∧(x0.length:Int)≤(x0.length:Int) from by omega) (aC (jW x0 1) aN))))))))
    ·obtain rfl:=sI H10;exact pR 3 [.eqT 4 (.nilI),.rg 16 (V 4 [.e (.bool true),.v,.v,.v,.v,.e (.bool false),.v,.v,.s,.s,.s,.s]) [.s,.v,.v]] [] [] (aC (congrArg (qZ 272) c2) (aB c4 (aT (aB c7 aN))))
   ·obtain rfl:=sI H8;exact pR 3 [.eqT 4 (.nilI),.rg 16 (V 4 [.e (.bool false),.v,.v,.s,.s,.s,.v,.v,.s,.s,.s,.s]) [.s,.v,.v]] [] [] (aC (congrArg (qZ 272) c2) (aB c5 aN))
  ·obtain rfl:=sI H6;exact pR 3 [.eqT 4 (.iface 272 (.any)),.rg 16 [.v,.v,.v,.s,.s,.v,.v,.s,.s,.s,.v,.v,.s,.s,.s,.s] [.s,.v,.v]] [] [] (aC (congrArg (qZ 272) c3) aN)
 ·refine pA 12 [.rg 0 [] [.v],.rg 0 [] [.v,.c true (.bool y0)],.eqT 8 (.bool false),.rg 0 [] [.v,.m,.e (.int .i64 ((x0.length:Nat):Int)),.v]] [.only [0,2,34,35,36] []] 11 [false] (mm x0 0 ()) (aC Tryz.call166 (aF (fg _ _ _ h0) (aB c1 (aT (aC (aA wV x0) aN))))) ?_;refine az H2 fun R0 h4 H12 => ?_;refine pJ 1 (qF x0) R0 ?_ (fun u1 e0 => ?_)
  ·refine pC (mm x0) h4 (fun i0 s0 h5 e1 => ?_) (fun i0 s0 h6 q0 h7 h8 => ?_)
   ·have c8:=lF i0 x0.length (by omega);subst e1;exact pB 5 [r0 [.e (.bool false)]] [.only [0,2] []] (qF x0 ()) (aB c8 aN)
   ·have c9:=lT i0 x0.length (by omega);refine pA 10 [r0 [.e (.bool true)],r0 [.v,.e (.dptr [.int .u8 (((x0.getD i0 0)).toNat:Int)]),.v,.v,.v]] [.only [0,2,5,6,34,35,36] []] 10 [true] ⟨67,[(0,.str x0),(2,.bool false),(5,nI i0),(6,.int .u8 (((x0.getD i0 0)).toNat:Int)),(34,dS wV x0),(35,nI x0.length),(36,nI i0)],[]⟩ (aB c9 (aI Fv x0 i0 0 aN)) ?_;refine az h7 fun v0 h9 H13 => ?_;refine pJ 2 (ja x0 i0) v0 ?_ (fun u0 e2 => ?_)
    ·refine aK h9 (fun c10 H14 => ?_) (fun c11 H15 => ?_)
     ·refine aK H14 (fun c12 H16 => ?_) (fun c13 H17 => ?_)
      ·obtain rfl:=sI H16;obtain rfl:=sI (ao H13);obtain rfl:=aw h8;obtain rfl:=sI (ao H12);exact pR 5 [r0 [.v,.e (.bool true),.v,.s,.s,.v,.v,.v,.e (.bool true),.v,.s,.s,.v,.v,.s,.s,.v,.v],V1] [] [] (aB c10 (aB c12 aN))
      ·refine aK H17 (fun c14 H18 => ?_) (fun c15 H19 => ?_)
       ·obtain rfl:=sI H18;obtain rfl:=sI (ao H13);obtain rfl:=aw h8;obtain rfl:=sI (ao H12);exact pR 5 [r0 [.v,.e (.bool true),.v,.s,.s,.v,.v,.v,.e (.bool false),.v,.v,.e (.bool true),.v,.v,.s,.s,.v,.v],V1] [] [] (aB c10 (aB c13 (aB c14 aN)))
       ·refine aK H19 (fun c16 H20 => ?_) (fun c17 H21 => ?_)
        ·obtain rfl:=sI H20;obtain rfl:=sI (ao H13);obtain rfl:=aw h8;obtain rfl:=sI (ao H12);exact pR 6 [r0 [.v,.e (.bool true),.v,.s,.s,.v,.v,.v,.e (.bool false),.v,.v,.e (.bool false),.v,.v,.v,.v,.v,.v],.eqT 58 (.bool true),V1] [] [] (aB c10 (aB c13 (aB c15 (aB c16 aN))))
        ·obtain rfl:=sI H21;exact pB 4 [r0 [.v,.e (.bool true),.v,.s,.s,.v,.v,.v,.e (.bool false),.v,.v,.e (.bool false),.v,.v,.v,.v,.v,.v],.eqT 58 (.bool false)] [.only [0,2,34,35,36] []] (ja x0 i0 ()) (aB c10 (aB c13 (aB c15 (aB c17 aN))))
     ·refine aK H15 (fun c18 H22 => ?_) (fun c19 H23 => ?_)
      ·refine aK H22 (fun c20 H24 => ?_) (fun c21 H25 => ?_)
       ·obtain rfl:=sI H24;obtain rfl:=sI (ao H13);obtain rfl:=aw h8;obtain rfl:=sI (ao H12);exact pR 5 [r0 [.v,.e (.bool false),.v,.v,.e (.bool true),.v,.v,.v,.e (.bool true),.v,.s,.s,.v,.v,.s,.s,.v,.v],V1] [] [] (aB c11 (aB c18 (aB c20 aN)))
       ·refine aK H25 (fun c22 H26 => ?_) (fun c23 H27 => ?_)
        ·obtain rfl:=sI H26;obtain rfl:=sI (ao H13);obtain rfl:=aw h8;obtain rfl:=sI (ao H12);exact pR 5 [r0 [.v,.e (.bool false),.v,.v,.e (.bool true),.v,.v,.v,.e (.bool false),.v,.v,.e (.bool true),.v,.v,.s,.s,.v,.v],V1] [] [] (aB c11 (aB c18 (aB c21 (aB c22 aN))))
        ·refine aK H27 (fun c24 H28 => ?_) (fun c25 H29 => ?_)
         ·obtain rfl:=sI H28;obtain rfl:=sI (ao H13);obtain rfl:=aw h8;obtain rfl:=sI (ao H12);exact pR 6 [r0 [.v,.e (.bool false),.v,.v,.e (.bool true),.v,.v,.v,.e (.bool false),.v,.v,.e (.bool false),.v,.v,.v,.v,.v,.v],.eqT 58 (.bool true),V1] [] [] (aB c11 (aB c18 (aB c21 (aB c23 (aB c24 aN)))))
         ·obtain rfl:=sI H29;exact pB 4 [r0 [.v,.e (.bool false),.v,.v,.e (.bool true),.v,.v,.v,.e (.bool false),.v,.v,.e (.bool false),.v,.v,.v,.v,.v,.v],.eqT 58 (.bool false)] [.only [0,2,34,35,36] []] (ja x0 i0 ()) (aB c11 (aB c18 (aB c21 (aB c23 (aB c25 aN)))))
      ·obtain rfl:=sI H23;exact pB 3 [r0 [.v,.e (.bool false),.v,.v,.e (.bool false),.v,.v,.s,.s,.s,.s,.s,.s,.s,.s,.s,.s,.v]] [.only [0,2,34,35,36] []] (ja x0 i0 ()) (aB c11 (aB c19 aN))
    ·subst e2;have H30:=aV H13;refine bu 0 (ps:=[x0.length≤9223372036854775807]) (by kernel_rfl) (fun l0 => ?_);have l1:x0.length≤9223372036854775807:=by simpa only [bt,KW] using l0
     clear l0;obtain rfl:=sI H30;exact pB 1 [V2] [.only [0,2,34,35,36] []] (mm x0 (i0+1) ()) (aH i0 aN)
  ·subst e0;have H31:=aV H12;refine aK H31 (fun c26 H32 => ?_) (fun c27 H33 => ?_)
   ·obtain rfl:=sI H32;exact pR 3 [r0 [.v,.e (.bool false),.v,.s,.s,.s,.v,.v]] [] [] (aM c26 aN)
   ·obtain rfl:=sI H33;exact pR 3 [r0 [.v,.e (.bool true),.v,.v,.v,.v,.v,.v]] [] [] (aM c27 (aT aN))
def la (x0:Int):Option Bool :=
 bif decide (x0≥(-1000000)) then (
  some (decide (x0≤1000000))
 ) else (
  some false
 )
theorem kb (x0:Int) (r:Bool) (H:la x0=some r):a8 Tryz.prog 170 [iI x0] (.bool r):=by
 unfold la at H;refine aX Tryz.func170 9 [.tmp 2] ?_;refine aK H (fun c0 H0 => ?_) (fun c1 H1 => ?_)
 ·obtain rfl:=sI H0;exact pR 5 [V1,r0 [.v,.e (.bool true),.v,.v,.v,.v,.v]] [] [] (aB c0 aN)
 ·obtain rfl:=sI H1;exact pR 5 [V1,r0 [.v,.e (.bool false),.v,.s,.s,.v,.v]] [] [] (aB c1 aN)
def bG (x0:Linear):Option Bool :=
 (cY (σ:=Unit) (ε:=Unit) (ρ:=Bool) (fun i0 s0 =>
  (dV ((x0.Terms.getD i0 ⟨[],0⟩).Var)).bind fun y0 =>
  ((
   bif y0 then (
    bif (((x0.Terms.getD i0 ⟨[],0⟩).C)==0) then (
     some (.ret (.ret false))
    ) else (
     (la ((x0.Terms.getD i0 ⟨[],0⟩).C)).bind fun y1 =>
     bif y1 then (
      bif decide (((i0:Nat):Int)>0) then (
       cy (0≤(aJ (((i0:Nat):Int)-1))∧(aJ (((i0:Nat):Int)-1))<(x0.Terms.length:Int)) <|
       bif (Op.bytesLess ((x0.Terms.getD (aJ (((i0:Nat):Int)-1)).toNat ⟨[],0⟩).Var) ((x0.Terms.getD i0 ⟨[],0⟩).Var)) then (
        some (.brk ())
       ) else (
        some (.ret (.ret false))
       )
      ) else (
       some (.brk ())
      )
     ) else (
      some (.ret (.ret false))
     )
    )
   ) else (
    some (.ret (.ret false))
   )
  ):Option (Out Unit (gZ Unit Unit Bool))).bind (aft fun u0 =>
   some (.go ())
  )
 ) (fun i0 s0=>()) (x0.Terms.length-0) 0 ()).bind <| aft fun u1 =>
 (la x0.Const).bind fun y2 =>
 bif y2 then (
  some (decide (((x0.Terms.length:Nat):Int)≤12))
 ) else (
  some false
 )
def kG (x0:Linear) (i0:Nat) (s0:Unit):AS:=⟨54,[(1,.hptr 1 0),(2,.bool false),(6,dS aq x0.Terms),(7,nI x0.Terms.length),(8,nI i0)],[(1,.cells 39 [iI x0.Const,dS aq x0.Terms])]⟩
def py (x0:Linear) (u2:Unit):AS:=⟨54,[(1,.hptr 1 0),(2,.bool false)],[(1,.cells 39 [iI x0.Const,dS aq x0.Terms])]⟩
def kJ (x0:Linear) (i0:Nat) (u0:Unit):AS:=⟨54,[(1,.hptr 1 0),(2,.bool false),(6,dS aq x0.Terms),(7,nI x0.Terms.length),(8,nI i0)],[(1,.cells 39 [iI x0.Const,dS aq x0.Terms])]⟩
theorem bc (x0:Linear) (r:Bool) (H:bG x0=some r):a8 Tryz.prog 99 [.agg [iI x0.Const,dS aq x0.Terms]] (.bool r):=by
 unfold bG at H;refine aX Tryz.func99 54 [.tmp 2] ?_;refine pA 6 [r0 [.m,.v],r0 [.v,.v,.e (nI x0.Terms.length),.v]] [.only [1,2,6,7,8] [1]] 6 [] (kG x0 0 ()) (aT (aC (aA aq x0.Terms) aN)) ?_;refine az H fun R0 h0 H0 => ?_;refine pJ 1 (py x0) R0 ?_ (fun u1 e0 => ?_)
 ·refine pC (kG x0) h0 (fun i0 s0 h1 e1 => ?_) (fun i0 s0 h2 q0 h3 h4 => ?_)
  ·have c0:=lF i0 x0.Terms.length (by omega);subst e1;exact pB 5 [r0 [.e (.bool false)]] [.only [1,2] [1]] (py x0 ()) (aB c0 aN)
  ·have c1:=lT i0 x0.Terms.length (by omega);refine az h3 fun y0 h5 H1 => ?_;refine pA 10 [r0 [.e (.bool true)],r0 [.v,.e (.dptr (aq (x0.Terms.getD i0 ⟨[],0⟩))),.v,.m,.v,.m]] [.only [1,2,3,4,6,7,8] [1,4]] 10 [true] ⟨54,[(1,.hptr 1 0),(2,.bool false),(3,nI i0),(4,.hptr 4 0),(6,dS aq x0.Terms),(7,nI x0.Terms.length),(8,nI i0)],[(1,.cells 39 [iI x0.Const,dS aq x0.Terms]),(4,.cells 44 (aq (x0.Terms.getD i0 ⟨[],0⟩)))]⟩ (aB c1 (aI cU x0.Terms i0 ⟨[],0⟩ aN)) ?_;refine az H1 fun v0 h6 H2 => ?_;refine pJ 2 (kJ x0 i0) v0 ?_ (fun u0 e2 => ?_)
   ·refine aK h6 (fun c2 H3 => ?_) (fun c3 H4 => ?_)
    ·refine aK H3 (fun c4 H5 => ?_) (fun c5 H6 => ?_)
     ·obtain rfl:=sI H5;obtain rfl:=sI (ao H2);obtain rfl:=aw h4;obtain rfl:=sI (ao H0);exact pR 5 [.rg 28 [.v,.v,.c true (.bool true),.v,.v,.v,.v,.e (.bool true),.v,.v,.s,.s,.s,.s,.v,.v,.s,.s,.s,.s,.s,.s,.s,.s,.s,.s,.s,.s] [.s,.s,.v],V1] [] [] (aC Tryz.call96 (aC (a8.eq (bh _ _ h5) (cB c2)) (aT (aB c4 aN))))
     ·refine az H6 fun y1 h7 H7 => ?_;refine aK H7 (fun c6 H8 => ?_) (fun c7 H9 => ?_)
      ·refine aK H8 (fun c8 H10 => ?_) (fun c9 H11 => ?_)
       ·refine aU H10 fun g0 H12 => ?_;refine pA 1 [.rg 28 [.v,.v,.c true (.bool true),.v,.v,.v,.v,.e (.bool false),.v,.v,.v,.v,.c true (.bool true),.v,.v,.v,.v,.e (.bool true),.v,.v,.v,.v,.w,.e (.dptr (aq (x0.Terms.getD (aJ (((i0:Nat):Int)-1)).toNat ⟨[],0⟩))),.v,.v,.v,.v] [.v,.v,.v]] [.only [1,2,6,7,8,43] [1]] 1 [] ⟨54,[(1,.hptr 1 0),(2,.bool false),(6,dS aq x0.Terms),(7,nI x0.Terms.length),(8,nI i0),(43,.bool (!(Op.bytesLess ((x0.Terms.getD (aJ (((i0:Nat):Int)-1)).toNat ⟨[],0⟩).Var) ((x0.Terms.getD i0 ⟨[],0⟩).Var))))],[(1,.cells 39 [iI x0.Const,dS aq x0.Terms])]⟩ (aC Tryz.call96 (aC (a8.eq (bh _ _ h5) (cB c2)) (aT (aB c5 (aC Tryz.call170 (aC (a8.eq (kb _ _ h7) (cB c6)) (aT (aB c8 (aY (yw (f:=aq) (l:=x0.Terms) (n:=(aJ (((i0:Nat):Int)-1))) ⟨[],0⟩ cU (by decide) (by exact g0)) aN))))))))) ?_;refine aK H12 (fun c10 H13 => ?_) (fun c11 H14 => ?_)
        ·obtain rfl:=sI H13;exact pB 3 [.eqT 43 (.bool false)] [.only [1,2,6,7,8] [1]] (kJ x0 i0 ()) (aM c10 aN)
        ·obtain rfl:=sI H14;obtain rfl:=sI (ao H2);obtain rfl:=aw h4;obtain rfl:=sI (ao H0);exact pR 5 [.eqT 43 (.bool true),V1] [] [] (aM c11 aN)
       ·obtain rfl:=sI H11;exact pB 3 [.rg 28 [.v,.v,.c true (.bool true),.v,.v,.v,.v,.e (.bool false),.v,.v,.v,.v,.c true (.bool true),.v,.v,.v,.v,.e (.bool false),.v,.s,.s,.s,.s,.s,.s,.s,.s,.s] [.s,.v,.v]] [.only [1,2,6,7,8] [1]] (kJ x0 i0 ()) (aC Tryz.call96 (aC (a8.eq (bh _ _ h5) (cB c2)) (aT (aB c5 (aC Tryz.call170 (aC (a8.eq (kb _ _ h7) (cB c6)) (aT (aB c9 aN))))))))
      ·obtain rfl:=sI H9;obtain rfl:=sI (ao H2);obtain rfl:=aw h4;obtain rfl:=sI (ao H0);exact pR 5 [.rg 28 [.v,.v,.c true (.bool true),.v,.v,.v,.v,.e (.bool false),.v,.v,.v,.v,.c true (.bool false),.v,.v,.v,.s,.s,.s,.s,.s,.s,.s,.s,.s,.s,.s,.s] [.s,.s,.v],V1] [] [] (aC Tryz.call96 (aC (a8.eq (bh _ _ h5) (cB c2)) (aT (aB c5 (aC Tryz.call170 (aC (a8.eq (kb _ _ h7) (cB c7)) (aT aN)))))))
    ·obtain rfl:=sI H4;obtain rfl:=sI (ao H2);obtain rfl:=aw h4;obtain rfl:=sI (ao H0);exact pR 5 [.rg 28 [.v,.v,.c true (.bool false),.v,.v,.s,.s,.s,.v,.v,.s,.s,.s,.s,.v,.v,.s,.s,.s,.s,.s,.s,.s,.s,.s,.s,.s,.s] [.s,.s,.v],V1] [] [] (aC Tryz.call96 (aC (a8.eq (bh _ _ h5) (cB c3)) (aT aN)))
   ·subst e2;have H15:=aV H2;refine bu 6 (ps:=[(x0.Terms.map aq).length≤9223372036854775807]) (by kernel_rfl) (fun l0 => ?_);have l1:x0.Terms.length≤9223372036854775807:=by simpa only [bt,KW] using l0
    clear l0;obtain rfl:=sI H15;exact pB 1 [V2] [.only [1,2,6,7,8] [1]] (kG x0 (i0+1) ()) (aH i0 aN)
 ·subst e0;have H16:=aV H0;refine az H16 fun y2 h8 H17 => ?_;refine aK H17 (fun c12 H18 => ?_) (fun c13 H19 => ?_)
  ·obtain rfl:=sI H18;exact pR 3 [r0 [.v,.v,.c true (.bool true),.v,.v,.v,.e (nI x0.Terms.length),.v,.v,.v]] [] [] (aC Tryz.call170 (aC (a8.eq (kb _ _ h8) (cB c12)) (aT (aC (aA aq x0.Terms) aN))))
  ·obtain rfl:=sI H19;exact pR 3 [r0 [.v,.v,.c true (.bool false),.v,.s,.s,.s,.s,.v,.v]] [] [] (aC Tryz.call170 (aC (a8.eq (kb _ _ h8) (cB c13)) aN))
def jU (x0:Linear):Option Bool :=
 (bG x0).bind fun y0 =>
 some (!y0)
theorem vk (x0:Linear) (r:Bool) (H:jU x0=some r):a8 Tryz.prog 98 [.agg [iI x0.Const,dS aq x0.Terms]] (.bool r):=by unfold jU at H;refine aX Tryz.func98 6 [.tmp 2] ?_;refine az H fun y0 h0 H0 => ?_;obtain rfl:=sI H0;exact pR 5 [r0 [.m,.v],r0 [.v,.c true (.bool y0),.v,.v]] [] [] (aC Tryz.call99 (aF (bc _ _ h0) (aT aN)))
def cG (x0:List Linear):Option Int :=
 (cY (σ:=Unit) (ε:=Unit) (ρ:=Int) (fun i0 s0 =>
  (jU (Linear.mk ((x0.getD i0 ⟨0,[]⟩).Const) ((x0.getD i0 ⟨0,[]⟩).Terms))).bind fun y0 =>
  bif y0 then (
   some (.ret ((i0:Nat):Int))
  ) else (
   some (.go ())
  )
 ) (fun i0 s0=>()) (x0.length-0) 0 ()).bind <| aft fun u0 =>
 some (-1)
def dm (x0:List Linear) (i0:Nat) (s0:Unit):AS:=⟨19,[(0,dS ah x0),(1,.fn 98 []),(4,iI 0),(7,nI x0.length),(8,nI i0)],[]⟩
def fy (u1:Unit):AS:=⟨19,[(4,iI 0)],[]⟩
theorem kr (x0:List Linear) (r:Int) (H:cG x0=some r):a8 Tryz.prog 169 [dS ah x0,.fn 98 []] (iI r):=by
 unfold cG at H;refine aX Tryz.func169 19 [.tmp 4] ?_;refine pA 6 [V1,r0 [.v,.e (nI x0.length),.v]] [.only [0,1,4,7,8] []] 6 [] (dm x0 0 ()) (aT (aC (aA ah x0) aN)) ?_;refine az H fun R0 h0 H0 => ?_;refine pJ 1 (fy) R0 ?_ (fun u0 e0 => ?_)
 ·refine pC (dm x0) h0 (fun i0 s0 h1 e1 => ?_) (fun i0 s0 h2 q0 h3 h4 => ?_)
  ·have c0:=lF i0 x0.length (by omega);subst e1;exact pB 5 [r0 [.e (.bool false)]] [.only [4] []] (fy ()) (aB c0 aN)
  ·have c1:=lT i0 x0.length (by omega);refine az h3 fun y0 h5 H1 => ?_;refine pA 11 [r0 [.e (.bool true)],V2,r0 [.v,.v,.v,.e (.dptr (ah (x0.getD i0 ⟨0,[]⟩))),.v,.c true (.bool y0)]] [.only [0,1,4,5,7,8,16] []] 11 [true] ⟨19,[(0,dS ah x0),(1,.fn 98 []),(4,iI 0),(5,nI i0),(7,nI x0.length),(8,nI i0),(16,.bool y0)],[]⟩ (aB c1 (aI cD x0 i0 ⟨0,[]⟩ (aC Tryz.call98 (aF (vk _ _ h5) aN)))) ?_;refine aK H1 (fun c2 H2 => ?_) (fun c3 H3 => ?_)
   ·obtain rfl:=sI H2;obtain rfl:=aw h4;obtain rfl:=sI (ao H0);exact pR 5 [.eqT 16 (.bool true),V2] [] [] (aB c2 aN)
   ·refine bu 0 (ps:=[(x0.map ah).length≤9223372036854775807]) (by kernel_rfl) (fun l0 => ?_);have l1:x0.length≤9223372036854775807:=by simpa only [bt,KW] using l0
    clear l0;obtain rfl:=sI H3;exact pB 4 [.eqT 16 (.bool false),V2] [.only [0,1,4,7,8] []] (dm x0 (i0+1) ()) (aB c3 (aH i0 aN))
 ·subst e0;have H4:=aV H0;obtain rfl:=sI H4;exact pR 3 [V1] [] [] aN
def bp (x0:List Linear):Option Bool :=
 (cG x0).bind fun y0 =>
 some (decide (y0≥0))
theorem eN (x0:List Linear) (r:Bool) (H:bp x0=some r):a8 Tryz.prog 97 [dS ah x0,.fn 98 []] (.bool r):=by unfold bp at H;refine aX Tryz.func97 9 [.tmp 4] ?_;refine az H fun y0 h0 H0 => ?_;obtain rfl:=sI H0;exact pR 5 [V1,r0 [.v,.v,.c true (iI y0),.v,.v]] [] [] (aC Tryz.call169 (aF (kr _ _ h0) aN))
def ct (x0:Shape):Option Bool :=
 bif (x0.Row==[]) then (
  bif decide (((x0.Dims.length:Nat):Int)≤6) then (
   (bp x0.Dims).bind fun y0 =>
   some (!y0)
  ) else (
   some false
  )
 ) else (
  (dV x0.Row).bind fun y1 =>
  bif y1 then (
   bif decide (((x0.Dims.length:Nat):Int)≤6) then (
    (bp x0.Dims).bind fun y2 =>
    some (!y2)
   ) else (
    some false
   )
  ) else (
   some false
  )
 )
theorem bj (x0:Shape) (r:Bool) (H:ct x0=some r):a8 Tryz.prog 31 [.agg [.str x0.Row,dS ah x0.Dims]] (.bool r):=by
 unfold ct at H;refine aX Tryz.func31 23 [.tmp 2] ?_;refine aK H (fun c0 H0 => ?_) (fun c1 H1 => ?_)
 ·refine aK H0 (fun c2 H2 => ?_) (fun c3 H3 => ?_)
  ·refine az H2 fun y0 h0 H4 => ?_;obtain rfl:=sI H4;exact pR 5 [r0 [.m,.v],r0 [.v,.v,.e (.bool true),.v,.s,.s,.s,.v,.v,.v,.v,.e (nI x0.Dims.length),.e (.bool true),.v,.v,.v,.v,.c true (.bool y0),.v,.v,.v]] [] [] (aB c0 (aT (aC (aA ah x0.Dims) (aB c2 (aC Tryz.call97 (aF (eN _ _ h0) (aT aN)))))))
  ·obtain rfl:=sI H3;exact pR 5 [r0 [.m,.v],r0 [.v,.v,.e (.bool true),.v,.s,.s,.s,.v,.v,.v,.v,.e (nI x0.Dims.length),.e (.bool false),.v,.v,.s,.s,.s,.s,.v,.v]] [] [] (aB c0 (aT (aC (aA ah x0.Dims) (aB c3 aN))))
 ·refine az H1 fun y1 h1 H5 => ?_;refine aK H5 (fun c4 H6 => ?_) (fun c5 H7 => ?_)
  ·refine aK H6 (fun c6 H8 => ?_) (fun c7 H9 => ?_)
   ·refine az H8 fun y2 h2 H10 => ?_;obtain rfl:=sI H10;exact pR 5 [r0 [.m,.v],r0 [.v,.v,.e (.bool false),.v,.v,.v,.c true (.bool true),.v,.v,.v,.v,.e (nI x0.Dims.length),.e (.bool true),.v,.v,.v,.v,.c true (.bool y2),.v,.v,.v]] [] [] (aB c1 (aC Tryz.call96 (aC (a8.eq (bh _ _ h1) (cB c4)) (aT (aC (aA ah x0.Dims) (aB c6 (aC Tryz.call97 (aF (eN _ _ h2) (aT aN)))))))))
   ·obtain rfl:=sI H9;exact pR 5 [r0 [.m,.v],r0 [.v,.v,.e (.bool false),.v,.v,.v,.c true (.bool true),.v,.v,.v,.v,.e (nI x0.Dims.length),.e (.bool false),.v,.v,.s,.s,.s,.s,.v,.v]] [] [] (aB c1 (aC Tryz.call96 (aC (a8.eq (bh _ _ h1) (cB c4)) (aT (aC (aA ah x0.Dims) (aB c7 aN))))))
  ·obtain rfl:=sI H7;exact pR 5 [r0 [.m,.v],r0 [.v,.v,.e (.bool false),.v,.v,.v,.c true (.bool false),.v,.v,.s,.s,.s,.s,.v,.v,.s,.s,.s,.s,.v,.v]] [] [] (aB c1 (aC Tryz.call96 (aC (a8.eq (bh _ _ h1) (cB c5)) aN)))
def b9 (x0 x1:ai):Option Bool :=
 bif decide (((x0.length:Nat):Int)≥((x1.length:Nat):Int)) then (
  cy (0≤(aJ (((x0.length:Nat):Int)-((x1.length:Nat):Int)))∧(aJ (((x0.length:Nat):Int)-((x1.length:Nat):Int)))≤(x0.length:Int)) <|
  some ((x0.drop ((aJ (((x0.length:Nat):Int)-((x1.length:Nat):Int))).toNat))==x1)
 ) else (
  some false
 )
theorem bX (x0 x1:ai) (r:Bool) (H:b9 x0 x1=some r):a8 Tryz.prog 221 [.str x0,.str x1] (.bool r):=by
 unfold b9 at H;refine aX Tryz.func221 21 [.tmp 4] ?_;refine aK H (fun c0 H0 => ?_) (fun c1 H1 => ?_)
 ·have c0p:=KT c0;refine aU H0 fun g0 H2 => ?_;obtain rfl:=sI H2;exact pR 5 [V1,r0 (V 4 [.e (.bool true),.v,.v,.v,.v,.v,.v,.w,.e (.str (x0.drop ((aJ (((x0.length:Nat):Int)-((x1.length:Nat):Int))).toNat))),.v,.v,.v,.v])] [] [] (aT (aT (aB c0 (aT (aT (aC (show (0:Int)≤(aJ (((x0.length:Nat):Int)-((x1.length:Nat):Int)))∧(aJ (((x0.length:Nat):Int)-((x1.length:Nat):Int)))≤(x0.length:Int)∧(x0.length:Int)≤(x0.length:Int) from by omega) (aC (jW x0 ((aJ (((x0.length:Nat):Int)-((x1.length:Nat):Int))).toNat)) aN)))))))
 ·obtain rfl:=sI H1;exact pR 5 [V1,r0 (V 4 [.e (.bool false),.v,.s,.s,.s,.s,.s,.s,.s,.s,.s,.v,.v])] [] [] (aT (aT (aB c1 aN)))
def da (x0 x1:ai):Option ai :=
 (b9 x0 x1).bind fun y0 =>
 bif y0 then (
  cy (0≤(aJ (((x0.length:Nat):Int)-((x1.length:Nat):Int)))∧(aJ (((x0.length:Nat):Int)-((x1.length:Nat):Int)))≤(x0.length:Int)) <|
  some (x0.take ((aJ (((x0.length:Nat):Int)-((x1.length:Nat):Int))).toNat))
 ) else (
  some x0
 )
theorem iW (x0 x1 r:ai) (H:da x0 x1=some r):a8 Tryz.prog 264 [.str x0,.str x1] (.str r):=by
 unfold da at H;refine aX Tryz.func264 16 [.tmp 4] ?_;refine az H fun y0 h0 H0 => ?_;refine aK H0 (fun c0 H1 => ?_) (fun c1 H2 => ?_)
 ·refine aU H1 fun g0 H3 => ?_;obtain rfl:=sI H3;exact pR 10 [V1,r0 [.v,.v,.c true (.bool y0)],.eqT 7 (.bool true),r0 (V 5 [.w,.e (.str (x0.take ((aJ (((x0.length:Nat):Int)-((x1.length:Nat):Int))).toNat))),.v])] [] [] (aC Tryz.call221 (aF (bX _ _ _ h0) (aB c0 (aT (aT (aC (show (0:Int)≤0∧0≤(aJ (((x0.length:Nat):Int)-((x1.length:Nat):Int)))∧(aJ (((x0.length:Nat):Int)-((x1.length:Nat):Int)))≤(x0.length:Int) from by omega) (aC (sx x0 ((aJ (((x0.length:Nat):Int)-((x1.length:Nat):Int))).toNat)) aN)))))))
 ·refine bB H2 fun e0 => ?_;subst e0;exact pR 11 [V1,r0 [.v,.v,.c true (.bool y0)],.eqT 7 (.bool false),V2] [] [] (aC Tryz.call221 (aF (bX _ _ _ h0) (aB c1 aN)))
def iz (x0 x1:ai):Option ai :=
 (da x0 x1).bind fun y0 =>
 some y0
theorem qk (x0 x1 r:ai) (H:iz x0 x1=some r):a8 Tryz.prog 216 [.str x0,.str x1] (.str r):=by unfold iz at H;refine aX Tryz.func216 8 [.tmp 4] ?_;refine az H fun y0 h0 H0 => ?_;refine bB H0 fun e0 => ?_;subst e0;exact pR 5 [V1,r0 [.v,.v,.c true (.str y0),.v]] [] [] (aC Tryz.call264 (aF (iW _ _ _ h0) aN))
def jl (x0:Int) (x1 x2:ai):Option ai :=
 (jb x0).bind fun y0 =>
 ((
  bif (x1==[]) then (
   some false
  ) else (
   bif (x0==1) then (
    some true
   ) else (
    some (x0==(-1))
   )
  )
 ):Option Bool).bind fun v0 =>
 ((
  bif v0 then (
   (iz y0 [49]).bind fun y1 =>
   some y1
  ) else (
   some y0
  )
 ):Option ai).bind fun v1 =>
 ((
  bif decide (x0≥0) then (
   some (!(x2==[]))
  ) else (
   some false
  )
 ):Option Bool).bind fun v2 =>
 ((
  bif v2 then (
   cy (x2.length+[43].length≤9223372036854775807) <|
   some (x2++[43])
  ) else (
   some x2
  )
 ):Option ai).bind fun v3 =>
 cy (v1.length+x1.length≤9223372036854775807) <|
 cy (v3.length+(v1++x1).length≤9223372036854775807) <|
 some (v3++(v1++x1))
def gj (x0:Int) (x1 x2 y0:ai) (v0:Bool):AS:=⟨33,[(0,iI x0),(1,.str x1),(2,.hptr 1000 0),(5,.str y0),(17,.bool v0)],[(1000,.cells 9 [.str x2])]⟩
def jx (x0:Int) (x1 x2 v1:ai):AS:=⟨33,[(0,iI x0),(1,.str x1),(2,.hptr 1000 0),(5,.str v1)],[(1000,.cells 9 [.str x2])]⟩
def je (x1 x2 v1:ai) (v2:Bool):AS:=⟨33,[(1,.str x1),(2,.hptr 1000 0),(5,.str v1),(25,.bool v2)],[(1000,.cells 9 [.str x2])]⟩
def jh (x1 v1 v3:ai):AS:=⟨33,[(1,.str x1),(2,.hptr 1000 0),(5,.str v1)],[(1000,.cells 9 [.str v3])]⟩
theorem oy (x0:Int) (x1 x2 r:ai) (H:jl x0 x1 x2=some r):bo Tryz.prog 215 [iI x0,.str x1,.hptr 1000 0] [(1000,.cells 9 [.str x2])] (fun r2 h0=>r2=(.tup [])∧h0=[(1000,.cells 9 [.str r])]):=by
 unfold jl at H;refine aX Tryz.func215 33 [] ?_;refine az H fun y0 h1 H0 => ?_;refine pA 4 [r0 [.v,.c true (.str y0),.v]] [.only [0,1,2,5] [1000]] 4 [] ⟨33,[(0,iI x0),(1,.str x1),(2,.hptr 1000 0),(5,.str y0)],[(1000,.cells 9 [.str x2])]⟩ (aC Tryz.call168 (aF (wL x0 y0 h1) aN)) ?_;refine az H0 fun v0 h2 H1 => ?_;refine dF 0 (gj x0 x1 x2 y0 v0) (by kernel_rfl) ?_ ?_
 ·refine aK h2 (fun c0 H2 => ?_) (fun c1 H3 => ?_)
  ·obtain rfl:=sI H2;exact pB 1 [r0 [.v,.e (.bool false),.v,.s,.s,.s,.s,.s,.s,.v]] [.only [0,1,2,5,17] [1000]] (gj x0 x1 x2 y0 false) (aM c0 aN)
  ·refine aK H3 (fun c2 H4 => ?_) (fun c3 H5 => ?_)
   ·obtain rfl:=sI H4;exact pB 1 [r0 [.v,.e (.bool true),.v,.v,.e (.bool true),.v,.s,.s,.v,.v]] [.only [0,1,2,5,17] [1000]] (gj x0 x1 x2 y0 true) (aM c1 (aB c2 aN))
   ·obtain rfl:=sI H5;exact pB 1 [r0 [.v,.e (.bool true),.v,.v,.e (.bool false),.v,.v,.v,.v,.v]] [.only [0,1,2,5,17] [1000]] (gj x0 x1 x2 y0 (x0==(-1))) (aM c1 (aB c3 aN))
 ·refine az H1 fun v1 h3 H6 => ?_;refine dF 0 (jx x0 x1 x2 v1) (by kernel_rfl) ?_ ?_
  ·refine aK h3 (fun c4 H7 => ?_) (fun c5 H8 => ?_)
   ·refine az H7 fun y1 h4 H9 => ?_;refine bB H9 fun e0 => ?_;subst e0;exact pB 3 [.eqT 17 (.bool true),r0 [.v,.c true (.str y1),.v]] [.only [0,1,2,5] [1000]] (jx x0 x1 x2 y1) (aB c4 (aC Tryz.call216 (aF (qk _ _ _ h4) aN)))
   ·refine bB H8 fun e1 => ?_;subst e1;exact pB 3 [.eqT 17 (.bool false)] [.only [0,1,2,5] [1000]] (jx x0 x1 x2 y0) (aB c5 aN)
  ·refine pA 2 [] [.only [0,1,2,5] [1000]] 2 [] ⟨33,[(0,.int .i64 x0),(1,.str x1),(2,.hptr 1000 0),(5,.str v1)],[(1000,.cells 9 [.str x2])]⟩ aN ?_;refine az H6 fun v2 h5 H10 => ?_;refine dF 0 (je x1 x2 v1 v2) (by kernel_rfl) ?_ ?_
   ·refine aK h5 (fun c6 H11 => ?_) (fun c7 H12 => ?_)
    ·obtain rfl:=sI H11;exact pB 1 [r0 [.v,.e (.bool true),.v,.v,.v,.v]] [.only [1,2,5,25] [1000]] (je x1 x2 v1 (!(x2==[]))) (aB c6 aN)
    ·obtain rfl:=sI H12;exact pB 1 [r0 [.v,.e (.bool false),.v,.s,.s,.v]] [.only [1,2,5,25] [1000]] (je x1 x2 v1 false) (aB c7 aN)
   ·refine az H10 fun v3 h6 H13 => ?_;refine dF 0 (jh x1 v1 v3) (by kernel_rfl) ?_ ?_
    ·refine aK h6 (fun c8 H14 => ?_) (fun c9 H15 => ?_)
     ·refine aU H14 fun g0 H16 => ?_;obtain rfl:=sI H16;exact pB 3 [.eqT 25 (.bool true),r0 [.v,.v,.m]] [.only [1,2,5] [1000]] (jh x1 v1 (x2++[43])) (aB c8 (aC (show x2.length+[43].length≤9223372036854775807 from g0) aN))
     ·refine bB H15 fun e2 => ?_;subst e2;exact pB 3 [.eqT 25 (.bool false)] [.only [1,2,5] [1000]] (jh x1 v1 x2) (aB c9 aN)
    ·refine aU H13 fun g1 H17 => ?_;refine aU H17 fun g2 H18 => ?_;obtain rfl:=sI H18;exact pR 1 [r0 (V 5 [.m])] [] [1000] (aC (show v1.length+x1.length≤9223372036854775807 from g1) (aC (show v3.length+(v1++x1).length≤9223372036854775807 from g2) aN))
def oQ (x0:Linear):Option ai :=
 (bG x0).bind fun y0 =>
 bif y0 then (
  (cY (σ:=ai) (ε:=ai) (ρ:=Empty) (fun i0 s0 =>
   (jl ((x0.Terms.getD i0 ⟨[],0⟩).C) ((x0.Terms.getD i0 ⟨[],0⟩).Var) s0).bind fun y1 =>
   some (.go y1)
  ) (fun i0 s0=>s0) (x0.Terms.length-0) 0 []).bind <| gu fun u0 =>
  ((
   bif (x0.Const==0) then (
    some (u0==[])
   ) else (
    some true
   )
  ):Option Bool).bind fun v0 =>
  bif v0 then (
   (jl x0.Const [] u0).bind fun y2 =>
   some y2
  ) else (
   some u0
  )
 ) else (
  some []
 )
def kF (x0:Linear) (i0:Nat) (s0:ai):AS:=⟨37,[(1,.hptr 1 0),(2,.str []),(3,.hptr 3 0),(4,.fn 215 [.hptr 3 0]),(12,dS aq x0.Terms),(13,nI x0.Terms.length),(14,nI i0)],[(1,.cells 39 [iI x0.Const,dS aq x0.Terms]),(3,.cells 9 [.str s0])]⟩
def pE (x0:Linear) (u1:ai):AS:=⟨37,[(1,.hptr 1 0),(2,.str []),(3,.hptr 3 0),(4,.fn 215 [.hptr 3 0])],[(1,.cells 39 [iI x0.Const,dS aq x0.Terms]),(3,.cells 9 [.str u1])]⟩
def kB (x0:Linear) (u0:ai) (v0:Bool):AS:=⟨37,[(1,.hptr 1 0),(2,.str []),(3,.hptr 3 0),(4,.fn 215 [.hptr 3 0]),(31,.bool v0)],[(1,.cells 39 [iI x0.Const,dS aq x0.Terms]),(3,.cells 9 [.str u0])]⟩
theorem xR (x0:Linear) (r:ai) (H:oQ x0=some r):a8 Tryz.prog 152 [.agg [iI x0.Const,dS aq x0.Terms]] (.str r):=by
 unfold oQ at H;refine aX Tryz.func152 37 [.tmp 2] ?_;refine az H fun y0 h0 H0 => ?_;refine aK H0 (fun c0 H1 => ?_) (fun c1 H2 => ?_)
 ·refine pA 16 [.rg 0 [] [.m,.v],.rg 0 [] [.v,.c true (.bool y0),.v],.eqT 9 (.bool false),.rg 0 [] [.m,.m],.rg 0 [] [.v,.v],.rg 0 [] [.v,.v,.e (.int .i64 ((x0.Terms.length:Nat):Int)),.v]] [.only [1,2,3,4,12,13,14] [1,3]] 15 [false] (kF x0 0 []) (aC Tryz.call99 (aF (bc _ _ h0) (aT (aM c0 (aT (aC (aA aq x0.Terms) aN)))))) ?_;refine az H1 fun R0 h1 H3 => ?_;refine pJ 1 (pE x0) R0 ?_ (fun u0 e0 => ?_)
  ·refine pC (kF x0) h1 (fun i0 s0 h2 e1 => ?_) (fun i0 s0 h3 q0 h4 h5 => ?_)
   ·have c2:=lF i0 x0.Terms.length (by omega);subst e1;exact pB 5 [r0 [.e (.bool false)]] [.only [1,2,3,4] [1,3]] (pE x0 s0) (aB c2 aN)
   ·have c3:=lT i0 x0.Terms.length (by omega);refine az h4 fun y1 h6 H4 => ?_;refine bu 12 (ps:=[(x0.Terms.map aq).length≤9223372036854775807]) (by kernel_rfl) (fun l0 => ?_);have l1:x0.Terms.length≤9223372036854775807:=by simpa only [bt,KW] using l0
    clear l0;obtain rfl:=sI H4;exact pB 11 [r0 [.e (.bool true)],r0 [.e (.dptr (aq (x0.Terms.getD i0 ⟨[],0⟩))),.v,.m,.m],r0 (V 5 [.hR [(3,1000)] 23 (.tup []) [(1000,.cells 9 [.str y1])]]),V2] [.only [1,2,3,4,12,13,14] [1,3]] (kF x0 (i0+1) y1) (aB c3 (aI cU x0.Terms i0 ⟨[],0⟩ (aC Tryz.call215 (aC (oy _ _ _ _ h6) (aH i0 aN)))))
  ·subst e0;have H5:=cn H3;refine pA 2 [] [.only [1,2,3,4] [1,3]] 2 [] ⟨37,[(1,.hptr 1 0),(2,.str []),(3,.hptr 3 0),(4,.fn 215 [.hptr 3 0])],[(1,.cells 39 [iI x0.Const,dS aq x0.Terms]),(3,.cells 9 [.str u0])]⟩ aN ?_;refine az H5 fun v0 h7 H6 => ?_;refine dF 0 (kB x0 u0 v0) (by kernel_rfl) ?_ ?_
   ·refine aK h7 (fun c4 H7 => ?_) (fun c5 H8 => ?_)
    ·obtain rfl:=sI H7;exact pB 1 [r0 [.v,.v,.e (.bool false),.v,.v,.v,.v]] [.only [1,2,3,4,31] [1,3]] (kB x0 u0 (u0==[])) (aM c4 aN)
    ·obtain rfl:=sI H8;exact pB 1 [r0 [.v,.v,.e (.bool true),.v,.s,.s,.v]] [.only [1,2,3,4,31] [1,3]] (kB x0 u0 true) (aM c5 aN)
   ·refine aK H6 (fun c6 H9 => ?_) (fun c7 H10 => ?_)
    ·refine az H9 fun y2 h8 H11 => ?_;refine bB H11 fun e2 => ?_;subst e2;exact pR 6 [.eqT 31 (.bool true),r0 [.v,.v,.v,.hR [(3,1000)] 35 (.tup []) [(1000,.cells 9 [.str y2])]],V2] [] [] (aB c6 (aC Tryz.call215 (aC (oy _ _ _ _ h8) aN)))
    ·refine bB H10 fun e3 => ?_;subst e3;exact pR 6 [.eqT 31 (.bool false),V2] [] [] (aB c7 aN)
 ·obtain rfl:=sI H2;exact pR 10 [r0 [.m,.v],r0 [.v,.c true (.bool y0),.v],.eqT 9 (.bool true),V1] [] [] (aC Tryz.call99 (aF (bc _ _ h0) (aT (aM c1 aN))))
def lP (x0:Shape):Option ai :=
 ((
  bif (x0.Row==[]) then (
   some []
  ) else (
   cy (x0.Row.length+[46,46].length≤9223372036854775807) <|
   some [(x0.Row++[46,46])]
  )
 ):Option (List ai)).bind fun v0 =>
 (cY (σ:=(List ai)) (ε:=(List ai)) (ρ:=Empty) (fun i0 s0 =>
  (oQ (Linear.mk ((x0.Dims.getD i0 ⟨0,[]⟩).Const) ((x0.Dims.getD i0 ⟨0,[]⟩).Terms))).bind fun y0 =>
  cy ((s0.length+1)*16≤140737488355328) <|
  some (.go (s0++[y0]))
 ) (fun i0 s0=>s0) (x0.Dims.length-0) 0 v0).bind <| gu fun u0 =>
 (mw u0 [44,32]).bind fun y1 =>
 cy ([91].length+y1.length≤9223372036854775807) <|
 cy (([91]++y1).length+[93].length≤9223372036854775807) <|
 some (([91]++y1)++[93])
def nJ (x0:Shape) (v0:List ai):AS:=⟨32,[(1,.hptr 1 0),(2,.str []),(3,.rslice 14)],[(1,.cells 24 [.str x0.Row,dS ah x0.Dims]),(14,.row 9 1 (v0.map ax))]⟩
def mT (x0:Shape) (i0:Nat) (s0:List ai):AS:=⟨32,[(2,.str []),(3,.rslice 26),(16,dS ah x0.Dims),(17,nI x0.Dims.length),(18,nI i0)],[(26,.row 9 1 (s0.map ax))]⟩
def rj (u1:List ai):AS:=⟨32,[(2,.str []),(3,.rslice 26)],[(26,.row 9 1 (u1.map ax))]⟩
theorem ph (x0:Shape) (r:ai) (H:lP x0=some r):a8 Tryz.prog 88 [.agg [.str x0.Row,dS ah x0.Dims]] (.str r):=by
 unfold lP at H;refine aX Tryz.func88 32 [.tmp 2] ?_;refine pA 7 [r0 [.m,.v],V1,V3] [.only [1,2,3,8] [1]] 7 [] ⟨32,[(1,.hptr 1 0),(2,.str []),(3,.eslice),(8,.bool (!(x0.Row==[])))],[(1,.cells 24 [.str x0.Row,dS ah x0.Dims])]⟩ aN ?_;refine az H fun v0 h0 H0 => ?_;refine dF 0 (nJ x0 v0) (by kernel_rfl) ?_ ?_
 ·refine aK h0 (fun c0 H1 => ?_) (fun c1 H2 => ?_)
  ·obtain rfl:=sI H1;exact pB 3 [.eqT 8 (.bool false)] [.er 3 14 9 1,.only [1,2,3] [1,14]] (nJ x0 []) (aM c0 aN)
  ·refine aU H2 fun g0 H3 => ?_;obtain rfl:=sI H3;exact pB 3 [.eqT 8 (.bool true),r0 (V 4 [.b,.er 9 14 9 1,.ap,.rwH 14 (.row 9 1 ([(x0.Row++[46,46])].map ax)),.v])] [.only [1,2,3] [1,14]] (nJ x0 [(x0.Row++[46,46])]) (aM c1 (aC (show x0.Row.length+[46,46].length≤9223372036854775807 from g0) (aY (vo (c:=ax) oT [] [(x0.Row++[46,46])] 16 (by decide) (by simp)) (aC (Ks 9 1 ax [(x0.Row++[46,46])]) aN))))
 ·refine pA 4 [.rg 0 [] [.v,.v,.e (.int .i64 ((x0.Dims.length:Nat):Int)),.v]] [.ren [(14,26)],.only [2,3,16,17,18] [26]] 4 [] (mT x0 0 v0) (aT (aC (aA ah x0.Dims) aN)) ?_;refine az H0 fun R0 h1 H4 => ?_;refine pJ 1 (rj) R0 ?_ (fun u0 e0 => ?_)
  ·refine pC (mT x0) h1 (fun i0 s0 h2 e1 => ?_) (fun i0 s0 h3 q0 h4 h5 => ?_)
   ·have c2:=lF i0 x0.Dims.length (by omega);subst e1;exact pB 5 [r0 [.e (.bool false)]] [.only [2,3] [26]] (rj s0) (aB c2 aN)
   ·have c3:=lT i0 x0.Dims.length (by omega);refine az h4 fun y0 h6 H5 => ?_;refine aU H5 fun g1 H6 => ?_;refine bu 16 (ps:=[(x0.Dims.map ah).length≤9223372036854775807]) (by kernel_rfl) (fun l0 => ?_);have l1:x0.Dims.length≤9223372036854775807:=by simpa only [bt,KW] using l0
    clear l0;obtain rfl:=sI H6;exact pB 11 [r0 [.e (.bool true)],r0 [.e (.dptr (ah (x0.Dims.getD i0 ⟨0,[]⟩))),.v,.m,.m],r0 [.v,.v,.c true (.str y0),.b,.ap,.rwH 26 (.row 9 1 ((s0++[y0]).map ax)),.v],V2] [.only [2,3,16,17,18] [26]] (mT x0 (i0+1) (s0++[y0])) (aB c3 (aI cD x0.Dims i0 ⟨0,[]⟩ (aC Tryz.call152 (aF (xR _ _ h6) (aY (vo (c:=ax) oT s0 [y0] 16 (by decide) (by simpa using g1)) (aC (xT 9 1 ax s0 [y0]) (aH i0 aN)))))))
  ·subst e0;have H7:=cn H4;refine az H7 fun y1 h7 H8 => ?_;refine aU H8 fun g2 H9 => ?_;refine aU H9 fun g3 H10 => ?_;obtain rfl:=sI H10;exact pR 3 [r0 [.v,.c false (.str y1),.v,.v,.v]] [] [] (aC Tryz.call153 (aF (xA u0 [44,32] y1 h7) (aC (show [91].length+y1.length≤9223372036854775807 from g2) (aC (show ([91]++y1).length+[93].length≤9223372036854775807 from g3) aN))))
def iM (x0:Shape):Option (ai×Int) :=
 (ct x0).bind fun y0 =>
 bif y0 then (
  (lP x0).bind fun y1 =>
  some (y1,0)
 ) else (
  some ([],1)
 )
theorem ry (x0:Shape) (r:ai×Int) (H:iM x0=some r):a8 Tryz.prog 24 [.agg [.str x0.Row,dS ah x0.Dims]] (.tup [.str r.1,iI r.2]):=by
 unfold iM at H;refine aX Tryz.func24 9 [.tmp 2,.tmp 3] ?_;refine az H fun y0 h0 H0 => ?_;refine aK H0 (fun c0 H1 => ?_) (fun c1 H2 => ?_)
 ·refine az H1 fun y1 h1 H3 => ?_;obtain rfl:=sI H3;exact pR 11 [r0 [.m,.v,.v],r0 [.v,.c true (.bool y0),.v],.eqT 6 (.bool false),r0 [.v,.c true (.str y1),.v,.v]] [] [] (aC Tryz.call31 (aF (bj _ _ h0) (aT (aM c0 (aC Tryz.call88 (aF (ph _ _ h1) aN))))))
 ·obtain rfl:=sI H2;exact pR 10 [r0 [.m,.v,.v],r0 [.v,.c true (.bool y0),.v],.eqT 6 (.bool true),V2] [] [] (aC Tryz.call31 (aF (bj _ _ h0) (aT (aM c1 aN))))
def jT (x0:ai):Option Bool :=
 bif decide (((x0.length:Nat):Int)<1) then (
  some false
 ) else (
  bif decide (((x0.length:Nat):Int)>30) then (
   some false
  ) else (
   cy (0<x0.length) <|
   bif decide (((x0.getD 0 0).toNat:Int)<65) then (
    some false
   ) else (
    bif decide (((x0.getD 0 0).toNat:Int)>90) then (
     some false
    ) else (
     cy (1≤x0.length) <|
     (s6 (x0.drop 1) [48,49,50,51,52,53,54,55,56,57]).bind fun y0 =>
     some (y0==[])
    )
   )
  )
 )
theorem bR (x0:ai) (r:Bool) (H:jT x0=some r):a8 Tryz.prog 38 [.str x0] (.bool r):=by
 unfold jT at H;refine aX Tryz.func38 25 [.tmp 2] ?_;refine aK H (fun c0 H0 => ?_) (fun c1 H1 => ?_)
 ·obtain rfl:=sI H0;exact pR 9 [V1,r0 [.v,.v,.e (.bool true),.v,.s,.s,.s,.v,.v,.s,.s,.s,.v,.v,.s,.s,.s,.v],V1] [] [] (aT (aB c0 aN))
 ·have c1p:=KS c1;refine aK H1 (fun c2 H2 => ?_) (fun c3 H3 => ?_)
  ·obtain rfl:=sI H2;exact pR 9 [V1,r0 [.v,.v,.e (.bool false),.v,.v,.v,.e (.bool true),.v,.v,.s,.s,.s,.v,.v,.s,.s,.s,.v],V1] [] [] (aT (aB c1 (aT (aB c2 aN))))
  ·have c3p:=KS c3;refine aU H3 fun g0 H4 => ?_;refine aK H4 (fun c4 H5 => ?_) (fun c5 H6 => ?_)
   ·have c4p:=KT c4;obtain rfl:=sI H5;exact pR 9 [V1,r0 [.v,.v,.e (.bool false),.v,.v,.v,.e (.bool false),.v,.v,.v,.v,.e (.bool true),.v,.v,.s,.s,.s,.v],V1] [] [] (aT (aB c1 (aT (aB c3 (aC (show (0:Int)≤0∧0<(x0.length:Int) from by omega) (aB c4 aN))))))
   ·have c5p:=KS c5;refine pA 5 [V1,r0 [.v,.v,.e (.bool false),.v,.v,.v,.e (.bool false),.v,.v,.v,.v,.e (.bool false),.v,.v,.v,.v,.v,.v]] [.only [0,2,20] []] 5 [] ⟨25,[(0,.str x0),(2,.bool false),(20,.bool (decide (((x0.getD 0 0).toNat:Int)>90)))],[]⟩ (aT (aB c1 (aT (aB c3 (aC (show (0:Int)≤0∧0<(x0.length:Int) from by omega) (aB c5 (aC (show (0:Int)≤0∧0<(x0.length:Int) from by omega) aN))))))) ?_;refine aK H6 (fun c6 H7 => ?_) (fun c7 H8 => ?_)
    ·obtain rfl:=sI H7;exact pR 5 [.eqT 20 (.bool true),V1] [] [] (aB c6 aN)
    ·have c7p:=KS c7;refine aU H8 fun g1 H9 => ?_;refine az H9 fun y0 h0 H10 => ?_;obtain rfl:=sI H10;exact pR 6 [.eqT 20 (.bool false),r0 [.v,.e (.str (x0.drop 1)),.c true (.str y0),.v,.v]] [] [] (aB c7 (aC (show (0:Int)≤1∧1≤(x0.length:Int)∧(x0.length:Int)≤(x0.length:Int) from by omega) (aC (jW x0 1) (aC Tryz.call106 (aF (C3 (x0.drop 1) [48,49,50,51,52,53,54,55,56,57] y0 h0) aN)))))
def qI (x0:Bind):Option Bool :=
 ((
  bif (x0.Dim.Const==0) then (
   some (((x0.Dim.Terms.length:Nat):Int)==0)
  ) else (
   some false
  )
 ):Option Bool).bind fun v0 =>
 ((
  bif (x0.Row.Row==[]) then (
   some (((x0.Row.Dims.length:Nat):Int)==0)
  ) else (
   some false
  )
 ):Option Bool).bind fun v1 =>
 bif (x0.Kind==1) then (
  (dV x0.Var).bind fun y0 =>
  bif y0 then (
   (bG x0.Dim).bind fun y1 =>
   bif y1 then (
    bif v1 then (
     some (x0.Elem==[])
    ) else (
     some false
    )
   ) else (
    some false
   )
  ) else (
   some false
  )
 ) else (
  bif (x0.Kind==2) then (
   (dV x0.Var).bind fun y2 =>
   bif y2 then (
    (ct x0.Row).bind fun y3 =>
    bif y3 then (
     bif v0 then (
      some (x0.Elem==[])
     ) else (
      some false
     )
    ) else (
     some false
    )
   ) else (
    some false
   )
  ) else (
   bif (x0.Kind==3) then (
    (jT x0.Var).bind fun y4 =>
    bif y4 then (
     bif (x0.Elem==[105,110,116]) then (
      bif v0 then (
       some v1
      ) else (
       some false
      )
     ) else (
      bif (x0.Elem==[98,111,111,108]) then (
       bif v0 then (
        some v1
       ) else (
        some false
       )
      ) else (
       (jT x0.Elem).bind fun y5 =>
       bif y5 then (
        bif v0 then (
         some v1
        ) else (
         some false
        )
       ) else (
        some false
       )
      )
     )
    ) else (
     some false
    )
   ) else (
    some false
   )
  )
 )
def lW (x0:Bind) (v0:Bool):AS:=⟨91,[(1,.hptr 1 0),(2,.bool false),(3,.bool v0)],[(1,.cells 41 [iI x0.Kind,.str x0.Var,iI x0.Dim.Const,dS aq x0.Dim.Terms,.str x0.Row.Row,dS ah x0.Row.Dims,.str x0.Elem])]⟩
def lA (x0:Bind) (v0 v1:Bool):AS:=⟨91,[(1,.hptr 1 0),(2,.bool false),(3,.bool v0),(4,.bool v1)],[(1,.cells 41 [iI x0.Kind,.str x0.Var,iI x0.Dim.Const,dS aq x0.Dim.Terms,.str x0.Row.Row,dS ah x0.Row.Dims,.str x0.Elem])]⟩
theorem rB (x0:Bind) (r:Bool) (H:qI x0=some r):a8 Tryz.prog 104 [.agg [iI x0.Kind,.str x0.Var,iI x0.Dim.Const,dS aq x0.Dim.Terms,.str x0.Row.Row,dS ah x0.Row.Dims,.str x0.Elem]] (.bool r):=by
 unfold qI at H;refine aX Tryz.func104 91 [.tmp 2] ?_;refine pA 3 [r0 [.m,.v]] [.only [1,2] [1]] 3 [] ⟨91,[(1,.hptr 1 0),(2,.bool false)],[(1,.cells 41 [iI x0.Kind,.str x0.Var,iI x0.Dim.Const,dS aq x0.Dim.Terms,.str x0.Row.Row,dS ah x0.Row.Dims,.str x0.Elem])]⟩ aN ?_;refine az H fun v0 h0 H0 => ?_;refine dF 0 (lW x0 v0) (by kernel_rfl) ?_ ?_
 ·refine aK h0 (fun c0 H1 => ?_) (fun c1 H2 => ?_)
  ·obtain rfl:=sI H1;exact pB 1 [r0 [.v,.v,.v,.e (.bool true),.v,.v,.v,.v,.e (nI x0.Dim.Terms.length),.v,.v,.v]] [.only [1,2,3] [1]] (lW x0 (((x0.Dim.Terms.length:Nat):Int)==0)) (aB c0 (aT (aC (aA aq x0.Dim.Terms) aN)))
  ·obtain rfl:=sI H2;exact pB 1 [r0 [.v,.v,.v,.e (.bool false),.v,.s,.s,.s,.s,.s,.v,.v]] [.only [1,2,3] [1]] (lW x0 false) (aB c1 aN)
 ·refine pA 1 [] [.only [1,2,3] [1]] 1 [] ⟨91,[(1,.hptr 1 0),(2,.bool false),(3,.bool v0)],[(1,.cells 41 [.int .i64 x0.Kind,.str x0.Var,.int .i64 x0.Dim.Const,.dslice (x0.Dim.Terms.map aq),.str x0.Row.Row,.dslice (x0.Row.Dims.map ah),.str x0.Elem])]⟩ aN ?_;refine az H0 fun v1 h1 H3 => ?_;refine dF 0 (lA x0 v0 v1) (by kernel_rfl) ?_ ?_
  ·refine aK h1 (fun c2 H4 => ?_) (fun c3 H5 => ?_)
   ·obtain rfl:=sI H4;exact pB 1 [r0 [.v,.v,.v,.e (.bool true),.v,.v,.v,.v,.e (nI x0.Row.Dims.length),.v,.v,.v]] [.only [1,2,3,4] [1]] (lA x0 v0 (((x0.Row.Dims.length:Nat):Int)==0)) (aB c2 (aT (aC (aA ah x0.Row.Dims) aN)))
   ·obtain rfl:=sI H5;exact pB 1 [r0 [.v,.v,.v,.e (.bool false),.v,.s,.s,.s,.s,.s,.v,.v]] [.only [1,2,3,4] [1]] (lA x0 v0 false) (aB c3 aN)
  ·refine aK H3 (fun c4 H6 => ?_) (fun c5 H7 => ?_)
   ·refine az H6 fun y0 h2 H8 => ?_;refine aK H8 (fun c6 H9 => ?_) (fun c7 H10 => ?_)
    ·refine az H9 fun y1 h3 H11 => ?_;refine aK H11 (fun c8 H12 => ?_) (fun c9 H13 => ?_)
     ·refine aK H12 (fun c10 H14 => ?_) (fun c11 H15 => ?_)
      ·obtain rfl:=sI H14;exact pR 12 [V2,V2,.eqT 29 (.bool true),.eqT 4 (.bool true),r0 [.v,.v,.c true (.bool true),.v,.v,.v,.c true (.bool true),.v,.v,.v,.v,.v,.v,.v,.v,.v,.v]] [] [] (aB c4 (aB c10 (aC Tryz.call96 (aC (a8.eq (bh _ _ h2) (cB c6)) (aC Tryz.call99 (aC (a8.eq (bc _ _ h3) (cB c8)) aN))))))
      ·obtain rfl:=sI H15;exact pR 12 [V2,V2,.eqT 29 (.bool true),.eqT 4 (.bool false),r0 [.v,.v,.c true (.bool true),.v,.v,.v,.c true (.bool true),.v,.v,.v,.v,.v,.s,.s,.s,.v,.v]] [] [] (aB c4 (aB c11 (aC Tryz.call96 (aC (a8.eq (bh _ _ h2) (cB c6)) (aC Tryz.call99 (aC (a8.eq (bc _ _ h3) (cB c8)) aN))))))
     ·obtain rfl:=sI H13;exact pR 11 [V2,V2,.eqT 29 (.bool true),r0 [.v,.v,.c true (.bool true),.v,.v,.v,.c true (.bool false),.v,.v,.s,.v,.v,.s,.s,.s,.v,.v]] [] [] (aB c4 (aC Tryz.call96 (aC (a8.eq (bh _ _ h2) (cB c6)) (aC Tryz.call99 (aC (a8.eq (bc _ _ h3) (cB c9)) aN)))))
    ·obtain rfl:=sI H10;exact pR 11 [V2,V2,.eqT 29 (.bool true),r0 [.v,.v,.c true (.bool false),.v,.s,.s,.s,.v,.v,.s,.v,.v,.s,.s,.s,.v,.v]] [] [] (aB c4 (aC Tryz.call96 (aC (a8.eq (bh _ _ h2) (cB c7)) aN)))
   ·refine aK H7 (fun c12 H16 => ?_) (fun c13 H17 => ?_)
    ·refine az H16 fun y2 h4 H18 => ?_;refine aK H18 (fun c14 H19 => ?_) (fun c15 H20 => ?_)
     ·refine az H19 fun y3 h5 H21 => ?_;refine aK H21 (fun c16 H22 => ?_) (fun c17 H23 => ?_)
      ·refine aK H22 (fun c18 H24 => ?_) (fun c19 H25 => ?_)
       ·obtain rfl:=sI H24;exact pR 16 [V2,V2,.eqT 29 (.bool false),V2,.eqT 47 (.bool true),.eqT 3 (.bool true),r0 [.v,.v,.c true (.bool true),.v,.v,.v,.c true (.bool true),.v,.v,.v,.v,.v,.v,.v,.v,.v,.v]] [] [] (aB c5 (aB c12 (aB c18 (aC Tryz.call96 (aC (a8.eq (bh _ _ h4) (cB c14)) (aC Tryz.call31 (aC (a8.eq (bj _ _ h5) (cB c16)) aN)))))))
       ·obtain rfl:=sI H25;exact pR 16 [V2,V2,.eqT 29 (.bool false),V2,.eqT 47 (.bool true),.eqT 3 (.bool false),r0 [.v,.v,.c true (.bool true),.v,.v,.v,.c true (.bool true),.v,.v,.v,.v,.v,.s,.s,.s,.v,.v]] [] [] (aB c5 (aB c12 (aB c19 (aC Tryz.call96 (aC (a8.eq (bh _ _ h4) (cB c14)) (aC Tryz.call31 (aC (a8.eq (bj _ _ h5) (cB c16)) aN)))))))
      ·obtain rfl:=sI H23;exact pR 15 [V2,V2,.eqT 29 (.bool false),V2,.eqT 47 (.bool true),r0 [.v,.v,.c true (.bool true),.v,.v,.v,.c true (.bool false),.v,.v,.s,.v,.v,.s,.s,.s,.v,.v]] [] [] (aB c5 (aB c12 (aC Tryz.call96 (aC (a8.eq (bh _ _ h4) (cB c14)) (aC Tryz.call31 (aC (a8.eq (bj _ _ h5) (cB c17)) aN))))))
     ·obtain rfl:=sI H20;exact pR 15 [V2,V2,.eqT 29 (.bool false),V2,.eqT 47 (.bool true),r0 [.v,.v,.c true (.bool false),.v,.s,.s,.s,.v,.v,.s,.v,.v,.s,.s,.s,.v,.v]] [] [] (aB c5 (aB c12 (aC Tryz.call96 (aC (a8.eq (bh _ _ h4) (cB c15)) aN))))
    ·refine aK H17 (fun c20 H26 => ?_) (fun c21 H27 => ?_)
     ·refine az H26 fun y4 h6 H28 => ?_;refine aK H28 (fun c22 H29 => ?_) (fun c23 H30 => ?_)
      ·refine aK H29 (fun c24 H31 => ?_) (fun c25 H32 => ?_)
       ·refine aK H31 (fun c26 H33 => ?_) (fun c27 H34 => ?_)
        ·refine bB H33 fun e0 => ?_;subst e0;exact pR 20 [V2,V2,.eqT 29 (.bool false),V2,.eqT 47 (.bool false),V2,.eqT 65 (.bool true),.eqT 3 (.bool true),r0 [.v,.v,.c true (.bool true),.v,.v,.v,.e (.bool true),.v,.s,.s,.s,.v,.v,.s,.s,.s,.v,.v,.v,.v,.v,.v,.v,.v,.v]] [] [] (aB c5 (aB c13 (aB c20 (aB c26 (aC Tryz.call38 (aC (a8.eq (bR _ _ h6) (cB c22)) (aB c24 aN)))))))
        ·obtain rfl:=sI H34;exact pR 20 [V2,V2,.eqT 29 (.bool false),V2,.eqT 47 (.bool false),V2,.eqT 65 (.bool true),.eqT 3 (.bool false),r0 [.v,.v,.c true (.bool true),.v,.v,.v,.e (.bool true),.v,.s,.s,.s,.v,.v,.s,.s,.s,.v,.v,.v,.v,.v,.v,.s,.v,.v]] [] [] (aB c5 (aB c13 (aB c20 (aB c27 (aC Tryz.call38 (aC (a8.eq (bR _ _ h6) (cB c22)) (aB c24 aN)))))))
       ·refine aK H32 (fun c28 H35 => ?_) (fun c29 H36 => ?_)
        ·refine aK H35 (fun c30 H37 => ?_) (fun c31 H38 => ?_)
         ·refine bB H37 fun e1 => ?_;subst e1;exact pR 20 [V2,V2,.eqT 29 (.bool false),V2,.eqT 47 (.bool false),V2,.eqT 65 (.bool true),.eqT 3 (.bool true),r0 [.v,.v,.c true (.bool true),.v,.v,.v,.e (.bool false),.v,.v,.v,.e (.bool true),.v,.v,.s,.s,.s,.v,.v,.v,.v,.v,.v,.v,.v,.v]] [] [] (aB c5 (aB c13 (aB c20 (aB c30 (aC Tryz.call38 (aC (a8.eq (bR _ _ h6) (cB c22)) (aB c25 (aB c28 aN))))))))
         ·obtain rfl:=sI H38;exact pR 20 [V2,V2,.eqT 29 (.bool false),V2,.eqT 47 (.bool false),V2,.eqT 65 (.bool true),.eqT 3 (.bool false),r0 [.v,.v,.c true (.bool true),.v,.v,.v,.e (.bool false),.v,.v,.v,.e (.bool true),.v,.v,.s,.s,.s,.v,.v,.v,.v,.v,.v,.s,.v,.v]] [] [] (aB c5 (aB c13 (aB c20 (aB c31 (aC Tryz.call38 (aC (a8.eq (bR _ _ h6) (cB c22)) (aB c25 (aB c28 aN))))))))
        ·refine az H36 fun y5 h7 H39 => ?_;refine aK H39 (fun c32 H40 => ?_) (fun c33 H41 => ?_)
         ·refine aK H40 (fun c34 H42 => ?_) (fun c35 H43 => ?_)
          ·refine bB H42 fun e2 => ?_;subst e2;exact pR 20 [V2,V2,.eqT 29 (.bool false),V2,.eqT 47 (.bool false),V2,.eqT 65 (.bool true),.eqT 3 (.bool true),r0 [.v,.v,.c true (.bool true),.v,.v,.v,.e (.bool false),.v,.v,.v,.e (.bool false),.v,.v,.v,.v,.c true (.bool true),.v,.v,.v,.v,.v,.v,.v,.v,.v]] [] [] (aB c5 (aB c13 (aB c20 (aB c34 (aC Tryz.call38 (aC (a8.eq (bR _ _ h6) (cB c22)) (aB c25 (aB c29 (aC Tryz.call38 (aC (a8.eq (bR _ _ h7) (cB c32)) aN))))))))))
          ·obtain rfl:=sI H43;exact pR 20 [V2,V2,.eqT 29 (.bool false),V2,.eqT 47 (.bool false),V2,.eqT 65 (.bool true),.eqT 3 (.bool false),r0 [.v,.v,.c true (.bool true),.v,.v,.v,.e (.bool false),.v,.v,.v,.e (.bool false),.v,.v,.v,.v,.c true (.bool true),.v,.v,.v,.v,.v,.v,.s,.v,.v]] [] [] (aB c5 (aB c13 (aB c20 (aB c35 (aC Tryz.call38 (aC (a8.eq (bR _ _ h6) (cB c22)) (aB c25 (aB c29 (aC Tryz.call38 (aC (a8.eq (bR _ _ h7) (cB c32)) aN))))))))))
         ·obtain rfl:=sI H41;exact pR 19 [V2,V2,.eqT 29 (.bool false),V2,.eqT 47 (.bool false),V2,.eqT 65 (.bool true),r0 [.v,.v,.c true (.bool true),.v,.v,.v,.e (.bool false),.v,.v,.v,.e (.bool false),.v,.v,.v,.v,.c true (.bool false),.v,.v,.v,.s,.v,.v,.s,.v,.v]] [] [] (aB c5 (aB c13 (aB c20 (aC Tryz.call38 (aC (a8.eq (bR _ _ h6) (cB c22)) (aB c25 (aB c29 (aC Tryz.call38 (aC (a8.eq (bR _ _ h7) (cB c33)) aN)))))))))
      ·obtain rfl:=sI H30;exact pR 19 [V2,V2,.eqT 29 (.bool false),V2,.eqT 47 (.bool false),V2,.eqT 65 (.bool true),r0 [.v,.v,.c true (.bool false),.v,.s,.s,.s,.s,.s,.s,.s,.s,.s,.s,.s,.s,.s,.v,.v,.s,.v,.v,.s,.v,.v]] [] [] (aB c5 (aB c13 (aB c20 (aC Tryz.call38 (aC (a8.eq (bR _ _ h6) (cB c23)) aN)))))
     ·obtain rfl:=sI H27;exact pR 20 [V2,V2,.eqT 29 (.bool false),V2,.eqT 47 (.bool false),V2,.eqT 65 (.bool false),V1] [] [] (aB c5 (aB c13 (aB c21 aN)))
def oZ (x0:Bind) (x1:Int) (x2:ai):Option Bool :=
 bif (x0.Kind==x1) then (
  some (x0.Var==x2)
 ) else (
  some false
 )
theorem xB (x0:Bind) (x1:Int) (x2:ai) (r:Bool) (H:oZ x0 x1 x2=some r):a8 Tryz.prog 145 [.agg [iI x0.Kind,.str x0.Var,iI x0.Dim.Const,dS aq x0.Dim.Terms,.str x0.Row.Row,dS ah x0.Row.Dims,.str x0.Elem],.dptr [iI x1],.dptr [.str x2]] (.bool r):=by
 unfold oZ at H;refine aX Tryz.func145 15 [.tmp 4] ?_;refine aK H (fun c0 H0 => ?_) (fun c1 H1 => ?_)
 ·obtain rfl:=sI H0;exact pR 5 [r0 [.m,.v],r0 [.v,.v,.v,.e (.bool true),.v,.v,.v,.v,.v,.v,.v]] [] [] (aB c0 aN)
 ·obtain rfl:=sI H1;exact pR 5 [r0 [.m,.v],r0 [.v,.v,.v,.e (.bool false),.v,.s,.s,.s,.s,.v,.v]] [] [] (aB c1 aN)
def eD (x0:List Bind) (x1:Int) (x2:ai):Option Int :=
 (cY (σ:=Unit) (ε:=Unit) (ρ:=Int) (fun i0 s0 =>
  (oZ (Bind.mk ((x0.getD i0 (⟨0,[],⟨0,[]⟩,⟨[],[]⟩,[]⟩)).Kind) ((x0.getD i0 (⟨0,[],⟨0,[]⟩,⟨[],[]⟩,[]⟩)).Var) (Linear.mk (((x0.getD i0 (⟨0,[],⟨0,[]⟩,⟨[],[]⟩,[]⟩)).Dim).Const) (((x0.getD i0 (⟨0,[],⟨0,[]⟩,⟨[],[]⟩,[]⟩)).Dim).Terms)) (Shape.mk (((x0.getD i0 (⟨0,[],⟨0,[]⟩,⟨[],[]⟩,[]⟩)).Row).Row) (((x0.getD i0 (⟨0,[],⟨0,[]⟩,⟨[],[]⟩,[]⟩)).Row).Dims)) ((x0.getD i0 (⟨0,[],⟨0,[]⟩,⟨[],[]⟩,[]⟩)).Elem)) x1 x2).bind fun y0 =>
  bif y0 then (
   some (.ret ((i0:Nat):Int))
  ) else (
   some (.go ())
  )
 ) (fun i0 s0=>()) (x0.length-0) 0 ()).bind <| aft fun u0 =>
 some (-1)
def dJ (x0:List Bind) (x1:Int) (x2:ai) (i0:Nat) (s0:Unit):AS:=⟨19,[(0,dS bV x0),(1,.fn 145 [.hptr 1000 0,.hptr 1001 0]),(4,iI 0),(7,nI x0.length),(8,nI i0)],[(1000,.cells 3 [iI x1]),(1001,.cells 9 [.str x2])]⟩
def fP (x1:Int) (x2:ai) (u1:Unit):AS:=⟨19,[(4,iI 0)],[(1000,.cells 3 [iI x1]),(1001,.cells 9 [.str x2])]⟩
theorem kW (x0:List Bind) (x1:Int) (x2:ai) (r:Int) (H:eD x0 x1 x2=some r):bo Tryz.prog 144 [dS bV x0,.fn 145 [.hptr 1000 0,.hptr 1001 0]] [(1000,.cells 3 [iI x1]),(1001,.cells 9 [.str x2])] (fun r2 h0=>r2=(iI r)∧h0=[(1000,.cells 3 [iI x1]),(1001,.cells 9 [.str x2])]):=by
 unfold eD at H;refine aX Tryz.func144 19 [.tmp 4] ?_;refine pA 6 [V1,r0 [.v,.e (nI x0.length),.v]] [.only [0,1,4,7,8] [1000,1001]] 6 [] (dJ x0 x1 x2 0 ()) (aT (aC (aA bV x0) aN)) ?_;refine az H fun R0 h1 H0 => ?_;refine pJ 1 (fP x1 x2) R0 ?_ (fun u0 e0 => ?_)
 ·refine pC (dJ x0 x1 x2) h1 (fun i0 s0 h2 e1 => ?_) (fun i0 s0 h3 q0 h4 h5 => ?_)
  ·have c0:=lF i0 x0.length (by omega);subst e1;exact pB 5 [r0 [.e (.bool false)]] [.only [4] [1000,1001]] (fP x1 x2 ()) (aB c0 aN)
  ·have c1:=lT i0 x0.length (by omega);refine az h4 fun y0 h6 H1 => ?_;refine pA 11 [r0 [.e (.bool true)],V2,r0 [.v,.v,.v,.e (.dptr (bV (x0.getD i0 (⟨0,[],⟨0,[]⟩,⟨[],[]⟩,[]⟩)))),.v,.c false (.bool y0)]] [.only [0,1,4,5,7,8,16] [1000,1001]] 11 [true] ⟨19,[(0,dS bV x0),(1,.fn 145 [.hptr 1000 0,.hptr 1001 0]),(4,iI 0),(5,nI i0),(7,nI x0.length),(8,nI i0),(16,.bool y0)],[(1000,.cells 3 [iI x1]),(1001,.cells 9 [.str x2])]⟩ (aB c1 (aI iR x0 i0 (⟨0,[],⟨0,[]⟩,⟨[],[]⟩,[]⟩) (aC Tryz.call145 (aF (xB _ _ _ _ h6) aN)))) ?_;refine aK H1 (fun c2 H2 => ?_) (fun c3 H3 => ?_)
   ·obtain rfl:=sI H2;obtain rfl:=aw h5;obtain rfl:=sI (ao H0);exact pR 5 [.eqT 16 (.bool true),V2] [] [1000,1001] (aB c2 aN)
   ·refine bu 0 (ps:=[(x0.map bV).length≤9223372036854775807]) (by kernel_rfl) (fun l0 => ?_);have l1:x0.length≤9223372036854775807:=by simpa only [bt,KW] using l0
    clear l0;obtain rfl:=sI H3;exact pB 4 [.eqT 16 (.bool false),V2] [.only [0,1,4,7,8] [1000,1001]] (dJ x0 x1 x2 (i0+1) ()) (aB c3 (aH i0 aN))
 ·subst e0;have H4:=aV H0;obtain rfl:=sI H4;exact pR 3 [V1] [] [1000,1001] aN
def mf (x0:List Bind) (x1:Int) (x2:ai):Option Int :=
 (eD x0 x1 x2).bind fun y0 =>
 some y0
theorem tt (x0:List Bind) (x1:Int) (x2:ai) (r:Int) (H:mf x0 x1 x2=some r):a8 Tryz.prog 81 [dS bV x0,iI x1,.str x2] (iI r):=by unfold mf at H;refine aX Tryz.func81 10 [.tmp 6] ?_;refine az H fun y0 h0 H0 => ?_;refine bB H0 fun e0 => ?_;subst e0;exact pR 5 [r0 [.m,.m,.v],r0 [.v,.v,.hR [(4,1000),(5,1001)] 9 (iI y0) [(1000,.cells 3 [iI x1]),(1001,.cells 9 [.str x2])],.v]] [] [] (aC Tryz.call144 (aC (kW _ _ _ _ h0) aN))
def gS (x0:List Bind):Option Bool :=
 (cY (σ:=Unit) (ε:=Unit) (ρ:=Bool) (fun i0 s0 =>
  (qI (Bind.mk ((x0.getD i0 (⟨0,[],⟨0,[]⟩,⟨[],[]⟩,[]⟩)).Kind) ((x0.getD i0 (⟨0,[],⟨0,[]⟩,⟨[],[]⟩,[]⟩)).Var) (Linear.mk (((x0.getD i0 (⟨0,[],⟨0,[]⟩,⟨[],[]⟩,[]⟩)).Dim).Const) (((x0.getD i0 (⟨0,[],⟨0,[]⟩,⟨[],[]⟩,[]⟩)).Dim).Terms)) (Shape.mk (((x0.getD i0 (⟨0,[],⟨0,[]⟩,⟨[],[]⟩,[]⟩)).Row).Row) (((x0.getD i0 (⟨0,[],⟨0,[]⟩,⟨[],[]⟩,[]⟩)).Row).Dims)) ((x0.getD i0 (⟨0,[],⟨0,[]⟩,⟨[],[]⟩,[]⟩)).Elem))).bind fun y0 =>
  bif y0 then (
   (mf (x0.take i0) ((x0.getD i0 (⟨0,[],⟨0,[]⟩,⟨[],[]⟩,[]⟩)).Kind) ((x0.getD i0 (⟨0,[],⟨0,[]⟩,⟨[],[]⟩,[]⟩)).Var)).bind fun y1 =>
   bif decide (y1≥0) then (
    some (.ret false)
   ) else (
    some (.go ())
   )
  ) else (
   some (.ret false)
  )
 ) (fun i0 s0=>()) (x0.length-0) 0 ()).bind <| aft fun u0 =>
 some true
def ia (x0:List Bind) (i0:Nat) (s0:Unit):AS:=⟨27,[(0,dS bV x0),(2,.bool false),(5,dS bV x0),(6,nI x0.length),(7,nI i0)],[]⟩
def kT (u1:Unit):AS:=⟨27,[(2,.bool false)],[]⟩
theorem lL (x0:List Bind) (r:Bool) (H:gS x0=some r):a8 Tryz.prog 36 [dS bV x0] (.bool r):=by
 unfold gS at H;refine aX Tryz.func36 27 [.tmp 2] ?_;refine pA 6 [V1,r0 [.v,.e (nI x0.length),.v]] [.only [0,2,5,6,7] []] 6 [] (ia x0 0 ()) (aT (aC (aA bV x0) aN)) ?_;refine az H fun R0 h0 H0 => ?_;refine pJ 1 (kT) R0 ?_ (fun u0 e0 => ?_)
 ·refine pC (ia x0) h0 (fun i0 s0 h1 e1 => ?_) (fun i0 s0 h2 q0 h3 h4 => ?_)
  ·have c0:=lF i0 x0.length (by omega);subst e1;exact pB 5 [r0 [.e (.bool false)]] [.only [2] []] (kT ()) (aB c0 aN)
  ·have c1:=lT i0 x0.length (by omega);refine az h3 fun y0 h5 H1 => ?_;refine pA 10 [r0 [.e (.bool true)],r0 [.v,.e (.dptr (bV (x0.getD i0 (⟨0,[],⟨0,[]⟩,⟨[],[]⟩,[]⟩)))),.v,.m,.v,.m]] [.only [0,2,3,4,5,6,7] [4]] 10 [true] ⟨27,[(0,dS bV x0),(2,.bool false),(3,nI i0),(4,.hptr 4 0),(5,dS bV x0),(6,nI x0.length),(7,nI i0)],[(4,.cells 41 (bV (x0.getD i0 (⟨0,[],⟨0,[]⟩,⟨[],[]⟩,[]⟩))))]⟩ (aB c1 (aI iR x0 i0 (⟨0,[],⟨0,[]⟩,⟨[],[]⟩,[]⟩) aN)) ?_;refine aK H1 (fun c2 H2 => ?_) (fun c3 H3 => ?_)
   ·refine az H2 fun y1 h6 H4 => ?_;refine pA 1 [.rg 11 [.v,.c true (.bool true),.v,.v,.v,.v,.e (.dslice ((x0.take i0).map bV)),.v,.v,.v,.v] [.c true (iI y1),.v,.v]] [.only [0,2,5,6,7,25] []] 1 [] ⟨27,[(0,dS bV x0),(2,.bool false),(5,dS bV x0),(6,nI x0.length),(7,nI i0),(25,.bool (decide (y1≥0)))],[]⟩ (aC Tryz.call104 (aC (a8.eq (rB _ _ h5) (cB c2)) (aT (aC (show ((0:Int)≤0∧0≤((i0:Nat):Int)∧((i0:Nat):Int)≤((x0.map bV).length:Int))∧UL 7 (x0.map bV) from ⟨by first | omega | (simp only [KW];omega),UL.map iR _⟩) (aC (HM bV x0 i0) (aC Tryz.call81 (aF (tt _ _ _ _ h6) aN))))))) ?_;refine aK H4 (fun c4 H5 => ?_) (fun c5 H6 => ?_)
    ·obtain rfl:=sI H5;obtain rfl:=aw h4;obtain rfl:=sI (ao H0);exact pR 5 [.eqT 25 (.bool true),V1] [] [] (aB c4 aN)
    ·have c5p:=KS c5;refine bu 0 (ps:=[(x0.map bV).length≤9223372036854775807]) (by kernel_rfl) (fun l0 => ?_);have l1:x0.length≤9223372036854775807:=by simpa only [bt,KW] using l0
     clear l0;obtain rfl:=sI H6;exact pB 4 [.eqT 25 (.bool false),V2] [.only [0,2,5,6,7] []] (ia x0 (i0+1) ()) (aB c5 (aH i0 aN))
   ·obtain rfl:=sI H3;obtain rfl:=aw h4;obtain rfl:=sI (ao H0);exact pR 5 [.rg 11 [.v,.c true (.bool false),.v,.v,.s,.s,.s,.s,.s,.s,.s] [.s,.s,.v],V1] [] [] (aC Tryz.call104 (aC (a8.eq (rB _ _ h5) (cB c3)) (aT aN)))
 ·subst e0;have H7:=aV H0;obtain rfl:=sI H7;exact pR 3 [V1] [] [] aN
noncomputable def bW (x0:List Coef):Option (List Coef) :=
 IW (α:=Coef) x0 (
  some []
 ) (
  cy (x0.length*24≤140737488355328) <|
  some x0
 )
theorem n5 (x0 r:List Coef) (H:bW x0=some r):a8 Tryz.prog 146 [dS aq x0] (dS aq r):=by
 unfold bW at H;refine aX Tryz.func146 8 [.tmp 2] ?_;refine pA 4 [V1] [.only [0,2] []] 4 [] ⟨8,[(0,dS aq x0),(2,.eslice)],[]⟩ aN ?_;refine JK H (fun H0 H1 => ?_);refine HW [.v] (l:=(x0.map aq)) (k:=4) (q:=true) (S:=⟨8,[(0,dS aq x0),(2,.eslice),(3,dS aq x0)],[]⟩) aN (by kernel_rfl) (fun b0 h0 => ?_);cases b0 with
 | true =>
  have H2:=H0 (List.map_eq_nil_iff.1 (h0 rfl));obtain rfl:=sI H2;exact pR 4 [V1] [.wk 2 []] [] aN
 | false =>
  refine aU H1 fun g0 H3 => ?_;refine bB H3 fun e0 => ?_;subst e0;exact pR 5 [r0 [.b,.v,.er 5 7 44 2,.ap,.rwH 7 (.row 44 2 (x0.map aq)),.v]] [.fz 7] [] (aY (vo (c:=aq) xH [] x0 24 (by decide) (by simpa using g0)) (aC (Ks 44 2 aq x0) aN))
noncomputable def gO (x0:List Linear):Option (List Linear) :=
 (cY (σ:=(List Linear)) (ε:=(List Linear)) (ρ:=Empty) (fun i0 s0 =>
  (bW ((x0.getD i0 ⟨0,[]⟩).Terms)).bind fun y0 =>
  cy ((s0.length+1)*32≤140737488355328) <|
  some (.go (s0++[(Linear.mk ((x0.getD i0 ⟨0,[]⟩).Const) y0)]))
 ) (fun i0 s0=>s0) (x0.length-0) 0 []).bind <| gu fun u0 =>
 some u0
def kN (x0:List Linear) (i0:Nat) (s0:List Linear):AS:=⟨23,[(2,.eslice),(3,.rslice 20),(6,dS ah x0),(7,nI x0.length),(8,nI i0)],[(20,.row 39 2 (s0.map ah))]⟩
def px (u1:List Linear):AS:=⟨23,[(2,.eslice),(3,.rslice 20)],[(20,.row 39 2 (u1.map ah))]⟩
theorem qb (x0 r:List Linear) (H:gO x0=some r):bo Tryz.prog 82 [dS ah x0] [] (fun r2 h0=>r2=(.rslice 0)∧h0=[(0,.row 39 2 (r.map ah))]):=by
 unfold gO at H;refine aX Tryz.func82 23 [.tmp 2] ?_;refine pA 8 [V1,V1,r0 [.v,.e (nI x0.length),.v]] [.er 3 20 39 2,.only [2,3,6,7,8] [20]] 8 [] (kN x0 0 []) (aT (aC (aA ah x0) aN)) ?_;refine az H fun R0 h1 H0 => ?_;refine pJ 1 (px) R0 ?_ (fun u0 e0 => ?_)
 ·refine pC (kN x0) h1 (fun i0 s0 h2 e1 => ?_) (fun i0 s0 h3 q0 h4 h5 => ?_)
  ·have c0:=lF i0 x0.length (by omega);subst e1;exact pB 5 [r0 [.e (.bool false)]] [.only [2,3] [20]] (px s0) (aB c0 aN)
  ·have c1:=lT i0 x0.length (by omega);refine az h4 fun y0 h6 H1 => ?_;refine aU H1 fun g0 H2 => ?_;refine bu 6 (ps:=[(x0.map ah).length≤9223372036854775807]) (by kernel_rfl) (fun l0 => ?_);have l1:x0.length≤9223372036854775807:=by simpa only [bt,KW] using l0
   clear l0;obtain rfl:=sI H2;exact pB 11 [r0 [.e (.bool true)],r0 [.e (.dptr (ah (x0.getD i0 ⟨0,[]⟩))),.v,.m,.m],.rg 8 (V 5 [.c true (dS aq y0),.b,.b]) [.ap,.rwH 20 (.row 39 2 ((s0++[(Linear.mk ((x0.getD i0 ⟨0,[]⟩).Const) y0)]).map ah)),.v],V2] [.only [2,3,6,7,8] [20]] (kN x0 (i0+1) (s0++[(Linear.mk ((x0.getD i0 ⟨0,[]⟩).Const) y0)])) (aB c1 (aI cD x0 i0 ⟨0,[]⟩ (aC Tryz.call146 (aF (n5 _ _ h6) (aY (vo (c:=ah) rR s0 [(Linear.mk ((x0.getD i0 ⟨0,[]⟩).Const) y0)] 32 (by decide) (by simpa using g0)) (aC (xT 39 2 ah s0 [(Linear.mk ((x0.getD i0 ⟨0,[]⟩).Const) y0)]) (aH i0 aN)))))))
 ·subst e0;have H3:=cn H0;refine bB H3 fun e2 => ?_;subst e2;exact pR 3 [V2] [.ren [(20,0)]] [0] aN
def mc (x0:Bind) (x1:Coef):Option Bool :=
 bif (x0.Kind==1) then (
  some (x0.Var==x1.Var)
 ) else (
  some false
 )
theorem ud (x0:Bind) (x1:Coef) (r:Bool) (H:mc x0 x1=some r):a8 Tryz.prog 147 [.agg [iI x0.Kind,.str x0.Var,iI x0.Dim.Const,dS aq x0.Dim.Terms,.str x0.Row.Row,dS ah x0.Row.Dims,.str x0.Elem],.dptr [.str x1.Var,iI x1.C]] (.bool r):=by
 unfold mc at H;refine aX Tryz.func147 14 [.tmp 3] ?_;refine aK H (fun c0 H0 => ?_) (fun c1 H1 => ?_)
 ·obtain rfl:=sI H0;exact pR 5 [r0 [.m,.v],r0 [.v,.v,.e (.bool true),.v,.v,.v,.v,.v,.v,.v,.v]] [] [] (aB c0 aN)
 ·obtain rfl:=sI H1;exact pR 5 [r0 [.m,.v],r0 [.v,.v,.e (.bool false),.v,.s,.s,.s,.s,.s,.v,.v]] [] [] (aB c1 aN)
def cF (x0:List Bind) (x1:ai) (x2:Int):Option Int :=
 (cY (σ:=Unit) (ε:=Unit) (ρ:=Int) (fun i0 s0 =>
  (mc (Bind.mk ((x0.getD i0 (⟨0,[],⟨0,[]⟩,⟨[],[]⟩,[]⟩)).Kind) ((x0.getD i0 (⟨0,[],⟨0,[]⟩,⟨[],[]⟩,[]⟩)).Var) (Linear.mk (((x0.getD i0 (⟨0,[],⟨0,[]⟩,⟨[],[]⟩,[]⟩)).Dim).Const) (((x0.getD i0 (⟨0,[],⟨0,[]⟩,⟨[],[]⟩,[]⟩)).Dim).Terms)) (Shape.mk (((x0.getD i0 (⟨0,[],⟨0,[]⟩,⟨[],[]⟩,[]⟩)).Row).Row) (((x0.getD i0 (⟨0,[],⟨0,[]⟩,⟨[],[]⟩,[]⟩)).Row).Dims)) ((x0.getD i0 (⟨0,[],⟨0,[]⟩,⟨[],[]⟩,[]⟩)).Elem)) (Coef.mk x1 x2)).bind fun y0 =>
  bif y0 then (
   some (.ret ((i0:Nat):Int))
  ) else (
   some (.go ())
  )
 ) (fun i0 s0=>()) (x0.length-0) 0 ()).bind <| aft fun u0 =>
 some (-1)
def dh (x0:List Bind) (x1:ai) (x2:Int) (i0:Nat) (s0:Unit):AS:=⟨19,[(0,dS bV x0),(1,.fn 147 [.hptr 1000 0]),(4,iI 0),(7,nI x0.length),(8,nI i0)],[(1000,.cells 44 [.str x1,iI x2])]⟩
def fi (x1:ai) (x2:Int) (u1:Unit):AS:=⟨19,[(4,iI 0)],[(1000,.cells 44 [.str x1,iI x2])]⟩
theorem kv (x0:List Bind) (x1:ai) (x2 r:Int) (H:cF x0 x1 x2=some r):bo Tryz.prog 144 [dS bV x0,.fn 147 [.hptr 1000 0]] [(1000,.cells 44 [.str x1,iI x2])] (fun r2 h0=>r2=(iI r)∧h0=[(1000,.cells 44 [.str x1,iI x2])]):=by
 unfold cF at H;refine aX Tryz.func144 19 [.tmp 4] ?_;refine pA 6 [V1,r0 [.v,.e (nI x0.length),.v]] [.only [0,1,4,7,8] [1000]] 6 [] (dh x0 x1 x2 0 ()) (aT (aC (aA bV x0) aN)) ?_;refine az H fun R0 h1 H0 => ?_;refine pJ 1 (fi x1 x2) R0 ?_ (fun u0 e0 => ?_)
 ·refine pC (dh x0 x1 x2) h1 (fun i0 s0 h2 e1 => ?_) (fun i0 s0 h3 q0 h4 h5 => ?_)
  ·have c0:=lF i0 x0.length (by omega);subst e1;exact pB 5 [r0 [.e (.bool false)]] [.only [4] [1000]] (fi x1 x2 ()) (aB c0 aN)
  ·have c1:=lT i0 x0.length (by omega);refine az h4 fun y0 h6 H1 => ?_;refine pA 11 [r0 [.e (.bool true)],V2,r0 [.v,.v,.v,.e (.dptr (bV (x0.getD i0 (⟨0,[],⟨0,[]⟩,⟨[],[]⟩,[]⟩)))),.v,.c false (.bool y0)]] [.only [0,1,4,5,7,8,16] [1000]] 11 [true] ⟨19,[(0,dS bV x0),(1,.fn 147 [.hptr 1000 0]),(4,iI 0),(5,nI i0),(7,nI x0.length),(8,nI i0),(16,.bool y0)],[(1000,.cells 44 [.str x1,iI x2])]⟩ (aB c1 (aI iR x0 i0 (⟨0,[],⟨0,[]⟩,⟨[],[]⟩,[]⟩) (aC Tryz.call147 (aF (ud _ _ _ h6) aN)))) ?_;refine aK H1 (fun c2 H2 => ?_) (fun c3 H3 => ?_)
   ·obtain rfl:=sI H2;obtain rfl:=aw h5;obtain rfl:=sI (ao H0);exact pR 5 [.eqT 16 (.bool true),V2] [] [1000] (aB c2 aN)
   ·refine bu 0 (ps:=[(x0.map bV).length≤9223372036854775807]) (by kernel_rfl) (fun l0 => ?_);have l1:x0.length≤9223372036854775807:=by simpa only [bt,KW] using l0
    clear l0;obtain rfl:=sI H3;exact pB 4 [.eqT 16 (.bool false),V2] [.only [0,1,4,7,8] [1000]] (dh x0 x1 x2 (i0+1) ()) (aB c3 (aH i0 aN))
 ·subst e0;have H4:=aV H0;obtain rfl:=sI H4;exact pR 3 [V1] [] [1000] aN
def jc (x0:Linear) (x1 x2:Int) (x3:List (ai×Int)):Option (Int×(List (ai×Int))) :=
 (cY (σ:=(List (ai×Int))) (ε:=(Int×(List (ai×Int)))) (ρ:=(Int×(List (ai×Int)))) (fun i0 s0 =>
  some (.go (dL ((x0.Terms.getD i0 ⟨[],0⟩).Var) (aJ ((bN 0 ((x0.Terms.getD i0 ⟨[],0⟩).Var) s0)+(aJ (x1*((x0.Terms.getD i0 ⟨[],0⟩).C))))) s0))
 ) (fun i0 s0=>((aJ (x2+(aJ (x1*x0.Const)))),s0)) (x0.Terms.length-0) 0 x3).bind <| aft some
def jm (x0:Linear) (x1 x2:Int) (i0:Nat) (s0:List (ai×Int)):AS:=⟨39,[(0,.hptr 1000 0),(2,iI x1),(20,dS aq x0.Terms),(21,nI x0.Terms.length),(22,nI i0)],[(1000,.cells 158 [iI (aJ (x2+(aJ (x1*x0.Const)))),.amap 1001]),(1001,.smap 9 3 (s0.map (aW ab)))]⟩
theorem tB (x0:Linear) (x1 x2:Int) (x3:List (ai×Int)) (r:Int×(List (ai×Int))) (H:jc x0 x1 x2 x3=some r):bo Tryz.prog 148 [.hptr 1000 0,.agg [iI x0.Const,dS aq x0.Terms],iI x1] [(1000,.cells 158 [iI x2,.amap 1001]),(1001,.smap 9 3 (x3.map (aW ab)))] (fun r2 h0=>r2=(.tup [])∧h0=[(1000,.cells 158 [iI r.1,.amap 1001]),(1001,.smap 9 3 (r.2.map (aW ab)))]):=by
 unfold jc at H;refine aX Tryz.func148 39 [] ?_;refine pA 7 [r0 [.m],.rg 8 (V 7 [.w]) [.w,.v,.v,.m],r0 [.v,.v,.e (nI x0.Terms.length),.v]] [.only [0,2,20,21,22] [1000,1001]] 7 [] (jm x0 x1 x2 0 x3) (aT (aC (aA aq x0.Terms) aN)) ?_;refine az H fun R0 h1 H0 => ?_;refine pC (jm x0 x1 x2) h1 (fun i0 s0 h2 e0 => ?_) (fun i0 s0 h3 q0 h4 h5 => ?_)
 ·have c0:=lF i0 x0.Terms.length (by omega);subst e0;obtain rfl:=sI (aV H0);exact pR 5 [r0 [.e (.bool false)]] [] [1000,1001] (aB c0 aN)
 ·have c1:=lT i0 x0.Terms.length (by omega);refine bu 20 (ps:=[(x0.Terms.map aq).length≤9223372036854775807]) (by kernel_rfl) (fun l0 => ?_);have l1:x0.Terms.length≤9223372036854775807:=by simpa only [bt,KW] using l0
  clear l0;obtain rfl:=sI h4;exact pB 11 [r0 [.e (.bool true)],r0 [.e (.dptr (aq (x0.Terms.getD i0 ⟨[],0⟩))),.v,.m,.m],.rg 11 (V 6 [.l (iI (bN 0 ((x0.Terms.getD i0 ⟨[],0⟩).Var) s0)),.v,.v,.v,.w]) [.w,.m,.rwH 1001 (.smap 9 3 ((dL ((x0.Terms.getD i0 ⟨[],0⟩).Var) (aJ ((bN 0 ((x0.Terms.getD i0 ⟨[],0⟩).Var) s0)+(aJ (x1*((x0.Terms.getD i0 ⟨[],0⟩).C))))) s0).map (aW ab)))],V2] [.only [0,2,20,21,22] [1000,1001]] (jm x0 x1 x2 (i0+1) (dL ((x0.Terms.getD i0 ⟨[],0⟩).Var) (aJ ((bN 0 ((x0.Terms.getD i0 ⟨[],0⟩).Var) s0)+(aJ (x1*((x0.Terms.getD i0 ⟨[],0⟩).C))))) s0)) (aB c1 (aI cU x0.Terms i0 ⟨[],0⟩ (aC (gL (c:=ab) ((x0.Terms.getD i0 ⟨[],0⟩).Var) 0 s0) (aC (congrArg (AO.smap 9 3) (k9 (c:=ab) ((x0.Terms.getD i0 ⟨[],0⟩).Var) (aJ ((bN 0 ((x0.Terms.getD i0 ⟨[],0⟩).Var) s0)+(aJ (x1*((x0.Terms.getD i0 ⟨[],0⟩).C))))) s0)) (aH i0 aN)))))
noncomputable def cR (x0:Int) (x1:List (ai×Int)):Option (Linear×Int) :=
 rf (σ:=(List ai)) (ε:=Empty) (β:=(Linear×Int)) x1 (fun e0 s0 =>
  bif (e0.2==0) then (
   some (.go s0)
  ) else (
   cy ((s0.length+1)*16≤140737488355328) <|
   some (.go (s0++[e0.1]))
  )
 ) [] (fun s0 =>
  (lU s0).bind fun y0 =>
  (cY (σ:=(List Coef)) (ε:=(List Coef)) (ρ:=Empty) (fun i0 s1 =>
   cy ((s1.length+1)*24≤140737488355328) <|
   some (.go (s1++[(Coef.mk (y0.getD i0 []) (bN 0 (y0.getD i0 []) x1))]))
  ) (fun i0 s1=>s1) (y0.length-0) 0 []).bind <| gu fun u0 =>
  (bG (Linear.mk x0 u0)).bind fun y1 =>
  bif y1 then (
   some ((Linear.mk x0 u0),0)
  ) else (
   some ((Linear.mk 0 []),3)
  )
 )
def eQ (x0:Int) (x1:List (ai×Int)) (i1:List Nat) (s0:List ai):AS:=⟨58,[(0,.hptr 1000 0),(2,.hptr 2 0),(3,iI 0),(4,.hptr 4 0),(5,.rslice 30),(19,.hptr 19 0)],[(2,.cells 39 [iI 0,.eslice]),(4,.cells 39 [iI x0,.eslice]),(19,.iter (x1.map (aW ab)) i1),(30,.row 9 1 (s0.map ax)),(1000,.cells 158 [iI x0,.dmap (x1.map (aW ab))])]⟩
def gD (x0:Int) (x1:List (ai×Int)) (y0:List ai) (i0:Nat) (s1:List Coef):AS:=⟨58,[(0,.hptr 1000 0),(2,.hptr 2 0),(3,iI 0),(4,.hptr 4 0),(33,.rslice 30),(34,nI y0.length),(35,nI i0)],[(2,.cells 39 [iI 0,.eslice]),(4,.cells 39 [iI x0,.rslice 50]),(30,.row 9 1 (y0.map ax)),(50,.row 44 2 (s1.map aq)),(1000,.cells 158 [iI x0,.dmap (x1.map (aW ab))])]⟩
def kj (x0:Int) (x1:List (ai×Int)) (u1:List Coef):AS:=⟨58,[(2,.hptr 2 0),(3,iI 0),(4,.hptr 4 0)],[(2,.cells 39 [iI 0,.eslice]),(4,.cells 39 [iI x0,.rslice 50]),(50,.row 44 2 (u1.map aq)),(1000,.cells 158 [iI x0,.dmap (x1.map (aW ab))])]⟩
theorem q8 (x0:Int) (x1:List (ai×Int)) (r:Linear×Int) (H:cR x0 x1=some r):bo Tryz.prog 149 [.hptr 1000 0] [(1000,.cells 158 [iI x0,.amap 1001]),(1001,.smap 9 3 (x1.map (aW ab)))] (fun r2 h0=>r2=(.tup [.agg [iI r.1.Const,dS aq r.1.Terms],iI r.2])∧h0=[]):=by
 unfold cR at H;refine aX Tryz.func149 58 [.cell 2 39,.tmp 3] ?_;refine pA 10 [r0 [.m,.v],r0 (V 4 [.b,.m,.m]),V1,r0 (V 4 [.fm 1001,.m])] [.er 5 30 9 1,.only [0,2,3,4,5,19] [2,4,19,30,1000]] 10 [] (eQ x0 x1 [] []) (aC (z6 dW x1) aN) ?_;refine Aw (cc:=ab) 19 (eQ x0 x1) (by kernel_rfl) H [.v] (fun i1 s0=>⟨by kernel_rfl,by kernel_rfl⟩) (fun i1 s0=>⟨58,[(0,.hptr 1000 0),(2,.hptr 2 0),(3,iI 0),(4,.hptr 4 0),(5,.rslice 30),(19,.hptr 19 0),(20,.tup [.bool false]),(21,.bool false)],[(2,.cells 39 [iI 0,.eslice]),(4,.cells 39 [iI x0,.eslice]),(19,.iter (x1.map (aW ab)) i1),(30,.row 9 1 (s0.map ax)),(1000,.cells 158 [iI x0,.dmap (x1.map (aW ab))])]⟩) (fun i1 s0=>by kernel_rfl) (fun i1 s0 n0 e0=>⟨58,[(0,.hptr 1000 0),(2,.hptr 2 0),(3,iI 0),(4,.hptr 4 0),(5,.rslice 30),(19,.hptr 19 0),(20,.tup [.bool true,.str e0.1,iI e0.2]),(21,.bool true)],[(2,.cells 39 [iI 0,.eslice]),(4,.cells 39 [iI x0,.eslice]),(19,.iter (x1.map (aW ab)) (i1++[n0])),(30,.row 9 1 (s0.map ax)),(1000,.cells 158 [iI x0,.dmap (x1.map (aW ab))])]⟩) (fun i1 s0 n0 e0=>by kernel_rfl) (fun i1 s0 H0 => ?_) (fun i1 s0 n0 e0 h1 q0 h2 h3 => ?_)
 ·refine az H0 fun y0 h4 H1 => ?_;refine pA 9 [r0 [.v,.hR [(30,1000)] 32 (.tup []) [(1000,.row 9 1 (y0.map ax))]],r0 [.v,.e (nI y0.length),.v]] [.erH 4 1 50 44 2,.only [0,2,3,4,33,34,35] [2,4,30,50,1000]] 9 [false] (gD x0 x1 y0 0 []) (aC Tryz.call138 (aC (vN s0 y0 h4) (aT (aC (aA ax y0) aN)))) ?_;refine az H1 fun R0 h5 H2 => ?_;refine pJ 1 (kj x0 x1) R0 ?_ (fun u0 e1 => ?_)
  ·refine pC (gD x0 x1 y0) h5 (fun i0 s1 h6 e2 => ?_) (fun i0 s1 h7 q1 h8 h9 => ?_)
   ·have c0:=lF i0 y0.length (by omega);subst e2;exact pB 5 [r0 [.e (.bool false)]] [.only [2,3,4] [2,4,50,1000]] (kj x0 x1 s1) (aB c0 aN)
   ·have c1:=lT i0 y0.length (by omega);refine aU h8 fun g0 H3 => ?_;refine sB 30 (n:=(y0.map ax).length) (by kernel_rfl) (fun l0 => ?_);have l1:y0.length≤9223372036854775807:=by simpa only [KW] using l0
    clear l0;obtain rfl:=sI H3;exact pB 11 [r0 [.e (.bool true)],r0 [.v,.rl i0 0 (.str (y0.getD i0 [])),.v],.rg 11 (V 8 [.l (iI (bN 0 (y0.getD i0 []) x1)),.b,.b]) [.ap,.rwH 50 (.row 44 2 ((s1++[(Coef.mk (y0.getD i0 []) (bN 0 (y0.getD i0 []) x1))]).map aq)),.v,.m],V2] [.only [0,2,3,4,33,34,35] [2,4,30,50,1000]] (gD x0 x1 y0 (i0+1) (s1++[(Coef.mk (y0.getD i0 []) (bN 0 (y0.getD i0 []) x1))])) (aB c1 (aC (show (0:Int)≤((i0:Nat):Int)∧((i0:Nat):Int)<((y0.map ax).length:Int) from by rw [KW];omega) (aC (Kh (f:=ax) (l:=y0) (n:=i0) 1 0 1 (by omega) (by decide)) (aC (Kt (f:=ax) (l:=y0) (n:=i0) [] 0 (by omega)) (aC (gL (c:=ab) (y0.getD i0 []) 0 x1) (aY (vo (c:=aq) xH s1 [(Coef.mk (y0.getD i0 []) (bN 0 (y0.getD i0 []) x1))] 24 (by decide) (by simpa using g0)) (aC (xT 44 2 aq s1 [(Coef.mk (y0.getD i0 []) (bN 0 (y0.getD i0 []) x1))]) (aH i0 aN))))))))
  ·subst e1;have H4:=cn H2;refine az H4 fun y1 h10 H5 => ?_;refine aK H5 (fun c2 H6 => ?_) (fun c3 H7 => ?_)
   ·obtain rfl:=sI H6;exact pR 9 [r0 [.v,.c false (.bool y1),.v],.eqT 55 (.bool false),r0 [.v,.m,.v]] [.fz 50] [] (aC Tryz.call99 (aF (bc _ _ h10) (aT (aM c2 aN))))
   ·obtain rfl:=sI H7;exact pR 8 [r0 [.v,.c false (.bool y1),.v],.eqT 55 (.bool true),r0 [.b,.m,.v]] [.wkH 2 1 []] [] (aC Tryz.call99 (aF (bc _ _ h10) (aT (aM c3 aN))))
 ·refine aK h2 (fun c4 H8 => ?_) (fun c5 H9 => ?_)
  ·obtain rfl:=sI H8;exact pB 11 [r0 [.en n0 (.tup [.str e0.1,iI e0.2]),.v,.v,.v,.v],V2,.eqT 26 (.bool false)] [.only [0,2,3,4,5,19] [2,4,19,30,1000]] (eQ x0 x1 (i1++[n0]) s0) (aC (og i1 n0) (aC (AK (cc:=ab) h1) (aM c4 aN)))
  ·refine aU H9 fun g1 H10 => ?_;obtain rfl:=sI H10;exact pB 11 [r0 [.en n0 (.tup [.str e0.1,iI e0.2]),.v,.v,.v,.v],V2,.eqT 26 (.bool true),r0 [.v,.v,.b,.ap,.rwH 30 (.row 9 1 ((s0++[e0.1]).map ax)),.v]] [.only [0,2,3,4,5,19] [2,4,19,30,1000]] (eQ x0 x1 (i1++[n0]) (s0++[e0.1])) (aC (og i1 n0) (aC (AK (cc:=ab) h1) (aM c5 (aY (vo (c:=ax) oT s0 [e0.1] 16 (by decide) (by simpa using g1)) (aC (xT 9 1 ax s0 [e0.1]) aN)))))
noncomputable def jt (x0:Linear) (x1:List Bind):Option (Linear×Int) :=
 (bG x0).bind fun y0 =>
 bif y0 then (
  (cY (σ:=(Int×(List (ai×Int)))) (ε:=(Int×(List (ai×Int)))) (ρ:=(Linear×Int)) (fun i0 s0 =>
   (cF x1 ((x0.Terms.getD i0 ⟨[],0⟩).Var) ((x0.Terms.getD i0 ⟨[],0⟩).C)).bind fun y1 =>
   ((
    bif decide (y1<0) then (
     some (.brk (s0.1,(dL ((x0.Terms.getD i0 ⟨[],0⟩).Var) (aJ ((bN 0 ((x0.Terms.getD i0 ⟨[],0⟩).Var) s0.2)+((x0.Terms.getD i0 ⟨[],0⟩).C))) s0.2)))
    ) else (
     cy (0≤y1∧y1<(x1.length:Int)) <|
     (bG (Linear.mk (((x1.getD y1.toNat (⟨0,[],⟨0,[]⟩,⟨[],[]⟩,[]⟩)).Dim).Const) (((x1.getD y1.toNat (⟨0,[],⟨0,[]⟩,⟨[],[]⟩,[]⟩)).Dim).Terms))).bind fun y2 =>
     bif y2 then (
      (jc (Linear.mk (((x1.getD y1.toNat (⟨0,[],⟨0,[]⟩,⟨[],[]⟩,[]⟩)).Dim).Const) (((x1.getD y1.toNat (⟨0,[],⟨0,[]⟩,⟨[],[]⟩,[]⟩)).Dim).Terms)) ((x0.Terms.getD i0 ⟨[],0⟩).C) s0.1 s0.2).bind fun y3 =>
      some (.brk (y3.1,y3.2))
     ) else (
      some (.ret (.ret ((Linear.mk 0 []),1)))
     )
    )
   ):Option (Out (Int×(List (ai×Int))) (gZ (Int×(List (ai×Int))) (Int×(List (ai×Int))) (Linear×Int)))).bind (aft fun u0 =>
    some (.go (u0.1,u0.2))
   )
  ) (fun i0 s0=>(s0.1,s0.2)) (x0.Terms.length-0) 0 (x0.Const,[])).bind <| aft fun u1 =>
  (cR u1.1 u1.2).bind fun y4 =>
  some (y4.1,y4.2)
 ) else (
  some ((Linear.mk 0 []),1)
 )
def kE (x0:Linear) (x1:List Bind) (i0:Nat) (s0:Int×(List (ai×Int))):AS:=⟨60,[(1,dS bV x1),(4,.hptr 4 0),(5,iI 0),(6,.hptr 6 0),(19,dS aq x0.Terms),(20,nI x0.Terms.length),(21,nI i0)],[(4,.cells 39 [iI 0,.eslice]),(6,.cells 158 [iI s0.1,.amap 16]),(16,.smap 9 3 (s0.2.map (aW ab)))]⟩
def pD (u2:Int×(List (ai×Int))):AS:=⟨60,[(4,.hptr 4 0),(5,iI 0),(6,.hptr 6 0)],[(4,.cells 39 [iI 0,.eslice]),(6,.cells 158 [iI u2.1,.amap 16]),(16,.smap 9 3 (u2.2.map (aW ab)))]⟩
def kK (x0:Linear) (x1:List Bind) (i0:Nat) (u0:Int×(List (ai×Int))):AS:=⟨60,[(1,dS bV x1),(4,.hptr 4 0),(5,iI 0),(6,.hptr 6 0),(19,dS aq x0.Terms),(20,nI x0.Terms.length),(21,nI i0)],[(4,.cells 39 [iI 0,.eslice]),(6,.cells 158 [iI u0.1,.amap 16]),(16,.smap 9 3 (u0.2.map (aW ab)))]⟩
theorem wS (x0:Linear) (x1:List Bind) (r:Linear×Int) (H:jt x0 x1=some r):a8 Tryz.prog 83 [.agg [iI x0.Const,dS aq x0.Terms],dS bV x1] (.tup [.agg [iI r.1.Const,dS aq r.1.Terms],iI r.2]):=by
 unfold jt at H;refine aX Tryz.func83 60 [.cell 4 39,.tmp 5] ?_;refine az H fun y0 h0 H0 => ?_;refine aK H0 (fun c0 H1 => ?_) (fun c1 H2 => ?_)
 ·refine pA 14 [.rg 0 [] [.m,.m,.v],.rg 0 [] [.v,.c true (.bool y0),.v],.eqT 12 (.bool false),.rg 0 [] [.v,.v,.m,.b,.m,.m],.rg 0 [] [.v,.v,.e (.int .i64 ((x0.Terms.length:Nat):Int)),.v]] [.only [1,4,5,6,19,20,21] [4,6,16]] 13 [false] (kE x0 x1 0 (x0.Const,[])) (aC Tryz.call99 (aF (bc _ _ h0) (aT (aM c0 (aT (aC (aA aq x0.Terms) aN)))))) ?_;refine az H1 fun R0 h1 H3 => ?_;refine pJ 1 (pD) R0 ?_ (fun u1 e0 => ?_)
  ·refine pC (kE x0 x1) h1 (fun i0 s0 h2 e1 => ?_) (fun i0 s0 h3 q0 h4 h5 => ?_)
   ·have c2:=lF i0 x0.Terms.length (by omega);subst e1;exact pB 5 [r0 [.e (.bool false)]] [.only [4,5,6] [4,6,16]] (pD (s0.1,s0.2)) (aB c2 aN)
   ·have c3:=lT i0 x0.Terms.length (by omega);refine az h4 fun y1 h6 H4 => ?_;refine pA 14 [r0 [.e (.bool true)],r0 [.e (.dptr (aq (x0.Terms.getD i0 ⟨[],0⟩))),.v,.m,.m],r0 [.v,.v,.hR [(8,1000)] 27 (iI y1) [(1000,.cells 44 (aq (x0.Terms.getD i0 ⟨[],0⟩)))],.v],V3] [.only [1,4,5,6,8,9,19,20,21,36] [4,6,8,16]] 14 [true] ⟨60,[(1,dS bV x1),(4,.hptr 4 0),(5,iI 0),(6,.hptr 6 0),(8,.hptr 8 0),(9,iI y1),(19,dS aq x0.Terms),(20,nI x0.Terms.length),(21,nI i0),(36,.bool (decide (y1<0)))],[(4,.cells 39 [iI 0,.eslice]),(6,.cells 158 [iI s0.1,.amap 16]),(8,.cells 44 (aq (x0.Terms.getD i0 ⟨[],0⟩))),(16,.smap 9 3 (s0.2.map (aW ab)))]⟩ (aB c3 (aI cU x0.Terms i0 ⟨[],0⟩ (aC Tryz.call144 (aC (kv _ _ _ _ h6) aN)))) ?_;refine az H4 fun v0 h7 H5 => ?_;refine pJ 2 (kK x0 x1 i0) v0 ?_ (fun u0 e2 => ?_)
    ·refine aK h7 (fun c4 H6 => ?_) (fun c5 H7 => ?_)
     ·obtain rfl:=sI H6;exact pB 3 [.eqT 36 (.bool true),r0 (V 4 [.l (iI (bN 0 ((x0.Terms.getD i0 ⟨[],0⟩).Var) s0.2)),.v,.v,.w,.m,.rwH 16 (.smap 9 3 ((dL ((x0.Terms.getD i0 ⟨[],0⟩).Var) (aJ ((bN 0 ((x0.Terms.getD i0 ⟨[],0⟩).Var) s0.2)+((x0.Terms.getD i0 ⟨[],0⟩).C))) s0.2).map (aW ab)))])] [.only [1,4,5,6,19,20,21] [4,6,16]] (kK x0 x1 i0 (s0.1,(dL ((x0.Terms.getD i0 ⟨[],0⟩).Var) (aJ ((bN 0 ((x0.Terms.getD i0 ⟨[],0⟩).Var) s0.2)+((x0.Terms.getD i0 ⟨[],0⟩).C))) s0.2))) (aB c4 (aC (gL (c:=ab) ((x0.Terms.getD i0 ⟨[],0⟩).Var) 0 s0.2) (aC (congrArg (AO.smap 9 3) (k9 (c:=ab) ((x0.Terms.getD i0 ⟨[],0⟩).Var) (aJ ((bN 0 ((x0.Terms.getD i0 ⟨[],0⟩).Var) s0.2)+((x0.Terms.getD i0 ⟨[],0⟩).C))) s0.2)) aN)))
     ·refine aU H7 fun g0 H8 => ?_;refine az H8 fun y2 h8 H9 => ?_;refine pA 4 [.eqT 36 (.bool false),r0 [.v,.v,.e (.dptr (bV (x1.getD y1.toNat (⟨0,[],⟨0,[]⟩,⟨[],[]⟩,[]⟩)))),.v,.v,.c true (.bool y2),.v,.v]] [.only [1,4,5,6,8,9,19,20,21,47] [4,6,8,16]] 3 [false] ⟨60,[(1,dS bV x1),(4,.hptr 4 0),(5,iI 0),(6,.hptr 6 0),(8,.hptr 8 0),(9,iI y1),(19,dS aq x0.Terms),(20,nI x0.Terms.length),(21,nI i0),(47,.bool (!y2))],[(4,.cells 39 [iI 0,.eslice]),(6,.cells 158 [iI s0.1,.amap 16]),(8,.cells 44 (aq (x0.Terms.getD i0 ⟨[],0⟩))),(16,.smap 9 3 (s0.2.map (aW ab)))]⟩ (aB c5 (aY (yw (f:=bV) (l:=x1) (n:=y1) (⟨0,[],⟨0,[]⟩,⟨[],[]⟩,[]⟩) iR (by decide) (by exact g0)) (aC Tryz.call99 (aF (bc _ _ h8) (aT aN))))) ?_;refine aK H9 (fun c6 H10 => ?_) (fun c7 H11 => ?_)
      ·refine az H10 fun y3 h9 H12 => ?_;obtain rfl:=sI H12;exact pB 3 [.eqT 47 (.bool false),.rg 7 [.v,.v,.e (.dptr (bV (x1.getD y1.toNat (⟨0,[],⟨0,[]⟩,⟨[],[]⟩,[]⟩)))),.v,.v,.v,.v] [.hR [(6,1000),(16,1001)] 35 (.tup []) [(1000,.cells 158 [iI y3.1,.amap 1001]),(1001,.smap 9 3 (y3.2.map (aW ab)))]]] [.only [1,4,5,6,19,20,21] [4,6,16]] (kK x0 x1 i0 (y3.1,y3.2)) (aM c6 (aY (yw (f:=bV) (l:=x1) (n:=y1) (⟨0,[],⟨0,[]⟩,⟨[],[]⟩,[]⟩) iR (by decide) (by exact g0)) (aC Tryz.call148 (aC (tB _ _ _ _ _ h9) aN))))
      ·obtain rfl:=sI H11;obtain rfl:=sI (ao H5);obtain rfl:=aw h5;obtain rfl:=sI (ao H3);exact pR 5 [.eqT 47 (.bool true),r0 [.b,.m,.v]] [.wkH 4 1 []] [] (aM c7 aN)
    ·subst e2;have H13:=aV H5;refine bu 19 (ps:=[(x0.Terms.map aq).length≤9223372036854775807]) (by kernel_rfl) (fun l0 => ?_);have l1:x0.Terms.length≤9223372036854775807:=by simpa only [bt,KW] using l0
     clear l0;obtain rfl:=sI H13;exact pB 1 [V2] [.only [1,4,5,6,19,20,21] [4,6,16]] (kE x0 x1 (i0+1) (u0.1,u0.2)) (aH i0 aN)
  ·subst e0;have H14:=aV H3;refine az H14 fun y4 h10 H15 => ?_;obtain rfl:=sI H15;exact pR 3 [r0 [.hR [(6,1000),(16,1001)] 57 (.tup [.agg [iI y4.1.Const,dS aq y4.1.Terms],iI y4.2]) [],.v,.v,.m,.v]] [] [] (aC Tryz.call149 (aC (q8 _ _ _ h10) aN))
 ·obtain rfl:=sI H2;exact pR 10 [r0 [.m,.m,.v],r0 [.v,.c true (.bool y0),.v],.eqT 12 (.bool true),r0 [.b,.m,.v]] [.wkH 4 1 []] [] (aC Tryz.call99 (aF (bc _ _ h0) (aT (aM c1 aN))))
noncomputable def mn (x0:ai) (x1:List Linear):Option (Shape×Int) :=
 bif decide (((x1.length:Nat):Int)>6) then (
  some ((Shape.mk [] []),3)
 ) else (
  (gO x1).bind fun y0 =>
  some ((Shape.mk x0 y0),0)
 )
theorem Aq (x0:ai) (x1:List Linear) (r:Shape×Int) (H:mn x0 x1=some r):a8 Tryz.prog 84 [.str x0,dS ah x1] (.tup [.agg [.str r.1.Row,dS ah r.1.Dims],iI r.2]):=by
 unfold mn at H;refine aX Tryz.func84 14 [.cell 4 24,.tmp 5] ?_;refine aK H (fun c0 H0 => ?_) (fun c1 H1 => ?_)
 ·obtain rfl:=sI H0;exact pR 10 [r0 [.m,.v],r0 [.v,.e (nI x1.length),.v],.eqT 8 (.bool true),r0 [.b,.m,.v]] [.wkH 4 1 []] [] (aT (aC (aA ah x1) (aB c0 aN)))
 ·refine az H1 fun y0 h0 H2 => ?_;obtain rfl:=sI H2;exact pR 11 [r0 [.m,.v],r0 [.v,.e (nI x1.length),.v],.eqT 8 (.bool false),r0 [.v,.v,.hR [] 12 (.rslice 0) [(0,.row 39 2 (y0.map ah))],.b,.m,.v]] [.fz 12] [] (aT (aC (aA ah x1) (aB c1 (aC Tryz.call82 (aC (qb _ _ h0) aN)))))
noncomputable def j9 (x0:Shape) (x1:List Bind):Option (Shape×Int) :=
 (ct x0).bind fun y0 =>
 bif y0 then (
  (gS x1).bind fun y1 =>
  bif y1 then (
   (mf x1 2 x0.Row).bind fun y2 =>
   ((
    bif (x0.Row==[]) then (
     some false
    ) else (
     some (decide (y2≥0))
    )
   ):Option Bool).bind fun v0 =>
   ((
    bif v0 then (
     cy (0≤y2∧y2<(x1.length:Int)) <|
     (gO (((x1.getD y2.toNat (⟨0,[],⟨0,[]⟩,⟨[],[]⟩,[]⟩)).Row).Dims)).bind fun y3 =>
     some ((((x1.getD y2.toNat (⟨0,[],⟨0,[]⟩,⟨[],[]⟩,[]⟩)).Row).Row),y3)
    ) else (
     some (x0.Row,[])
    )
   ):Option (ai×(List Linear))).bind fun v1 =>
   (cY (σ:=(List Linear)) (ε:=(List Linear)) (ρ:=(Shape×Int)) (fun i0 s0 =>
    (jt (Linear.mk ((x0.Dims.getD i0 ⟨0,[]⟩).Const) ((x0.Dims.getD i0 ⟨0,[]⟩).Terms)) x1).bind fun y4 =>
    bif (y4.2==0) then (
     cy ((s0.length+1)*32≤140737488355328) <|
     some (.go (s0++[y4.1]))
    ) else (
     some (.ret ((Shape.mk [] []),y4.2))
    )
   ) (fun i0 s0=>s0) (x0.Dims.length-0) 0 v1.2).bind <| aft fun u0 =>
   (mn v1.1 u0).bind fun y5 =>
   some (y5.1,y5.2)
  ) else (
   some ((Shape.mk [] []),1)
  )
 ) else (
  some ((Shape.mk [] []),1)
 )
def mr (x0:Shape) (x1:List Bind) (y2:Int) (v0:Bool):AS:=⟨75,[(1,dS bV x1),(2,.hptr 2 0),(4,.hptr 4 0),(5,iI 0),(6,.str x0.Row),(7,.eslice),(8,iI y2),(34,.bool v0)],[(2,.cells 24 [.str x0.Row,dS ah x0.Dims]),(4,.cells 24 [.str [],.eslice])]⟩
def mh (x0:Shape) (x1:List Bind) (v1:ai×(List Linear)):AS:=⟨75,[(1,dS bV x1),(2,.hptr 2 0),(4,.hptr 4 0),(5,iI 0),(6,.str v1.1),(7,.rslice 47)],[(2,.cells 24 [.str x0.Row,dS ah x0.Dims]),(4,.cells 24 [.str [],.eslice]),(47,.row 39 2 (v1.2.map ah))]⟩
def l8 (x0:Shape) (x1:List Bind) (v1:ai×(List Linear)) (i0:Nat) (s0:List Linear):AS:=⟨75,[(1,dS bV x1),(4,.hptr 4 0),(5,iI 0),(6,.str v1.1),(7,.rslice 68),(49,dS ah x0.Dims),(50,nI x0.Dims.length),(51,nI i0)],[(4,.cells 24 [.str [],.eslice]),(68,.row 39 2 (s0.map ah))]⟩
def qL (v1:ai×(List Linear)) (u1:List Linear):AS:=⟨75,[(4,.hptr 4 0),(5,iI 0),(6,.str v1.1),(7,.rslice 68)],[(4,.cells 24 [.str [],.eslice]),(68,.row 39 2 (u1.map ah))]⟩
theorem yb (x0:Shape) (x1:List Bind) (r:Shape×Int) (H:j9 x0 x1=some r):a8 Tryz.prog 18 [.agg [.str x0.Row,dS ah x0.Dims],dS bV x1] (.tup [.agg [.str r.1.Row,dS ah r.1.Dims],iI r.2]):=by
 unfold j9 at H;refine aX Tryz.func18 75 [.cell 4 24,.tmp 5] ?_;refine az H fun y0 h0 H0 => ?_;refine aK H0 (fun c0 H1 => ?_) (fun c1 H2 => ?_)
 ·refine az H1 fun y1 h1 H3 => ?_;refine aK H3 (fun c2 H4 => ?_) (fun c3 H5 => ?_)
  ·refine az H4 fun y2 h2 H6 => ?_;refine pA 16 [r0 [.m,.m,.v],r0 [.v,.c true (.bool true),.v,.v,.v,.c true (.bool y1),.v,.v],.eqT 20 (.bool false),V3,V1,r0 [.v,.v,.v,.c true (iI y2),.v]] [.only [1,2,4,5,6,7,8] [2,4]] 15 [false] ⟨75,[(1,dS bV x1),(2,.hptr 2 0),(4,.hptr 4 0),(5,iI 0),(6,.str x0.Row),(7,.eslice),(8,iI y2)],[(2,.cells 24 [.str x0.Row,dS ah x0.Dims]),(4,.cells 24 [.str [],.eslice])]⟩ (aC Tryz.call31 (aC (a8.eq (bj _ _ h0) (cB c0)) (aT (aC Tryz.call36 (aF (lL _ _ h1) (aT (aM c2 (aC Tryz.call81 (aF (tt _ _ _ _ h2) aN))))))))) ?_;refine az H6 fun v0 h3 H7 => ?_;refine dF 0 (mr x0 x1 y2 v0) (by kernel_rfl) ?_ ?_
   ·refine aK h3 (fun c4 H8 => ?_) (fun c5 H9 => ?_)
    ·obtain rfl:=sI H8;exact pB 1 [r0 [.v,.v,.e (.bool false),.v,.s,.s,.v]] [.only [1,2,4,5,6,7,8,34] [2,4]] (mr x0 x1 y2 false) (aM c4 aN)
    ·obtain rfl:=sI H9;exact pB 1 [r0 [.v,.v,.e (.bool true),.v,.v,.v,.v]] [.only [1,2,4,5,6,7,8,34] [2,4]] (mr x0 x1 y2 (decide (y2≥0))) (aM c5 aN)
   ·refine az H7 fun v1 h4 H10 => ?_;refine dF 0 (mh x0 x1 v1) (by kernel_rfl) ?_ ?_
    ·refine aK h4 (fun c6 H11 => ?_) (fun c7 H12 => ?_)
     ·refine aU H11 fun g0 H13 => ?_;refine az H13 fun y3 h5 H14 => ?_;obtain rfl:=sI H14;exact pB 3 [.eqT 34 (.bool true),.rg 13 [.v,.v,.e (.dptr (bV (x1.getD y2.toNat (⟨0,[],⟨0,[]⟩,⟨[],[]⟩,[]⟩)))),.v,.v,.v,.v,.v,.e (.dptr (bV (x1.getD y2.toNat (⟨0,[],⟨0,[]⟩,⟨[],[]⟩,[]⟩)))),.v,.v,.v,.hN (.rslice 0) [(0,.row 39 2 (y3.map ah))]] [.v,.v]] [.only [1,2,4,5,6,7] [2,4,47]] (mh x0 x1 ((((x1.getD y2.toNat (⟨0,[],⟨0,[]⟩,⟨[],[]⟩,[]⟩)).Row).Row),y3)) (aB c6 (aY (yw (f:=bV) (l:=x1) (n:=y2) (⟨0,[],⟨0,[]⟩,⟨[],[]⟩,[]⟩) iR (by decide) (by exact g0)) (aY (yw (f:=bV) (l:=x1) (n:=y2) (⟨0,[],⟨0,[]⟩,⟨[],[]⟩,[]⟩) iR (by decide) (by exact g0)) (aC Tryz.call82 (aC (qb _ _ h5) aN)))))
     ·obtain rfl:=sI H12;exact pB 3 [.eqT 34 (.bool false)] [.er 7 47 39 2,.only [1,2,4,5,6,7] [2,4,47]] (mh x0 x1 (x0.Row,[])) (aB c7 aN)
    ·refine pA 4 [.rg 0 [] [.v,.v,.e (.int .i64 ((x0.Dims.length:Nat):Int)),.v]] [.ren [(4,4),(47,68)],.only [1,4,5,6,7,49,50,51] [4,68]] 4 [] (l8 x0 x1 v1 0 v1.2) (aT (aC (aA ah x0.Dims) aN)) ?_;refine az H10 fun R0 h6 H15 => ?_;refine pJ 1 (qL v1) R0 ?_ (fun u0 e0 => ?_)
     ·refine pC (l8 x0 x1 v1) h6 (fun i0 s0 h7 e1 => ?_) (fun i0 s0 h8 q0 h9 h10 => ?_)
      ·have c8:=lF i0 x0.Dims.length (by omega);subst e1;exact pB 5 [r0 [.e (.bool false)]] [.only [4,5,6,7] [4,68]] (qL v1 s0) (aB c8 aN)
      ·have c9:=lT i0 x0.Dims.length (by omega);refine az h9 fun y4 h11 H16 => ?_;refine pA 14 [r0 [.e (.bool true)],r0 [.e (.dptr (ah (x0.Dims.getD i0 ⟨0,[]⟩))),.v,.m,.m],r0 [.v,.v,.c true (.tup [.agg [iI y4.1.Const,dS aq y4.1.Terms],iI y4.2]),.v,.v,.v,.m,.m,.v],V2] [.only [1,4,5,6,7,11,12,49,50,51,62] [4,11,68]] 14 [true] ⟨75,[(1,dS bV x1),(4,.hptr 4 0),(5,iI 0),(6,.str v1.1),(7,.rslice 68),(11,.hptr 11 0),(12,iI y4.2),(49,dS ah x0.Dims),(50,nI x0.Dims.length),(51,nI i0),(62,.bool (y4.2 != 0))],[(4,.cells 24 [.str [],.eslice]),(11,.cells 39 [iI y4.1.Const,dS aq y4.1.Terms]),(68,.row 39 2 (s0.map ah))]⟩ (aB c9 (aI cD x0.Dims i0 ⟨0,[]⟩ (aC Tryz.call83 (aF (wS _ _ _ h11) aN)))) ?_;refine aK H16 (fun c10 H17 => ?_) (fun c11 H18 => ?_)
       ·refine aU H17 fun g1 H19 => ?_;refine bu 49 (ps:=[(x0.Dims.map ah).length≤9223372036854775807]) (by kernel_rfl) (fun l0 => ?_);have l1:x0.Dims.length≤9223372036854775807:=by simpa only [bt,KW] using l0
        clear l0;obtain rfl:=sI H19;exact pB 5 [.eqT 62 (.bool false),r0 [.v,.v,.b,.ap,.rwH 68 (.row 39 2 ((s0++[y4.1]).map ah)),.v],V2] [.only [1,4,5,6,7,49,50,51] [4,68]] (l8 x0 x1 v1 (i0+1) (s0++[y4.1])) (aM c10 (aY (vo (c:=ah) rR s0 [y4.1] 32 (by decide) (by simpa using g1)) (aC (xT 39 2 ah s0 [y4.1]) (aH i0 aN))))
       ·obtain rfl:=sI H18;obtain rfl:=aw h10;obtain rfl:=sI (ao H15);exact pR 5 [.eqT 62 (.bool true),r0 [.b,.v,.m,.v]] [.wkH 4 1 []] [] (aM c11 aN)
     ·subst e0;have H20:=aV H15;refine az H20 fun y5 h12 H21 => ?_;obtain rfl:=sI H21;exact pR 3 [r0 [.v,.v,.fz 68,.c true (.tup [.agg [.str y5.1.Row,dS ah y5.1.Dims],iI y5.2]),.v,.v,.m,.v]] [] [] (aC Tryz.call84 (aF (Aq _ _ _ h12) aN))
  ·obtain rfl:=sI H5;exact pR 10 [r0 [.m,.m,.v],r0 [.v,.c true (.bool true),.v,.v,.v,.c true (.bool y1),.v,.v],.eqT 20 (.bool true),r0 [.b,.m,.v]] [.wkH 4 1 []] [] (aC Tryz.call31 (aC (a8.eq (bj _ _ h0) (cB c0)) (aT (aC Tryz.call36 (aF (lL _ _ h1) (aT (aM c3 aN)))))))
 ·obtain rfl:=sI H2;exact pR 9 [r0 [.m,.m,.v],r0 [.v,.c true (.bool false),.v,.v,.s,.s,.s,.v],r0 [.b,.m,.v]] [.wkH 4 1 []] [] (aC Tryz.call31 (aC (a8.eq (bj _ _ h0) (cB c1)) (aT aN)))
def di (x0 x1:ai):Option (ai×Bool) :=
 (bJ x0 x1).bind fun y0 =>
 bif y0 then (
  cy (x1.length≤x0.length) <|
  some ((x0.drop x1.length),true)
 ) else (
  some (x0,false)
 )
theorem iY (x0 x1:ai) (r:ai×Bool) (H:di x0 x1=some r):a8 Tryz.prog 154 [.str x0,.str x1] (.tup [.str r.1,.bool r.2]):=by
 unfold di at H;refine aX Tryz.func154 15 [.tmp 4,.tmp 5] ?_;refine az H fun y0 h0 H0 => ?_;refine aK H0 (fun c0 H1 => ?_) (fun c1 H2 => ?_)
 ·refine aU H1 fun g0 H3 => ?_;obtain rfl:=sI H3;exact pR 11 [V2,r0 [.v,.v,.c true (.bool y0),.v],.eqT 9 (.bool false),r0 [.v,.v,.v,.e (.str (x0.drop x1.length)),.v,.v]] [] [] (aC Tryz.call220 (aF (cP _ _ _ h0) (aT (aM c0 (aT (aC (show (0:Int)≤((x1.length:Nat):Int)∧((x1.length:Nat):Int)≤(x0.length:Int)∧(x0.length:Int)≤(x0.length:Int) from by omega) (aC (jW x0 x1.length) aN)))))))
 ·obtain rfl:=sI H2;exact pR 10 [V2,r0 [.v,.v,.c true (.bool y0),.v],.eqT 9 (.bool true),V3] [] [] (aC Tryz.call220 (aF (cP _ _ _ h0) (aT (aM c1 aN))))
def gq (x0 x1:ai):Option (ai×Bool) :=
 (di x0 x1).bind fun y0 =>
 some (y0.1,y0.2)
theorem kP (x0 x1:ai) (r:ai×Bool) (H:gq x0 x1=some r):a8 Tryz.prog 90 [.str x0,.str x1] (.tup [.str r.1,.bool r.2]):=by unfold gq at H;refine aX Tryz.func90 11 [.tmp 4,.tmp 5] ?_;refine az H fun y0 h0 H0 => ?_;obtain rfl:=sI H0;exact pR 5 [V2,r0 [.v,.v,.c true (.tup [.str y0.1,.bool y0.2]),.v,.v,.v,.v]] [] [] (aC Tryz.call154 (aF (iY _ _ _ h0) aN))
def dp (x0 x1:ai):Option (ai×Bool) :=
 (b9 x0 x1).bind fun y0 =>
 bif y0 then (
  cy (0≤(aJ (((x0.length:Nat):Int)-((x1.length:Nat):Int)))∧(aJ (((x0.length:Nat):Int)-((x1.length:Nat):Int)))≤(x0.length:Int)) <|
  some ((x0.take ((aJ (((x0.length:Nat):Int)-((x1.length:Nat):Int))).toNat)),true)
 ) else (
  some (x0,false)
 )
theorem jy (x0 x1:ai) (r:ai×Bool) (H:dp x0 x1=some r):a8 Tryz.prog 155 [.str x0,.str x1] (.tup [.str r.1,.bool r.2]):=by
 unfold dp at H;refine aX Tryz.func155 18 [.tmp 4,.tmp 5] ?_;refine az H fun y0 h0 H0 => ?_;refine aK H0 (fun c0 H1 => ?_) (fun c1 H2 => ?_)
 ·refine aU H1 fun g0 H3 => ?_;obtain rfl:=sI H3;exact pR 11 [V2,r0 [.v,.v,.c true (.bool y0),.v],.eqT 9 (.bool false),r0 (V 5 [.w,.e (.str (x0.take ((aJ (((x0.length:Nat):Int)-((x1.length:Nat):Int))).toNat))),.v,.v])] [] [] (aC Tryz.call221 (aF (bX _ _ _ h0) (aT (aM c0 (aT (aT (aC (show (0:Int)≤0∧0≤(aJ (((x0.length:Nat):Int)-((x1.length:Nat):Int)))∧(aJ (((x0.length:Nat):Int)-((x1.length:Nat):Int)))≤(x0.length:Int) from by omega) (aC (sx x0 ((aJ (((x0.length:Nat):Int)-((x1.length:Nat):Int))).toNat)) aN))))))))
 ·obtain rfl:=sI H2;exact pR 10 [V2,r0 [.v,.v,.c true (.bool y0),.v],.eqT 9 (.bool true),V3] [] [] (aC Tryz.call221 (aF (bX _ _ _ h0) (aT (aM c1 aN))))
def dD (x0 x1:ai):Option (ai×Bool) :=
 (dp x0 x1).bind fun y0 =>
 some (y0.1,y0.2)
theorem ib (x0 x1:ai) (r:ai×Bool) (H:dD x0 x1=some r):a8 Tryz.prog 91 [.str x0,.str x1] (.tup [.str r.1,.bool r.2]):=by unfold dD at H;refine aX Tryz.func91 11 [.tmp 4,.tmp 5] ?_;refine az H fun y0 h0 H0 => ?_;obtain rfl:=sI H0;exact pR 5 [V2,r0 [.v,.v,.c true (.tup [.str y0.1,.bool y0.2]),.v,.v,.v,.v]] [] [] (aC Tryz.call155 (aF (jy _ _ _ h0) aN))
def strings_trimLeftByte (x0:ai) (x1:UInt8):Option ai :=
 (xU (σ:=ai) (ε:=ai) (ρ:=Empty) (fun s0 =>
  bif decide (((s0.length:Nat):Int)>0) then (
   bif (((s0.getD 0 0).toNat:Int)==((x1).toNat:Int)) then (
    cy (1≤s0.length) <|
    some (.go (s0.drop 1))
   ) else (
    some (.brk s0)
   )
  ) else (
   some (.brk s0)
  )
 ) 4294967296 x0).bind <| gu fun u0 =>
 some u0
def fv (x1:UInt8) (s0:ai):AS:=⟨17,[(0,.str s0),(1,.int .u8 ((x1).toNat:Int)),(4,.str [])],[]⟩
def fh (u1:ai):AS:=⟨17,[(0,.str u1),(4,.str [])],[]⟩
theorem oE (x0:ai) (x1:UInt8) (r:ai) (H:strings_trimLeftByte x0 x1=some r):a8 Tryz.prog 176 [.str x0,.int .u8 ((x1).toNat:Int)] (.str r):=by
 unfold strings_trimLeftByte at H;refine aX Tryz.func176 17 [.tmp 4] ?_;refine pA 4 [V1] [.only [0,1,4] []] 4 [] (fv x1 x0) aN ?_;refine az H fun R0 h0 H0 => ?_;refine pJ 1 (fh) R0 ?_ (fun u0 e0 => ?_)
 ·refine AL (fv x1) (by kernel_rfl) h0 (fun s0 q0 h1 h2 => ?_)
  ·refine aK h1 (fun c0 H1 => ?_) (fun c1 H2 => ?_)
   ·have c0p:=KT c0;refine aK H1 (fun c2 H3 => ?_) (fun c3 H4 => ?_)
    ·refine aU H3 fun g0 H5 => ?_;obtain rfl:=sI H5;exact pB 8 [r0 [.v,.v,.e (.bool true),.v,.v,.v,.v,.v,.v],.eqT 13 (.bool true),r0 [.v,.e (.str (s0.drop 1)),.v]] [.only [0,1,4] []] (fv x1 (s0.drop 1)) (aT (aB c0 (aC (show (0:Int)≤0∧0<(s0.length:Int) from by omega) (aB c2 (aC (show (0:Int)≤1∧1≤(s0.length:Int)∧(s0.length:Int)≤(s0.length:Int) from by omega) (aC (jW s0 1) aN))))))
    ·obtain rfl:=sI H4;obtain rfl:=jz h2;exact pB 6 [r0 [.v,.v,.e (.bool true),.v,.v,.v,.v,.v,.v],.eqT 13 (.bool false)] [.only [0,4] []] (fh s0) (aT (aB c0 (aC (show (0:Int)≤0∧0<(s0.length:Int) from by omega) (aB c3 aN))))
   ·obtain rfl:=sI H2;obtain rfl:=jz h2;exact pB 5 [r0 [.v,.v,.e (.bool false),.v,.s,.s,.s,.s,.v]] [.only [0,4] []] (fh s0) (aT (aB c1 aN))
 ·subst e0;have H6:=cn H0;refine bB H6 fun e1 => ?_;subst e1;exact pR 3 [V2] [] [] aN
def gX (x0 x1:ai):Option ai :=
 bif (x0==[]) then (
  some x0
 ) else (
  bif (x1==[]) then (
   some x0
  ) else (
   ((
    bif (((x1.length:Nat):Int)==1) then (
     cy (0<x1.length) <|
     some (decide (((x1.getD 0 0).toNat:Int)<128))
    ) else (
     some false
    )
   ):Option Bool).bind fun v0 =>
   bif v0 then (
    cy (0<x1.length) <|
    (strings_trimLeftByte x0 (x1.getD 0 0)).bind fun y0 =>
    some y0
   ) else (
    none
   )
  )
 )
def hZ (x0 x1:ai) (v0:Bool):AS:=⟨37,[(0,.str x0),(1,.str x1),(4,.str []),(21,.bool v0)],[]⟩
theorem lN (x0 x1 r:ai) (H:gX x0 x1=some r):a8 Tryz.prog 228 [.str x0,.str x1] (.str r):=by
 unfold gX at H;refine aX Tryz.func228 37 [.tmp 4] ?_;refine aK H (fun c0 H0 => ?_) (fun c1 H1 => ?_)
 ·refine bB H0 fun e0 => ?_;subst e0;exact pR 9 [V1,r0 [.v,.e (.bool true),.v,.s,.s,.v],V2] [] [] (aB c0 aN)
 ·refine aK H1 (fun c2 H2 => ?_) (fun c3 H3 => ?_)
  ·refine bB H2 fun e1 => ?_;subst e1;exact pR 10 [V1,r0 [.v,.e (.bool false),.v,.v,.v,.v],.eqT 12 (.bool true),V2] [] [] (aB c1 (aB c2 aN))
  ·refine pA 10 [.rg 0 [] [.v],.rg 0 [] [.v,.e (.bool false),.v,.v,.v,.v],.eqT 12 (.bool false)] [.only [0,1,4] []] 9 [false] ⟨37,[(0,.str x0),(1,.str x1),(4,.str [])],[]⟩ (aB c1 (aB c3 aN)) ?_;refine az H3 fun v0 h0 H4 => ?_;refine dF 0 (hZ x0 x1 v0) (by kernel_rfl) ?_ ?_
   ·refine aK h0 (fun c4 H5 => ?_) (fun c5 H6 => ?_)
    ·refine aU H5 fun g0 H7 => ?_;obtain rfl:=sI H7;exact pB 1 [r0 [.v,.v,.e (.bool true),.v,.v,.v,.v,.v]] [.only [0,1,4,21] []] (hZ x0 x1 (decide (((x1.getD 0 0).toNat:Int)<128))) (aT (aB c4 (aC (show (0:Int)≤0∧0<(x1.length:Int) from by omega) aN)))
    ·obtain rfl:=sI H6;exact pB 1 [r0 [.v,.v,.e (.bool false),.v,.s,.s,.s,.v]] [.only [0,1,4,21] []] (hZ x0 x1 false) (aT (aB c5 aN))
   ·refine aK H4 (fun c6 H8 => ?_) (fun c7 H9 => ?_)
    ·refine aU H8 fun g1 H10 => ?_;refine az H10 fun y0 h1 H11 => ?_;refine bB H11 fun e2 => ?_;subst e2;exact pR 5 [.eqT 21 (.bool true),r0 [.v,.v,.v,.c true (.str y0),.v]] [] [] (aB c6 (aC (show (0:Int)≤0∧0<(x1.length:Int) from by omega) (aC Tryz.call176 (aF (oE _ _ _ h1) aN))))
    ·cases H9
def bD (x0:ai) (x1:Int) (x2:List (ai×Int)):Option ai :=
 (gX x0 [32]).bind fun y0 =>
 some y0
theorem cM (x0:ai) (x1:Int) (x2:List (ai×Int)) (r:ai) (H:bD x0 x1 x2=some r):bo Tryz.prog 158 [.hptr 1000 0] [(1000,.cells 165 [.str x0,iI x1,.amap 1001]),(1001,.smap 9 3 (x2.map (aW ab)))] (fun r2 h0=>r2=(.tup [])∧h0=[(1000,.cells 165 [.str r,iI x1,.amap 1001]),(1001,.smap 9 3 (x2.map (aW ab)))]):=by unfold bD at H;refine aX Tryz.func158 10 [] ?_;refine az H fun y0 h1 H0 => ?_;refine bB H0 fun e0 => ?_;subst e0;exact pR 1 [r0 (V 5 [.c true (.str y0),.v,.v,.m])] [] [1000,1001] (aC Tryz.call228 (aF (lN _ _ _ h1) aN))
def dj (x0:ai) (x1:Int) (x2:List (ai×Int)):Option ((Int×Bool)×ai) :=
 (cY (σ:=Unit) (ε:=Unit) (ρ:=((Int×Bool)×ai)) (fun i0 s0 =>
  (cQ x0 ([[43],[45]].getD i0 [])).bind fun y0 =>
  bif y0 then (
   cy (1≤x0.length) <|
   some (.ret (((aJ (1-(aJ (2*((i0:Nat):Int))))),true),(x0.drop 1)))
  ) else (
   some (.go ())
  )
 ) (fun i0 s0=>()) (2-0) 0 ()).bind <| aft fun u0 =>
 some ((1,false),x0)
def gf (x0:ai) (x1:Int) (x2:List (ai×Int)) (i0:Nat) (s0:Unit):AS:=⟨29,[(0,.hptr 1000 0),(2,iI 0),(3,.bool false),(6,.agg [.str [43],.str [45]]),(7,nI i0)],[(1000,.cells 165 [.str x0,iI x1,.amap 1001]),(1001,.smap 9 3 (x2.map (aW ab)))]⟩
def jC (x0:ai) (x1:Int) (x2:List (ai×Int)) (u1:Unit):AS:=⟨29,[(2,iI 0),(3,.bool false)],[(1000,.cells 165 [.str x0,iI x1,.amap 1001]),(1001,.smap 9 3 (x2.map (aW ab)))]⟩
theorem j6 (x0:ai) (x1:Int) (x2:List (ai×Int)) (r:(Int×Bool)×ai) (H:dj x0 x1 x2=some r):bo Tryz.prog 159 [.hptr 1000 0] [(1000,.cells 165 [.str x0,iI x1,.amap 1001]),(1001,.smap 9 3 (x2.map (aW ab)))] (fun r2 h0=>r2=(.tup [iI r.1.1,.bool r.1.2])∧h0=[(1000,.cells 165 [.str r.2,iI x1,.amap 1001]),(1001,.smap 9 3 (x2.map (aW ab)))]):=by
 unfold dj at H;refine aX Tryz.func159 29 [.tmp 2,.tmp 3] ?_;refine pA 6 [V2,r0 [.b,.v]] [.only [0,2,3,6,7] [1000,1001]] 6 [] (gf x0 x1 x2 0 ()) aN ?_;refine az H fun R0 h1 H0 => ?_;refine pJ 1 (jC x0 x1 x2) R0 ?_ (fun u0 e0 => ?_)
 ·refine pC (gf x0 x1 x2) h1 (fun i0 s0 h2 e1 => ?_) (fun i0 s0 h3 q0 h4 h5 => ?_)
  ·have c0:decide (((i0:Nat):Int)<2)=false:=KU (by omega);subst e1;exact pB 5 [r0 [.e (.bool false)]] [.only [2,3] [1000,1001]] (jC x0 x1 x2 ()) (aB c0 aN)
  ·have c1:decide (((i0:Nat):Int)<2)=true:=KV (by omega);refine az h4 fun y0 h6 H1 => ?_;refine pA 11 [r0 [.e (.bool true)],r0 [.v,.we (.str ([[43],[45]].getD i0 [])),.v,.v],r0 (V 5 [.c true (.bool y0)])] [.only [0,2,3,4,6,7,16] [1000,1001]] 11 [true] ⟨29,[(0,.hptr 1000 0),(2,iI 0),(3,.bool false),(4,nI i0),(6,.agg [.str [43],.str [45]]),(7,nI i0),(16,.bool y0)],[(1000,.cells 165 [.str x0,iI x1,.amap 1001]),(1001,.smap 9 3 (x2.map (aW ab)))]⟩ (aB c1 (aC (show (0:Int)≤((i0:Nat):Int)∧((i0:Nat):Int)<(2:Int)∧((i0:Nat):Int)<(2:Int) from by omega) (aC (JR [[43],[45]] i0 (by omega)) (aC Tryz.call166 (aF (fg _ _ _ h6) aN))))) ?_;refine aK H1 (fun c2 H2 => ?_) (fun c3 H3 => ?_)
   ·refine aU H2 fun g0 H4 => ?_;obtain rfl:=sI H4;obtain rfl:=aw h5;obtain rfl:=sI (ao H0);exact pR 7 [.eqT 16 (.bool true),r0 (V 5 [.e (.str (x0.drop 1)),.v,.v,.m]),r0 [.v,.w,.w,.v,.v]] [] [1000,1001] (aB c2 (aC (show (0:Int)≤1∧1≤(x0.length:Int)∧(x0.length:Int)≤(x0.length:Int) from by omega) (aC (jW x0 1) aN)))
   ·obtain rfl:=sI H3;exact pB 4 [.eqT 16 (.bool false),V2] [.only [0,2,3,6,7] [1000,1001]] (gf x0 x1 x2 (i0+1) ()) (aB c3 (aH i0 aN))
 ·subst e0;have H5:=aV H0;obtain rfl:=sI H5;exact pR 3 [V2] [] [1000,1001] aN
def gW (x0:UInt8):Option Bool :=
 bif decide (((x0).toNat:Int)≥48) then (
  some (decide (((x0).toNat:Int)≤57))
 ) else (
  some false
 )
theorem fu (x0:UInt8) (r:Bool) (H:gW x0=some r):a8 Tryz.prog 225 [.int .u8 ((x0).toNat:Int)] (.bool r):=by
 unfold gW at H;refine aX Tryz.func225 9 [.tmp 2] ?_;refine aK H (fun c0 H0 => ?_) (fun c1 H1 => ?_)
 ·obtain rfl:=sI H0;exact pR 5 [V1,r0 [.v,.e (.bool true),.v,.v,.v,.v,.v]] [] [] (aB c0 aN)
 ·obtain rfl:=sI H1;exact pR 5 [V1,r0 [.v,.e (.bool false),.v,.s,.s,.v,.v]] [] [] (aB c1 aN)
def jR (x0:UInt8):Option Bool :=
 bif decide (((x0).toNat:Int)≥97) then (
  bif decide (((x0).toNat:Int)≤122) then (
   some true
  ) else (
   bif (((x0).toNat:Int)==95) then (
    some true
   ) else (
    (gW x0).bind fun y0 =>
    some y0
   )
  )
 ) else (
  bif (((x0).toNat:Int)==95) then (
   some true
  ) else (
   (gW x0).bind fun y1 =>
   some y1
  )
 )
theorem kD (x0:UInt8) (r:Bool) (H:jR x0=some r):a8 Tryz.prog 229 [.int .u8 ((x0).toNat:Int)] (.bool r):=by
 unfold jR at H;refine aX Tryz.func229 17 [.tmp 2] ?_;refine aK H (fun c0 H0 => ?_) (fun c1 H1 => ?_)
 ·refine aK H0 (fun c2 H2 => ?_) (fun c3 H3 => ?_)
  ·obtain rfl:=sI H2;exact pR 5 [V1,r0 [.v,.e (.bool true),.v,.v,.e (.bool true),.v,.v,.s,.s,.v,.v,.s,.s,.v,.v]] [] [] (aB c0 (aB c2 aN))
  ·refine aK H3 (fun c4 H4 => ?_) (fun c5 H5 => ?_)
   ·obtain rfl:=sI H4;exact pR 5 [V1,r0 [.v,.e (.bool true),.v,.v,.e (.bool false),.v,.v,.v,.e (.bool true),.v,.v,.s,.s,.v,.v]] [] [] (aB c0 (aB c3 (aB c4 aN)))
   ·refine az H5 fun y0 h0 H6 => ?_;refine bB H6 fun e0 => ?_;subst e0;exact pR 5 [V1,r0 [.v,.e (.bool true),.v,.v,.e (.bool false),.v,.v,.v,.e (.bool false),.v,.v,.v,.c true (.bool y0),.v,.v]] [] [] (aB c0 (aB c3 (aB c5 (aC Tryz.call225 (aF (fu _ _ h0) aN)))))
 ·refine aK H1 (fun c6 H7 => ?_) (fun c7 H8 => ?_)
  ·obtain rfl:=sI H7;exact pR 5 [V1,r0 [.v,.e (.bool false),.v,.s,.s,.v,.v,.v,.e (.bool true),.v,.v,.s,.s,.v,.v]] [] [] (aB c1 (aB c6 aN))
  ·refine az H8 fun y1 h1 H9 => ?_;refine bB H9 fun e1 => ?_;subst e1;exact pR 5 [V1,r0 [.v,.e (.bool false),.v,.s,.s,.v,.v,.v,.e (.bool false),.v,.v,.v,.c true (.bool y1),.v,.v]] [] [] (aB c1 (aB c7 (aC Tryz.call225 (aF (fu _ _ h1) aN))))
def iD (x0:ai) (x1:Int) (x2:List (ai×Int)):Option (ai×ai) :=
 (cY (σ:=Unit) (ε:=Nat) (ρ:=Empty) (fun i0 s0 =>
  (jR (x0.getD i0 0)).bind fun y0 =>
  bif y0 then (
   some (.go ())
  ) else (
   some (.brk i0)
  )
 ) (fun i0 s0=>i0) (x0.length-0) 0 ()).bind <| gu fun u0 =>
 cy (u0≤x0.length) <|
 some ((x0.take u0),(x0.drop u0))
def gi (x0:ai) (x1:Int) (x2:List (ai×Int)) (i0:Nat) (s0:Unit):AS:=⟨42,[(0,.hptr 1000 0),(1,.fn 229 []),(4,.str []),(5,nI i0)],[(1000,.cells 165 [.str x0,iI x1,.amap 1001]),(1001,.smap 9 3 (x2.map (aW ab)))]⟩
def fY (x0:ai) (x1:Int) (x2:List (ai×Int)) (u1:Nat):AS:=⟨42,[(0,.hptr 1000 0),(4,.str []),(5,nI u1)],[(1000,.cells 165 [.str x0,iI x1,.amap 1001]),(1001,.smap 9 3 (x2.map (aW ab)))]⟩
theorem pW (x0:ai) (x1:Int) (x2:List (ai×Int)) (r:ai×ai) (H:iD x0 x1 x2=some r):bo Tryz.prog 270 [.hptr 1000 0,.fn 229 []] [(1000,.cells 165 [.str x0,iI x1,.amap 1001]),(1001,.smap 9 3 (x2.map (aW ab)))] (fun r2 h0=>r2=(.str r.1)∧h0=[(1000,.cells 165 [.str r.2,iI x1,.amap 1001]),(1001,.smap 9 3 (x2.map (aW ab)))]):=by
 unfold iD at H;refine aX Tryz.func270 42 [.tmp 4] ?_;refine pA 6 [V1,V1] [.only [0,1,4,5] [1000,1001]] 6 [] (gi x0 x1 x2 0 ()) aN ?_;refine az H fun R0 h1 H0 => ?_;refine pJ 1 (fY x0 x1 x2) R0 ?_ (fun u0 e0 => ?_)
 ·refine pC (gi x0 x1 x2) h1 (fun i0 s0 h2 e1 => ?_) (fun i0 s0 h3 q0 h4 h5 => ?_)
  ·have c0:=lF i0 x0.length (by omega);subst e1;exact pB 5 [r0 (V 6 [.e (.bool false),.v,.s,.s,.s,.s,.s,.s,.s,.s,.v])] [.only [0,4,5] [1000,1001]] (fY x0 x1 x2 i0) (aT (aB c0 aN))
  ·have c1:=lT i0 x0.length (by omega);refine az h4 fun y0 h6 H1 => ?_;refine aK H1 (fun c2 H2 => ?_) (fun c3 H3 => ?_)
   ·refine jP 1000 0 (ps:=[x0.length≤9223372036854775807]) (by kernel_rfl) (fun l0 => ?_);have l1:x0.length≤9223372036854775807:=by simpa only [bt,KW] using l0
    clear l0;obtain rfl:=sI H2;exact pB 8 [r0 (V 6 [.e (.bool true),.v,.v,.v,.v,.v,.v,.v,.v,.c true (.bool y0),.v]),.eqT 23 (.bool true),V3] [.only [0,1,4,5] [1000,1001]] (gi x0 x1 x2 (i0+1) ()) (aT (aB c1 (aC (show (0:Int)≤((i0:Nat):Int)∧((i0:Nat):Int)<(x0.length:Int) from by omega) (aC Tryz.call229 (aF (kD _ _ h6) (aB c2 (aH i0 aN)))))))
   ·obtain rfl:=sI H3;obtain rfl:=jz h5;exact pB 6 [r0 (V 6 [.e (.bool true),.v,.v,.v,.v,.v,.v,.v,.v,.c true (.bool y0),.v]),.eqT 23 (.bool false)] [.only [0,4,5] [1000,1001]] (fY x0 x1 x2 i0) (aT (aB c1 (aC (show (0:Int)≤((i0:Nat):Int)∧((i0:Nat):Int)<(x0.length:Int) from by omega) (aC Tryz.call229 (aF (kD _ _ h6) (aB c3 aN))))))
 ·subst e0;have H4:=cn H0;refine aU H4 fun g0 H5 => ?_;obtain rfl:=sI H5;exact pR 7 [r0 (V 5 [.e (.str (x0.take u0)),.v]),r0 (V 6 [.e (.str (x0.drop u0)),.v,.v,.m]),V2] [] [1000,1001] (aC (show (0:Int)≤0∧0≤((u0:Nat):Int)∧((u0:Nat):Int)≤(x0.length:Int) from by omega) (aC (sx x0 u0) (aC (show (0:Int)≤((u0:Nat):Int)∧((u0:Nat):Int)≤(x0.length:Int)∧(x0.length:Int)≤(x0.length:Int) from by omega) (aC (jW x0 u0) aN))))
def dR (x0:ai) (x1:Int) (x2:List (ai×Int)):Option ((ai×Bool)×ai) :=
 (iD x0 x1 x2).bind fun y0 =>
 (dV y0.1).bind fun y1 =>
 some ((y0.1,y1),y0.2)
theorem il (x0:ai) (x1:Int) (x2:List (ai×Int)) (r:(ai×Bool)×ai) (H:dR x0 x1 x2=some r):bo Tryz.prog 226 [.hptr 1000 0] [(1000,.cells 165 [.str x0,iI x1,.amap 1001]),(1001,.smap 9 3 (x2.map (aW ab)))] (fun r2 h0=>r2=(.tup [.str r.1.1,.bool r.1.2])∧h0=[(1000,.cells 165 [.str r.2,iI x1,.amap 1001]),(1001,.smap 9 3 (x2.map (aW ab)))]):=by unfold dR at H;refine aX Tryz.func226 10 [.tmp 2,.tmp 3] ?_;refine az H fun y0 h1 H0 => ?_;refine az H0 fun y1 h2 H1 => ?_;obtain rfl:=sI H1;exact pR 7 [V2,r0 [.v,.hR [(1000,1000),(1001,1001)] 6 (.str y0.1) [(1000,.cells 165 [.str y0.2,iI x1,.amap 1001]),(1001,.smap 9 3 (x2.map (aW ab)))],.v],r0 [.v,.v,.c true (.bool y1),.v,.v]] [] [1000,1001] (aC Tryz.call270 (aC (pW _ _ _ _ h1) (aC Tryz.call96 (aF (bh _ _ h2) aN))))
def gI (x0:ai) (x1:Int) (x2:List (ai×Int)):Option (ai×ai) :=
 (cY (σ:=Unit) (ε:=Nat) (ρ:=Empty) (fun i0 s0 =>
  (gW (x0.getD i0 0)).bind fun y0 =>
  bif y0 then (
   some (.go ())
  ) else (
   some (.brk i0)
  )
 ) (fun i0 s0=>i0) (x0.length-0) 0 ()).bind <| gu fun u0 =>
 cy (u0≤x0.length) <|
 some ((x0.take u0),(x0.drop u0))
def fo (x0:ai) (x1:Int) (x2:List (ai×Int)) (i0:Nat) (s0:Unit):AS:=⟨42,[(0,.hptr 1000 0),(1,.fn 225 []),(4,.str []),(5,nI i0)],[(1000,.cells 165 [.str x0,iI x1,.amap 1001]),(1001,.smap 9 3 (x2.map (aW ab)))]⟩
def fk (x0:ai) (x1:Int) (x2:List (ai×Int)) (u1:Nat):AS:=⟨42,[(0,.hptr 1000 0),(4,.str []),(5,nI u1)],[(1000,.cells 165 [.str x0,iI x1,.amap 1001]),(1001,.smap 9 3 (x2.map (aW ab)))]⟩
theorem oV (x0:ai) (x1:Int) (x2:List (ai×Int)) (r:ai×ai) (H:gI x0 x1 x2=some r):bo Tryz.prog 270 [.hptr 1000 0,.fn 225 []] [(1000,.cells 165 [.str x0,iI x1,.amap 1001]),(1001,.smap 9 3 (x2.map (aW ab)))] (fun r2 h0=>r2=(.str r.1)∧h0=[(1000,.cells 165 [.str r.2,iI x1,.amap 1001]),(1001,.smap 9 3 (x2.map (aW ab)))]):=by
 unfold gI at H;refine aX Tryz.func270 42 [.tmp 4] ?_;refine pA 6 [V1,V1] [.only [0,1,4,5] [1000,1001]] 6 [] (fo x0 x1 x2 0 ()) aN ?_;refine az H fun R0 h1 H0 => ?_;refine pJ 1 (fk x0 x1 x2) R0 ?_ (fun u0 e0 => ?_)
 ·refine pC (fo x0 x1 x2) h1 (fun i0 s0 h2 e1 => ?_) (fun i0 s0 h3 q0 h4 h5 => ?_)
  ·have c0:=lF i0 x0.length (by omega);subst e1;exact pB 5 [r0 (V 6 [.e (.bool false),.v,.s,.s,.s,.s,.s,.s,.s,.s,.v])] [.only [0,4,5] [1000,1001]] (fk x0 x1 x2 i0) (aT (aB c0 aN))
  ·have c1:=lT i0 x0.length (by omega);refine az h4 fun y0 h6 H1 => ?_;refine aK H1 (fun c2 H2 => ?_) (fun c3 H3 => ?_)
   ·refine jP 1000 0 (ps:=[x0.length≤9223372036854775807]) (by kernel_rfl) (fun l0 => ?_);have l1:x0.length≤9223372036854775807:=by simpa only [bt,KW] using l0
    clear l0;obtain rfl:=sI H2;exact pB 8 [r0 (V 6 [.e (.bool true),.v,.v,.v,.v,.v,.v,.v,.v,.c true (.bool y0),.v]),.eqT 23 (.bool true),V3] [.only [0,1,4,5] [1000,1001]] (fo x0 x1 x2 (i0+1) ()) (aT (aB c1 (aC (show (0:Int)≤((i0:Nat):Int)∧((i0:Nat):Int)<(x0.length:Int) from by omega) (aC Tryz.call225 (aF (fu _ _ h6) (aB c2 (aH i0 aN)))))))
   ·obtain rfl:=sI H3;obtain rfl:=jz h5;exact pB 6 [r0 (V 6 [.e (.bool true),.v,.v,.v,.v,.v,.v,.v,.v,.c true (.bool y0),.v]),.eqT 23 (.bool false)] [.only [0,4,5] [1000,1001]] (fk x0 x1 x2 i0) (aT (aB c1 (aC (show (0:Int)≤((i0:Nat):Int)∧((i0:Nat):Int)<(x0.length:Int) from by omega) (aC Tryz.call225 (aF (fu _ _ h6) (aB c3 aN))))))
 ·subst e0;have H4:=cn H0;refine aU H4 fun g0 H5 => ?_;obtain rfl:=sI H5;exact pR 7 [r0 (V 5 [.e (.str (x0.take u0)),.v]),r0 (V 6 [.e (.str (x0.drop u0)),.v,.v,.m]),V2] [] [1000,1001] (aC (show (0:Int)≤0∧0≤((u0:Nat):Int)∧((u0:Nat):Int)≤(x0.length:Int) from by omega) (aC (sx x0 u0) (aC (show (0:Int)≤((u0:Nat):Int)∧((u0:Nat):Int)≤(x0.length:Int)∧(x0.length:Int)≤(x0.length:Int) from by omega) (aC (jW x0 u0) aN))))
def gH (x0:ai) (x1:Int) (x2:List (ai×Int)):Option ((Int×Bool)×ai) :=
 (gI x0 x1 x2).bind fun y0 =>
 (nV y0.1).bind fun y1 =>
 bif y1.2 then (
  bif decide (((y0.1.length:Nat):Int)≤7) then (
   cy (0<y0.1.length) <|
   bif (((y0.1.getD 0 0).toNat:Int)==48) then (
    some ((y1.1,(y0.1==[48])),y0.2)
   ) else (
    some ((y1.1,true),y0.2)
   )
  ) else (
   some ((y1.1,false),y0.2)
  )
 ) else (
  some ((y1.1,false),y0.2)
 )
theorem pr (x0:ai) (x1:Int) (x2:List (ai×Int)) (r:(Int×Bool)×ai) (H:gH x0 x1 x2=some r):bo Tryz.prog 227 [.hptr 1000 0] [(1000,.cells 165 [.str x0,iI x1,.amap 1001]),(1001,.smap 9 3 (x2.map (aW ab)))] (fun r2 h0=>r2=(.tup [iI r.1.1,.bool r.1.2])∧h0=[(1000,.cells 165 [.str r.2,iI x1,.amap 1001]),(1001,.smap 9 3 (x2.map (aW ab)))]):=by
 unfold gH at H;refine aX Tryz.func227 31 [.tmp 2,.tmp 3] ?_;refine az H fun y0 h1 H0 => ?_;refine az H0 fun y1 h2 H1 => ?_;refine pA 7 [V2,r0 [.v,.hR [(1000,1000),(1001,1001)] 8 (.str y0.1) [(1000,.cells 165 [.str y0.2,iI x1,.amap 1001]),(1001,.smap 9 3 (x2.map (aW ab)))],.v],r0 [.v,.cf true (.tup [iI y1.1,qZ 272 y1.2]),.v,.v,.v,.v,.v]] [.only [2,3,4,5,6] [1000,1001]] 7 [] ⟨31,[(2,iI 0),(3,.bool false),(4,.str y0.1),(5,iI y1.1),(6,qZ 272 y1.2)],[(1000,.cells 165 [.str y0.2,iI x1,.amap 1001]),(1001,.smap 9 3 (x2.map (aW ab)))]⟩ (aC Tryz.call270 (aC (oV _ _ _ _ h1) (aC Tryz.call167 (aF (wo y0.1 y1 h2) (aC (show xk true (.tup [iI y1.1,qZ 272 y1.2])=true from by cases h3:y1.2<;>rfl) aN))))) ?_;refine aK H1 (fun c0 H2 => ?_) (fun c1 H3 => ?_)
 ·refine aK H2 (fun c2 H4 => ?_) (fun c3 H5 => ?_)
  ·have c2p:=KT c2;refine aU H4 fun g0 H6 => ?_;refine aK H6 (fun c4 H7 => ?_) (fun c5 H8 => ?_)
   ·obtain rfl:=sI H7;exact pR 3 [.eqT 6 (.nilI),r0 (V 6 [.e (.bool true),.v,.v,.v,.v,.e (.bool false),.v,.v,.v,.v,.v,.v,.v])] [] [1000,1001] (aC (congrArg (qZ 272) c0) (aT (aB c2 (aC (show (0:Int)≤0∧0<(y0.1.length:Int) from by omega) (aM c4 aN)))))
   ·obtain rfl:=sI H8;exact pR 3 [.eqT 6 (.nilI),r0 (V 6 [.e (.bool true),.v,.v,.v,.v,.e (.bool true),.v,.s,.s,.v,.v,.v,.v])] [] [1000,1001] (aC (congrArg (qZ 272) c0) (aT (aB c2 (aC (show (0:Int)≤0∧0<(y0.1.length:Int) from by omega) (aM c5 aN)))))
  ·obtain rfl:=sI H5;exact pR 3 [.eqT 6 (.nilI),r0 (V 6 [.e (.bool false),.v,.v,.s,.s,.s,.s,.s,.s,.s,.v,.v,.v])] [] [1000,1001] (aC (congrArg (qZ 272) c0) (aT (aB c3 aN)))
 ·obtain rfl:=sI H3;exact pR 3 [.eqT 6 (.iface 272 (.any)),r0 (V 4 [.s,.s,.s,.v,.v,.s,.s,.s,.s,.s,.s,.s,.v,.v,.v])] [] [1000,1001] (aC (congrArg (qZ 272) c1) aN)
def fK (x0:Int) (x1:ai) (x2:Int) (x3:List (ai×Int)):Option (Bool×ai×Int×(List (ai×Int))) :=
 bif (x1==[]) then (
  some (false,x1,x2,x3)
 ) else (
  cy (0<x1.length) <|
  (gW (x1.getD 0 0)).bind fun y0 =>
  bif y0 then (
   (gH x1 x2 x3).bind fun y1 =>
   bif y1.1.2 then (
    (gX y1.2 [32]).bind fun y2 =>
    (cQ y2 [42]).bind fun y3 =>
    ((
     bif y3 then (
      cy (1≤y2.length) <|
      (bD (y2.drop 1) x2 x3).bind fun y4 =>
      some (.brk y4)
     ) else (
      ((
       bif (y1.2==[]) then (
        some true
       ) else (
        cy (0<y1.2.length) <|
        (jR (y1.2.getD 0 0)).bind fun y5 =>
        some (!y5)
       )
      ):Option Bool).bind fun v0 =>
      bif v0 then (
       some (.ret (true,y1.2,(aJ (x2+(aJ (x0*y1.1.1)))),x3))
      ) else (
       some (.brk y1.2)
      )
     )
    ):Option (Out ai (Bool×ai×Int×(List (ai×Int))))).bind (aft fun u0 =>
     (dR u0 x2 x3).bind fun y6 =>
     some (y6.1.2,y6.2,x2,(dL y6.1.1 (aJ ((bN 0 y6.1.1 x3)+(aJ (x0*y1.1.1)))) x3))
    )
   ) else (
    some (false,y1.2,x2,x3)
   )
  ) else (
   (dR x1 x2 x3).bind fun y7 =>
   some (y7.1.2,y7.2,x2,(dL y7.1.1 (aJ ((bN 0 y7.1.1 x3)+x0)) x3))
  )
 )
def fZ (x0 x2:Int) (x3:List (ai×Int)) (y1:(Int×Bool)×ai) (u0:ai):AS:=⟨104,[(0,.hptr 1000 0),(1,iI x0),(4,.bool false),(7,iI y1.1.1)],[(1000,.cells 165 [.str u0,iI x2,.amap 1001]),(1001,.smap 9 3 (x3.map (aW ab)))]⟩
def gg (x0 x2:Int) (x3:List (ai×Int)) (y1:(Int×Bool)×ai) (v0:Bool):AS:=⟨104,[(0,.hptr 1000 0),(1,iI x0),(4,.bool false),(7,iI y1.1.1),(60,.bool v0)],[(1000,.cells 165 [.str y1.2,iI x2,.amap 1001]),(1001,.smap 9 3 (x3.map (aW ab)))]⟩
theorem qa (x0:Int) (x1:ai) (x2:Int) (x3:List (ai×Int)) (r:Bool×ai×Int×(List (ai×Int))) (H:fK x0 x1 x2 x3=some r):bo Tryz.prog 157 [.hptr 1000 0,iI x0] [(1000,.cells 165 [.str x1,iI x2,.amap 1001]),(1001,.smap 9 3 (x3.map (aW ab)))] (fun r2 h0=>r2=(.bool r.1)∧h0=[(1000,.cells 165 [.str r.2.1,iI r.2.2.1,.amap 1001]),(1001,.smap 9 3 (r.2.2.2.map (aW ab)))]):=by
 unfold fK at H;refine aX Tryz.func157 104 [.tmp 4] ?_;refine aK H (fun c0 H0 => ?_) (fun c1 H1 => ?_)
 ·obtain rfl:=sI H0;exact pR 10 [V1,V5,.eqT 15 (.bool true),V1] [] [1000,1001] (aB c0 aN)
 ·refine aU H1 fun g0 H2 => ?_;refine az H2 fun y0 h1 H3 => ?_;refine aK H3 (fun c2 H4 => ?_) (fun c3 H5 => ?_)
  ·refine az H4 fun y1 h2 H6 => ?_;refine pA 19 [V1,V5,.eqT 15 (.bool false),r0 (V 5 [.c true (.bool y0),.v]),.eqT 22 (.bool false),r0 [.v,.hR [(1000,1000),(1001,1001)] 40 (.tup [iI y1.1.1,.bool y1.1.2]) [(1000,.cells 165 [.str y1.2,iI x2,.amap 1001]),(1001,.smap 9 3 (x3.map (aW ab)))],.v,.v,.v,.v,.v],V2] [.only [0,1,4,7,44] [1000,1001]] 17 [false,false] ⟨104,[(0,.hptr 1000 0),(1,iI x0),(4,.bool false),(7,iI y1.1.1),(44,.bool (!y1.1.2))],[(1000,.cells 165 [.str y1.2,iI x2,.amap 1001]),(1001,.smap 9 3 (x3.map (aW ab)))]⟩ (aB c1 (aC (show (0:Int)≤0∧0<(x1.length:Int) from by omega) (aC Tryz.call225 (aF (fu _ _ h1) (aT (aM c2 (aC Tryz.call227 (aC (pr _ _ _ _ h2) (aT aN))))))))) ?_;refine aK H6 (fun c4 H7 => ?_) (fun c5 H8 => ?_)
   ·refine az H7 fun y2 h3 H9 => ?_;refine az H9 fun y3 h4 H10 => ?_;refine pA 9 [.eqT 44 (.bool false),r0 (V 4 [.c true (.str y2),.v]),r0 [.v,.c true (.bool y3),.v]] [.only [0,1,4,7,9,50] [1000,1001]] 8 [false] ⟨104,[(0,.hptr 1000 0),(1,iI x0),(4,.bool false),(7,iI y1.1.1),(9,.str y2),(50,.bool y3)],[(1000,.cells 165 [.str y1.2,iI x2,.amap 1001]),(1001,.smap 9 3 (x3.map (aW ab)))]⟩ (aM c4 (aC Tryz.call228 (aF (lN _ _ _ h3) (aC Tryz.call166 (aF (fg _ _ _ h4) aN))))) ?_;refine az H10 fun v1 h5 H11 => ?_;refine pJ 1 (fZ x0 x2 x3 y1) v1 ?_ (fun u0 e0 => ?_)
    ·refine aK h5 (fun c6 H12 => ?_) (fun c7 H13 => ?_)
     ·refine aU H12 fun g1 H14 => ?_;refine az H14 fun y4 h6 H15 => ?_;obtain rfl:=sI H15;exact pB 5 [.eqT 50 (.bool true),r0 [.v,.v,.e (.str (y2.drop 1)),.v,.v,.m],r0 [.v,.hR [(1000,1000),(1001,1001)] 59 (.tup []) [(1000,.cells 165 [.str y4,iI x2,.amap 1001]),(1001,.smap 9 3 (x3.map (aW ab)))]]] [.only [0,1,4,7] [1000,1001]] (fZ x0 x2 x3 y1 y4) (aB c6 (aC (show (0:Int)≤1∧1≤(y2.length:Int)∧(y2.length:Int)≤(y2.length:Int) from by omega) (aC (jW y2 1) (aC Tryz.call158 (aC (cM _ _ _ _ h6) aN)))))
     ·refine pA 3 [.eqT 50 (.bool false)] [.only [0,1,4,7] [1000,1001]] 2 [false] ⟨104,[(0,.hptr 1000 0),(1,.int .i64 x0),(4,.bool false),(7,.int .i64 y1.1.1)],[(1000,.cells 165 [.str y1.2,.int .i64 x2,.amap 1001]),(1001,.smap 9 3 (x3.map (aW ab)))]⟩ (aB c7 aN) ?_;refine az H13 fun v0 h7 H16 => ?_;refine dF 0 (gg x0 x2 x3 y1 v0) (by kernel_rfl) ?_ ?_
      ·refine aK h7 (fun c8 H17 => ?_) (fun c9 H18 => ?_)
       ·obtain rfl:=sI H17;exact pB 1 [r0 (V 4 [.e (.bool true),.v,.s,.s,.s,.s,.s,.s,.s,.v,.v])] [.only [0,1,4,7,60] [1000,1001]] (gg x0 x2 x3 y1 true) (aB c8 aN)
       ·refine aU H18 fun g2 H19 => ?_;refine az H19 fun y5 h8 H20 => ?_;obtain rfl:=sI H20;exact pB 1 [r0 (V 4 [.e (.bool false),.v,.v,.v,.v,.v,.v,.c true (.bool y5),.v,.v,.v])] [.only [0,1,4,7,60] [1000,1001]] (gg x0 x2 x3 y1 (!y5)) (aB c9 (aC (show (0:Int)≤0∧0<(y1.2.length:Int) from by omega) (aC Tryz.call229 (aF (kD _ _ h8) (aT aN)))))
      ·refine aK H16 (fun c10 H21 => ?_) (fun c11 H22 => ?_)
       ·obtain rfl:=sI H21;obtain rfl:=sI (ao H11);exact pR 7 [.eqT 60 (.bool true),r0 (V 7 [.w,.w,.v,.v,.v,.m]),V1] [] [1000,1001] (aB c10 aN)
       ·obtain rfl:=sI H22;exact pB 3 [.eqT 60 (.bool false)] [.only [0,1,4,7] [1000,1001]] (fZ x0 x2 x3 y1 y1.2) (aB c11 aN)
    ·subst e0;have H23:=aV H11;refine az H23 fun y6 h9 H24 => ?_;obtain rfl:=sI H24;exact pR 7 [r0 [.v,.hR [(1000,1000),(1001,1001)] 89 (.tup [.str y6.1.1,.bool y6.1.2]) [(1000,.cells 165 [.str y6.2,iI x2,.amap 1001]),(1001,.smap 9 3 (x3.map (aW ab)))],.v,.v,.v,.v,.v],r0 (V 6 [.l (iI (bN 0 y6.1.1 x3)),.v,.v,.w,.w,.m,.rwH 1001 (.smap 9 3 ((dL y6.1.1 (aJ ((bN 0 y6.1.1 x3)+(aJ (x0*y1.1.1)))) x3).map (aW ab)))]),V2] [] [1000,1001] (aC Tryz.call226 (aC (il _ _ _ _ h9) (aC (gL (c:=ab) y6.1.1 0 x3) (aC (congrArg (AO.smap 9 3) (k9 (c:=ab) y6.1.1 (aJ ((bN 0 y6.1.1 x3)+(aJ (x0*y1.1.1)))) x3)) aN))))
   ·obtain rfl:=sI H8;exact pR 5 [.eqT 44 (.bool true),V1] [] [1000,1001] (aM c5 aN)
  ·refine az H5 fun y7 h10 H25 => ?_;obtain rfl:=sI H25;exact pR 20 [V1,V5,.eqT 15 (.bool false),r0 (V 5 [.c true (.bool y0),.v]),.eqT 22 (.bool true),r0 [.v,.hR [(1000,1000),(1001,1001)] 25 (.tup [.str y7.1.1,.bool y7.1.2]) [(1000,.cells 165 [.str y7.2,iI x2,.amap 1001]),(1001,.smap 9 3 (x3.map (aW ab)))],.v,.v,.v,.v,.v],r0 (V 6 [.l (iI (bN 0 y7.1.1 x3)),.v,.w,.m,.rwH 1001 (.smap 9 3 ((dL y7.1.1 (aJ ((bN 0 y7.1.1 x3)+x0)) x3).map (aW ab)))]),V2] [] [1000,1001] (aB c1 (aC (show (0:Int)≤0∧0<(x1.length:Int) from by omega) (aC Tryz.call225 (aF (fu _ _ h1) (aT (aM c3 (aC Tryz.call226 (aC (il _ _ _ _ h10) (aC (gL (c:=ab) y7.1.1 0 x3) (aC (congrArg (AO.smap 9 3) (k9 (c:=ab) y7.1.1 (aJ ((bN 0 y7.1.1 x3)+x0)) x3)) aN))))))))))
noncomputable def cr (x0:ai) (x1:Int) (x2:List (ai×Int)):Option (Linear×Int) :=
 rf (σ:=(List ai)) (ε:=Empty) (β:=(Linear×Int)) x2 (fun e0 s0 =>
  bif (e0.2==0) then (
   some (.go s0)
  ) else (
   cy ((s0.length+1)*16≤140737488355328) <|
   some (.go (s0++[e0.1]))
  )
 ) [] (fun s0 =>
  (lU s0).bind fun y0 =>
  (cY (σ:=(List Coef)) (ε:=(List Coef)) (ρ:=Empty) (fun i0 s1 =>
   cy ((s1.length+1)*24≤140737488355328) <|
   some (.go (s1++[(Coef.mk (y0.getD i0 []) (bN 0 (y0.getD i0 []) x2))]))
  ) (fun i0 s1=>s1) (y0.length-0) 0 []).bind <| gu fun u0 =>
  (bG (Linear.mk x1 u0)).bind fun y1 =>
  bif y1 then (
   some ((Linear.mk x1 u0),0)
  ) else (
   some ((Linear.mk 0 []),3)
  )
 )
def dQ (x0:ai) (x1:Int) (x2:List (ai×Int)) (i1:List Nat) (s0:List ai):AS:=⟨58,[(0,.hptr 1000 1),(2,.hptr 2 0),(3,iI 0),(4,.hptr 4 0),(5,.rslice 30),(19,.hptr 19 0)],[(2,.cells 39 [iI 0,.eslice]),(4,.cells 39 [iI x1,.eslice]),(19,.iter (x2.map (aW ab)) i1),(30,.row 9 1 (s0.map ax)),(1000,.cells 165 [.str x0,iI x1,.dmap (x2.map (aW ab))])]⟩
def fG (x0:ai) (x1:Int) (x2:List (ai×Int)) (y0:List ai) (i0:Nat) (s1:List Coef):AS:=⟨58,[(0,.hptr 1000 1),(2,.hptr 2 0),(3,iI 0),(4,.hptr 4 0),(33,.rslice 30),(34,nI y0.length),(35,nI i0)],[(2,.cells 39 [iI 0,.eslice]),(4,.cells 39 [iI x1,.rslice 50]),(30,.row 9 1 (y0.map ax)),(50,.row 44 2 (s1.map aq)),(1000,.cells 165 [.str x0,iI x1,.dmap (x2.map (aW ab))])]⟩
def jB (x0:ai) (x1:Int) (x2:List (ai×Int)) (u1:List Coef):AS:=⟨58,[(2,.hptr 2 0),(3,iI 0),(4,.hptr 4 0)],[(2,.cells 39 [iI 0,.eslice]),(4,.cells 39 [iI x1,.rslice 50]),(50,.row 44 2 (u1.map aq)),(1000,.cells 165 [.str x0,iI x1,.dmap (x2.map (aW ab))])]⟩
theorem pH (x0:ai) (x1:Int) (x2:List (ai×Int)) (r:Linear×Int) (H:cr x0 x1 x2=some r):bo Tryz.prog 149 [.hptr 1000 1] [(1000,.cells 165 [.str x0,iI x1,.amap 1001]),(1001,.smap 9 3 (x2.map (aW ab)))] (fun r2 h0=>r2=(.tup [.agg [iI r.1.Const,dS aq r.1.Terms],iI r.2])∧h0=[]):=by
 unfold cr at H;refine aX Tryz.func149 58 [.cell 2 39,.tmp 3] ?_;refine pA 10 [r0 [.m,.v],r0 (V 4 [.b,.m,.m]),V1,r0 (V 4 [.fm 1001,.m])] [.er 5 30 9 1,.only [0,2,3,4,5,19] [2,4,19,30,1000]] 10 [] (dQ x0 x1 x2 [] []) (aC (z6 dW x2) aN) ?_;refine Aw (cc:=ab) 19 (dQ x0 x1 x2) (by kernel_rfl) H [.v] (fun i1 s0=>⟨by kernel_rfl,by kernel_rfl⟩) (fun i1 s0=>⟨58,[(0,.hptr 1000 1),(2,.hptr 2 0),(3,iI 0),(4,.hptr 4 0),(5,.rslice 30),(19,.hptr 19 0),(20,.tup [.bool false]),(21,.bool false)],[(2,.cells 39 [iI 0,.eslice]),(4,.cells 39 [iI x1,.eslice]),(19,.iter (x2.map (aW ab)) i1),(30,.row 9 1 (s0.map ax)),(1000,.cells 165 [.str x0,iI x1,.dmap (x2.map (aW ab))])]⟩) (fun i1 s0=>by kernel_rfl) (fun i1 s0 n0 e0=>⟨58,[(0,.hptr 1000 1),(2,.hptr 2 0),(3,iI 0),(4,.hptr 4 0),(5,.rslice 30),(19,.hptr 19 0),(20,.tup [.bool true,.str e0.1,iI e0.2]),(21,.bool true)],[(2,.cells 39 [iI 0,.eslice]),(4,.cells 39 [iI x1,.eslice]),(19,.iter (x2.map (aW ab)) (i1++[n0])),(30,.row 9 1 (s0.map ax)),(1000,.cells 165 [.str x0,iI x1,.dmap (x2.map (aW ab))])]⟩) (fun i1 s0 n0 e0=>by kernel_rfl) (fun i1 s0 H0 => ?_) (fun i1 s0 n0 e0 h1 q0 h2 h3 => ?_)
 ·refine az H0 fun y0 h4 H1 => ?_;refine pA 9 [r0 [.v,.hR [(30,1000)] 32 (.tup []) [(1000,.row 9 1 (y0.map ax))]],r0 [.v,.e (nI y0.length),.v]] [.erH 4 1 50 44 2,.only [0,2,3,4,33,34,35] [2,4,30,50,1000]] 9 [false] (fG x0 x1 x2 y0 0 []) (aC Tryz.call138 (aC (vN s0 y0 h4) (aT (aC (aA ax y0) aN)))) ?_;refine az H1 fun R0 h5 H2 => ?_;refine pJ 1 (jB x0 x1 x2) R0 ?_ (fun u0 e1 => ?_)
  ·refine pC (fG x0 x1 x2 y0) h5 (fun i0 s1 h6 e2 => ?_) (fun i0 s1 h7 q1 h8 h9 => ?_)
   ·have c0:=lF i0 y0.length (by omega);subst e2;exact pB 5 [r0 [.e (.bool false)]] [.only [2,3,4] [2,4,50,1000]] (jB x0 x1 x2 s1) (aB c0 aN)
   ·have c1:=lT i0 y0.length (by omega);refine aU h8 fun g0 H3 => ?_;refine sB 30 (n:=(y0.map ax).length) (by kernel_rfl) (fun l0 => ?_);have l1:y0.length≤9223372036854775807:=by simpa only [KW] using l0
    clear l0;obtain rfl:=sI H3;exact pB 11 [r0 [.e (.bool true)],r0 [.v,.rl i0 0 (.str (y0.getD i0 [])),.v],.rg 11 (V 8 [.l (iI (bN 0 (y0.getD i0 []) x2)),.b,.b]) [.ap,.rwH 50 (.row 44 2 ((s1++[(Coef.mk (y0.getD i0 []) (bN 0 (y0.getD i0 []) x2))]).map aq)),.v,.m],V2] [.only [0,2,3,4,33,34,35] [2,4,30,50,1000]] (fG x0 x1 x2 y0 (i0+1) (s1++[(Coef.mk (y0.getD i0 []) (bN 0 (y0.getD i0 []) x2))])) (aB c1 (aC (show (0:Int)≤((i0:Nat):Int)∧((i0:Nat):Int)<((y0.map ax).length:Int) from by rw [KW];omega) (aC (Kh (f:=ax) (l:=y0) (n:=i0) 1 0 1 (by omega) (by decide)) (aC (Kt (f:=ax) (l:=y0) (n:=i0) [] 0 (by omega)) (aC (gL (c:=ab) (y0.getD i0 []) 0 x2) (aY (vo (c:=aq) xH s1 [(Coef.mk (y0.getD i0 []) (bN 0 (y0.getD i0 []) x2))] 24 (by decide) (by simpa using g0)) (aC (xT 44 2 aq s1 [(Coef.mk (y0.getD i0 []) (bN 0 (y0.getD i0 []) x2))]) (aH i0 aN))))))))
  ·subst e1;have H4:=cn H2;refine az H4 fun y1 h10 H5 => ?_;refine aK H5 (fun c2 H6 => ?_) (fun c3 H7 => ?_)
   ·obtain rfl:=sI H6;exact pR 9 [r0 [.v,.c false (.bool y1),.v],.eqT 55 (.bool false),r0 [.v,.m,.v]] [.fz 50] [] (aC Tryz.call99 (aF (bc _ _ h10) (aT (aM c2 aN))))
   ·obtain rfl:=sI H7;exact pR 8 [r0 [.v,.c false (.bool y1),.v],.eqT 55 (.bool true),r0 [.b,.m,.v]] [.wkH 2 1 []] [] (aC Tryz.call99 (aF (bc _ _ h10) (aT (aM c3 aN))))
 ·refine aK h2 (fun c4 H8 => ?_) (fun c5 H9 => ?_)
  ·obtain rfl:=sI H8;exact pB 11 [r0 [.en n0 (.tup [.str e0.1,iI e0.2]),.v,.v,.v,.v],V2,.eqT 26 (.bool false)] [.only [0,2,3,4,5,19] [2,4,19,30,1000]] (dQ x0 x1 x2 (i1++[n0]) s0) (aC (og i1 n0) (aC (AK (cc:=ab) h1) (aM c4 aN)))
  ·refine aU H9 fun g1 H10 => ?_;obtain rfl:=sI H10;exact pB 11 [r0 [.en n0 (.tup [.str e0.1,iI e0.2]),.v,.v,.v,.v],V2,.eqT 26 (.bool true),r0 [.v,.v,.b,.ap,.rwH 30 (.row 9 1 ((s0++[e0.1]).map ax)),.v]] [.only [0,2,3,4,5,19] [2,4,19,30,1000]] (dQ x0 x1 x2 (i1++[n0]) (s0++[e0.1])) (aC (og i1 n0) (aC (AK (cc:=ab) h1) (aM c5 (aY (vo (c:=ax) oT s0 [e0.1] 16 (by decide) (by simpa using g1)) (aC (xT 9 1 ax s0 [e0.1]) aN)))))
noncomputable def iZ (x0:ai):Option (Linear×Int) :=
 (bD x0 0 []).bind fun y0 =>
 (dj y0 0 []).bind fun y1 =>
 (xU (σ:=(Int×ai×Int×(List (ai×Int)))) (ε:=(Linear×Int)) (ρ:=(Linear×Int)) (fun s0 =>
  (bD s0.2.1 s0.2.2.1 s0.2.2.2).bind fun y2 =>
  (fK s0.1 y2 s0.2.2.1 s0.2.2.2).bind fun y3 =>
  bif y3.1 then (
   (bD y3.2.1 y3.2.2.1 y3.2.2.2).bind fun y4 =>
   bif (y4==[]) then (
    (cr y4 y3.2.2.1 y3.2.2.2).bind fun y5 =>
    some (.ret (y5.1,y5.2))
   ) else (
    (dj y4 y3.2.2.1 y3.2.2.2).bind fun y6 =>
    bif y6.1.2 then (
     some (.go (y6.1.1,y6.2,y3.2.2.1,y3.2.2.2))
    ) else (
     some (.ret ((Linear.mk 0 []),6))
    )
   )
  ) else (
   some (.ret ((Linear.mk 0 []),6))
  )
 ) 4294967296 (y1.1.1,y1.2,0,[])).bind <| aft some
def kL (s0:Int×ai×Int×(List (ai×Int))):AS:=⟨51,[(2,.hptr 2 0),(3,iI 0),(4,.hptr 13 0),(5,.bm 157 13 0),(6,iI s0.1)],[(2,.cells 39 [iI 0,.eslice]),(10,.smap 9 3 (s0.2.2.2.map (aW ab))),(13,.cells 165 [.str s0.2.1,iI s0.2.2.1,.amap 10])]⟩
theorem vL (x0:ai) (r:Linear×Int) (H:iZ x0=some r):a8 Tryz.prog 93 [.str x0] (.tup [.agg [iI r.1.Const,dS aq r.1.Terms],iI r.2]):=by
 unfold iZ at H;refine aX Tryz.func93 51 [.cell 2 39,.tmp 3] ?_;refine az H fun y0 h0 H0 => ?_;refine az H0 fun y1 h1 H1 => ?_;refine pA 11 [r0 [.m,.v],r0 [.v,.m,.b,.b,.m,.v],V3,r0 [.v,.hR [(13,1000),(10,1001)] 17 (.tup []) [(1000,.cells 165 [.str y0,iI 0,.amap 1001]),(1001,.smap 9 3 ([].map (aW ab)))]],r0 [.v,.hR [(13,1000),(10,1001)] 20 (.tup [iI y1.1.1,.bool y1.1.2]) [(1000,.cells 165 [.str y1.2,iI 0,.amap 1001]),(1001,.smap 9 3 ([].map (aW ab)))],.v,.v,.v,.v,.v]] [.only [2,3,4,5,6] [2,10,13]] 11 [] (kL (y1.1.1,y1.2,0,[])) (aC Tryz.call158 (aC (cM _ _ _ _ h0) (aC Tryz.call159 (aC (j6 _ _ _ _ h1) aN)))) ?_;refine az H1 fun R0 h2 H2 => ?_;refine AL (kL) (by kernel_rfl) h2 (fun s0 q0 h3 h4 => ?_)
 ·refine az h3 fun y2 h5 H3 => ?_;refine az H3 fun y3 h6 H4 => ?_;refine pA 6 [r0 [.v,.hR [(13,1000),(10,1001)] 24 (.tup []) [(1000,.cells 165 [.str y2,iI s0.2.2.1,.amap 1001]),(1001,.smap 9 3 (s0.2.2.2.map (aW ab)))]],r0 [.v,.v,.hR [(13,1000),(10,1001)] 27 (.bool y3.1) [(1000,.cells 165 [.str y3.2.1,iI y3.2.2.1,.amap 1001]),(1001,.smap 9 3 (y3.2.2.2.map (aW ab)))],.v]] [.only [2,3,4,5,6,28] [2,10,13]] 6 [] ⟨51,[(2,.hptr 2 0),(3,iI 0),(4,.hptr 13 0),(5,.bm 157 13 0),(6,iI s0.1),(28,.bool (!y3.1))],[(2,.cells 39 [iI 0,.eslice]),(10,.smap 9 3 (y3.2.2.2.map (aW ab))),(13,.cells 165 [.str y3.2.1,iI y3.2.2.1,.amap 10])]⟩ (aC Tryz.call158 (aC (cM _ _ _ _ h5) (aC Tryz.call157 (aC (qa _ _ _ _ _ h6) (aT aN))))) ?_;refine aK H4 (fun c0 H5 => ?_) (fun c1 H6 => ?_)
  ·refine az H5 fun y4 h7 H7 => ?_;refine aK H7 (fun c2 H8 => ?_) (fun c3 H9 => ?_)
   ·refine az H8 fun y5 h8 H10 => ?_;obtain rfl:=sI H10;obtain rfl:=aw h4;obtain rfl:=sI (ao H2);exact pR 13 [.eqT 28 (.bool false),r0 [.v,.hR [(13,1000),(10,1001)] 31 (.tup []) [(1000,.cells 165 [.str y4,iI y3.2.2.1,.amap 1001]),(1001,.smap 9 3 (y3.2.2.2.map (aW ab)))]],V5,.eqT 36 (.bool true),r0 [.v,.v,.v,.hR [(13,1000),(10,1001)] 40 (.tup [.agg [iI y5.1.Const,dS aq y5.1.Terms],iI y5.2]) [],.v,.v,.m,.v]] [] [] (aM c0 (aC Tryz.call158 (aC (cM _ _ _ _ h7) (aB c2 (aC Tryz.call149 (aC (pH _ _ _ _ h8) aN))))))
   ·refine az H9 fun y6 h9 H11 => ?_;refine pA 17 [.eqT 28 (.bool false),r0 [.v,.hR [(13,1000),(10,1001)] 31 (.tup []) [(1000,.cells 165 [.str y4,iI y3.2.2.1,.amap 1001]),(1001,.smap 9 3 (y3.2.2.2.map (aW ab)))]],V5,.eqT 36 (.bool false),V1,r0 [.v,.hR [(13,1000),(10,1001)] 45 (.tup [iI y6.1.1,.bool y6.1.2]) [(1000,.cells 165 [.str y6.2,iI y3.2.2.1,.amap 1001]),(1001,.smap 9 3 (y3.2.2.2.map (aW ab)))],.v,.v,.v,.v,.v],V2] [.only [2,3,4,5,6,49] [2,10,13]] 15 [false,false] ⟨51,[(2,.hptr 2 0),(3,iI 0),(4,.hptr 13 0),(5,.bm 157 13 0),(6,iI y6.1.1),(49,.bool (!y6.1.2))],[(2,.cells 39 [iI 0,.eslice]),(10,.smap 9 3 (y3.2.2.2.map (aW ab))),(13,.cells 165 [.str y6.2,iI y3.2.2.1,.amap 10])]⟩ (aM c0 (aC Tryz.call158 (aC (cM _ _ _ _ h7) (aB c3 (aC Tryz.call159 (aC (j6 _ _ _ _ h9) (aT aN))))))) ?_;refine aK H11 (fun c4 H12 => ?_) (fun c5 H13 => ?_)
    ·obtain rfl:=sI H12;exact pB 3 [.eqT 49 (.bool false)] [.only [2,3,4,5,6] [2,10,13]] (kL (y6.1.1,y6.2,y3.2.2.1,y3.2.2.2)) (aM c4 aN)
    ·obtain rfl:=sI H13;obtain rfl:=aw h4;obtain rfl:=sI (ao H2);exact pR 5 [.eqT 49 (.bool true),r0 [.b,.m,.v]] [.wkH 2 1 []] [] (aM c5 aN)
  ·obtain rfl:=sI H6;obtain rfl:=aw h4;obtain rfl:=sI (ao H2);exact pR 5 [.eqT 28 (.bool true),r0 [.b,.m,.v]] [.wkH 2 1 []] [] (aM c1 aN)
noncomputable def ku (x0:ai):Option (Shape×Int) :=
 (gq x0 [91]).bind fun y0 =>
 (dD y0.1 [93]).bind fun y1 =>
 bif y0.2 then (
  bif y1.2 then (
   (n9 y1.1 [44,32]).bind fun y2 =>
   (cY (σ:=(ai×(List Linear))) (ε:=(ai×(List Linear))) (ρ:=(Shape×Int)) (fun i0 s0 =>
    (dD (y2.getD i0 []) [46,46]).bind fun y3 =>
    ((
     ((
      bif y3.2 then (
       bif (((i0:Nat):Int)==0) then (
        some (.ret (.brk (y3.1,s0.2)))
       ) else (
        some (.brk ())
       )
      ) else (
       some (.brk ())
      )
     ):Option (Out Unit (Out (ai×(List Linear)) (gZ (ai×(List Linear)) (ai×(List Linear)) (Shape×Int))))).bind (aft fun u0 =>
      (iZ (y2.getD i0 [])).bind fun y4 =>
      ((
       bif (y4.2==0) then (
        some (.brk ())
       ) else (
        bif (y1.1==[]) then (
         some (.brk ())
        ) else (
         some (.ret (.ret (.ret ((Shape.mk [] []),6))))
        )
       )
      ):Option (Out Unit (Out (ai×(List Linear)) (gZ (ai×(List Linear)) (ai×(List Linear)) (Shape×Int))))).bind (aft fun u1 =>
       bif (y1.1==[]) then (
        some (.brk (s0.1,s0.2))
       ) else (
        cy ((s0.2.length+1)*32≤140737488355328) <|
        some (.brk (s0.1,(s0.2++[y4.1])))
       )
      )
     )
    ):Option (Out (ai×(List Linear)) (gZ (ai×(List Linear)) (ai×(List Linear)) (Shape×Int)))).bind (aft fun u2 =>
     some (.go (u2.1,u2.2))
    )
   ) (fun i0 s0=>(s0.1,s0.2)) (y2.length-0) 0 ([],[])).bind <| aft fun u3 =>
   (ct (Shape.mk u3.1 u3.2)).bind fun y5 =>
   bif y5 then (
    (lP (Shape.mk u3.1 u3.2)).bind fun y6 =>
    bif (y6==x0) then (
     some ((Shape.mk u3.1 u3.2),0)
    ) else (
     some ((Shape.mk [] []),6)
    )
   ) else (
    some ((Shape.mk [] []),6)
   )
  ) else (
   some ((Shape.mk [] []),6)
  )
 ) else (
  some ((Shape.mk [] []),6)
 )
def mx (x0:ai) (y1:ai×Bool) (y2:List ai) (i0:Nat) (s0:ai×(List Linear)):AS:=⟨83,[(0,.str x0),(2,.hptr 2 0),(3,iI 0),(4,.str y1.1),(7,.hptr 7 0),(32,dS ax y2),(33,nI y2.length),(34,nI i0)],[(2,.cells 24 [.str [],.eslice]),(7,.cells 24 [.str s0.1,.rslice 69]),(69,.row 39 2 (s0.2.map ah))]⟩
def qw (x0:ai) (u4:ai×(List Linear)):AS:=⟨83,[(0,.str x0),(2,.hptr 2 0),(3,iI 0),(7,.hptr 7 0)],[(2,.cells 24 [.str [],.eslice]),(7,.cells 24 [.str u4.1,.rslice 69]),(69,.row 39 2 (u4.2.map ah))]⟩
def iX (x0:ai) (y1:ai×Bool) (y2:List ai) (i0:Nat) (u2:ai×(List Linear)):AS:=⟨83,[(0,.str x0),(2,.hptr 2 0),(3,iI 0),(4,.str y1.1),(7,.hptr 7 0),(32,dS ax y2),(33,nI y2.length),(34,nI i0)],[(2,.cells 24 [.str [],.eslice]),(7,.cells 24 [.str u2.1,.rslice 69]),(69,.row 39 2 (u2.2.map ah))]⟩
def lD (x0:ai) (y1:ai×Bool) (y2:List ai) (i0:Nat) (s0:ai×(List Linear)) (u0:Unit):AS:=⟨83,[(0,.str x0),(2,.hptr 2 0),(3,iI 0),(4,.str y1.1),(7,.hptr 7 0),(9,.str (y2.getD i0 [])),(32,dS ax y2),(33,nI y2.length),(34,nI i0)],[(2,.cells 24 [.str [],.eslice]),(7,.cells 24 [.str s0.1,.rslice 69]),(69,.row 39 2 (s0.2.map ah))]⟩
def mz (x0:ai) (y1:ai×Bool) (y2:List ai) (i0:Nat) (s0:ai×(List Linear)) (y4:Linear×Int) (u1:Unit):AS:=⟨83,[(0,.str x0),(2,.hptr 2 0),(3,iI 0),(4,.str y1.1),(7,.hptr 7 0),(12,.hptr 12 0),(32,dS ax y2),(33,nI y2.length),(34,nI i0)],[(2,.cells 24 [.str [],.eslice]),(7,.cells 24 [.str s0.1,.rslice 69]),(12,.cells 39 [iI y4.1.Const,dS aq y4.1.Terms]),(69,.row 39 2 (s0.2.map ah))]⟩
theorem yk (x0:ai) (r:Shape×Int) (H:ku x0=some r):a8 Tryz.prog 26 [.str x0] (.tup [.agg [.str r.1.Row,dS ah r.1.Dims],iI r.2]):=by
 unfold ku at H;refine aX Tryz.func26 83 [.cell 2 24,.tmp 3] ?_;refine az H fun y0 h0 H0 => ?_;refine az H0 fun y1 h1 H1 => ?_;refine aK H1 (fun c0 H2 => ?_) (fun c1 H3 => ?_)
 ·refine pA 10 [.rg 0 [] [.m,.v],.rg 0 [] [.v,.c true (.tup [.str y0.1,.bool y0.2]),.v,.v,.v,.v,.v],.rg 0 [] [.v,.c true (.tup [.str y1.1,.bool y1.2]),.v,.v,.v,.v,.v],.eqT 5 (.bool true),.rg 0 [] (V 6 [])] [.only [0,2,3,4,29] [2]] 9 [] ⟨83,[(0,.str x0),(2,.hptr 2 0),(3,.int .i64 0),(4,.str y1.1),(29,.bool (!y1.2))],[(2,.cells 24 [.str [],.eslice])]⟩ (aC Tryz.call90 (aF (kP _ _ _ h0) (aC Tryz.call91 (aF (ib _ _ _ h1) (aB c0 (aT (aT aN))))))) ?_;refine aK H2 (fun c2 H4 => ?_) (fun c3 H5 => ?_)
  ·refine az H4 fun y2 h2 H6 => ?_;refine pA 9 [.eqT 29 (.bool false),r0 [.m],r0 [.v,.c true (dS ax y2),.e (nI y2.length),.v]] [.erH 7 1 69 39 2,.only [0,2,3,4,7,32,33,34] [2,7,69]] 8 [false] (mx x0 y1 y2 0 ([],[])) (aM c2 (aC Tryz.call92 (aF (AW y1.1 [44,32] y2 h2) (aT (aC (aA ax y2) aN))))) ?_;refine az H6 fun R0 h3 H7 => ?_;refine pJ 1 (qw x0) R0 ?_ (fun u3 e0 => ?_)
   ·refine pC (mx x0 y1 y2) h3 (fun i0 s0 h4 e1 => ?_) (fun i0 s0 h5 q0 h6 h7 => ?_)
    ·have c4:=lF i0 y2.length (by omega);subst e1;exact pB 5 [r0 [.e (.bool false)]] [.only [0,2,3,7] [2,7,69]] (qw x0 (s0.1,s0.2)) (aB c4 aN)
    ·have c5:=lT i0 y2.length (by omega);refine az h6 fun y3 h8 H8 => ?_;refine pA 13 [r0 [.e (.bool true)],r0 [.v,.e (.dptr [.str (y2.getD i0 [])]),.v,.v,.v],r0 [.v,.c true (.tup [.str y3.1,.bool y3.2]),.v,.v,.v,.v,.v]] [.only [0,2,3,4,7,8,9,10,11,32,33,34] [2,7,69]] 13 [true] ⟨83,[(0,.str x0),(2,.hptr 2 0),(3,iI 0),(4,.str y1.1),(7,.hptr 7 0),(8,nI i0),(9,.str (y2.getD i0 [])),(10,.str y3.1),(11,.bool y3.2),(32,dS ax y2),(33,nI y2.length),(34,nI i0)],[(2,.cells 24 [.str [],.eslice]),(7,.cells 24 [.str s0.1,.rslice 69]),(69,.row 39 2 (s0.2.map ah))]⟩ (aB c5 (aI bM y2 i0 [] (aC Tryz.call91 (aF (ib _ _ _ h8) aN)))) ?_;refine az H8 fun v0 h9 H9 => ?_;refine pJ 3 (iX x0 y1 y2 i0) v0 ?_ (fun u2 e2 => ?_)
     ·refine az h9 fun v1 h10 H10 => ?_;refine pJ 1 (lD x0 y1 y2 i0 s0) v1 ?_ (fun u0 e3 => ?_)
      ·refine aK h10 (fun c6 H11 => ?_) (fun c7 H12 => ?_)
       ·refine aK H11 (fun c8 H13 => ?_) (fun c9 H14 => ?_)
        ·obtain rfl:=sI H13;obtain rfl:=sI (ao H10);exact pB 7 [.eqT 11 (.bool true),V5,.eqT 48 (.bool true),r0 [.v,.v,.m]] [.only [0,2,3,4,7,32,33,34] [2,7,69]] (iX x0 y1 y2 i0 (y3.1,s0.2)) (aB c6 (aB c8 aN))
        ·obtain rfl:=sI H14;exact pB 5 [.eqT 11 (.bool true),V5,.eqT 48 (.bool false)] [.only [0,2,3,4,7,9,32,33,34] [2,7,69]] (lD x0 y1 y2 i0 s0 ()) (aB c6 (aB c9 aN))
       ·obtain rfl:=sI H12;exact pB 4 [.eqT 11 (.bool false),r0 [.v,.v,.s,.s,.v]] [.only [0,2,3,4,7,9,32,33,34] [2,7,69]] (lD x0 y1 y2 i0 s0 ()) (aB c7 aN)
      ·subst e3;have H15:=aV H10;refine az H15 fun y4 h11 H16 => ?_;refine pA 4 [r0 [.v,.c true (.tup [.agg [iI y4.1.Const,dS aq y4.1.Terms],iI y4.2]),.v,.v,.v,.m,.m,.v]] [.only [0,2,3,4,7,12,13,32,33,34] [2,7,12,69]] 4 [] ⟨83,[(0,.str x0),(2,.hptr 2 0),(3,iI 0),(4,.str y1.1),(7,.hptr 7 0),(12,.hptr 12 0),(13,iI y4.2),(32,dS ax y2),(33,nI y2.length),(34,nI i0)],[(2,.cells 24 [.str [],.eslice]),(7,.cells 24 [.str s0.1,.rslice 69]),(12,.cells 39 [iI y4.1.Const,dS aq y4.1.Terms]),(69,.row 39 2 (s0.2.map ah))]⟩ (aC Tryz.call93 (aF (vL _ _ h11) aN)) ?_;refine az H16 fun v2 h12 H17 => ?_;refine pJ 1 (mz x0 y1 y2 i0 s0 y4) v2 ?_ (fun u1 e4 => ?_)
       ·refine aK h12 (fun c10 H18 => ?_) (fun c11 H19 => ?_)
        ·obtain rfl:=sI H18;exact pB 3 [r0 [.v,.e (.bool false),.v,.s,.s,.v]] [.only [0,2,3,4,7,12,32,33,34] [2,7,12,69]] (mz x0 y1 y2 i0 s0 y4 ()) (aM c10 aN)
        ·refine aK H19 (fun c12 H20 => ?_) (fun c13 H21 => ?_)
         ·obtain rfl:=sI H20;exact pB 4 [r0 [.v,.e (.bool true),.v,.v,.v,.v],.eqT 61 (.bool false)] [.only [0,2,3,4,7,12,32,33,34] [2,7,12,69]] (mz x0 y1 y2 i0 s0 y4 ()) (aM c11 (aM c12 aN))
         ·obtain rfl:=sI H21;obtain rfl:=sI (ao H17);obtain rfl:=sI (ao H9);obtain rfl:=aw h7;obtain rfl:=sI (ao H7);exact pR 6 [r0 [.v,.e (.bool true),.v,.v,.v,.v],.eqT 61 (.bool true),r0 [.b,.m,.v]] [.wkH 2 1 []] [] (aM c11 (aM c13 aN))
       ·subst e4;have H22:=aV H17;refine aK H22 (fun c14 H23 => ?_) (fun c15 H24 => ?_)
        ·obtain rfl:=sI H23;exact pB 5 [V2,.eqT 64 (.bool false)] [.only [0,2,3,4,7,32,33,34] [2,7,69]] (iX x0 y1 y2 i0 (s0.1,s0.2)) (aM c14 aN)
        ·refine aU H24 fun g0 H25 => ?_;obtain rfl:=sI H25;exact pB 5 [V2,.eqT 64 (.bool true),r0 [.v,.v,.v,.b,.ap,.rwH 69 (.row 39 2 ((s0.2++[y4.1]).map ah)),.v,.m]] [.only [0,2,3,4,7,32,33,34] [2,7,69]] (iX x0 y1 y2 i0 (s0.1,(s0.2++[y4.1]))) (aM c15 (aY (vo (c:=ah) rR s0.2 [y4.1] 32 (by decide) (by simpa using g0)) (aC (xT 39 2 ah s0.2 [y4.1]) aN)))
     ·subst e2;have H26:=aV H9;refine bu 32 (ps:=[(y2.map ax).length≤9223372036854775807]) (by kernel_rfl) (fun l0 => ?_);have l1:y2.length≤9223372036854775807:=by simpa only [bt,KW] using l0
      clear l0;obtain rfl:=sI H26;exact pB 1 [V2] [.only [0,2,3,4,7,32,33,34] [2,7,69]] (mx x0 y1 y2 (i0+1) (u2.1,u2.2)) (aH i0 aN)
   ·subst e0;have H27:=aV H7;refine az H27 fun y5 h13 H28 => ?_;refine aK H28 (fun c16 H29 => ?_) (fun c17 H30 => ?_)
    ·refine az H29 fun y6 h14 H31 => ?_;refine aK H31 (fun c18 H32 => ?_) (fun c19 H33 => ?_)
     ·obtain rfl:=sI H32;exact pR 9 [r0 [.v,.c false (.bool true),.v,.v,.v,.c false (.str y6),.v,.v,.v],.eqT 80 (.bool false),r0 [.v,.m,.v]] [.fz 69] [] (aC Tryz.call31 (aC (a8.eq (bj _ _ h13) (cB c16)) (aT (aC Tryz.call88 (aF (ph _ _ h14) (aM c18 aN))))))
     ·obtain rfl:=sI H33;exact pR 8 [r0 [.v,.c false (.bool true),.v,.v,.v,.c false (.str y6),.v,.v,.v],.eqT 80 (.bool true),r0 [.b,.m,.v]] [.wkH 2 1 []] [] (aC Tryz.call31 (aC (a8.eq (bj _ _ h13) (cB c16)) (aT (aC Tryz.call88 (aF (ph _ _ h14) (aM c19 aN))))))
    ·obtain rfl:=sI H30;exact pR 7 [r0 [.v,.c false (.bool false),.v,.v,.s,.s,.s,.s,.v],r0 [.b,.m,.v]] [.wkH 2 1 []] [] (aC Tryz.call31 (aC (a8.eq (bj _ _ h13) (cB c17)) (aT aN)))
  ·obtain rfl:=sI H5;exact pR 5 [.eqT 29 (.bool true),r0 [.b,.m,.v]] [.wkH 2 1 []] [] (aM c3 aN)
 ·obtain rfl:=sI H3;exact pR 14 [r0 [.m,.v],r0 [.v,.c true (.tup [.str y0.1,.bool y0.2]),.v,.v,.v,.v,.v],r0 [.v,.c true (.tup [.str y1.1,.bool y1.2]),.v,.v,.v,.v,.v],.eqT 5 (.bool false),r0 [.v,.v,.v,.s,.s,.v],r0 [.b,.m,.v]] [.wkH 2 1 []] [] (aC Tryz.call90 (aF (kP _ _ _ h0) (aC Tryz.call91 (aF (ib _ _ _ h1) (aB c1 (aT aN))))))
def jS (x0:Value) (x1:Coef):Option Bool :=
 some (x0.Var==x1.Var)
theorem vr (x0:Value) (x1:Coef) (r:Bool) (H:jS x0 x1=some r):a8 Tryz.prog 150 [.agg [.str x0.Var,iI x0.N],.dptr [.str x1.Var,iI x1.C]] (.bool r):=by unfold jS at H;refine aX Tryz.func150 9 [.tmp 3] ?_;obtain rfl:=sI H;exact pR 5 [r0 [.m,.v],V6] [] [] aN
def b6 (x0:List Value) (x1:ai) (x2:Int):Option Int :=
 (cY (σ:=Unit) (ε:=Unit) (ρ:=Int) (fun i0 s0 =>
  (jS (Value.mk ((x0.getD i0 ⟨[],0⟩).Var) ((x0.getD i0 ⟨[],0⟩).N)) (Coef.mk x1 x2)).bind fun y0 =>
  bif y0 then (
   some (.ret ((i0:Nat):Int))
  ) else (
   some (.go ())
  )
 ) (fun i0 s0=>()) (x0.length-0) 0 ()).bind <| aft fun u0 =>
 some (-1)
def dw (x0:List Value) (x1:ai) (x2:Int) (i0:Nat) (s0:Unit):AS:=⟨19,[(0,dS aR x0),(1,.fn 150 [.hptr 1000 0]),(4,iI 0),(7,nI x0.length),(8,nI i0)],[(1000,.cells 44 [.str x1,iI x2])]⟩
def fB (x1:ai) (x2:Int) (u1:Unit):AS:=⟨19,[(4,iI 0)],[(1000,.cells 44 [.str x1,iI x2])]⟩
theorem kA (x0:List Value) (x1:ai) (x2 r:Int) (H:b6 x0 x1 x2=some r):bo Tryz.prog 111 [dS aR x0,.fn 150 [.hptr 1000 0]] [(1000,.cells 44 [.str x1,iI x2])] (fun r2 h0=>r2=(iI r)∧h0=[(1000,.cells 44 [.str x1,iI x2])]):=by
 unfold b6 at H;refine aX Tryz.func111 19 [.tmp 4] ?_;refine pA 6 [V1,r0 [.v,.e (nI x0.length),.v]] [.only [0,1,4,7,8] [1000]] 6 [] (dw x0 x1 x2 0 ()) (aT (aC (aA aR x0) aN)) ?_;refine az H fun R0 h1 H0 => ?_;refine pJ 1 (fB x1 x2) R0 ?_ (fun u0 e0 => ?_)
 ·refine pC (dw x0 x1 x2) h1 (fun i0 s0 h2 e1 => ?_) (fun i0 s0 h3 q0 h4 h5 => ?_)
  ·have c0:=lF i0 x0.length (by omega);subst e1;exact pB 5 [r0 [.e (.bool false)]] [.only [4] [1000]] (fB x1 x2 ()) (aB c0 aN)
  ·have c1:=lT i0 x0.length (by omega);refine az h4 fun y0 h6 H1 => ?_;refine pA 11 [r0 [.e (.bool true)],V2,r0 [.v,.v,.v,.e (.dptr (aR (x0.getD i0 ⟨[],0⟩))),.v,.c false (.bool y0)]] [.only [0,1,4,5,7,8,16] [1000]] 11 [true] ⟨19,[(0,dS aR x0),(1,.fn 150 [.hptr 1000 0]),(4,iI 0),(5,nI i0),(7,nI x0.length),(8,nI i0),(16,.bool y0)],[(1000,.cells 44 [.str x1,iI x2])]⟩ (aB c1 (aI dI x0 i0 ⟨[],0⟩ (aC Tryz.call150 (aF (vr _ _ _ h6) aN)))) ?_;refine aK H1 (fun c2 H2 => ?_) (fun c3 H3 => ?_)
   ·obtain rfl:=sI H2;obtain rfl:=aw h5;obtain rfl:=sI (ao H0);exact pR 5 [.eqT 16 (.bool true),V2] [] [1000] (aB c2 aN)
   ·refine bu 0 (ps:=[(x0.map aR).length≤9223372036854775807]) (by kernel_rfl) (fun l0 => ?_);have l1:x0.length≤9223372036854775807:=by simpa only [bt,KW] using l0
    clear l0;obtain rfl:=sI H3;exact pB 4 [.eqT 16 (.bool false),V2] [.only [0,1,4,7,8] [1000]] (dw x0 x1 x2 (i0+1) ()) (aB c3 (aH i0 aN))
 ·subst e0;have H4:=aV H0;obtain rfl:=sI H4;exact pR 3 [V1] [] [1000] aN
def kl (x0:Linear) (x1:List Value):Option (Int×Int) :=
 (bG x0).bind fun y0 =>
 bif y0 then (
  (cY (σ:=Int) (ε:=Int) (ρ:=(Int×Int)) (fun i0 s0 =>
   (b6 x1 ((x0.Terms.getD i0 ⟨[],0⟩).Var) ((x0.Terms.getD i0 ⟨[],0⟩).C)).bind fun y1 =>
   bif decide (y1<0) then (
    some (.ret (0,7))
   ) else (
    cy (0≤y1∧y1<(x1.length:Int)) <|
    bif decide (((x1.getD y1.toNat ⟨[],0⟩).N)<(-1000000000)) then (
     some (.ret (0,2))
    ) else (
     bif decide (((x1.getD y1.toNat ⟨[],0⟩).N)>1000000000) then (
      some (.ret (0,2))
     ) else (
      some (.go (aJ (s0+(aJ (((x0.Terms.getD i0 ⟨[],0⟩).C)*((x1.getD y1.toNat ⟨[],0⟩).N))))))
     )
    )
   )
  ) (fun i0 s0=>s0) (x0.Terms.length-0) 0 x0.Const).bind <| aft fun u0 =>
  some (u0,0)
 ) else (
  some (0,1)
 )
def lV (x0:Linear) (x1:List Value) (i0:Nat) (s0:Int):AS:=⟨51,[(1,dS aR x1),(4,iI 0),(5,iI 0),(6,iI s0),(17,dS aq x0.Terms),(18,nI x0.Terms.length),(19,nI i0)],[]⟩
def qn (u1:Int):AS:=⟨51,[(4,iI 0),(5,iI 0),(6,iI u1)],[]⟩
theorem x9 (x0:Linear) (x1:List Value) (r:Int×Int) (H:kl x0 x1=some r):a8 Tryz.prog 85 [.agg [iI x0.Const,dS aq x0.Terms],dS aR x1] (.tup [iI r.1,iI r.2]):=by
 unfold kl at H;refine aX Tryz.func85 51 [.tmp 4,.tmp 5] ?_;refine az H fun y0 h0 H0 => ?_;refine aK H0 (fun c0 H1 => ?_) (fun c1 H2 => ?_)
 ·refine pA 14 [.rg 0 [] [.m,.v,.v],.rg 0 [] [.v,.c true (.bool y0),.v],.eqT 13 (.bool false),.rg 0 [] [.v,.v,.v],.rg 0 [] [.v,.v,.e (.int .i64 ((x0.Terms.length:Nat):Int)),.v]] [.only [1,4,5,6,17,18,19] []] 13 [false] (lV x0 x1 0 x0.Const) (aC Tryz.call99 (aF (bc _ _ h0) (aT (aM c0 (aT (aC (aA aq x0.Terms) aN)))))) ?_;refine az H1 fun R0 h1 H3 => ?_;refine pJ 1 (qn) R0 ?_ (fun u0 e0 => ?_)
  ·refine pC (lV x0 x1) h1 (fun i0 s0 h2 e1 => ?_) (fun i0 s0 h3 q0 h4 h5 => ?_)
   ·have c2:=lF i0 x0.Terms.length (by omega);subst e1;exact pB 5 [r0 [.e (.bool false)]] [.only [4,5,6] []] (qn s0) (aB c2 aN)
   ·have c3:=lT i0 x0.Terms.length (by omega);refine az h4 fun y1 h6 H4 => ?_;refine pA 14 [r0 [.e (.bool true)],r0 [.e (.dptr (aq (x0.Terms.getD i0 ⟨[],0⟩))),.v,.m,.m],r0 [.v,.v,.hR [(8,1000)] 25 (iI y1) [(1000,.cells 44 (aq (x0.Terms.getD i0 ⟨[],0⟩)))],.v],V2] [.only [1,4,5,6,8,9,17,18,19,27] [8]] 14 [true] ⟨51,[(1,dS aR x1),(4,iI 0),(5,iI 0),(6,iI s0),(8,.hptr 8 0),(9,iI y1),(17,dS aq x0.Terms),(18,nI x0.Terms.length),(19,nI i0),(27,.bool (decide (y1<0)))],[(8,.cells 44 (aq (x0.Terms.getD i0 ⟨[],0⟩)))]⟩ (aB c3 (aI cU x0.Terms i0 ⟨[],0⟩ (aC Tryz.call111 (aC (kA _ _ _ _ h6) aN)))) ?_;refine aK H4 (fun c4 H5 => ?_) (fun c5 H6 => ?_)
    ·obtain rfl:=sI H5;obtain rfl:=aw h5;obtain rfl:=sI (ao H3);exact pR 5 [.eqT 27 (.bool true),V2] [] [] (aB c4 aN)
    ·have c5p:=KS c5;refine aU H6 fun g0 H7 => ?_;refine aK H7 (fun c6 H8 => ?_) (fun c7 H9 => ?_)
     ·obtain rfl:=sI H8;obtain rfl:=aw h5;obtain rfl:=sI (ao H3);exact pR 12 [.eqT 27 (.bool false),r0 [.v,.v,.e (.dptr (aR (x1.getD y1.toNat ⟨[],0⟩))),.v,.v,.v],r0 [.v,.e (.bool true),.v,.s,.s,.v],V2] [] [] (aB c5 (aY (yw (f:=aR) (l:=x1) (n:=y1) ⟨[],0⟩ dI (by decide) (by exact g0)) (aB c6 aN)))
     ·have c7p:=KS c7;refine aK H9 (fun c8 H10 => ?_) (fun c9 H11 => ?_)
      ·obtain rfl:=sI H10;obtain rfl:=aw h5;obtain rfl:=sI (ao H3);exact pR 13 [.eqT 27 (.bool false),r0 [.v,.v,.e (.dptr (aR (x1.getD y1.toNat ⟨[],0⟩))),.v,.v,.v],r0 [.v,.e (.bool false),.v,.v,.v,.v],.eqT 38 (.bool true),V2] [] [] (aB c5 (aY (yw (f:=aR) (l:=x1) (n:=y1) ⟨[],0⟩ dI (by decide) (by exact g0)) (aB c7 (aB c8 aN))))
      ·have c9p:=KS c9;refine bu 17 (ps:=[(x0.Terms.map aq).length≤9223372036854775807]) (by kernel_rfl) (fun l0 => ?_);have l1:x0.Terms.length≤9223372036854775807:=by simpa only [bt,KW] using l0
       clear l0;obtain rfl:=sI H11;exact pB 13 [.eqT 27 (.bool false),r0 [.v,.v,.e (.dptr (aR (x1.getD y1.toNat ⟨[],0⟩))),.v,.v,.v],r0 [.v,.e (.bool false),.v,.v,.v,.v],.eqT 38 (.bool false),.rg 9 (V 5 [.e (.dptr (aR (x1.getD y1.toNat ⟨[],0⟩))),.v,.v,.w]) [.w,.v],V2] [.only [1,4,5,6,17,18,19] []] (lV x0 x1 (i0+1) (aJ (s0+(aJ (((x0.Terms.getD i0 ⟨[],0⟩).C)*((x1.getD y1.toNat ⟨[],0⟩).N)))))) (aB c5 (aY (yw (f:=aR) (l:=x1) (n:=y1) ⟨[],0⟩ dI (by decide) (by exact g0)) (aB c7 (aB c9 (aY (yw (f:=aR) (l:=x1) (n:=y1) ⟨[],0⟩ dI (by decide) (by exact g0)) (aH i0 aN))))))
  ·subst e0;have H12:=aV H3;obtain rfl:=sI H12;exact pR 3 [V3] [] [] aN
 ·obtain rfl:=sI H2;exact pR 10 [r0 [.m,.v,.v],r0 [.v,.c true (.bool y0),.v],.eqT 13 (.bool true),V2] [] [] (aC Tryz.call99 (aF (bc _ _ h0) (aT (aM c1 aN))))
def iv (x0:Shape) (x1:List Value):Option ((List Int)×Int) :=
 (ct x0).bind fun y0 =>
 bif y0 then (
  bif (x0.Row==[]) then (
   (cY (σ:=(List Int)) (ε:=(List Int)) (ρ:=((List Int)×Int)) (fun i0 s0 =>
    (kl (Linear.mk ((x0.Dims.getD i0 ⟨0,[]⟩).Const) ((x0.Dims.getD i0 ⟨0,[]⟩).Terms)) x1).bind fun y1 =>
    bif (y1.2==0) then (
     bif decide (y1.1<0) then (
      some (.ret ([],2))
     ) else (
      bif decide (y1.1>4096) then (
       some (.ret ([],2))
      ) else (
       cy ((s0.length+1)*8≤140737488355328) <|
       some (.go (s0++[y1.1]))
      )
     )
    ) else (
     some (.ret ([],y1.2))
    )
   ) (fun i0 s0=>s0) (x0.Dims.length-0) 0 []).bind <| aft fun u0 =>
   some (u0,0)
  ) else (
   some ([],13)
  )
 ) else (
  some ([],1)
 )
def nP (x0:Shape) (x1:List Value) (i0:Nat) (s0:List Int):AS:=⟨47,[(1,dS aR x1),(4,.eslice),(5,iI 0),(6,.rslice 44),(20,dS ah x0.Dims),(21,nI x0.Dims.length),(22,nI i0)],[(44,.row 3 1 (s0.map ab))]⟩
def rz (u1:List Int):AS:=⟨47,[(4,.eslice),(5,iI 0),(6,.rslice 44)],[(44,.row 3 1 (u1.map ab))]⟩
theorem tf (x0:Shape) (x1:List Value) (r:(List Int)×Int) (H:iv x0 x1=some r):a8 Tryz.prog 19 [.agg [.str x0.Row,dS ah x0.Dims],dS aR x1] (.tup [dS ab r.1,iI r.2]):=by
 unfold iv at H;refine aX Tryz.func19 47 [.tmp 4,.tmp 5] ?_;refine az H fun y0 h0 H0 => ?_;refine aK H0 (fun c0 H1 => ?_) (fun c1 H2 => ?_)
 ·refine aK H1 (fun c2 H3 => ?_) (fun c3 H4 => ?_)
  ·refine pA 19 [.rg 0 [] [.m,.v,.v],.rg 0 [] [.v,.c true (.bool y0),.v,.v],.eqT 11 (.bool false),.rg 0 [] (V 4 []),.eqT 15 (.bool false),.rg 0 [] [.v],.rg 0 [] [.v,.v,.e (.int .i64 ((x0.Dims.length:Nat):Int)),.v]] [.er 6 44 3 1,.only [1,4,5,6,20,21,22] [44]] 17 [false,false] (nP x0 x1 0 []) (aC Tryz.call31 (aF (bj _ _ h0) (aT (aM c0 (aM c2 (aT (aC (aA ah x0.Dims) aN))))))) ?_;refine az H3 fun R0 h1 H5 => ?_;refine pJ 1 (rz) R0 ?_ (fun u0 e0 => ?_)
   ·refine pC (nP x0 x1) h1 (fun i0 s0 h2 e1 => ?_) (fun i0 s0 h3 q0 h4 h5 => ?_)
    ·have c4:=lF i0 x0.Dims.length (by omega);subst e1;exact pB 5 [r0 [.e (.bool false)]] [.only [4,5,6] [44]] (rz s0) (aB c4 aN)
    ·have c5:=lT i0 x0.Dims.length (by omega);refine az h4 fun y1 h6 H6 => ?_;refine pA 14 [r0 [.e (.bool true)],r0 [.e (.dptr (ah (x0.Dims.getD i0 ⟨0,[]⟩))),.v,.m,.m],r0 [.v,.v,.c true (.tup [iI y1.1,iI y1.2]),.v,.v,.v,.v,.v],V2] [.only [1,4,5,6,9,10,20,21,22,33] [44]] 14 [true] ⟨47,[(1,dS aR x1),(4,.eslice),(5,iI 0),(6,.rslice 44),(9,iI y1.1),(10,iI y1.2),(20,dS ah x0.Dims),(21,nI x0.Dims.length),(22,nI i0),(33,.bool (y1.2 != 0))],[(44,.row 3 1 (s0.map ab))]⟩ (aB c5 (aI cD x0.Dims i0 ⟨0,[]⟩ (aC Tryz.call85 (aF (x9 _ _ _ h6) aN)))) ?_;refine aK H6 (fun c6 H7 => ?_) (fun c7 H8 => ?_)
     ·refine aK H7 (fun c8 H9 => ?_) (fun c9 H10 => ?_)
      ·obtain rfl:=sI H9;obtain rfl:=aw h5;obtain rfl:=sI (ao H5);exact pR 10 [.eqT 33 (.bool false),r0 [.v,.e (.bool true),.v,.s,.s,.v],V2] [.wk 4 []] [] (aM c6 (aB c8 aN))
      ·have c9p:=KS c9;refine aK H10 (fun c10 H11 => ?_) (fun c11 H12 => ?_)
       ·obtain rfl:=sI H11;obtain rfl:=aw h5;obtain rfl:=sI (ao H5);exact pR 11 [.eqT 33 (.bool false),r0 [.v,.e (.bool false),.v,.v,.v,.v],.eqT 40 (.bool true),V2] [.wk 4 []] [] (aM c6 (aB c9 (aB c10 aN)))
       ·have c11p:=KS c11;refine aU H12 fun g0 H13 => ?_;refine bu 20 (ps:=[(x0.Dims.map ah).length≤9223372036854775807]) (by kernel_rfl) (fun l0 => ?_);have l1:x0.Dims.length≤9223372036854775807:=by simpa only [bt,KW] using l0
        clear l0;obtain rfl:=sI H13;exact pB 11 [.eqT 33 (.bool false),r0 [.v,.e (.bool false),.v,.v,.v,.v],.eqT 40 (.bool false),r0 [.v,.v,.b,.ap,.rwH 44 (.row 3 1 ((s0++[y1.1]).map ab)),.v],V2] [.only [1,4,5,6,20,21,22] [44]] (nP x0 x1 (i0+1) (s0++[y1.1])) (aM c6 (aB c9 (aB c11 (aY (vo (c:=ab) dW s0 [y1.1] 8 (by decide) (by simpa using g0)) (aC (xT 3 1 ab s0 [y1.1]) (aH i0 aN))))))
     ·obtain rfl:=sI H8;obtain rfl:=aw h5;obtain rfl:=sI (ao H5);exact pR 5 [.eqT 33 (.bool true),V3] [.wk 4 []] [] (aM c7 aN)
   ·subst e0;have H14:=aV H5;obtain rfl:=sI H14;exact pR 3 [V3] [.fz 44] [] aN
  ·obtain rfl:=sI H4;exact pR 15 [r0 [.m,.v,.v],r0 [.v,.c true (.bool y0),.v,.v],.eqT 11 (.bool false),V4,.eqT 15 (.bool true),V2] [.wk 4 []] [] (aC Tryz.call31 (aF (bj _ _ h0) (aT (aM c0 (aM c3 aN)))))
 ·obtain rfl:=sI H2;exact pR 11 [r0 [.m,.v,.v],r0 [.v,.c true (.bool y0),.v,.v],.eqT 11 (.bool true),V2] [.wk 4 []] [] (aC Tryz.call31 (aF (bj _ _ h0) (aT (aM c1 aN))))
end Go.Proofs.YtjfpcjnopbfekaaGreatDoor
