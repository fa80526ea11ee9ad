/- What functions of the program compute, walked: each as a plain function, with the theorem that the code computes it wherever that answers. Printed by a program, part 1. -/
import Derived.Test.YtlhcekghjfjajaaGreatDoorFrdEquationsSame
import Derived.KernelRfl
import Derived.Test.YtlhcekghjfjajaaGreatDoorProg
set_option linter.unusedSimpArgs false
set_option linter.unusedVariables false
namespace Go.Proofs.YtlhcekghjfjajaaGreatDoor
open Go.RowKit Go.Ab Go.Sh
theorem cB {a b:Bool} (h:a=b):AV.bool a=AV.bool b:=congrArg AV.bool h
theorem cN {a b:Bool} (h:a=b):AV.bool (!a)=AV.bool (!b):=congrArg (fun x=>AV.bool (!x)) h
theorem aC {p:Prop} {ps:List Prop} (h:p) (h2:bB ps):bB (p::ps):=all_cons h h2
theorem aN:bB []:=all_nil
theorem aT {ps:List Prop} (h2:bB ps):bB (True::ps):=all_cons trivial h2
theorem aB {a b:Bool} {ps:List Prop} (h:a=b) (h2:bB ps):bB ((AV.bool a=AV.bool b)::ps):=all_cons (cB h) h2
theorem aM {a b:Bool} {ps:List Prop} (h:a=b) (h2:bB ps):bB ((AV.bool (!a)=AV.bool (!b))::ps):=all_cons (cN h) h2
theorem aF {P:Program} {f:FuncId} {args:List AV} {v:AV} {ps:List Prop} (h:bW P f args v) (h2:bB ps):bB (bT P f args [] (fun r _=>r=v)::ps):=all_cons (bW.is h) h2
theorem pI (n:Nat) (h:n<9223372036854775807):wA (((n:Nat):Int)+1):=by unfold wA;omega
theorem lF (i n:Nat) (h:¬ i<n):decide (((i:Nat):Int)<((n:Nat):Int))=false:=Kn (by omega)
theorem lT (i n:Nat) (h:i<n):decide (((i:Nat):Int)<((n:Nat):Int))=true:=Ko (by omega)
def nI (n:Nat):AV:=.int .i64 ((n:Nat):Int)
def iI (n:Int):AV:=.int .i64 n
def dS {α:Type} (c:α→List AV) (x:List α):AV:=.dslice (x.map c)
def r0 (d:List pH):Sg:=.rg 0 [] d
section
variable {c:Code} {fs:List Fr} {s:AS} {Q:Exit→AS→Prop}
theorem pR (n:Nat) (sg:List Sg) (cs:List Cd) (ks:List Nat) {rs:List ResultVar} {v:AV} {h1:List (Nat×AO)} {ps:List Prop} (hp:bB ps) (h:I5 Tryz.prog rs cs ks (path Tryz.prog n sg c fs s)=some (ps,v,h1):=by kernel_rfl):eE Tryz.prog c (cH Tryz.prog fs (Hk Tryz.prog rs v h1)) s:=Ju Tryz.mo n sg cs ks hp h
theorem pB (n:Nat) (sg:List Sg) (cs:List Cd) (S:AS) {ps:List Prop} (hp:bB ps) (h:HZ cs (path Tryz.prog n sg c fs s)=some (ps,S,S):=by kernel_rfl):eE Tryz.prog c (cH Tryz.prog fs Q) s:=JL Tryz.mo n sg cs S hp h
theorem pA (n:Nat) (sg:List Sg) (cs:List Cd) (m:Nat) (bs:List Bool) (S:AS) {ps:List Prop} (hp:bB ps) (ht:eE Tryz.prog (qt m bs c fs).1 (cH Tryz.prog (qt m bs c fs).2 Q) S)
 (h:J4 cs (path Tryz.prog n sg c fs s)=some (ps,(qt m bs c fs).1,(qt m bs c fs).2,S):=by kernel_rfl):eE Tryz.prog c (cH Tryz.prog fs Q) s:=Kb Tryz.mo n sg cs m bs S hp h ht
theorem aX {f:FuncId} {fn:Func} {args:List AV} {h h1:List (Nat×AO)} {v:AV} (hf:Tryz.prog.funcs[f]? = some fn) (n:Nat) (rs:List ResultVar) (ht:eE Tryz.prog (wc fn) (cH Tryz.prog [] (Hk Tryz.prog rs v h1)) ⟨n,mH args 0,h⟩)
 (hok:(qP fn&&Nat.beq fn.ntmps n&&Nat.ble args.length n)=true:=by kernel_rfl) (hrs:fn.results.toList=rs:=by kernel_rfl):bT Tryz.prog f args h (fun r h'=>r=v∧h'=h1):=HT hf n rs hok hrs ht
theorem pJ {ε ρ:Type} (k:Nat) (S:ε→AS) (R:Out ε ρ) (h1:eE Tryz.prog c (cH Tryz.prog (zS k (JI S R) fs) Q) s) (h2:∀ e,R = .brk e→eE Tryz.prog (vu k fs) (cH Tryz.prog (fs.drop (k+1)) Q) (S e)) (hk:rC k fs=true:=by kernel_rfl):eE Tryz.prog c (cH Tryz.prog fs Q) s:=Ha k S R hk h1 h2
theorem pC {σ ε ρ:Type} {body:Nat→σ→Option (fX σ ε ρ)} {fin:Nat→σ→ε} {N i0:Nat} {st0:σ} {R:Out ε ρ} (S:Nat→σ→AS) (H:dZ body fin (N-i0) i0 st0=some R)
 (zero:∀ i st,N≤i→R = .brk (fin i st)→eE Tryz.prog (mT c) (cH Tryz.prog (.bar dead::fs) Q) (S i st))
 (succ:∀ i st,i<N→∀ q,body i st=some q→td q R→eE Tryz.prog (mT c) (cH Tryz.prog (.bar (J5 (S (i+1)) q)::fs) Q) (S i st)) (hc:ye c=true:=by kernel_rfl):eE Tryz.prog c (cH Tryz.prog fs Q) (S i0 st0):=JM S hc H zero succ
end
theorem aO (n:Int) {ps:List Prop} (h2:bB ps) (h:wA n:=by unfold wA;omega):bB (wA n::ps):=all_cons h h2
theorem aI {α:Type} {f:α→List AV} {sz:Nat} (hf:∀ x,(f x).length=sz) (l:List α) (n:Nat) (d:α) {ps:List Prop} (h2:bB ps) (h:n<l.length:=by omega) (h0:0<sz:=by decide) :
 bB ((((0:Int)≤(n:Int)∧(n:Int)<((l.map f).length:Int))∧(((l.map f).getD (n:Int).toNat []).length=sz∧0<sz))::(AV.dptr ((l.map f).getD (n:Int).toNat []) = .dptr (f (l.getD n d)))::ps):=bF (ix d hf h0 h) h2
theorem aH (n:Nat) {ps:List Prop} (h2:bB ps) (h:n<9223372036854775807:=by omega):bB (wA (((n:Nat):Int)+1)::ps):=all_cons (pI n h) h2
def V:Nat→List pH→List pH
 | 0,l=>l
 | n+1,l=>.v::V n l
def V1:Sg:=r0 [.v]
def V2:Sg:=r0 [.v,.v]
def V3:Sg:=r0 [.v,.v,.v]
def V4:Sg:=r0 (V 4 [])
def V5:Sg:=r0 (V 5 [])
def V6:Sg:=r0 (V 6 [])
theorem sI {α:Type} {x r:α} (h:some x=some r):x=r:=Kt h
theorem mo:Tryz.prog.follows .mixedOrders=true:=Tryz.mo
structure ak where
 Var:aw
 C:Int
 deriving DecidableEq
def aj (x:ak):List AV:=[.str x.Var,.int .i64 x.C]
theorem bf (x:ak):(aj x).length=2:=rfl
theorem gO (x:ak):(aj x).length=2∧(aj x).all (fun v=>v.one&&v.fl)=true:=⟨rfl,rfl⟩
structure Linear where
 Const:Int
 Terms:(List ak)
 deriving DecidableEq
def ai (x:Linear):List AV:=[.int .i64 x.Const,.dslice (x.Terms.map aj)]
theorem a8 (x:Linear):(ai x).length=2:=rfl
theorem nR (x:Linear):(ai x).length=2∧(ai x).all (fun v=>v.one&&v.fl)=true:=⟨rfl,rfl⟩
structure Shape where
 Row:aw
 Dims:(List Linear)
 deriving DecidableEq
def BA (x:Shape):List AV:=[.str x.Row,.dslice (x.Dims.map ai)]
theorem Jb (x:Shape):(BA x).length=2:=rfl
theorem Jp (x:Shape):(BA x).length=2∧(BA x).all (fun v=>v.one&&v.fl)=true:=⟨rfl,rfl⟩
structure Bind where
 Kind:Int
 Var:aw
 Dim:Linear
 Row:Shape
 Elem:aw
 deriving DecidableEq
def al (x:Bind):List AV:=[.int .i64 x.Kind,.str x.Var,.int .i64 x.Dim.Const,.dslice (x.Dim.Terms.map aj),.str x.Row.Row,.dslice (x.Row.Dims.map ai),.str x.Elem]
theorem aQ (x:Bind):(al x).length=7:=rfl
theorem AQ (x:Bind):(al x).length=7∧(al x).all (fun v=>v.one&&v.fl)=true:=⟨rfl,rfl⟩
structure ah where
 Mults:(List Int)
 Mod:Int
 deriving DecidableEq
def ag (x:Int):List AV:=[.int .i64 x]
theorem cb (x:Int):(ag x).length=1:=rfl
theorem jL (x:Int):(ag x).length=1∧(ag x).all (fun v=>v.one&&v.fl)=true:=⟨rfl,rfl⟩
def fM (x:ah):List AV:=[.dslice (x.Mults.map ag),.int .i64 x.Mod]
theorem wy (x:ah):(fM x).length=2:=rfl
theorem wG (x:ah):(fM x).length=2∧(fM x).all (fun v=>v.one&&v.fl)=true:=⟨rfl,rfl⟩
def uJ (x:UInt8):List AV:=[.int .u8 ((x).toNat:Int)]
theorem Eo (x:UInt8):(uJ x).length=1:=rfl
theorem Jx (x:UInt8):(uJ x).length=1∧(uJ x).all (fun v=>v.one&&v.fl)=true:=⟨rfl,rfl⟩
def mg (x:Bool):List AV:=[.bool x]
theorem Jn (x:Bool):(mg x).length=1:=rfl
theorem Fw (x:Bool):(mg x).length=1∧(mg x).all (fun v=>v.one&&v.fl)=true:=⟨rfl,rfl⟩
def bn (x:aw):List AV:=[.str x]
theorem pr (x:aw):(bn x).length=1:=rfl
theorem rF (x:aw):(bn x).length=1∧(bn x).all (fun v=>v.one&&v.fl)=true:=⟨rfl,rfl⟩
structure ab where
 q:Linear
 mults:(List (Int×Int))
 scale:Int
 lost:Bool
 deriving DecidableEq
def aa (x:ab):List AV:=[.int .i64 x.q.Const,.dslice (x.q.Terms.map aj),.dmap (x.mults.map (cR ag)),.int .i64 x.scale,.bool x.lost]
theorem B1 (x:ab):(aa x).length=5:=rfl
theorem rq (x:ab):(aa x).length=5∧(aa x).all (fun v=>v.one&&v.fl)=true:=⟨rfl,rfl⟩
def cn (x:Bind):List AV:=[.int .i64 x.Kind,.str x.Var,.int .i64 x.Dim.Const,Jh aj x.Dim.Terms,.str x.Row.Row,Jh ai x.Row.Dims,.str x.Elem]
theorem IZ (x:Bind):(cn x).length=7:=rfl
theorem Jm (x:Bind):(cn x).length=7∧(cn x).all (fun v=>v.one&&v.fl)=true:=⟨rfl,by unfold cn;simp only [List.all_cons,List.all_nil,Hh];rfl⟩
theorem Ed (x:Bind):(cn x).map AV.ez=al x:=by unfold cn al;simp only [List.map_cons,List.map_nil,Jf];rfl
def uI (x0:Int):Option Linear :=
 some (Linear.mk x0 [])
theorem Cc (x0:Int) (r:Linear) (H:uI x0=some r):bW Tryz.prog 49 [iI x0] (.agg [iI r.Const,dS aj r.Terms]):=by unfold uI at H;refine aX Tryz.func49 5 [.cell 2 34] ?_;obtain rfl:=sI H;exact pR 5 [r0 [.m],r0 [.v,.b,.m]] [.wkH 2 1 []] [] aN
def fV (x0:Linear) (x1:aw) (x2:Int):Option Linear :=
 (dZ (σ:=(Bool×(List ak))) (ε:=(Bool×(List ak))) (ρ:=Empty) (fun i0 s0 =>
  ((
   bif s0.1 then (
    some (true,false)
   ) else (
    some (false,!(Op.bytesLess ((x0.Terms.getD i0 ⟨[],0⟩).Var) x1||((x0.Terms.getD i0 ⟨[],0⟩).Var)==x1))
   )
  ):Option (Bool×Bool)).bind fun v0 =>
  ((
   bif v0.2 then (
    bH ((s0.2.length+1)*24≤140737488355328) <|
    some (true,(s0.2++[(ak.mk x1 x2)]))
   ) else (
    some (v0.1,s0.2)
   )
  ):Option (Bool×(List ak))).bind fun v1 =>
  ((
   bif (((x0.Terms.getD i0 ⟨[],0⟩).Var)==x1) then (
    some (true,(aD (((x0.Terms.getD i0 ⟨[],0⟩).C)+x2)))
   ) else (
    some (v1.1,((x0.Terms.getD i0 ⟨[],0⟩).C))
   )
  ):Option (Bool×Int)).bind fun v2 =>
  bH ((v1.2.length+1)*24≤140737488355328) <|
  some (.go (v2.1,(v1.2++[(ak.mk ((x0.Terms.getD i0 ⟨[],0⟩).Var) v2.2)])))
 ) (fun i0 s0=>(s0.1,s0.2)) (x0.Terms.length-0) 0 (false,[])).bind <| dG fun u0 =>
 ((
  bif u0.1 then (
   some u0.2
  ) else (
   bH ((u0.2.length+1)*24≤140737488355328) <|
   some (u0.2++[(ak.mk x1 x2)])
  )
 ):Option (List ak)).bind fun v3 =>
 (kD (σ:=(Int×Int×(List ak))) (ε:=(Int×(List ak))) (ρ:=Empty) (fun s1 =>
  bif decide (s1.2.1<((s1.2.2.length:Nat):Int)) then (
   bH (0≤s1.2.1∧s1.2.1<(s1.2.2.length:Int)) <|
   bH (s1.2.1.toNat<s1.2.2.length) <|
   ((
    bif (((s1.2.2.getD s1.2.1.toNat ⟨[],0⟩).C)==0) then (
     some (s1.1,s1.2.2)
    ) else (
     bH (0≤s1.1∧s1.1<(s1.2.2.length:Int)) <|
     bH (s1.1.toNat<s1.2.2.length) <|
     some ((aD (s1.1+1)),(s1.2.2.set s1.1.toNat (ak.mk ((s1.2.2.getD s1.2.1.toNat ⟨[],0⟩).Var) ((s1.2.2.getD s1.2.1.toNat ⟨[],0⟩).C))))
    )
   ):Option (Int×(List ak))).bind fun v4 =>
   some (.go (v4.1,(aD (s1.2.1+1)),v4.2))
  ) else (
   some (.brk (s1.1,s1.2.2))
  )
 ) 4294967296 (0,0,v3)).bind <| dG fun u1 =>
 bH (0≤u1.1∧u1.1≤(u1.2.length:Int)) <|
 some (Linear.mk x0.Const (u1.2.take u1.1.toNat))
def mv (x0:Linear) (x1:aw) (x2:Int) (i0:Nat) (s0:Bool×(List ak)):AS:=⟨100,[(1,.str x1),(2,iI x2),(3,.hptr 3 0),(6,.hptr 6 0),(7,.hptr 7 0),(8,.bool s0.1),(9,nI i0)],[(3,.cells 34 [iI x0.Const,dS aj x0.Terms]),(6,.cells 34 [iI 0,.eslice]),(7,.cells 34 [iI x0.Const,.rslice 57]),(57,.row 88 2 (s0.2.map aj))]⟩
def qa (x0:Linear) (x1:aw) (x2:Int) (u2:Bool×(List ak)):AS:=⟨100,[(1,.str x1),(2,iI x2),(6,.hptr 6 0),(7,.hptr 7 0),(8,.bool u2.1)],[(6,.cells 34 [iI 0,.eslice]),(7,.cells 34 [iI x0.Const,.rslice 57]),(57,.row 88 2 (u2.2.map aj))]⟩
def mw (x0:Linear) (x1:aw) (x2:Int) (i0:Nat) (s0:Bool×(List ak)) (v0:Bool×Bool):AS:=⟨100,[(1,.str x1),(2,iI x2),(3,.hptr 3 0),(6,.hptr 6 0),(7,.hptr 7 0),(8,.bool v0.1),(9,nI i0),(10,.hptr 10 0),(35,.bool v0.2)],[(3,.cells 34 [iI x0.Const,dS aj x0.Terms]),(6,.cells 34 [iI 0,.eslice]),(7,.cells 34 [iI x0.Const,.rslice 57]),(10,.cells 88 [.str ((x0.Terms.getD i0 ⟨[],0⟩).Var),iI ((x0.Terms.getD i0 ⟨[],0⟩).C)]),(57,.row 88 2 (s0.2.map aj))]⟩
def mQ (x0:Linear) (x1:aw) (x2:Int) (i0:Nat) (v1:Bool×(List ak)):AS:=⟨100,[(1,.str x1),(2,iI x2),(3,.hptr 3 0),(6,.hptr 6 0),(7,.hptr 7 0),(8,.bool v1.1),(9,nI i0),(10,.hptr 10 0)],[(3,.cells 34 [iI x0.Const,dS aj x0.Terms]),(6,.cells 34 [iI 0,.eslice]),(7,.cells 34 [iI x0.Const,.rslice 57]),(10,.cells 88 [.str ((x0.Terms.getD i0 ⟨[],0⟩).Var),iI ((x0.Terms.getD i0 ⟨[],0⟩).C)]),(57,.row 88 2 (v1.2.map aj))]⟩
def mJ (x0:Linear) (x1:aw) (x2:Int) (i0:Nat) (v1:Bool×(List ak)) (v2:Bool×Int):AS:=⟨100,[(1,.str x1),(2,iI x2),(3,.hptr 3 0),(6,.hptr 6 0),(7,.hptr 7 0),(8,.bool v2.1),(9,nI i0),(10,.hptr 10 0)],[(3,.cells 34 [iI x0.Const,dS aj x0.Terms]),(6,.cells 34 [iI 0,.eslice]),(7,.cells 34 [iI x0.Const,.rslice 57]),(10,.cells 88 [.str ((x0.Terms.getD i0 ⟨[],0⟩).Var),iI v2.2]),(57,.row 88 2 (v1.2.map aj))]⟩
def mN (x0:Linear) (v3:List ak):AS:=⟨100,[(6,.hptr 6 0),(7,.hptr 7 0)],[(6,.cells 34 [iI 0,.eslice]),(7,.cells 34 [iI x0.Const,.rslice 67]),(67,.row 88 2 (v3.map aj))]⟩
def mO (x0:Linear) (s1:Int×Int×(List ak)):AS:=⟨100,[(6,.hptr 6 0),(7,.hptr 7 0),(11,iI s1.1),(12,iI s1.2.1)],[(6,.cells 34 [iI 0,.eslice]),(7,.cells 34 [iI x0.Const,.rslice 67]),(67,.row 88 2 (s1.2.2.map aj))]⟩
def qb (x0:Linear) (u3:Int×(List ak)):AS:=⟨100,[(6,.hptr 6 0),(7,.hptr 7 0),(11,iI u3.1)],[(6,.cells 34 [iI 0,.eslice]),(7,.cells 34 [iI x0.Const,.rslice 67]),(67,.row 88 2 (u3.2.map aj))]⟩
def mu (x0:Linear) (s1:Int×Int×(List ak)) (v4:Int×(List ak)):AS:=⟨100,[(6,.hptr 6 0),(7,.hptr 7 0),(11,iI v4.1),(12,iI s1.2.1)],[(6,.cells 34 [iI 0,.eslice]),(7,.cells 34 [iI x0.Const,.rslice 67]),(67,.row 88 2 (v4.2.map aj))]⟩
theorem kz (x0:Linear) (x1:aw) (x2:Int) (r:Linear) (H:fV x0 x1 x2=some r):bW Tryz.prog 17 [.agg [iI x0.Const,dS aj x0.Terms],.str x1,iI x2] (.agg [iI r.Const,dS aj r.Terms]):=by
 unfold fV at H;refine aX Tryz.func17 100 [.cell 6 34] ?_;refine pA 10 [r0 [.m,.m],r0 [.v,.v,.b,.m,.m],V1,V1] [.erH 7 1 57 88 2,.only [1,2,3,6,7,8,9] [3,6,7,57]] 10 [] (mv x0 x1 x2 0 (false,[])) aN ?_;refine aP H fun R0 h0 H0 => ?_;refine pJ 1 (qa x0 x1 x2) R0 ?_ (fun u0 e0 => ?_)
 ·refine pC (mv x0 x1 x2) h0 (fun i0 s0 h1 e1 => ?_) (fun i0 s0 h2 q0 h3 h4 => ?_)
  ·have c0:=lF i0 x0.Terms.length (by omega);subst e1;exact pB 5 [r0 [.v,.v,.v,.e (nI x0.Terms.length),.e (.bool false)]] [.only [1,2,6,7,8] [6,7,57]] (qa x0 x1 x2 (s0.1,s0.2)) (aT (aC (aJ aj x0.Terms) (aB c0 aN)))
  ·have c1:=lT i0 x0.Terms.length (by omega);refine pA 11 [r0 [.v,.v,.v,.e (nI x0.Terms.length),.e (.bool true)],r0 [.v,.v,.v,.e (.dptr (aj (x0.Terms.getD i0 ⟨[],0⟩))),.v,.m,.m]] [.only [1,2,3,6,7,8,9,10] [3,6,7,10,57]] 11 [true] ⟨100,[(1,.str x1),(2,iI x2),(3,.hptr 3 0),(6,.hptr 6 0),(7,.hptr 7 0),(8,.bool s0.1),(9,nI i0),(10,.hptr 10 0)],[(3,.cells 34 [iI x0.Const,dS aj x0.Terms]),(6,.cells 34 [iI 0,.eslice]),(7,.cells 34 [iI x0.Const,.rslice 57]),(10,.cells 88 (aj (x0.Terms.getD i0 ⟨[],0⟩))),(57,.row 88 2 (s0.2.map aj))]⟩ (aT (aC (aJ aj x0.Terms) (aB c1 (aI bf x0.Terms i0 ⟨[],0⟩ aN)))) ?_;refine aP h3 fun v0 h5 H1 => ?_;refine dQ 0 (mw x0 x1 x2 i0 s0 v0) (by kernel_rfl) ?_ ?_
   ·refine aV h5 (fun c2 H2 => ?_) (fun c3 H3 => ?_)
    ·obtain rfl:=sI H2;exact pB 2 [.eqT 8 (.bool true),r0 [.v,.v,.v,.s,.s,.s,.s,.v]] [.only [1,2,3,6,7,8,9,10,35] [3,6,7,10,57]] (mw x0 x1 x2 i0 s0 (true,false)) (aB c2 (aT aN))
    ·obtain rfl:=sI H3;exact pB 2 [.eqT 8 (.bool false),r0 (V 8 [])] [.only [1,2,3,6,7,8,9,10,35] [3,6,7,10,57]] (mw x0 x1 x2 i0 s0 (false,!(Op.bytesLess ((x0.Terms.getD i0 ⟨[],0⟩).Var) x1||((x0.Terms.getD i0 ⟨[],0⟩).Var)==x1))) (aB c3 (aT aN))
   ·refine aP H1 fun v1 h6 H4 => ?_;refine dQ 0 (mQ x0 x1 x2 i0 v1) (by kernel_rfl) ?_ ?_
    ·refine aV h6 (fun c4 H5 => ?_) (fun c5 H6 => ?_)
     ·refine aG H5 fun g0 H7 => ?_;obtain rfl:=sI H7;exact pB 5 [.eqT 35 (.bool true),r0 (V 4 [.b,.b,.ap,.rwH 42 (.row 88 2 ((s0.2++[(ak.mk x1 x2)]).map aj)),.v,.m]),V1] [.ren [(3,3),(6,6),(7,7),(10,10),(42,57)],.only [1,2,3,6,7,8,9,10] [3,6,7,10,57]] (mQ x0 x1 x2 i0 (true,(s0.2++[(ak.mk x1 x2)]))) (aB c4 (bF (wD (c:=aj) gO s0.2 [(ak.mk x1 x2)] 24 (by decide) (by simpa using g0)) (aC (zO 88 2 aj s0.2 [(ak.mk x1 x2)]) aN)))
     ·obtain rfl:=sI H6;exact pB 3 [.eqT 35 (.bool false)] [.only [1,2,3,6,7,8,9,10] [3,6,7,10,57]] (mQ x0 x1 x2 i0 (v0.1,s0.2)) (aB c5 aN)
    ·refine pA 3 [.rg 0 [] (V 4 [])] [.only [1,2,3,6,7,8,9,10,47] [3,6,7,10,57]] 3 [] ⟨100,[(1,.str x1),(2,.int .i64 x2),(3,.hptr 3 0),(6,.hptr 6 0),(7,.hptr 7 0),(8,.bool v1.1),(9,.int .i64 ((i0:Nat):Int)),(10,.hptr 10 0),(47,.bool (((x0.Terms.getD i0 ⟨[],0⟩).Var)==x1))],[(3,.cells 34 [.int .i64 x0.Const,.dslice (x0.Terms.map aj)]),(6,.cells 34 [.int .i64 0,.eslice]),(7,.cells 34 [.int .i64 x0.Const,.rslice 57]),(10,.cells 88 (aj (x0.Terms.getD i0 ⟨[],0⟩))),(57,.row 88 2 (v1.2.map aj))]⟩ aN ?_;refine aP H4 fun v2 h7 H8 => ?_;refine dQ 0 (mJ x0 x1 x2 i0 v1 v2) (by kernel_rfl) ?_ ?_
     ·refine aV h7 (fun c6 H9 => ?_) (fun c7 H10 => ?_)
      ·obtain rfl:=sI H9;exact pB 5 [.eqT 47 (.bool true),r0 [.v,.v,.v,.w,.v,.m],V1] [.only [1,2,3,6,7,8,9,10] [3,6,7,10,57]] (mJ x0 x1 x2 i0 v1 (true,(aD (((x0.Terms.getD i0 ⟨[],0⟩).C)+x2)))) (aB c6 aN)
      ·obtain rfl:=sI H10;exact pB 3 [.eqT 47 (.bool false)] [.only [1,2,3,6,7,8,9,10] [3,6,7,10,57]] (mJ x0 x1 x2 i0 v1 (v1.1,((x0.Terms.getD i0 ⟨[],0⟩).C))) (aB c7 aN)
     ·refine aG H8 fun g1 H11 => ?_;refine lZ 3 1 (ps:=[(x0.Terms.map aj).length≤9223372036854775807]) (by kernel_rfl) (fun l0 => ?_);have l1:x0.Terms.length≤9223372036854775807:=by simpa only [bB,Kp] using l0
      clear l0;obtain rfl:=sI H11;exact pB 2 [r0 [.v,.v,.v,.b,.ap,.rwH 57 (.row 88 2 ((v1.2++[(ak.mk ((x0.Terms.getD i0 ⟨[],0⟩).Var) v2.2)]).map aj)),.v,.m],V3] [.only [1,2,3,6,7,8,9] [3,6,7,57]] (mv x0 x1 x2 (i0+1) (v2.1,(v1.2++[(ak.mk ((x0.Terms.getD i0 ⟨[],0⟩).Var) v2.2)]))) (bF (wD (c:=aj) gO v1.2 [(ak.mk ((x0.Terms.getD i0 ⟨[],0⟩).Var) v2.2)] 24 (by decide) (by simpa using g1)) (aC (zO 88 2 aj v1.2 [(ak.mk ((x0.Terms.getD i0 ⟨[],0⟩).Var) v2.2)]) (aH i0 aN)))
 ·subst e0;have H12:=bI H0;refine pA 3 [V2] [.only [1,2,6,7,60] [6,7,57]] 3 [] ⟨100,[(1,.str x1),(2,iI x2),(6,.hptr 6 0),(7,.hptr 7 0),(60,.bool (!u0.1))],[(6,.cells 34 [iI 0,.eslice]),(7,.cells 34 [iI x0.Const,.rslice 57]),(57,.row 88 2 (u0.2.map aj))]⟩ (aT aN) ?_;refine aP H12 fun v3 h8 H13 => ?_;refine dQ 0 (mN x0 v3) (by kernel_rfl) ?_ ?_
  ·refine aV h8 (fun c8 H14 => ?_) (fun c9 H15 => ?_)
   ·obtain rfl:=sI H14;exact pB 3 [.eqT 60 (.bool false)] [.ren [(6,6),(7,7),(57,67)],.only [6,7] [6,7,67]] (mN x0 u0.2) (aM c8 aN)
   ·refine aG H15 fun g2 H16 => ?_;obtain rfl:=sI H16;exact pB 3 [.eqT 60 (.bool true),r0 (V 4 [.b,.b,.ap,.rwH 67 (.row 88 2 ((u0.2++[(ak.mk x1 x2)]).map aj)),.v,.m])] [.only [6,7] [6,7,67]] (mN x0 (u0.2++[(ak.mk x1 x2)])) (aM c9 (bF (wD (c:=aj) gO u0.2 [(ak.mk x1 x2)] 24 (by decide) (by simpa using g2)) (aC (zO 88 2 aj u0.2 [(ak.mk x1 x2)]) aN)))
  ·refine pA 6 [.rg 0 [] [.v],.rg 0 [] [.v]] [.only [6,7,11,12] [6,7,67]] 6 [] (mO x0 (0,0,v3)) aN ?_;refine aP H13 fun R1 h9 H17 => ?_;refine pJ 1 (qb x0) R1 ?_ (fun u1 e2 => ?_)
   ·refine pV (mO x0) (by kernel_rfl) h9 (fun s1 q1 h10 h11 => ?_)
    ·refine aV h10 (fun c10 H18 => ?_) (fun c11 H19 => ?_)
     ·have c10p:=Km c10;refine aG H18 fun g3 H20 => ?_;refine aG H20 fun g4 H21 => ?_;refine pA 10 [r0 [.v,.v,.v,.e (nI s1.2.2.length),.v],.eqT 73 (.bool true),r0 (V 5 [.rl s1.2.1.toNat 1 (iI ((s1.2.2.getD s1.2.1.toNat ⟨[],0⟩).C)),.v])] [.only [6,7,11,12,82] [6,7,67]] 9 [true] ⟨100,[(6,.hptr 6 0),(7,.hptr 7 0),(11,iI s1.1),(12,iI s1.2.1),(82,.bool (((s1.2.2.getD s1.2.1.toNat ⟨[],0⟩).C) != 0))],[(6,.cells 34 [iI 0,.eslice]),(7,.cells 34 [iI x0.Const,.rslice 67]),(67,.row 88 2 (s1.2.2.map aj))]⟩ (aT (aC (aJ aj s1.2.2) (aB c10 (aC (show (0:Int)≤s1.2.1∧s1.2.1<((s1.2.2.map aj).length:Int) from by rw [Kp];exact g3) (aC (gR (f:=aj) (l:=s1.2.2) (n:=s1.2.1.toNat) 2 1 1 (by omega) (by decide)) (aC (sZ (f:=aj) (l:=s1.2.2) (n:=s1.2.1.toNat) ⟨[],0⟩ 1 (by omega)) aN)))))) ?_;refine aP H21 fun v4 h12 H22 => ?_;refine dQ 1 (mu x0 s1 v4) (by kernel_rfl) ?_ ?_
      ·refine aV h12 (fun c12 H23 => ?_) (fun c13 H24 => ?_)
       ·obtain rfl:=sI H23;exact pB 3 [.eqT 82 (.bool false)] [.only [6,7,11,12] [6,7,67]] (mu x0 s1 (s1.1,s1.2.2)) (aM c12 aN)
       ·refine aG H24 fun g5 H25 => ?_;refine aG H25 fun g6 H26 => ?_;obtain rfl:=sI H26;exact pB 5 [.eqT 82 (.bool true),.rg 8 (V 7 [.rl s1.2.1.toNat 0 (.agg (aj (s1.2.2.getD s1.2.1.toNat ⟨[],0⟩)))]) [.v,.rs s1.1.toNat 0,.rwH 67 (.row 88 2 ((s1.2.2.set s1.1.toNat (ak.mk ((s1.2.2.getD s1.2.1.toNat ⟨[],0⟩).Var) ((s1.2.2.getD s1.2.1.toNat ⟨[],0⟩).C))).map aj))],r0 [.v,.w,.v]] [.only [6,7,11,12] [6,7,67]] (mu x0 s1 ((aD (s1.1+1)),(s1.2.2.set s1.1.toNat (ak.mk ((s1.2.2.getD s1.2.1.toNat ⟨[],0⟩).Var) ((s1.2.2.getD s1.2.1.toNat ⟨[],0⟩).C))))) (aM c13 (aC (show (0:Int)≤s1.2.1∧s1.2.1<((s1.2.2.map aj).length:Int) from by rw [Kp];exact g3) (aC (gR (f:=aj) (l:=s1.2.2) (n:=s1.2.1.toNat) 2 0 2 (by omega) (by decide)) (aC (Ew (f:=aj) (l:=s1.2.2) (n:=s1.2.1.toNat) ⟨[],0⟩ 0 2 (by omega)) (aC (show (0:Int)≤s1.1∧s1.1<((s1.2.2.map aj).length:Int) from by rw [Kp];exact g5) (aC (gR (f:=aj) (l:=s1.2.2) (n:=s1.1.toNat) 2 0 2 (by omega) (by decide)) (aC (r7 (f:=aj) 88 2 s1.2.2 s1.1.toNat ⟨[],0⟩ (ak.mk ((s1.2.2.getD s1.2.1.toNat ⟨[],0⟩).Var) ((s1.2.2.getD s1.2.1.toNat ⟨[],0⟩).C)) 0 (aj (s1.2.2.getD s1.2.1.toNat ⟨[],0⟩)) (by omega) rfl) aN)))))))
      ·obtain rfl:=sI H22;exact pB 1 [r0 [.v,.w,.v]] [.only [6,7,11,12] [6,7,67]] (mO x0 (v4.1,(aD (s1.2.1+1)),v4.2)) aN
     ·obtain rfl:=sI H19;obtain rfl:=iL h11;exact pB 6 [r0 [.v,.v,.v,.e (nI s1.2.2.length),.v],.eqT 73 (.bool false)] [.only [6,7,11] [6,7,67]] (qb x0 (s1.1,s1.2.2)) (aT (aC (aJ aj s1.2.2) (aB c11 aN)))
   ·subst e2;have H27:=bI H17;refine aG H27 fun g7 H28 => ?_;obtain rfl:=sI H28;exact pR 5 [r0 [.v,.v,.v,.fz 67,.e (.dslice ((u1.2.take u1.1.toNat).map aj)),.v,.m],r0 [.v,.m]] [] [] (aC (show ((0:Int)≤0∧0≤u1.1∧u1.1≤((u1.2.map aj).length:Int))∧UL 2 (u1.2.map aj) from ⟨by first | omega | (simp only [Kp];omega),UL.map bf _⟩) (aC (FO aj u1.2 u1.1.toNat) aN))
def fF (x0 x1 x2:Int):Option Linear :=
 (uI x2).bind fun y0 =>
 (fV y0 [110] x0).bind fun y1 =>
 (fV y1 [109] x1).bind fun y2 =>
 some y2
theorem lY (x0 x1 x2:Int) (r:Linear) (H:fF x0 x1 x2=some r):bW Tryz.prog 21 [iI x0,iI x1,iI x2] (.agg [iI r.Const,dS aj r.Terms]):=by unfold fF at H;refine aX Tryz.func21 13 [.cell 6 34] ?_;refine aP H fun y0 h0 H0 => ?_;refine aP H0 fun y1 h1 H1 => ?_;refine aP H1 fun y2 h2 H2 => ?_;refine cK H2 fun e0 => ?_;subst e0;exact pR 5 [r0 [.m],r0 [.v,.c true (.agg [iI y0.Const,dS aj y0.Terms]),.v,.c true (.agg [iI y1.Const,dS aj y1.Terms]),.v,.c true (.agg [iI y2.Const,dS aj y2.Terms]),.m]] [] [] (aC Tryz.call49 (aF (Cc _ _ h0) (aC Tryz.call17 (aF (kz _ _ _ _ h1) (aC Tryz.call17 (aF (kz _ _ _ _ h2) aN))))))
def ct (x0 x1:aw):Option Bool :=
 bif decide (((x0.length:Nat):Int)≥((x1.length:Nat):Int)) then (
  bH (x1.length≤x0.length) <|
  some ((x0.take x1.length)==x1)
 ) else (
  some false
 )
theorem iV (x0 x1:aw) (r:Bool) (H:ct x0 x1=some r):bW Tryz.prog 123 [.str x0,.str x1] (.bool r):=by
 unfold ct at H;refine aX Tryz.func123 18 [.tmp 4] ?_;refine aV H (fun c0 H0 => ?_) (fun c1 H1 => ?_)
 ·have c0p:=Km c0;refine aG H0 fun g0 H2 => ?_;obtain rfl:=sI H2;exact pR 5 [V1,r0 (V 4 [.e (.bool true),.v,.v,.v,.v,.e (.str (x0.take x1.length)),.v,.v,.v,.v])] [] [] (aT (aT (aB c0 (aT (aC (show (0:Int)≤0∧0≤((x1.length:Nat):Int)∧((x1.length:Nat):Int)≤(x0.length:Int) from by omega) (aC (Hb x0 x1.length) aN))))))
 ·obtain rfl:=sI H1;exact pR 5 [V1,r0 (V 4 [.e (.bool false),.v,.s,.s,.s,.s,.s,.s,.v,.v])] [] [] (aT (aT (aB c1 aN)))
def dj (x0 x1:aw):Option Bool :=
 (ct x0 x1).bind fun y0 =>
 some y0
theorem eP (x0 x1:aw) (r:Bool) (H:dj x0 x1=some r):bW Tryz.prog 88 [.str x0,.str x1] (.bool r):=by unfold dj at H;refine aX Tryz.func88 8 [.tmp 4] ?_;refine aP H fun y0 h0 H0 => ?_;refine cK H0 fun e0 => ?_;subst e0;exact pR 5 [V1,r0 [.v,.v,.c true (.bool y0),.v]] [] [] (aC Tryz.call123 (aF (iV _ _ _ h0) aN))
def jT (x0:aw):Option Bool :=
 (dj x0 [95]).bind fun y0 =>
 bif y0 then (
  bH (1≤x0.length) <|
  (lC (x0.drop 1)).bind fun y1 =>
  bif y1.2 then (
   bif decide (y1.1>0) then (
    bif decide (((x0.length:Nat):Int)≤10) then (
     (gM y1.1).bind fun y2 =>
     some (y2==(x0.drop 1))
    ) else (
     some false
    )
   ) else (
    some false
   )
  ) else (
   some false
  )
 ) else (
  (dZ (σ:=Unit) (ε:=Unit) (ρ:=Bool) (fun i0 s0 =>
   ((
    bif decide ((((x0.getD i0 0)).toNat:Int)<97) then (
     bif (((i0:Nat):Int)==0) then (
      some (.ret (.ret false))
     ) else (
      bif decide ((((x0.getD i0 0)).toNat:Int)<48) then (
       some (.ret (.ret false))
      ) else (
       bif decide ((((x0.getD i0 0)).toNat:Int)>57) then (
        some (.ret (.ret false))
       ) else (
        some (.brk ())
       )
      )
     )
    ) else (
     bif decide ((((x0.getD i0 0)).toNat:Int)>122) then (
      bif (((i0:Nat):Int)==0) then (
       some (.ret (.ret false))
      ) else (
       bif decide ((((x0.getD i0 0)).toNat:Int)<48) then (
        some (.ret (.ret false))
       ) else (
        bif decide ((((x0.getD i0 0)).toNat:Int)>57) then (
         some (.ret (.ret false))
        ) else (
         some (.brk ())
        )
       )
      )
     ) else (
      some (.brk ())
     )
    )
   ):Option (Out Unit (fX Unit Unit Bool))).bind (aft fun u0 =>
    some (.go ())
   )
  ) (fun i0 s0=>()) (x0.length-0) 0 ()).bind <| aft fun u1 =>
  bif (x0==[]) then (
   some false
  ) else (
   some (decide (((x0.length:Nat):Int)≤30))
  )
 )
def kY (x0:aw) (i0:Nat) (s0:Unit):AS:=⟨67,[(0,.str x0),(2,.bool false),(34,dS uJ x0),(35,nI x0.length),(36,nI i0)],[]⟩
def oT (x0:aw) (u2:Unit):AS:=⟨67,[(0,.str x0),(2,.bool false)],[]⟩
def iU (x0:aw) (i0:Nat) (u0:Unit):AS:=⟨67,[(0,.str x0),(2,.bool false),(34,dS uJ x0),(35,nI x0.length),(36,nI i0)],[]⟩
theorem gI (x0:aw) (r:Bool) (H:jT x0=some r):bW Tryz.prog 83 [.str x0] (.bool r):=by
 unfold jT at H;refine aX Tryz.func83 67 [.tmp 2] ?_;refine aP H fun y0 h0 H0 => ?_;refine aV H0 (fun c0 H1 => ?_) (fun c1 H2 => ?_)
 ·refine aG H1 fun g0 H3 => ?_;refine aP H3 fun y1 h1 H4 => ?_;refine pA 10 [V1,r0 [.v,.c true (.bool y0)],.eqT 8 (.bool true),r0 [.v,.e (.str (x0.drop 1)),.cf true (.tup [iI y1.1,wo 190 y1.2]),.v,.v,.v,.v,.v]] [.only [0,2,3,4] []] 9 [true] ⟨67,[(0,.str x0),(2,.bool false),(3,iI y1.1),(4,wo 190 y1.2)],[]⟩ (aC Tryz.call88 (aF (eP _ _ _ h0) (aB c0 (aC (show (0:Int)≤1∧1≤(x0.length:Int)∧(x0.length:Int)≤(x0.length:Int) from by omega) (aC (yt x0 1) (aC Tryz.call89 (aF (uA (x0.drop 1) y1 h1) (aC (show uf true (.tup [iI y1.1,wo 190 y1.2])=true from by cases h2:y1.2<;>rfl) aN)))))))) ?_;refine aV H4 (fun c2 H5 => ?_) (fun c3 H6 => ?_)
  ·refine aV H5 (fun c4 H7 => ?_) (fun c5 H8 => ?_)
   ·have c4p:=Km c4;refine aV H7 (fun c6 H9 => ?_) (fun c7 H10 => ?_)
    ·have c6p:=Km c6;refine aP H9 fun y2 h3 H11 => ?_;obtain rfl:=sI H11;exact pR 3 [.eqT 4 (.nilI),.rg 16 (V 4 [.e (.bool true),.v,.v,.v,.v,.e (.bool true),.v,.v,.v,.c true (.str y2),.v,.e (.str (x0.drop 1))]) [.v,.v,.v]] [] [] (aC (congrArg (wo 190) c2) (aB c4 (aT (aB c6 (aC Tryz.call94 (aF (vY y1.1 y2 h3) (aC (show (0:Int)≤1∧1≤(x0.length:Int)∧(x0.length:Int)≤(x0.length:Int) from by omega) (aC (yt x0 1) aN))))))))
    ·obtain rfl:=sI H10;exact pR 3 [.eqT 4 (.nilI),.rg 16 (V 4 [.e (.bool true),.v,.v,.v,.v,.e (.bool false),.v,.v,.s,.s,.s,.s]) [.s,.v,.v]] [] [] (aC (congrArg (wo 190) c2) (aB c4 (aT (aB c7 aN))))
   ·obtain rfl:=sI H8;exact pR 3 [.eqT 4 (.nilI),.rg 16 (V 4 [.e (.bool false),.v,.v,.s,.s,.s,.v,.v,.s,.s,.s,.s]) [.s,.v,.v]] [] [] (aC (congrArg (wo 190) c2) (aB c5 aN))
  ·obtain rfl:=sI H6;exact pR 3 [.eqT 4 (.iface 190 (.any)),.rg 16 [.v,.v,.v,.s,.s,.v,.v,.s,.s,.s,.v,.v,.s,.s,.s,.s] [.s,.v,.v]] [] [] (aC (congrArg (wo 190) c3) aN)
 ·refine pA 12 [.rg 0 [] [.v],.rg 0 [] [.v,.c true (.bool y0)],.eqT 8 (.bool false),.rg 0 [] [.v,.m,.e (.int .i64 ((x0.length:Nat):Int)),.v]] [.only [0,2,34,35,36] []] 11 [false] (kY x0 0 ()) (aC Tryz.call88 (aF (eP _ _ _ h0) (aB c1 (aT (aC (aJ uJ x0) aN))))) ?_;refine aP H2 fun R0 h4 H12 => ?_;refine pJ 1 (oT x0) R0 ?_ (fun u1 e0 => ?_)
  ·refine pC (kY x0) h4 (fun i0 s0 h5 e1 => ?_) (fun i0 s0 h6 q0 h7 h8 => ?_)
   ·have c8:=lF i0 x0.length (by omega);subst e1;exact pB 5 [r0 [.e (.bool false)]] [.only [0,2] []] (oT x0 ()) (aB c8 aN)
   ·have c9:=lT i0 x0.length (by omega);refine pA 10 [r0 [.e (.bool true)],r0 [.v,.e (.dptr [.int .u8 (((x0.getD i0 0)).toNat:Int)]),.v,.v,.v]] [.only [0,2,5,6,34,35,36] []] 10 [true] ⟨67,[(0,.str x0),(2,.bool false),(5,nI i0),(6,.int .u8 (((x0.getD i0 0)).toNat:Int)),(34,dS uJ x0),(35,nI x0.length),(36,nI i0)],[]⟩ (aB c9 (aI Eo x0 i0 0 aN)) ?_;refine aP h7 fun v0 h9 H13 => ?_;refine pJ 2 (iU x0 i0) v0 ?_ (fun u0 e2 => ?_)
    ·refine aV h9 (fun c10 H14 => ?_) (fun c11 H15 => ?_)
     ·refine aV H14 (fun c12 H16 => ?_) (fun c13 H17 => ?_)
      ·obtain rfl:=sI H16;obtain rfl:=sI (aA H13);obtain rfl:=aR h8;obtain rfl:=sI (aA H12);exact pR 5 [r0 [.v,.e (.bool true),.v,.s,.s,.v,.v,.v,.e (.bool true),.v,.s,.s,.v,.v,.s,.s,.v,.v],V1] [] [] (aB c10 (aB c12 aN))
      ·refine aV H17 (fun c14 H18 => ?_) (fun c15 H19 => ?_)
       ·obtain rfl:=sI H18;obtain rfl:=sI (aA H13);obtain rfl:=aR h8;obtain rfl:=sI (aA H12);exact pR 5 [r0 [.v,.e (.bool true),.v,.s,.s,.v,.v,.v,.e (.bool false),.v,.v,.e (.bool true),.v,.v,.s,.s,.v,.v],V1] [] [] (aB c10 (aB c13 (aB c14 aN)))
       ·refine aV H19 (fun c16 H20 => ?_) (fun c17 H21 => ?_)
        ·obtain rfl:=sI H20;obtain rfl:=sI (aA H13);obtain rfl:=aR h8;obtain rfl:=sI (aA H12);exact pR 6 [r0 [.v,.e (.bool true),.v,.s,.s,.v,.v,.v,.e (.bool false),.v,.v,.e (.bool false),.v,.v,.v,.v,.v,.v],.eqT 58 (.bool true),V1] [] [] (aB c10 (aB c13 (aB c15 (aB c16 aN))))
        ·obtain rfl:=sI H21;exact pB 4 [r0 [.v,.e (.bool true),.v,.s,.s,.v,.v,.v,.e (.bool false),.v,.v,.e (.bool false),.v,.v,.v,.v,.v,.v],.eqT 58 (.bool false)] [.only [0,2,34,35,36] []] (iU x0 i0 ()) (aB c10 (aB c13 (aB c15 (aB c17 aN))))
     ·refine aV H15 (fun c18 H22 => ?_) (fun c19 H23 => ?_)
      ·refine aV H22 (fun c20 H24 => ?_) (fun c21 H25 => ?_)
       ·obtain rfl:=sI H24;obtain rfl:=sI (aA H13);obtain rfl:=aR h8;obtain rfl:=sI (aA H12);exact pR 5 [r0 [.v,.e (.bool false),.v,.v,.e (.bool true),.v,.v,.v,.e (.bool true),.v,.s,.s,.v,.v,.s,.s,.v,.v],V1] [] [] (aB c11 (aB c18 (aB c20 aN)))
       ·refine aV H25 (fun c22 H26 => ?_) (fun c23 H27 => ?_)
        ·obtain rfl:=sI H26;obtain rfl:=sI (aA H13);obtain rfl:=aR h8;obtain rfl:=sI (aA H12);exact pR 5 [r0 [.v,.e (.bool false),.v,.v,.e (.bool true),.v,.v,.v,.e (.bool false),.v,.v,.e (.bool true),.v,.v,.s,.s,.v,.v],V1] [] [] (aB c11 (aB c18 (aB c21 (aB c22 aN))))
        ·refine aV H27 (fun c24 H28 => ?_) (fun c25 H29 => ?_)
         ·obtain rfl:=sI H28;obtain rfl:=sI (aA H13);obtain rfl:=aR h8;obtain rfl:=sI (aA H12);exact pR 6 [r0 [.v,.e (.bool false),.v,.v,.e (.bool true),.v,.v,.v,.e (.bool false),.v,.v,.e (.bool false),.v,.v,.v,.v,.v,.v],.eqT 58 (.bool true),V1] [] [] (aB c11 (aB c18 (aB c21 (aB c23 (aB c24 aN)))))
         ·obtain rfl:=sI H29;exact pB 4 [r0 [.v,.e (.bool false),.v,.v,.e (.bool true),.v,.v,.v,.e (.bool false),.v,.v,.e (.bool false),.v,.v,.v,.v,.v,.v],.eqT 58 (.bool false)] [.only [0,2,34,35,36] []] (iU x0 i0 ()) (aB c11 (aB c18 (aB c21 (aB c23 (aB c25 aN)))))
      ·obtain rfl:=sI H23;exact pB 3 [r0 [.v,.e (.bool false),.v,.v,.e (.bool false),.v,.v,.s,.s,.s,.s,.s,.s,.s,.s,.s,.s,.v]] [.only [0,2,34,35,36] []] (iU x0 i0 ()) (aB c11 (aB c19 aN))
    ·subst e2;have H30:=bp H13;refine b7 0 (ps:=[x0.length≤9223372036854775807]) (by kernel_rfl) (fun l0 => ?_);have l1:x0.length≤9223372036854775807:=by simpa only [bB,Kp] using l0
     clear l0;obtain rfl:=sI H30;exact pB 1 [V2] [.only [0,2,34,35,36] []] (kY x0 (i0+1) ()) (aH i0 aN)
  ·subst e0;have H31:=bp H12;refine aV H31 (fun c26 H32 => ?_) (fun c27 H33 => ?_)
   ·obtain rfl:=sI H32;exact pR 3 [r0 [.v,.e (.bool false),.v,.s,.s,.s,.v,.v]] [] [] (aM c26 aN)
   ·obtain rfl:=sI H33;exact pR 3 [r0 [.v,.e (.bool true),.v,.v,.v,.v,.v,.v]] [] [] (aM c27 (aT aN))
def kB (x0:Int):Option Bool :=
 bif decide (x0≥(-1000000)) then (
  some (decide (x0≤1000000))
 ) else (
  some false
 )
theorem ka (x0:Int) (r:Bool) (H:kB x0=some r):bW Tryz.prog 84 [iI x0] (.bool r):=by
 unfold kB at H;refine aX Tryz.func84 9 [.tmp 2] ?_;refine aV H (fun c0 H0 => ?_) (fun c1 H1 => ?_)
 ·obtain rfl:=sI H0;exact pR 5 [V1,r0 [.v,.e (.bool true),.v,.v,.v,.v,.v]] [] [] (aB c0 aN)
 ·obtain rfl:=sI H1;exact pR 5 [V1,r0 [.v,.e (.bool false),.v,.s,.s,.v,.v]] [] [] (aB c1 aN)
def bV (x0:Linear):Option Bool :=
 (dZ (σ:=Unit) (ε:=Unit) (ρ:=Bool) (fun i0 s0 =>
  (jT ((x0.Terms.getD i0 ⟨[],0⟩).Var)).bind fun y0 =>
  ((
   bif y0 then (
    bif (((x0.Terms.getD i0 ⟨[],0⟩).C)==0) then (
     some (.ret (.ret false))
    ) else (
     (kB ((x0.Terms.getD i0 ⟨[],0⟩).C)).bind fun y1 =>
     bif y1 then (
      bif decide (((i0:Nat):Int)>0) then (
       bH (0≤(aD (((i0:Nat):Int)-1))∧(aD (((i0:Nat):Int)-1))<(x0.Terms.length:Int)) <|
       bif (Op.bytesLess ((x0.Terms.getD (aD (((i0:Nat):Int)-1)).toNat ⟨[],0⟩).Var) ((x0.Terms.getD i0 ⟨[],0⟩).Var)) then (
        some (.brk ())
       ) else (
        some (.ret (.ret false))
       )
      ) else (
       some (.brk ())
      )
     ) else (
      some (.ret (.ret false))
     )
    )
   ) else (
    some (.ret (.ret false))
   )
  ):Option (Out Unit (fX Unit Unit Bool))).bind (aft fun u0 =>
   some (.go ())
  )
 ) (fun i0 s0=>()) (x0.Terms.length-0) 0 ()).bind <| aft fun u1 =>
 (kB x0.Const).bind fun y2 =>
 bif y2 then (
  some (decide (((x0.Terms.length:Nat):Int)≤12))
 ) else (
  some false
 )
def kl (x0:Linear) (i0:Nat) (s0:Unit):AS:=⟨54,[(1,.hptr 1 0),(2,.bool false),(6,dS aj x0.Terms),(7,nI x0.Terms.length),(8,nI i0)],[(1,.cells 34 [iI x0.Const,dS aj x0.Terms])]⟩
def oa (x0:Linear) (u2:Unit):AS:=⟨54,[(1,.hptr 1 0),(2,.bool false)],[(1,.cells 34 [iI x0.Const,dS aj x0.Terms])]⟩
def km (x0:Linear) (i0:Nat) (u0:Unit):AS:=⟨54,[(1,.hptr 1 0),(2,.bool false),(6,dS aj x0.Terms),(7,nI x0.Terms.length),(8,nI i0)],[(1,.cells 34 [iI x0.Const,dS aj x0.Terms])]⟩
theorem bO (x0:Linear) (r:Bool) (H:bV x0=some r):bW Tryz.prog 50 [.agg [iI x0.Const,dS aj x0.Terms]] (.bool r):=by
 unfold bV at H;refine aX Tryz.func50 54 [.tmp 2] ?_;refine pA 6 [r0 [.m,.v],r0 [.v,.v,.e (nI x0.Terms.length),.v]] [.only [1,2,6,7,8] [1]] 6 [] (kl x0 0 ()) (aT (aC (aJ aj x0.Terms) aN)) ?_;refine aP H fun R0 h0 H0 => ?_;refine pJ 1 (oa x0) R0 ?_ (fun u1 e0 => ?_)
 ·refine pC (kl x0) h0 (fun i0 s0 h1 e1 => ?_) (fun i0 s0 h2 q0 h3 h4 => ?_)
  ·have c0:=lF i0 x0.Terms.length (by omega);subst e1;exact pB 5 [r0 [.e (.bool false)]] [.only [1,2] [1]] (oa x0 ()) (aB c0 aN)
  ·have c1:=lT i0 x0.Terms.length (by omega);refine aP h3 fun y0 h5 H1 => ?_;refine pA 10 [r0 [.e (.bool true)],r0 [.v,.e (.dptr (aj (x0.Terms.getD i0 ⟨[],0⟩))),.v,.m,.v,.m]] [.only [1,2,3,4,6,7,8] [1,4]] 10 [true] ⟨54,[(1,.hptr 1 0),(2,.bool false),(3,nI i0),(4,.hptr 4 0),(6,dS aj x0.Terms),(7,nI x0.Terms.length),(8,nI i0)],[(1,.cells 34 [iI x0.Const,dS aj x0.Terms]),(4,.cells 88 (aj (x0.Terms.getD i0 ⟨[],0⟩)))]⟩ (aB c1 (aI bf x0.Terms i0 ⟨[],0⟩ aN)) ?_;refine aP H1 fun v0 h6 H2 => ?_;refine pJ 2 (km x0 i0) v0 ?_ (fun u0 e2 => ?_)
   ·refine aV h6 (fun c2 H3 => ?_) (fun c3 H4 => ?_)
    ·refine aV H3 (fun c4 H5 => ?_) (fun c5 H6 => ?_)
     ·obtain rfl:=sI H5;obtain rfl:=sI (aA H2);obtain rfl:=aR h4;obtain rfl:=sI (aA H0);exact pR 5 [.rg 28 [.v,.v,.c true (.bool true),.v,.v,.v,.v,.e (.bool true),.v,.v,.s,.s,.s,.s,.v,.v,.s,.s,.s,.s,.s,.s,.s,.s,.s,.s,.s,.s] [.s,.s,.v],V1] [] [] (aC Tryz.call83 (aC (bW.eq (gI _ _ h5) (cB c2)) (aT (aB c4 aN))))
     ·refine aP H6 fun y1 h7 H7 => ?_;refine aV H7 (fun c6 H8 => ?_) (fun c7 H9 => ?_)
      ·refine aV H8 (fun c8 H10 => ?_) (fun c9 H11 => ?_)
       ·refine aG H10 fun g0 H12 => ?_;refine pA 1 [.rg 28 [.v,.v,.c true (.bool true),.v,.v,.v,.v,.e (.bool false),.v,.v,.v,.v,.c true (.bool true),.v,.v,.v,.v,.e (.bool true),.v,.v,.v,.v,.w,.e (.dptr (aj (x0.Terms.getD (aD (((i0:Nat):Int)-1)).toNat ⟨[],0⟩))),.v,.v,.v,.v] [.v,.v,.v]] [.only [1,2,6,7,8,43] [1]] 1 [] ⟨54,[(1,.hptr 1 0),(2,.bool false),(6,dS aj x0.Terms),(7,nI x0.Terms.length),(8,nI i0),(43,.bool (!(Op.bytesLess ((x0.Terms.getD (aD (((i0:Nat):Int)-1)).toNat ⟨[],0⟩).Var) ((x0.Terms.getD i0 ⟨[],0⟩).Var))))],[(1,.cells 34 [iI x0.Const,dS aj x0.Terms])]⟩ (aC Tryz.call83 (aC (bW.eq (gI _ _ h5) (cB c2)) (aT (aB c5 (aC Tryz.call84 (aC (bW.eq (ka _ _ h7) (cB c6)) (aT (aB c8 (bF (GI (f:=aj) (l:=x0.Terms) (n:=(aD (((i0:Nat):Int)-1))) ⟨[],0⟩ bf (by decide) (by exact g0)) aN))))))))) ?_;refine aV H12 (fun c10 H13 => ?_) (fun c11 H14 => ?_)
        ·obtain rfl:=sI H13;exact pB 3 [.eqT 43 (.bool false)] [.only [1,2,6,7,8] [1]] (km x0 i0 ()) (aM c10 aN)
        ·obtain rfl:=sI H14;obtain rfl:=sI (aA H2);obtain rfl:=aR h4;obtain rfl:=sI (aA H0);exact pR 5 [.eqT 43 (.bool true),V1] [] [] (aM c11 aN)
       ·obtain rfl:=sI H11;exact pB 3 [.rg 28 [.v,.v,.c true (.bool true),.v,.v,.v,.v,.e (.bool false),.v,.v,.v,.v,.c true (.bool true),.v,.v,.v,.v,.e (.bool false),.v,.s,.s,.s,.s,.s,.s,.s,.s,.s] [.s,.v,.v]] [.only [1,2,6,7,8] [1]] (km x0 i0 ()) (aC Tryz.call83 (aC (bW.eq (gI _ _ h5) (cB c2)) (aT (aB c5 (aC Tryz.call84 (aC (bW.eq (ka _ _ h7) (cB c6)) (aT (aB c9 aN))))))))
      ·obtain rfl:=sI H9;obtain rfl:=sI (aA H2);obtain rfl:=aR h4;obtain rfl:=sI (aA H0);exact pR 5 [.rg 28 [.v,.v,.c true (.bool true),.v,.v,.v,.v,.e (.bool false),.v,.v,.v,.v,.c true (.bool false),.v,.v,.v,.s,.s,.s,.s,.s,.s,.s,.s,.s,.s,.s,.s] [.s,.s,.v],V1] [] [] (aC Tryz.call83 (aC (bW.eq (gI _ _ h5) (cB c2)) (aT (aB c5 (aC Tryz.call84 (aC (bW.eq (ka _ _ h7) (cB c7)) (aT aN)))))))
    ·obtain rfl:=sI H4;obtain rfl:=sI (aA H2);obtain rfl:=aR h4;obtain rfl:=sI (aA H0);exact pR 5 [.rg 28 [.v,.v,.c true (.bool false),.v,.v,.s,.s,.s,.v,.v,.s,.s,.s,.s,.v,.v,.s,.s,.s,.s,.s,.s,.s,.s,.s,.s,.s,.s] [.s,.s,.v],V1] [] [] (aC Tryz.call83 (aC (bW.eq (gI _ _ h5) (cB c3)) (aT aN)))
   ·subst e2;have H15:=bp H2;refine b7 6 (ps:=[(x0.Terms.map aj).length≤9223372036854775807]) (by kernel_rfl) (fun l0 => ?_);have l1:x0.Terms.length≤9223372036854775807:=by simpa only [bB,Kp] using l0
    clear l0;obtain rfl:=sI H15;exact pB 1 [V2] [.only [1,2,6,7,8] [1]] (kl x0 (i0+1) ()) (aH i0 aN)
 ·subst e0;have H16:=bp H0;refine aP H16 fun y2 h8 H17 => ?_;refine aV H17 (fun c12 H18 => ?_) (fun c13 H19 => ?_)
  ·obtain rfl:=sI H18;exact pR 3 [r0 [.v,.v,.c true (.bool true),.v,.v,.v,.e (nI x0.Terms.length),.v,.v,.v]] [] [] (aC Tryz.call84 (aC (bW.eq (ka _ _ h8) (cB c12)) (aT (aC (aJ aj x0.Terms) aN))))
  ·obtain rfl:=sI H19;exact pR 3 [r0 [.v,.v,.c true (.bool false),.v,.s,.s,.s,.s,.v,.v]] [] [] (aC Tryz.call84 (aC (bW.eq (ka _ _ h8) (cB c13)) aN))
def fQ (x0:Linear):Option Bool :=
 (bV x0).bind fun y0 =>
 some (!y0)
theorem pQ (x0:Linear) (r:Bool) (H:fQ x0=some r):bW Tryz.prog 55 [.agg [iI x0.Const,dS aj x0.Terms]] (.bool r):=by unfold fQ at H;refine aX Tryz.func55 6 [.tmp 2] ?_;refine aP H fun y0 h0 H0 => ?_;obtain rfl:=sI H0;exact pR 5 [r0 [.m,.v],r0 [.v,.c true (.bool y0),.v,.v]] [] [] (aC Tryz.call50 (aF (bO _ _ h0) (aT aN)))
def ca (x0:List Linear):Option Int :=
 (dZ (σ:=Unit) (ε:=Unit) (ρ:=Int) (fun i0 s0 =>
  (fQ (Linear.mk ((x0.getD i0 ⟨0,[]⟩).Const) ((x0.getD i0 ⟨0,[]⟩).Terms))).bind fun y0 =>
  bif y0 then (
   some (.ret ((i0:Nat):Int))
  ) else (
   some (.go ())
  )
 ) (fun i0 s0=>()) (x0.length-0) 0 ()).bind <| aft fun u0 =>
 some (-1)
def cW (x0:List Linear) (i0:Nat) (s0:Unit):AS:=⟨19,[(0,dS ai x0),(1,.fn 55 []),(4,iI 0),(7,nI x0.length),(8,nI i0)],[]⟩
def fe (u1:Unit):AS:=⟨19,[(4,iI 0)],[]⟩
theorem jQ (x0:List Linear) (r:Int) (H:ca x0=some r):bW Tryz.prog 87 [dS ai x0,.fn 55 []] (iI r):=by
 unfold ca at H;refine aX Tryz.func87 19 [.tmp 4] ?_;refine pA 6 [V1,r0 [.v,.e (nI x0.length),.v]] [.only [0,1,4,7,8] []] 6 [] (cW x0 0 ()) (aT (aC (aJ ai x0) aN)) ?_;refine aP H fun R0 h0 H0 => ?_;refine pJ 1 (fe) R0 ?_ (fun u0 e0 => ?_)
 ·refine pC (cW x0) h0 (fun i0 s0 h1 e1 => ?_) (fun i0 s0 h2 q0 h3 h4 => ?_)
  ·have c0:=lF i0 x0.length (by omega);subst e1;exact pB 5 [r0 [.e (.bool false)]] [.only [4] []] (fe ()) (aB c0 aN)
  ·have c1:=lT i0 x0.length (by omega);refine aP h3 fun y0 h5 H1 => ?_;refine pA 11 [r0 [.e (.bool true)],V2,r0 [.v,.v,.v,.e (.dptr (ai (x0.getD i0 ⟨0,[]⟩))),.v,.c true (.bool y0)]] [.only [0,1,4,5,7,8,16] []] 11 [true] ⟨19,[(0,dS ai x0),(1,.fn 55 []),(4,iI 0),(5,nI i0),(7,nI x0.length),(8,nI i0),(16,.bool y0)],[]⟩ (aB c1 (aI a8 x0 i0 ⟨0,[]⟩ (aC Tryz.call55 (aF (pQ _ _ h5) aN)))) ?_;refine aV H1 (fun c2 H2 => ?_) (fun c3 H3 => ?_)
   ·obtain rfl:=sI H2;obtain rfl:=aR h4;obtain rfl:=sI (aA H0);exact pR 5 [.eqT 16 (.bool true),V2] [] [] (aB c2 aN)
   ·refine b7 0 (ps:=[(x0.map ai).length≤9223372036854775807]) (by kernel_rfl) (fun l0 => ?_);have l1:x0.length≤9223372036854775807:=by simpa only [bB,Kp] using l0
    clear l0;obtain rfl:=sI H3;exact pB 4 [.eqT 16 (.bool false),V2] [.only [0,1,4,7,8] []] (cW x0 (i0+1) ()) (aB c3 (aH i0 aN))
 ·subst e0;have H4:=bp H0;obtain rfl:=sI H4;exact pR 3 [V1] [] [] aN
def cz (x0:List Linear):Option Bool :=
 (ca x0).bind fun y0 =>
 some (decide (y0≥0))
theorem iS (x0:List Linear) (r:Bool) (H:cz x0=some r):bW Tryz.prog 54 [dS ai x0,.fn 55 []] (.bool r):=by unfold cz at H;refine aX Tryz.func54 9 [.tmp 4] ?_;refine aP H fun y0 h0 H0 => ?_;obtain rfl:=sI H0;exact pR 5 [V1,r0 [.v,.v,.c true (iI y0),.v,.v]] [] [] (aC Tryz.call87 (aF (jQ _ _ h0) aN))
def bX (x0:List Linear):Option Bool :=
 (cz x0).bind fun y0 =>
 some (!y0)
theorem aW (x0:List Linear) (r:Bool) (H:bX x0=some r):bW Tryz.prog 27 [dS ai x0] (.bool r):=by unfold bX at H;refine aX Tryz.func27 6 [.tmp 2] ?_;refine aP H fun y0 h0 H0 => ?_;obtain rfl:=sI H0;exact pR 5 [V1,r0 [.v,.c true (.bool y0),.v,.v]] [] [] (aC Tryz.call54 (aF (iS _ _ h0) (aT aN)))
def iE (x0:Linear):Option (List aw) :=
 (dZ (σ:=(List aw)) (ε:=(List aw)) (ρ:=Empty) (fun i0 s0 =>
  bH ((s0.length+1)*16≤140737488355328) <|
  some (.go (s0++[((x0.Terms.getD i0 ⟨[],0⟩).Var)]))
 ) (fun i0 s0=>s0) (x0.Terms.length-0) 0 []).bind <| dG fun u0 =>
 some u0
def lO (x0:Linear) (i0:Nat) (s0:List aw):AS:=⟨20,[(2,.eslice),(3,.rslice 17),(7,dS aj x0.Terms),(8,nI x0.Terms.length),(9,nI i0)],[(17,.row 9 1 (s0.map bn))]⟩
def oB (u1:List aw):AS:=⟨20,[(2,.eslice),(3,.rslice 17)],[(17,.row 9 1 (u1.map bn))]⟩
theorem wO (x0:Linear) (r:List aw) (H:iE x0=some r):bW Tryz.prog 62 [.agg [iI x0.Const,dS aj x0.Terms]] (dS bn r):=by
 unfold iE at H;refine aX Tryz.func62 20 [.tmp 2] ?_;refine pA 8 [r0 [.m,.v],V1,r0 [.v,.v,.e (nI x0.Terms.length),.v]] [.er 3 17 9 1,.only [2,3,7,8,9] [17]] 8 [] (lO x0 0 []) (aT (aC (aJ aj x0.Terms) aN)) ?_;refine aP H fun R0 h0 H0 => ?_;refine pJ 1 (oB) R0 ?_ (fun u0 e0 => ?_)
 ·refine pC (lO x0) h0 (fun i0 s0 h1 e1 => ?_) (fun i0 s0 h2 q0 h3 h4 => ?_)
  ·have c0:=lF i0 x0.Terms.length (by omega);subst e1;exact pB 5 [r0 [.e (.bool false)]] [.only [2,3] [17]] (oB s0) (aB c0 aN)
  ·have c1:=lT i0 x0.Terms.length (by omega);refine aG h3 fun g0 H1 => ?_;refine b7 7 (ps:=[(x0.Terms.map aj).length≤9223372036854775807]) (by kernel_rfl) (fun l0 => ?_);have l1:x0.Terms.length≤9223372036854775807:=by simpa only [bB,Kp] using l0
   clear l0;obtain rfl:=sI H1;exact pB 11 [r0 [.e (.bool true)],r0 [.e (.dptr (aj (x0.Terms.getD i0 ⟨[],0⟩))),.v,.m,.m],r0 [.v,.v,.v,.b,.ap,.rwH 17 (.row 9 1 ((s0++[((x0.Terms.getD i0 ⟨[],0⟩).Var)]).map bn)),.v],V2] [.only [2,3,7,8,9] [17]] (lO x0 (i0+1) (s0++[((x0.Terms.getD i0 ⟨[],0⟩).Var)])) (aB c1 (aI bf x0.Terms i0 ⟨[],0⟩ (bF (wD (c:=bn) rF s0 [((x0.Terms.getD i0 ⟨[],0⟩).Var)] 16 (by decide) (by simpa using g0)) (aC (zO 9 1 bn s0 [((x0.Terms.getD i0 ⟨[],0⟩).Var)]) (aH i0 aN)))))
 ·subst e0;have H2:=bI H0;refine cK H2 fun e2 => ?_;subst e2;exact pR 3 [V2] [.fz 17] [] aN
noncomputable def bl (x0:List Linear):Option (List aw) :=
 (dZ (σ:=(List (aw×Bool))) (ε:=(List (aw×Bool))) (ρ:=Empty) (fun i0 s0 =>
  (iE (Linear.mk ((x0.getD i0 ⟨0,[]⟩).Const) ((x0.getD i0 ⟨0,[]⟩).Terms))).bind fun y0 =>
  (dZ (σ:=(List (aw×Bool))) (ε:=(List (aw×Bool))) (ρ:=Empty) (fun i1 s1 =>
   some (.go (bL (y0.getD i1 []) true s1))
  ) (fun i1 s1=>s1) (y0.length-0) 0 s0).bind <| dG fun u0 =>
  some (.go u0)
 ) (fun i0 s0=>s0) (x0.length-0) 0 []).bind <| dG fun u1 =>
 lM (σ:=(List aw)) (ε:=Empty) (β:=(List aw)) u1 (fun e0 s2 =>
  bH ((s2.length+1)*16≤140737488355328) <|
  some (.go (s2++[e0.1]))
 ) [] (fun s2 =>
  (jS s2).bind fun y1 =>
  some y1
 )
def fv (x0:List Linear) (i0:Nat) (s0:List (aw×Bool)):AS:=⟨41,[(2,.eslice),(3,.amap 10),(11,dS ai x0),(12,nI x0.length),(13,nI i0)],[(10,.smap 0 4 (s0.map (jh mg)))]⟩
def iH (u2:List (aw×Bool)):AS:=⟨41,[(2,.eslice),(3,.amap 10)],[(10,.smap 0 4 (u2.map (jh mg)))]⟩
def fk (x0:List Linear) (i0:Nat) (y0:List aw) (i1:Nat) (s1:List (aw×Bool)):AS:=⟨41,[(2,.eslice),(3,.amap 10),(11,dS ai x0),(12,nI x0.length),(13,nI i0),(18,dS bn y0),(19,nI y0.length),(20,nI i1)],[(10,.smap 0 4 (s1.map (jh mg)))]⟩
def iY (x0:List Linear) (i0:Nat) (u3:List (aw×Bool)):AS:=⟨41,[(2,.eslice),(3,.amap 10),(11,dS ai x0),(12,nI x0.length),(13,nI i0)],[(10,.smap 0 4 (u3.map (jh mg)))]⟩
def fq (u1:List (aw×Bool)) (i2:List Nat) (s2:List aw):AS:=⟨41,[(2,.eslice),(8,.rslice 37),(29,.hptr 29 0)],[(29,.iter (u1.map (jh mg)) i2),(37,.row 9 1 (s2.map bn))]⟩
theorem cU (x0:List Linear) (r:List aw) (H:bl x0=some r):bW Tryz.prog 31 [dS ai x0] (dS bn r):=by
 unfold bl at H;refine aX Tryz.func31 41 [.tmp 2] ?_;refine pA 8 [V1,r0 [.m,.v],r0 [.v,.e (nI x0.length),.v]] [.only [2,3,11,12,13] [10]] 8 [] (fv x0 0 []) (aT (aC (aJ ai x0) aN)) ?_;refine aP H fun R0 h0 H0 => ?_;refine pJ 1 (iH) R0 ?_ (fun u1 e1 => ?_)
 ·refine pC (fv x0) h0 (fun i0 s0 h1 e2 => ?_) (fun i0 s0 h2 q0 h3 h4 => ?_)
  ·have c0:=lF i0 x0.length (by omega);subst e2;exact pB 5 [r0 [.e (.bool false)]] [.only [2,3] [10]] (iH s0) (aB c0 aN)
  ·have c1:=lT i0 x0.length (by omega);refine aP h3 fun y0 h5 H1 => ?_;refine pA 12 [r0 [.e (.bool true)],r0 [.e (.dptr (ai (x0.getD i0 ⟨0,[]⟩))),.v,.m,.m],r0 [.v,.c true (dS bn y0),.e (nI y0.length),.v]] [.only [2,3,11,12,13,18,19,20] [10]] 12 [true] (fk x0 i0 y0 0 s0) (aB c1 (aI a8 x0 i0 ⟨0,[]⟩ (aC Tryz.call62 (aF (wO _ _ h5) (aT (aC (aJ bn y0) aN)))))) ?_;refine aP H1 fun R1 h6 H2 => ?_;refine pJ 2 (iY x0 i0) R1 ?_ (fun u0 e3 => ?_)
   ·refine pC (fk x0 i0 y0) h6 (fun i1 s1 h7 e4 => ?_) (fun i1 s1 h8 q1 h9 h10 => ?_)
    ·have c2:=lF i1 y0.length (by omega);subst e4;exact pB 5 [r0 [.e (.bool false)]] [.only [2,3,11,12,13] [10]] (iY x0 i0 s1) (aB c2 aN)
    ·have c3:=lT i1 y0.length (by omega);refine b7 18 (ps:=[(y0.map bn).length≤9223372036854775807]) (by kernel_rfl) (fun l0 => ?_);have l1:y0.length≤9223372036854775807:=by simpa only [bB,Kp] using l0
     clear l0;obtain rfl:=sI h9;exact pB 11 [r0 [.e (.bool true)],r0 [.e (.dptr [.str (y0.getD i1 [])]),.v,.v],r0 [.v,.v,.m,.rwH 10 (.smap 0 4 ((bL (y0.getD i1 []) true s1).map (jh mg)))],V2] [.only [2,3,11,12,13,18,19,20] [10]] (fk x0 i0 y0 (i1+1) (bL (y0.getD i1 []) true s1)) (aB c3 (aI pr y0 i1 [] (aC (congrArg (AO.smap 0 4) (jz (c:=mg) (y0.getD i1 []) true s1)) (aH i1 aN))))
   ·subst e3;have H3:=bI H2;refine b7 11 (ps:=[(x0.map ai).length≤9223372036854775807]) (by kernel_rfl) (fun l2 => ?_);have l3:x0.length≤9223372036854775807:=by simpa only [bB,Kp] using l2
    clear l2;obtain rfl:=sI H3;exact pB 1 [V2] [.only [2,3,11,12,13] [10]] (fv x0 (i0+1) u0) (aH i0 aN)
 ·subst e1;have H4:=bI H0;refine pA 6 [V1,r0 [.v,.fm 10,.m]] [.er 8 37 9 1,.only [2,8,29] [29,37]] 6 [] (fq u1 [] []) (aC (tO Fw u1) aN) ?_;refine pF (cc:=mg) 29 (fq u1) (by kernel_rfl) H4 [.v] (fun i2 s2=>⟨by kernel_rfl,by kernel_rfl⟩) (fun i2 s2=>⟨41,[(2,.eslice),(8,.rslice 37),(29,.hptr 29 0),(30,.tup [.bool false]),(31,.bool false)],[(29,.iter (u1.map (jh mg)) i2),(37,.row 9 1 (s2.map bn))]⟩) (fun i2 s2=>by kernel_rfl) (fun i2 s2 n0 e0=>⟨41,[(2,.eslice),(8,.rslice 37),(29,.hptr 29 0),(30,.tup [.bool true,.str e0.1,.bool e0.2]),(31,.bool true)],[(29,.iter (u1.map (jh mg)) (i2++[n0])),(37,.row 9 1 (s2.map bn))]⟩) (fun i2 s2 n0 e0=>by kernel_rfl) (fun i2 s2 H5 => ?_) (fun i2 s2 n0 e0 h11 q2 h12 h13 => ?_)
  ·refine aP H5 fun y1 h14 H6 => ?_;refine cK H6 fun e5 => ?_;subst e5;exact pR 8 [r0 [.v,.hR [(37,1000)] 39 (.tup []) [(1000,.row 9 1 (y1.map bn))]],V2] [.fz 37] [] (aC Tryz.call63 (aC (vm s2 y1 h14) aN))
  ·refine aG h12 fun g0 H7 => ?_;obtain rfl:=sI H7;exact pB 7 [r0 [.en n0 (.tup [.str e0.1,.bool e0.2]),.v,.v],r0 [.v,.v,.b,.ap,.rwH 37 (.row 9 1 ((s2++[e0.1]).map bn)),.v]] [.only [2,8,29] [29,37]] (fq u1 (i2++[n0]) (s2++[e0.1])) (aC (jt i2 n0) (aC (tX (cc:=mg) h11) (bF (wD (c:=bn) rF s2 [e0.1] 16 (by decide) (by simpa using g0)) (aC (zO 9 1 bn s2 [e0.1]) aN))))
def dp (x0:aw):Option Int :=
 (dj x0 [95]).bind fun y0 =>
 bif y0 then (
  bH (1≤x0.length) <|
  (lC (x0.drop 1)).bind fun y1 =>
  some y1.1
 ) else (
  some 0
 )
theorem iN (x0:aw) (r:Int) (H:dp x0=some r):bW Tryz.prog 56 [.str x0] (iI r):=by
 unfold dp at H;refine aX Tryz.func56 15 [.tmp 2] ?_;refine aP H fun y0 h0 H0 => ?_;refine aV H0 (fun c0 H1 => ?_) (fun c1 H2 => ?_)
 ·refine aG H1 fun g0 H3 => ?_;refine aP H3 fun y1 h1 H4 => ?_;obtain rfl:=sI H4;exact pR 13 [V1,r0 [.v,.c true (.bool y0),.v],.eqT 7 (.bool false),r0 [.v,.e (.str (x0.drop 1)),.cf true (.tup [iI y1.1,wo 190 y1.2]),.v,.v,.v,.v,.v],V2] [] [] (aC Tryz.call88 (aF (eP _ _ _ h0) (aT (aM c0 (aC (show (0:Int)≤1∧1≤(x0.length:Int)∧(x0.length:Int)≤(x0.length:Int) from by omega) (aC (yt x0 1) (aC Tryz.call89 (aF (uA (x0.drop 1) y1 h1) (aC (show uf true (.tup [iI y1.1,wo 190 y1.2])=true from by cases h2:y1.2<;>rfl) aN)))))))))
 ·obtain rfl:=sI H2;exact pR 10 [V1,r0 [.v,.c true (.bool y0),.v],.eqT 7 (.bool true),V1] [] [] (aC Tryz.call88 (aF (eP _ _ _ h0) (aT (aM c1 aN))))
noncomputable def cm (x0:List Linear):Option Int :=
 (bl x0).bind fun y0 =>
 (dZ (σ:=Int) (ε:=Int) (ρ:=Empty) (fun i0 s0 =>
  (dp (y0.getD i0 [])).bind fun y1 =>
  some (.go (if y1>s0 then y1 else s0))
 ) (fun i0 s0=>s0) (y0.length-0) 0 0).bind <| dG fun u0 =>
 some u0
def fI (y0:List aw) (i0:Nat) (s0:Int):AS:=⟨19,[(2,iI 0),(3,iI s0),(7,dS bn y0),(8,nI y0.length),(9,nI i0)],[]⟩
def jk (u1:Int):AS:=⟨19,[(2,iI 0),(3,iI u1)],[]⟩
theorem jN (x0:List Linear) (r:Int) (H:cm x0=some r):bW Tryz.prog 28 [dS ai x0] (iI r):=by
 unfold cm at H;refine aX Tryz.func28 19 [.tmp 2] ?_;refine aP H fun y0 h0 H0 => ?_;refine pA 8 [V1,V1,r0 [.v,.c true (dS bn y0),.e (nI y0.length),.v]] [.only [2,3,7,8,9] []] 8 [] (fI y0 0 0) (aC Tryz.call31 (aF (cU _ _ h0) (aT (aC (aJ bn y0) aN)))) ?_;refine aP H0 fun R0 h1 H1 => ?_;refine pJ 1 (jk) R0 ?_ (fun u0 e0 => ?_)
 ·refine pC (fI y0) h1 (fun i0 s0 h2 e1 => ?_) (fun i0 s0 h3 q0 h4 h5 => ?_)
  ·have c0:=lF i0 y0.length (by omega);subst e1;exact pB 5 [r0 [.e (.bool false)]] [.only [2,3] []] (jk s0) (aB c0 aN)
  ·have c1:=lT i0 y0.length (by omega);refine aP h4 fun y1 h6 H2 => ?_;refine b7 7 (ps:=[(y0.map bn).length≤9223372036854775807]) (by kernel_rfl) (fun l0 => ?_);have l1:y0.length≤9223372036854775807:=by simpa only [bB,Kp] using l0
   clear l0;obtain rfl:=sI H2;exact pB 11 [r0 [.e (.bool true)],r0 [.e (.dptr [.str (y0.getD i0 [])]),.v,.v],r0 [.v,.v,.c true (iI y1),.v,.v],V2] [.only [2,3,7,8,9] []] (fI y0 (i0+1) (if y1>s0 then y1 else s0)) (aB c1 (aI pr y0 i0 [] (aC Tryz.call56 (aF (iN _ _ h6) (aT (aH i0 aN))))))
 ·subst e0;have H3:=bI H1;refine cK H3 fun e2 => ?_;subst e2;exact pR 3 [V2] [] [] aN
def dE (x0:Linear):Option Bool :=
 bif (((x0.Terms.length:Nat):Int)==0) then (
  some (x0.Const==0)
 ) else (
  some false
 )
theorem rP (x0:Linear) (r:Bool) (H:dE x0=some r):bW Tryz.prog 29 [.agg [iI x0.Const,dS aj x0.Terms]] (.bool r):=by
 unfold dE at H;refine aX Tryz.func29 12 [.tmp 2] ?_;refine aV H (fun c0 H0 => ?_) (fun c1 H1 => ?_)
 ·obtain rfl:=sI H0;exact pR 5 [r0 [.m,.v],r0 [.v,.v,.e (nI x0.Terms.length),.e (.bool true),.v,.v,.v,.v,.v,.v]] [] [] (aT (aC (aJ aj x0.Terms) (aB c0 aN)))
 ·obtain rfl:=sI H1;exact pR 5 [r0 [.m,.v],r0 [.v,.v,.e (nI x0.Terms.length),.e (.bool false),.v,.s,.s,.s,.v,.v]] [] [] (aT (aC (aJ aj x0.Terms) (aB c1 aN)))
def fY (x0:Linear):Option Int :=
 (bV x0).bind fun y0 =>
 bif y0 then (
  (dZ (σ:=Int) (ε:=Int) (ρ:=Empty) (fun i0 s0 =>
   (kD (σ:=(Int×Int)) (ε:=Int) (ρ:=Empty) (fun s1 =>
    bif (s1.2==0) then (
     some (.brk s1.1)
    ) else (
     bH ((s1.2:Int)≠0) <|
     some (.go (s1.2,(s1.1.tmod s1.2)))
    )
   ) 4294967296 (s0,(if (aD (0-((x0.Terms.getD i0 ⟨[],0⟩).C)))>((x0.Terms.getD i0 ⟨[],0⟩).C) then (aD (0-((x0.Terms.getD i0 ⟨[],0⟩).C))) else ((x0.Terms.getD i0 ⟨[],0⟩).C)))).bind <| dG fun u0 =>
   some (.go u0)
  ) (fun i0 s0=>s0) (x0.Terms.length-0) 0 0).bind <| dG fun u1 =>
  some u1
 ) else (
  some 0
 )
def iR (x0:Linear) (i0:Nat) (s0:Int):AS:=⟨34,[(2,iI 0),(3,iI s0),(12,dS aj x0.Terms),(13,nI x0.Terms.length),(14,nI i0)],[]⟩
def lW (u2:Int):AS:=⟨34,[(2,iI 0),(3,iI u2)],[]⟩
def jc (x0:Linear) (i0:Nat) (s0:Int) (s1:Int×Int):AS:=⟨34,[(2,iI 0),(3,iI s0),(6,iI s1.1),(7,iI s1.2),(12,dS aj x0.Terms),(13,nI x0.Terms.length),(14,nI i0)],[]⟩
def ma (x0:Linear) (i0:Nat) (s0 u3:Int):AS:=⟨34,[(2,iI 0),(3,iI s0),(6,iI u3),(12,dS aj x0.Terms),(13,nI x0.Terms.length),(14,nI i0)],[]⟩
theorem sJ (x0:Linear) (r:Int) (H:fY x0=some r):bW Tryz.prog 57 [.agg [iI x0.Const,dS aj x0.Terms]] (iI r):=by
 unfold fY at H;refine aX Tryz.func57 34 [.tmp 2] ?_;refine aP H fun y0 h0 H0 => ?_;refine aV H0 (fun c0 H1 => ?_) (fun c1 H2 => ?_)
 ·refine pA 14 [.rg 0 [] [.m,.v],.rg 0 [] [.v],.rg 0 [] [.v,.c true (.bool y0),.v],.eqT 10 (.bool false),.rg 0 [] [.v,.v,.e (.int .i64 ((x0.Terms.length:Nat):Int)),.v]] [.only [2,3,12,13,14] []] 13 [false] (iR x0 0 0) (aC Tryz.call50 (aF (bO _ _ h0) (aT (aM c0 (aT (aC (aJ aj x0.Terms) aN)))))) ?_;refine aP H1 fun R0 h1 H3 => ?_;refine pJ 1 (lW) R0 ?_ (fun u1 e0 => ?_)
  ·refine pC (iR x0) h1 (fun i0 s0 h2 e1 => ?_) (fun i0 s0 h3 q0 h4 h5 => ?_)
   ·have c2:=lF i0 x0.Terms.length (by omega);subst e1;exact pB 5 [r0 [.e (.bool false)]] [.only [2,3] []] (lW s0) (aB c2 aN)
   ·have c3:=lT i0 x0.Terms.length (by omega);refine pA 13 [r0 [.e (.bool true)],r0 [.e (.dptr (aj (x0.Terms.getD i0 ⟨[],0⟩))),.v,.m,.m],.rg 8 (V 5 [.w,.v,.v]) [.v]] [.only [2,3,6,7,12,13,14] []] 13 [true] (jc x0 i0 s0 (s0,(if (aD (0-((x0.Terms.getD i0 ⟨[],0⟩).C)))>((x0.Terms.getD i0 ⟨[],0⟩).C) then (aD (0-((x0.Terms.getD i0 ⟨[],0⟩).C))) else ((x0.Terms.getD i0 ⟨[],0⟩).C)))) (aB c3 (aI bf x0.Terms i0 ⟨[],0⟩ (aT aN))) ?_;refine aP h4 fun R1 h6 H4 => ?_;refine pJ 1 (ma x0 i0 s0) R1 ?_ (fun u0 e2 => ?_)
    ·refine pV (jc x0 i0 s0) (by kernel_rfl) h6 (fun s1 q1 h7 h8 => ?_)
     ·refine aV h7 (fun c4 H5 => ?_) (fun c5 H6 => ?_)
      ·obtain rfl:=sI H5;obtain rfl:=iL h8;exact pB 6 [V2,.eqT 26 (.bool false)] [.only [2,3,6,12,13,14] []] (ma x0 i0 s0 s1.1) (aM c4 aN)
      ·refine aG H6 fun g0 H7 => ?_;obtain rfl:=sI H7;exact pB 8 [V2,.eqT 26 (.bool true),.rg 5 (V 5 []) [.v]] [.only [2,3,6,7,12,13,14] []] (jc x0 i0 s0 (s1.2,(s1.1.tmod s1.2))) (aM c5 (aC (show (s1.2:Int)≠0 from g0) aN))
    ·subst e2;have H8:=bI H4;refine b7 12 (ps:=[(x0.Terms.map aj).length≤9223372036854775807]) (by kernel_rfl) (fun l0 => ?_);have l1:x0.Terms.length≤9223372036854775807:=by simpa only [bB,Kp] using l0
     clear l0;obtain rfl:=sI H8;exact pB 2 [V2,V2] [.only [2,3,12,13,14] []] (iR x0 (i0+1) u0) (aH i0 aN)
  ·subst e0;have H9:=bI H3;refine cK H9 fun e3 => ?_;subst e3;exact pR 3 [V2] [] [] aN
 ·obtain rfl:=sI H2;exact pR 12 [r0 [.m,.v],V1,r0 [.v,.c true (.bool y0),.v],.eqT 10 (.bool true),V1] [] [] (aC Tryz.call50 (aF (bO _ _ h0) (aT (aM c1 aN))))
def eL (x0:List Int):Option Bool :=
 (dZ (σ:=Unit) (ε:=Unit) (ρ:=Bool) (fun i0 s0 =>
  bif decide ((x0.getD i0 0)<(-4611686018427387904)) then (
   some (.ret false)
  ) else (
   bif decide ((x0.getD i0 0)>4611686018427387904) then (
    some (.ret false)
   ) else (
    some (.go ())
   )
  )
 ) (fun i0 s0=>()) (x0.length-0) 0 ()).bind <| aft fun u0 =>
 some true
def mD (x0:List Int) (i0:Nat) (s0:Unit):AS:=⟨18,[(2,.bool false),(5,dS ag x0),(6,nI x0.length),(7,nI i0)],[]⟩
def pW (u1:Unit):AS:=⟨18,[(2,.bool false)],[]⟩
theorem bM (x0:List Int) (r:Bool) (H:eL x0=some r):bW Tryz.prog 80 [dS ag x0] (.bool r):=by
 unfold eL at H;refine aX Tryz.func80 18 [.tmp 2] ?_;refine pA 6 [V1,r0 [.v,.e (nI x0.length),.v]] [.only [2,5,6,7] []] 6 [] (mD x0 0 ()) (aT (aC (aJ ag x0) aN)) ?_;refine aP H fun R0 h0 H0 => ?_;refine pJ 1 (pW) R0 ?_ (fun u0 e0 => ?_)
 ·refine pC (mD x0) h0 (fun i0 s0 h1 e1 => ?_) (fun i0 s0 h2 q0 h3 h4 => ?_)
  ·have c0:=lF i0 x0.length (by omega);subst e1;exact pB 5 [r0 [.e (.bool false)]] [.only [2] []] (pW ()) (aB c0 aN)
  ·have c1:=lT i0 x0.length (by omega);refine aV h3 (fun c2 H1 => ?_) (fun c3 H2 => ?_)
   ·have c2p:=Km c2;obtain rfl:=sI H1;obtain rfl:=aR h4;obtain rfl:=sI (aA H0);exact pR 15 [r0 [.e (.bool true)],r0 [.e (.dptr [iI (x0.getD i0 0)]),.v,.v],r0 [.v,.e (.bool true),.v,.s,.s,.v],V1] [] [] (aB c1 (aI cb x0 i0 0 (aB c2 aN)))
   ·have c3p:=Kl c3;refine aV H2 (fun c4 H3 => ?_) (fun c5 H4 => ?_)
    ·have c4p:=Km c4;obtain rfl:=sI H3;obtain rfl:=aR h4;obtain rfl:=sI (aA H0);exact pR 16 [r0 [.e (.bool true)],r0 [.e (.dptr [iI (x0.getD i0 0)]),.v,.v],r0 [.v,.e (.bool false),.v,.v,.v,.v],.eqT 16 (.bool true),V1] [] [] (aB c1 (aI cb x0 i0 0 (aB c3 (aB c4 aN))))
    ·have c5p:=Kl c5;refine b7 5 (ps:=[(x0.map ag).length≤9223372036854775807]) (by kernel_rfl) (fun l0 => ?_);have l1:x0.length≤9223372036854775807:=by simpa only [bB,Kp] using l0
     clear l0;obtain rfl:=sI H4;exact pB 15 [r0 [.e (.bool true)],r0 [.e (.dptr [iI (x0.getD i0 0)]),.v,.v],r0 [.v,.e (.bool false),.v,.v,.v,.v],.eqT 16 (.bool false),V2] [.only [2,5,6,7] []] (mD x0 (i0+1) ()) (aB c1 (aI cb x0 i0 0 (aB c3 (aB c5 (aH i0 aN)))))
 ·subst e0;have H5:=bp H0;obtain rfl:=sI H5;exact pR 3 [V1] [] [] aN
def cE (x0:Int):Option Int :=
 bif decide (x0<0) then (
  some (aD (0-x0))
 ) else (
  some x0
 )
theorem cM (x0 r:Int) (H:cE x0=some r):bW Tryz.prog 91 [iI x0] (iI r):=by
 unfold cE at H;refine aX Tryz.func91 8 [.tmp 2] ?_;refine aV H (fun c0 H0 => ?_) (fun c1 H1 => ?_)
 ·obtain rfl:=sI H0;exact pR 10 [V1,V2,.eqT 4 (.bool true),r0 [.v,.w,.v]] [] [] (aB c0 aN)
 ·refine cK H1 fun e0 => ?_;subst e0;exact pR 11 [V1,V2,.eqT 4 (.bool false),V2] [] [] (aB c1 aN)
def ep (x0 x1:Int):Option (Int×Int) :=
 (eL [x0,x1]).bind fun y0 =>
 bif y0 then (
  (cE x0).bind fun y1 =>
  (cE x1).bind fun y2 =>
  (kF (IntKind.wrap .u64 y1) (IntKind.wrap .u64 y2)).bind fun y3 =>
  bif decide (y3.1>0) then (
   some (0,2)
  ) else (
   bif decide (y3.2>4611686018427387904) then (
    some (0,2)
   ) else (
    bif (decide (x0<0)==decide (x1<0)) then (
     some ((IntKind.wrap .i64 y3.2),0)
    ) else (
     some ((aD (0-(IntKind.wrap .i64 y3.2))),0)
    )
   )
  )
 ) else (
  some (0,2)
 )
theorem gP (x0 x1:Int) (r:Int×Int) (H:ep x0 x1=some r):bW Tryz.prog 58 [iI x0,iI x1] (.tup [iI r.1,iI r.2]):=by
 unfold ep at H;refine aX Tryz.func58 39 [.tmp 4,.tmp 5] ?_;refine aP H fun y0 h0 H0 => ?_;refine aV H0 (fun c0 H1 => ?_) (fun c1 H2 => ?_)
 ·refine aP H1 fun y1 h1 H3 => ?_;refine aP H3 fun y2 h2 H4 => ?_;refine aP H4 fun y3 h3 H5 => ?_;refine pA 12 [V2,r0 [.v,.v,.b,.c true (.bool y0),.v],.eqT 12 (.bool false),r0 [.v,.c true (iI y1),.v,.v,.c true (iI y2),.v,.c true (.tup [.int .u64 y3.1,.int .u64 y3.2]),.v,.v,.v,.v,.v]] [.only [0,1,4,5,6,7] []] 11 [false] ⟨39,[(0,iI x0),(1,iI x1),(4,iI 0),(5,iI 0),(6,.int .u64 y3.1),(7,.int .u64 y3.2)],[]⟩ (aC Tryz.call80 (aF (bM _ _ h0) (aT (aM c0 (aC Tryz.call91 (aF (cM _ _ h1) (aT (aC Tryz.call91 (aF (cM _ _ h2) (aT (aC Tryz.call90 (aF (o7 (IntKind.wrap .u64 y1) (IntKind.wrap .u64 y2) y3 h3) aN)))))))))))) ?_;refine aV H5 (fun c2 H6 => ?_) (fun c3 H7 => ?_)
  ·obtain rfl:=sI H6;exact pR 5 [r0 [.v,.e (.bool true),.v,.s,.s,.v],V2] [] [] (aB c2 aN)
  ·refine aV H7 (fun c4 H8 => ?_) (fun c5 H9 => ?_)
   ·obtain rfl:=sI H8;exact pR 6 [r0 [.v,.e (.bool false),.v,.v,.v,.v],.eqT 28 (.bool true),V2] [] [] (aB c3 (aB c4 aN))
   ·refine aV H9 (fun c6 H10 => ?_) (fun c7 H11 => ?_)
    ·obtain rfl:=sI H10;exact pR 13 [r0 [.v,.e (.bool false),.v,.v,.v,.v],.eqT 28 (.bool false),V5,.eqT 33 (.bool false),V4] [] [] (aB c3 (aB c5 (aM c6 (aT aN))))
    ·obtain rfl:=sI H11;exact pR 12 [r0 [.v,.e (.bool false),.v,.v,.v,.v],.eqT 28 (.bool false),V5,.eqT 33 (.bool true),r0 [.v,.v,.w,.v,.v]] [] [] (aB c3 (aB c5 (aM c7 (aT aN))))
 ·obtain rfl:=sI H2;exact pR 10 [V2,r0 [.v,.v,.b,.c true (.bool y0),.v],.eqT 12 (.bool true),V2] [] [] (aC Tryz.call80 (aF (bM _ _ h0) (aT (aM c1 aN))))
def bN (x0 x1:Int):Option Bool :=
 bif (x1==0) then (
  bif decide (x0≥(-1099511627776)) then (
   some (decide (x0≤1099511627776))
  ) else (
   some false
  )
 ) else (
  some false
 )
theorem cQ (x0 x1:Int) (r:Bool) (H:bN x0 x1=some r):bW Tryz.prog 45 [iI x0,iI x1] (.bool r):=by
 unfold bN at H;refine aX Tryz.func45 15 [.tmp 4] ?_;refine aV H (fun c0 H0 => ?_) (fun c1 H1 => ?_)
 ·refine aV H0 (fun c2 H2 => ?_) (fun c3 H3 => ?_)
  ·obtain rfl:=sI H2;exact pR 5 [V1,r0 [.v,.e (.bool true),.v,.v,.e (.bool true),.v,.v,.v,.v,.v,.v]] [] [] (aB c0 (aB c2 aN))
  ·obtain rfl:=sI H3;exact pR 5 [V1,r0 [.v,.e (.bool true),.v,.v,.e (.bool false),.v,.v,.s,.s,.v,.v]] [] [] (aB c0 (aB c3 aN))
 ·obtain rfl:=sI H1;exact pR 5 [V1,r0 [.v,.e (.bool false),.v,.s,.s,.v,.v,.s,.s,.v,.v]] [] [] (aB c1 aN)
def dB (x0 x1:ak):Option Int :=
 bif ((if (aD (0-x0.C))>x0.C then (aD (0-x0.C)) else x0.C)==(if (aD (0-x1.C))>x1.C then (aD (0-x1.C)) else x1.C)) then (
  (dp x0.Var).bind fun y0 =>
  (dp x1.Var).bind fun y1 =>
  bif (y0==y1) then (
   (pk x1.Var x0.Var).bind fun y2 =>
   some y2
  ) else (
   some (aD (y1-y0))
  )
 ) else (
  some (aD ((if (aD (0-x0.C))>x0.C then (aD (0-x0.C)) else x0.C)-(if (aD (0-x1.C))>x1.C then (aD (0-x1.C)) else x1.C)))
 )
theorem qA (x0 x1:ak) (r:Int) (H:dB x0 x1=some r):bW Tryz.prog 93 [.agg [.str x0.Var,iI x0.C],.agg [.str x1.Var,iI x1.C]] (iI r):=by
 unfold dB at H;refine aX Tryz.func93 44 [.tmp 4] ?_;refine aV H (fun c0 H0 => ?_) (fun c1 H1 => ?_)
 ·refine aP H0 fun y0 h0 H2 => ?_;refine aP H2 fun y1 h1 H3 => ?_;refine pA 15 [r0 [.m,.m,.v],.rg 13 (V 4 [.w,.v,.v,.v,.v,.v,.w,.v,.v]) [.v],V3,.eqT 23 (.bool false),.rg 5 [.v,.v,.c true (iI y0),.v,.v] [.c true (iI y1),.v,.v],V3] [.only [2,3,4,7,8,35] [2,3]] 14 [false] ⟨44,[(2,.hptr 2 0),(3,.hptr 3 0),(4,iI 0),(7,iI y0),(8,iI y1),(35,.bool (y0 != y1))],[(2,.cells 88 [.str x0.Var,iI x0.C]),(3,.cells 88 [.str x1.Var,iI x1.C])]⟩ (aT (aT (aM c0 (aC Tryz.call56 (aF (iN _ _ h0) (aC Tryz.call56 (aF (iN _ _ h1) aN))))))) ?_;refine aV H3 (fun c2 H4 => ?_) (fun c3 H5 => ?_)
  ·refine aP H4 fun y2 h2 H6 => ?_;refine cK H6 fun e0 => ?_;subst e0;exact pR 6 [.eqT 35 (.bool false),r0 (V 4 [.c true (iI y2),.v])] [] [] (aM c2 (aC Tryz.call35 (aF (wK x1.Var x0.Var y2 h2) aN)))
  ·obtain rfl:=sI H5;exact pR 5 [.eqT 35 (.bool true),r0 [.v,.v,.w,.v]] [] [] (aM c3 aN)
 ·obtain rfl:=sI H1;exact pR 12 [r0 [.m,.m,.v],.rg 13 (V 4 [.w,.v,.v,.v,.v,.v,.w,.v,.v]) [.v],V3,.eqT 23 (.bool true),r0 [.v,.v,.w,.v]] [] [] (aT (aT (aM c1 aN)))
def de (x0:List ak):Option ak :=
 bif decide (((x0.length:Nat):Int)<1) then (
  none
 ) else (
  bH (0<x0.length) <|
  (dZ (σ:=(aw×Int)) (ε:=(aw×Int)) (ρ:=Empty) (fun i0 s0 =>
   (dB (ak.mk ((x0.getD i0 ⟨[],0⟩).Var) ((x0.getD i0 ⟨[],0⟩).C)) (ak.mk s0.1 s0.2)).bind fun y0 =>
   ((
    bif decide (y0<0) then (
     some (((x0.getD i0 ⟨[],0⟩).Var),((x0.getD i0 ⟨[],0⟩).C))
    ) else (
     some (s0.1,s0.2)
    )
   ):Option (aw×Int)).bind fun v0 =>
   some (.go (v0.1,v0.2))
  ) (fun i0 s0=>(s0.1,s0.2)) (x0.length-1) 1 (((x0.getD 0 ⟨[],0⟩).Var),((x0.getD 0 ⟨[],0⟩).C))).bind <| dG fun u0 =>
  some (ak.mk u0.1 u0.2)
 )
def dI (x0:List ak) (i0:Nat) (s0:aw×Int):AS:=⟨33,[(0,dS aj x0),(1,.fn 93 []),(4,.hptr 4 0),(5,.hptr 5 0),(6,nI i0)],[(4,.cells 88 [.str [],iI 0]),(5,.cells 88 [.str s0.1,iI s0.2])]⟩
def fZ (u1:aw×Int):AS:=⟨33,[(4,.hptr 4 0),(5,.hptr 5 0)],[(4,.cells 88 [.str [],iI 0]),(5,.cells 88 [.str u1.1,iI u1.2])]⟩
def dD (x0:List ak) (i0:Nat) (v0:aw×Int):AS:=⟨33,[(0,dS aj x0),(1,.fn 93 []),(4,.hptr 4 0),(5,.hptr 5 0),(6,nI i0)],[(4,.cells 88 [.str [],iI 0]),(5,.cells 88 [.str v0.1,iI v0.2])]⟩
theorem lS (x0:List ak) (r:ak) (H:de x0=some r):bW Tryz.prog 92 [dS aj x0,.fn 93 []] (.agg [.str r.Var,iI r.C]):=by
 unfold de at H;refine aX Tryz.func92 33 [.cell 4 88] ?_;refine aV H (fun c0 H0 => ?_) (fun c1 H1 => ?_)
 ·cases H0
 ·have c1p:=Kl c1;refine aG H1 fun g0 H2 => ?_;refine pA 14 [r0 [.m],r0 [.v,.e (nI x0.length),.v],.eqT 9 (.bool false),r0 [.v,.e (.dptr (aj (x0.getD 0 ⟨[],0⟩))),.v,.m,.m],V1] [.only [0,1,4,5,6] [4,5]] 13 [false] (dI x0 1 (((x0.getD 0 ⟨[],0⟩).Var),((x0.getD 0 ⟨[],0⟩).C))) (aT (aC (aJ aj x0) (aB c1 (aI bf x0 0 ⟨[],0⟩ aN)))) ?_;refine aP H2 fun R0 h0 H3 => ?_;refine pJ 1 (fZ) R0 ?_ (fun u0 e0 => ?_)
  ·refine pC (dI x0) h0 (fun i0 s0 h1 e1 => ?_) (fun i0 s0 h2 q0 h3 h4 => ?_)
   ·have c2:=lF i0 x0.length (by omega);subst e1;exact pB 5 [r0 [.v,.v,.e (nI x0.length),.e (.bool false)]] [.only [4,5] [4,5]] (fZ (s0.1,s0.2)) (aT (aC (aJ aj x0) (aB c2 aN)))
   ·have c3:=lT i0 x0.length (by omega);refine aP h3 fun y0 h5 H4 => ?_;refine pA 9 [r0 [.v,.v,.e (nI x0.length),.e (.bool true)],.rg 6 [.v,.v,.v,.e (.dptr (aj (x0.getD i0 ⟨[],0⟩))),.v,.v] [.c true (iI y0),.v]] [.only [0,1,4,5,6,27] [4,5]] 9 [true] ⟨33,[(0,dS aj x0),(1,.fn 93 []),(4,.hptr 4 0),(5,.hptr 5 0),(6,nI i0),(27,.bool (decide (y0<0)))],[(4,.cells 88 [.str [],iI 0]),(5,.cells 88 [.str s0.1,iI s0.2])]⟩ (aT (aC (aJ aj x0) (aB c3 (aI bf x0 i0 ⟨[],0⟩ (aC Tryz.call93 (aF (qA _ _ _ h5) aN)))))) ?_;refine aP H4 fun v0 h6 H5 => ?_;refine dQ 1 (dD x0 i0 v0) (by kernel_rfl) ?_ ?_
    ·refine aV h6 (fun c4 H6 => ?_) (fun c5 H7 => ?_)
     ·have c4p:=Km c4;obtain rfl:=sI H6;exact pB 3 [.eqT 27 (.bool true),r0 [.v,.v,.e (.dptr (aj (x0.getD i0 ⟨[],0⟩))),.v,.m]] [.only [0,1,4,5,6] [4,5]] (dD x0 i0 (((x0.getD i0 ⟨[],0⟩).Var),((x0.getD i0 ⟨[],0⟩).C))) (aB c4 (aI bf x0 i0 ⟨[],0⟩ aN))
     ·obtain rfl:=sI H7;exact pB 3 [.eqT 27 (.bool false)] [.only [0,1,4,5,6] [4,5]] (dD x0 i0 (s0.1,s0.2)) (aB c5 aN)
    ·refine b7 0 (ps:=[(x0.map aj).length≤9223372036854775807]) (by kernel_rfl) (fun l0 => ?_);have l1:x0.length≤9223372036854775807:=by simpa only [bB,Kp] using l0
     clear l0;obtain rfl:=sI H5;exact pB 1 [V3] [.only [0,1,4,5,6] [4,5]] (dI x0 (i0+1) (v0.1,v0.2)) (aH i0 aN)
  ·subst e0;have H8:=bI H3;obtain rfl:=sI H8;exact pR 3 [r0 [.v,.m]] [] [] aN
def fa (x0:Linear):Option ak :=
 (de x0.Terms).bind fun y0 =>
 some y0
theorem mZ (x0:Linear) (r:ak) (H:fa x0=some r):bW Tryz.prog 59 [.agg [iI x0.Const,dS aj x0.Terms]] (.agg [.str r.Var,iI r.C]):=by unfold fa at H;refine aX Tryz.func59 6 [.cell 2 88] ?_;refine aP H fun y0 h0 H0 => ?_;refine cK H0 fun e0 => ?_;subst e0;exact pR 5 [r0 [.m,.m],r0 [.v,.v,.c true (.agg [.str y0.Var,iI y0.C]),.m]] [] [] (aC Tryz.call92 (aF (lS _ _ h0) aN))
def cS (x0:Linear) (x1:aw):Option Int :=
 (dZ (σ:=Unit) (ε:=Unit) (ρ:=Int) (fun i0 s0 =>
  bif (((x0.Terms.getD i0 ⟨[],0⟩).Var)==x1) then (
   some (.ret ((x0.Terms.getD i0 ⟨[],0⟩).C))
  ) else (
   some (.go ())
  )
 ) (fun i0 s0=>()) (x0.Terms.length-0) 0 ()).bind <| aft fun u0 =>
 some 0
def kZ (x0:Linear) (x1:aw) (i0:Nat) (s0:Unit):AS:=⟨21,[(1,.str x1),(4,iI 0),(8,dS aj x0.Terms),(9,nI x0.Terms.length),(10,nI i0)],[]⟩
def oy (u1:Unit):AS:=⟨21,[(4,iI 0)],[]⟩
theorem gG (x0:Linear) (x1:aw) (r:Int) (H:cS x0 x1=some r):bW Tryz.prog 46 [.agg [iI x0.Const,dS aj x0.Terms],.str x1] (iI r):=by
 unfold cS at H;refine aX Tryz.func46 21 [.tmp 4] ?_;refine pA 6 [r0 [.m,.v],r0 [.v,.v,.e (nI x0.Terms.length),.v]] [.only [1,4,8,9,10] []] 6 [] (kZ x0 x1 0 ()) (aT (aC (aJ aj x0.Terms) aN)) ?_;refine aP H fun R0 h0 H0 => ?_;refine pJ 1 (oy) R0 ?_ (fun u0 e0 => ?_)
 ·refine pC (kZ x0 x1) h0 (fun i0 s0 h1 e1 => ?_) (fun i0 s0 h2 q0 h3 h4 => ?_)
  ·have c0:=lF i0 x0.Terms.length (by omega);subst e1;exact pB 5 [r0 [.e (.bool false)]] [.only [4] []] (oy ()) (aB c0 aN)
  ·have c1:=lT i0 x0.Terms.length (by omega);refine aV h3 (fun c2 H1 => ?_) (fun c3 H2 => ?_)
   ·obtain rfl:=sI H1;obtain rfl:=aR h4;obtain rfl:=sI (aA H0);exact pR 16 [r0 [.e (.bool true)],r0 [.e (.dptr (aj (x0.Terms.getD i0 ⟨[],0⟩))),.v,.m,.m],V4,.eqT 17 (.bool true),V3] [] [] (aB c1 (aI bf x0.Terms i0 ⟨[],0⟩ (aB c2 aN)))
   ·refine b7 8 (ps:=[(x0.Terms.map aj).length≤9223372036854775807]) (by kernel_rfl) (fun l0 => ?_);have l1:x0.Terms.length≤9223372036854775807:=by simpa only [bB,Kp] using l0
    clear l0;obtain rfl:=sI H2;exact pB 15 [r0 [.e (.bool true)],r0 [.e (.dptr (aj (x0.Terms.getD i0 ⟨[],0⟩))),.v,.m,.m],V4,.eqT 17 (.bool false),V2] [.only [1,4,8,9,10] []] (kZ x0 x1 (i0+1) ()) (aB c1 (aI bf x0.Terms i0 ⟨[],0⟩ (aB c3 (aH i0 aN))))
 ·subst e0;have H3:=bp H0;obtain rfl:=sI H3;exact pR 3 [V1] [] [] aN
def jX (x0 x1:Int):Option Int :=
 (cE x0).bind fun y0 =>
 (cE x1).bind fun y1 =>
 (kD (σ:=(Int×Int)) (ε:=Int) (ρ:=Empty) (fun s0 =>
  bif (s0.2==0) then (
   some (.brk s0.1)
  ) else (
   bH ((s0.2:Int)≠0) <|
   some (.go (s0.2,(s0.1.tmod s0.2)))
  )
 ) 4294967296 (y0,y1)).bind <| dG fun u0 =>
 some u0
def lH (s0:Int×Int):AS:=⟨16,[(0,iI s0.1),(1,iI s0.2),(4,iI 0)],[]⟩
def ox (u1:Int):AS:=⟨16,[(0,iI u1),(4,iI 0)],[]⟩
theorem wH (x0 x1 r:Int) (H:jX x0 x1=some r):bW Tryz.prog 166 [iI x0,iI x1] (iI r):=by
 unfold jX at H;refine aX Tryz.func166 16 [.tmp 4] ?_;refine aP H fun y0 h0 H0 => ?_;refine aP H0 fun y1 h1 H1 => ?_;refine pA 6 [V1,r0 [.v,.c true (iI y0),.v,.c true (iI y1),.v,.v]] [.only [0,1,4] []] 6 [] (lH (y0,y1)) (aC Tryz.call91 (aF (cM _ _ h0) (aC Tryz.call91 (aF (cM _ _ h1) aN)))) ?_;refine aP H1 fun R0 h2 H2 => ?_;refine pJ 1 (ox) R0 ?_ (fun u0 e0 => ?_)
 ·refine pV (lH) (by kernel_rfl) h2 (fun s0 q0 h3 h4 => ?_)
  ·refine aV h3 (fun c0 H3 => ?_) (fun c1 H4 => ?_)
   ·obtain rfl:=sI H3;obtain rfl:=iL h4;exact pB 6 [V2,.eqT 10 (.bool false)] [.only [0,4] []] (ox s0.1) (aM c0 aN)
   ·refine aG H4 fun g0 H5 => ?_;obtain rfl:=sI H5;exact pB 8 [V2,.eqT 10 (.bool true),.rg 5 (V 5 []) [.v]] [.only [0,1,4] []] (lH (s0.2,(s0.1.tmod s0.2))) (aM c1 (aC (show (s0.2:Int)≠0 from g0) aN))
 ·subst e0;have H6:=bI H2;refine cK H6 fun e1 => ?_;subst e1;exact pR 3 [V2] [] [] aN
def jU (x0 x1:Int):Option (Int×Int) :=
 (eL [x0,x1]).bind fun y0 =>
 bif y0 then (
  bif (x0==0) then (
   some (0,0)
  ) else (
   bif (x1==0) then (
    some (0,0)
   ) else (
    (cE x0).bind fun y1 =>
    (jX x0 x1).bind fun y2 =>
    bH ((y2:Int)≠0) <|
    (cE x1).bind fun y3 =>
    (ep (aD (y1.tdiv y2)) y3).bind fun y4 =>
    some (y4.1,y4.2)
   )
  )
 ) else (
  some (0,2)
 )
theorem wQ (x0 x1:Int) (r:Int×Int) (H:jU x0 x1=some r):bW Tryz.prog 132 [iI x0,iI x1] (.tup [iI r.1,iI r.2]):=by
 unfold jU at H;refine aX Tryz.func132 28 [.tmp 4,.tmp 5] ?_;refine aP H fun y0 h0 H0 => ?_;refine aV H0 (fun c0 H1 => ?_) (fun c1 H2 => ?_)
 ·refine aV H1 (fun c2 H3 => ?_) (fun c3 H4 => ?_)
  ·obtain rfl:=sI H3;exact pR 15 [V2,r0 [.v,.v,.b,.c true (.bool y0),.v],.eqT 10 (.bool false),r0 [.v,.e (.bool true),.v,.s,.s,.v],V2] [] [] (aC Tryz.call80 (aF (bM _ _ h0) (aT (aM c0 (aB c2 aN)))))
  ·refine aV H4 (fun c4 H5 => ?_) (fun c5 H6 => ?_)
   ·obtain rfl:=sI H5;exact pR 16 [V2,r0 [.v,.v,.b,.c true (.bool y0),.v],.eqT 10 (.bool false),r0 [.v,.e (.bool false),.v,.v,.v,.v],.eqT 16 (.bool true),V2] [] [] (aC Tryz.call80 (aF (bM _ _ h0) (aT (aM c0 (aB c3 (aB c4 aN))))))
   ·refine aP H6 fun y1 h1 H7 => ?_;refine aP H7 fun y2 h2 H8 => ?_;refine aG H8 fun g0 H9 => ?_;refine aP H9 fun y3 h3 H10 => ?_;refine aP H10 fun y4 h4 H11 => ?_;obtain rfl:=sI H11;exact pR 17 [V2,r0 [.v,.v,.b,.c true (.bool y0),.v],.eqT 10 (.bool false),r0 [.v,.e (.bool false),.v,.v,.v,.v],.eqT 16 (.bool false),.rg 11 [.v,.c true (iI y1),.v,.v,.c true (iI y2),.w,.v,.c true (iI y3),.c true (.tup [iI y4.1,iI y4.2]),.v,.v] [.v,.v]] [] [] (aC Tryz.call80 (aF (bM _ _ h0) (aT (aM c0 (aB c3 (aB c5 (aC Tryz.call91 (aF (cM _ _ h1) (aC Tryz.call166 (aF (wH _ _ _ h2) (aC (show (y2:Int)≠0 from g0) (aC Tryz.call91 (aF (cM _ _ h3) (aC Tryz.call58 (aF (gP _ _ _ h4) aN)))))))))))))))
 ·obtain rfl:=sI H2;exact pR 10 [V2,r0 [.v,.v,.b,.c true (.bool y0),.v],.eqT 10 (.bool true),V2] [] [] (aC Tryz.call80 (aF (bM _ _ h0) (aT (aM c1 aN))))
def cO (x0 x1 x2 x3 x4 x5 x6 x7:Int):Option (Int×Int×Int×Int×Int×Int) :=
 bif (decide (x0<0)==decide (x1<0)) then (
  (cE x0).bind fun y0 =>
  (cE x1).bind fun y1 =>
  (kF (IntKind.wrap .u64 y0) (IntKind.wrap .u64 y1)).bind fun y2 =>
  (dY x2 y2.2 0).bind fun y3 =>
  (dY x3 y2.1 y3.2).bind fun y4 =>
  (dY x4 0 y4.2).bind fun y5 =>
  some (y3.1,y4.1,y5.1,x5,x6,x7)
 ) else (
  (cE x0).bind fun y6 =>
  (cE x1).bind fun y7 =>
  (kF (IntKind.wrap .u64 y6) (IntKind.wrap .u64 y7)).bind fun y8 =>
  (dY x5 y8.2 0).bind fun y9 =>
  (dY x6 y8.1 y9.2).bind fun y10 =>
  (dY x7 0 y10.2).bind fun y11 =>
  some (x2,x3,x4,y9.1,y10.1,y11.1)
 )
theorem pM (x0 x1 x2 x3 x4 x5 x6 x7:Int) (r:Int×Int×Int×Int×Int×Int) (H:cO x0 x1 x2 x3 x4 x5 x6 x7=some r):bT Tryz.prog 81 [.hptr 1000 0,iI x0,iI x1] [(1000,.cells 133 [.int .u64 x2,.int .u64 x3,.int .u64 x4,.int .u64 x5,.int .u64 x6,.int .u64 x7])] (fun r2 h0=>r2=(.tup [])∧h0=[(1000,.cells 133 [.int .u64 r.1,.int .u64 r.2.1,.int .u64 r.2.2.1,.int .u64 r.2.2.2.1,.int .u64 r.2.2.2.2.1,.int .u64 r.2.2.2.2.2])]):=by
 unfold cO at H;refine aX Tryz.func81 54 [] ?_;refine aV H (fun c0 H0 => ?_) (fun c1 H1 => ?_)
 ·refine aP H0 fun y0 h1 H2 => ?_;refine aP H2 fun y1 h2 H3 => ?_;refine aP H3 fun y2 h3 H4 => ?_;refine aP H4 fun y3 h4 H5 => ?_;refine aP H5 fun y4 h5 H6 => ?_;refine aP H6 fun y5 h6 H7 => ?_;obtain rfl:=sI H7;exact pR 57 [V1,V5,.eqT 16 (.bool false),r0 [.v,.c true (iI y0),.v,.v,.c true (iI y1),.v,.c true (.tup [.int .u64 y2.1,.int .u64 y2.2]),.v,.v,.v,.v,.v],V1,r0 [.v,.v,.b,.v],.un,V1,V4,.rg 20 (V 12 [.xc (.tup [.int .u64 y3.1,.int .u64 y3.2]),.v,.v,.v,.v,.v,.v,.m]) [.v],V2,.cv [.only [0,6,9,29,30] [1000]],V1,V4,.rg 20 (V 12 [.xc (.tup [.int .u64 y4.1,.int .u64 y4.2]),.v,.v,.v,.v,.v,.v,.m]) [.v],V2,.cv [.only [0,6,9,29,30] [1000]],V1,V4,.rg 20 (V 12 [.xc (.tup [.int .u64 y5.1,.int .u64 y5.2]),.v,.v,.v,.v,.v,.v,.m]) [.v],V2,.cv [.only [0,6,9,29,30] [1000]],V1] [] [1000] (aM c0 (aC Tryz.call91 (aF (cM _ _ h1) (aT (aC Tryz.call91 (aF (cM _ _ h2) (aT (aC Tryz.call90 (aF (o7 (IntKind.wrap .u64 y0) (IntKind.wrap .u64 y1) y2 h3) (aT (aT (aT (aC (iA x2 y2.2 0 y3 h4) (aT (aT (aO (0+1) (aT (aT (aT (aC (iA x3 y2.1 y3.2 y4 h5) (aT (aT (aO (1+1) (aT (aT (aT (aC (iA x4 0 y4.2 y5 h6) (aT (aT (aO (2+1) aN))))))))))))))))))))))))))))))
 ·refine aP H1 fun y6 h7 H8 => ?_;refine aP H8 fun y7 h8 H9 => ?_;refine aP H9 fun y8 h9 H10 => ?_;refine aP H10 fun y9 h10 H11 => ?_;refine aP H11 fun y10 h11 H12 => ?_;refine aP H12 fun y11 h12 H13 => ?_;obtain rfl:=sI H13;exact pR 57 [V1,V5,.eqT 16 (.bool true),V1,r0 [.v,.c true (iI y6),.v,.v,.c true (iI y7),.v,.c true (.tup [.int .u64 y8.1,.int .u64 y8.2]),.v,.v,.v,.v,.v],V1,r0 [.v,.v,.b,.v],.un,V1,V4,.rg 20 (V 12 [.xc (.tup [.int .u64 y9.1,.int .u64 y9.2]),.v,.v,.v,.v,.v,.v,.m]) [.v],V2,.cv [.only [0,6,9,29,30] [1000]],V1,V4,.rg 20 (V 12 [.xc (.tup [.int .u64 y10.1,.int .u64 y10.2]),.v,.v,.v,.v,.v,.v,.m]) [.v],V2,.cv [.only [0,6,9,29,30] [1000]],V1,V4,.rg 20 (V 12 [.xc (.tup [.int .u64 y11.1,.int .u64 y11.2]),.v,.v,.v,.v,.v,.v,.m]) [.v],V2,.cv [.only [0,6,9,29,30] [1000]],V1] [] [1000] (aM c1 (aC Tryz.call91 (aF (cM _ _ h7) (aT (aC Tryz.call91 (aF (cM _ _ h8) (aT (aC Tryz.call90 (aF (o7 (IntKind.wrap .u64 y6) (IntKind.wrap .u64 y7) y8 h9) (aT (aT (aT (aC (iA x5 y8.2 0 y9 h10) (aT (aT (aO (0+1) (aT (aT (aT (aC (iA x6 y8.1 y9.2 y10 h11) (aT (aT (aO (1+1) (aT (aT (aT (aC (iA x7 0 y10.2 y11 h12) (aT (aT (aO (2+1) aN))))))))))))))))))))))))))))))
def cG (x0 x1:Int×Int×Int):Option ((Int×Int×Int)×Bool) :=
 (kC x0.1 x1.1 0).bind fun y0 =>
 (kC x0.2.1 x1.2.1 y0.2).bind fun y1 =>
 (kC x0.2.2 x1.2.2 y1.2).bind fun y2 =>
 some ((y0.1,y1.1,y2.1),(y2.2==0))
theorem iu (x0 x1:Int×Int×Int) (r:(Int×Int×Int)×Bool) (H:cG x0 x1=some r):bW Tryz.prog 120 [.agg [.int .u64 x0.1,.int .u64 x0.2.1,.int .u64 x0.2.2],.agg [.int .u64 x1.1,.int .u64 x1.2.1,.int .u64 x1.2.2]] (.tup [.agg [.int .u64 r.1.1,.int .u64 r.1.2.1,.int .u64 r.1.2.2],.bool r.2]):=by unfold cG at H;refine aX Tryz.func120 29 [.cell 4 131,.tmp 5] ?_;refine aP H fun y0 h0 H0 => ?_;refine aP H0 fun y1 h1 H1 => ?_;refine aP H1 fun y2 h2 H2 => ?_;obtain rfl:=sI H2;exact pR 55 [r0 [.m,.m,.m,.v],r0 [.m],V1,V1,.un,V1,V2,.rg 14 (V 8 [.xc (.tup [.int .u64 y0.1,.int .u64 y0.2]),.v,.v,.v,.v,.m]) [.v],V2,.cv [.only [2,3,4,5,6,7,9] [2,3,4,6]],V1,V2,.rg 14 (V 8 [.xc (.tup [.int .u64 y1.1,.int .u64 y1.2]),.v,.v,.v,.v,.m]) [.v],V2,.cv [.only [2,3,4,5,6,7,9] [2,3,4,6]],V1,V2,.rg 14 (V 8 [.xc (.tup [.int .u64 y2.1,.int .u64 y2.2]),.v,.v,.v,.v,.m]) [.v],V2,.cv [.only [2,3,4,5,6,7,9] [2,3,4,6]],V1,r0 [.v,.v,.v,.m,.v]] [] [] (aT (aT (aC (ot x0.1 x1.1 0 y0 h0) (aT (aO (0+1) (aT (aT (aC (ot x0.2.1 x1.2.1 y0.2 y1 h1) (aT (aO (1+1) (aT (aT (aC (ot x0.2.2 x1.2.2 y1.2 y2 h2) (aT (aO (2+1) aN)))))))))))))))
def dX (x0:Int):Option (Int×Int) :=
 (eL [x0]).bind fun y0 =>
 bif y0 then (
  some (x0,0)
 ) else (
  some (0,2)
 )
theorem mh (x0:Int) (r:Int×Int) (H:dX x0=some r):bW Tryz.prog 122 [iI x0] (.tup [iI r.1,iI r.2]):=by
 unfold dX at H;refine aX Tryz.func122 9 [.tmp 2,.tmp 3] ?_;refine aP H fun y0 h0 H0 => ?_;refine aV H0 (fun c0 H1 => ?_) (fun c1 H2 => ?_)
 ·obtain rfl:=sI H1;exact pR 11 [V2,r0 [.v,.b,.c true (.bool y0),.v],.eqT 7 (.bool false),V3] [] [] (aC Tryz.call80 (aF (bM _ _ h0) (aT (aM c0 aN))))
 ·obtain rfl:=sI H2;exact pR 10 [V2,r0 [.v,.b,.c true (.bool y0),.v],.eqT 7 (.bool true),V2] [] [] (aC Tryz.call80 (aF (bM _ _ h0) (aT (aM c1 aN))))
def cD (x0 x1 x2 x3 x4 x5:Int):Option (Int×Int) :=
 (cG (x0,x1,x2) (x3,x4,x5)).bind fun y0 =>
 bif y0.2 then (
  bif decide (y0.1.2.1>0) then (
   some (0,2)
  ) else (
   bif decide (y0.1.2.2>0) then (
    some (0,2)
   ) else (
    bif decide (y0.1.1>4611686018427387904) then (
     some (0,2)
    ) else (
     (dX (aD (1*(IntKind.wrap .i64 y0.1.1)))).bind fun y1 =>
     some (y1.1,y1.2)
    )
   )
  )
 ) else (
  (cG (x3,x4,x5) (x0,x1,x2)).bind fun y2 =>
  bif y2.2 then (
   bif decide (y2.1.2.1>0) then (
    some (0,2)
   ) else (
    bif decide (y2.1.2.2>0) then (
     some (0,2)
    ) else (
     bif decide (y2.1.1>4611686018427387904) then (
      some (0,2)
     ) else (
      (dX (aD ((-1)*(IntKind.wrap .i64 y2.1.1)))).bind fun y3 =>
      some (y3.1,y3.2)
     )
    )
   )
  ) else (
   some (0,2)
  )
 )
theorem oh (x0 x1 x2 x3 x4 x5:Int) (r:Int×Int) (H:cD x0 x1 x2 x3 x4 x5=some r):bT Tryz.prog 82 [.hptr 1000 0] [(1000,.cells 133 [.int .u64 x0,.int .u64 x1,.int .u64 x2,.int .u64 x3,.int .u64 x4,.int .u64 x5])] (fun r2 h0=>r2=(.tup [iI r.1,iI r.2])∧h0=[(1000,.cells 133 [.int .u64 x0,.int .u64 x1,.int .u64 x2,.int .u64 x3,.int .u64 x4,.int .u64 x5])]):=by
 unfold cD at H;refine aX Tryz.func82 53 [.tmp 2,.tmp 3] ?_;refine aP H fun y0 h1 H0 => ?_;refine pA 22 [V2,V1,r0 [.b,.v],.un,V1,V4,.rg 18 (V 12 [.c true (.tup [.agg [.int .u64 y0.1.1,.int .u64 y0.1.2.1,.int .u64 y0.1.2.2],.bool y0.2]),.v,.v,.v,.m,.m]) [.v],V1] [.only [0,2,3,4,6,7,9,10,30] [7,1000]] 22 [true] ⟨53,[(0,.hptr 1000 0),(2,iI 0),(3,iI 0),(4,.fn 120 []),(6,iI 1),(7,.hptr 7 0),(9,.agg [iI 1,iI (-1)]),(10,iI 0),(30,.bool y0.2)],[(7,.cells 131 [.int .u64 y0.1.1,.int .u64 y0.1.2.1,.int .u64 y0.1.2.2]),(1000,.cells 133 [.int .u64 x0,.int .u64 x1,.int .u64 x2,.int .u64 x3,.int .u64 x4,.int .u64 x5])]⟩ (aT (aT (aO (1-0) (aT (aC Tryz.call120 (aF (iu _ _ _ h1) aN)))))) ?_;refine aV H0 (fun c0 H1 => ?_) (fun c1 H2 => ?_)
 ·refine aV H1 (fun c2 H3 => ?_) (fun c3 H4 => ?_)
  ·obtain rfl:=sI H3;exact pR 9 [.eqT 30 (.bool true),r0 [.v,.v,.e (.bool true),.v,.s,.s,.s,.v,.v,.s,.s,.s,.v],V2] [] [1000] (aB c0 (aT (aB c2 aN)))
  ·refine aV H4 (fun c4 H5 => ?_) (fun c5 H6 => ?_)
   ·obtain rfl:=sI H5;exact pR 9 [.eqT 30 (.bool true),r0 [.v,.v,.e (.bool false),.v,.v,.v,.e (.bool true),.v,.v,.s,.s,.s,.v],V2] [] [1000] (aB c0 (aT (aB c3 (aT (aB c4 aN)))))
   ·refine aV H6 (fun c6 H7 => ?_) (fun c7 H8 => ?_)
    ·obtain rfl:=sI H7;exact pR 10 [.eqT 30 (.bool true),r0 [.v,.v,.e (.bool false),.v,.v,.v,.e (.bool false),.v,.v,.v,.v,.v,.v],.eqT 43 (.bool true),V2] [] [1000] (aB c0 (aT (aB c3 (aT (aB c5 (aT (aB c6 aN)))))))
    ·refine aP H8 fun y1 h2 H9 => ?_;obtain rfl:=sI H9;exact pR 11 [.eqT 30 (.bool true),r0 [.v,.v,.e (.bool false),.v,.v,.v,.e (.bool false),.v,.v,.v,.v,.v,.v],.eqT 43 (.bool false),r0 (V 4 [.w,.c true (.tup [iI y1.1,iI y1.2]),.v,.v,.v,.v])] [] [1000] (aB c0 (aT (aB c3 (aT (aB c5 (aT (aB c7 (aT (aT (aC Tryz.call122 (aF (mh _ _ h2) aN)))))))))))
 ·refine aP H2 fun y2 h3 H10 => ?_;refine pA 18 [.eqT 30 (.bool false),V2,.cv [.only [0,2,3,4,9,10] [1000]],V1,V4,.rg 18 (V 12 [.c true (.tup [.agg [.int .u64 y2.1.1,.int .u64 y2.1.2.1,.int .u64 y2.1.2.2],.bool y2.2]),.v,.v,.v,.m,.m]) [.v],V1] [.only [0,2,3,4,6,7,9,10,30] [7,1000]] 16 [false,true] ⟨53,[(0,.hptr 1000 0),(2,iI 0),(3,iI 0),(4,.fn 120 []),(6,iI (-1)),(7,.hptr 7 0),(9,.agg [iI 1,iI (-1)]),(10,iI 1),(30,.bool y2.2)],[(7,.cells 131 [.int .u64 y2.1.1,.int .u64 y2.1.2.1,.int .u64 y2.1.2.2]),(1000,.cells 133 [.int .u64 x0,.int .u64 x1,.int .u64 x2,.int .u64 x3,.int .u64 x4,.int .u64 x5])]⟩ (aB c1 (aO (0+1) (aT (aT (aO (1-1) (aT (aC Tryz.call120 (aF (iu _ _ _ h3) aN)))))))) ?_;refine aV H10 (fun c8 H11 => ?_) (fun c9 H12 => ?_)
  ·refine aV H11 (fun c10 H13 => ?_) (fun c11 H14 => ?_)
   ·obtain rfl:=sI H13;exact pR 9 [.eqT 30 (.bool true),r0 [.v,.v,.e (.bool true),.v,.s,.s,.s,.v,.v,.s,.s,.s,.v],V2] [] [1000] (aB c8 (aT (aB c10 aN)))
   ·refine aV H14 (fun c12 H15 => ?_) (fun c13 H16 => ?_)
    ·obtain rfl:=sI H15;exact pR 9 [.eqT 30 (.bool true),r0 [.v,.v,.e (.bool false),.v,.v,.v,.e (.bool true),.v,.v,.s,.s,.s,.v],V2] [] [1000] (aB c8 (aT (aB c11 (aT (aB c12 aN)))))
    ·refine aV H16 (fun c14 H17 => ?_) (fun c15 H18 => ?_)
     ·obtain rfl:=sI H17;exact pR 10 [.eqT 30 (.bool true),r0 [.v,.v,.e (.bool false),.v,.v,.v,.e (.bool false),.v,.v,.v,.v,.v,.v],.eqT 43 (.bool true),V2] [] [1000] (aB c8 (aT (aB c11 (aT (aB c13 (aT (aB c14 aN)))))))
     ·refine aP H18 fun y3 h4 H19 => ?_;obtain rfl:=sI H19;exact pR 11 [.eqT 30 (.bool true),r0 [.v,.v,.e (.bool false),.v,.v,.v,.e (.bool false),.v,.v,.v,.v,.v,.v],.eqT 43 (.bool false),r0 (V 4 [.w,.c true (.tup [iI y3.1,iI y3.2]),.v,.v,.v,.v])] [] [1000] (aB c8 (aT (aB c11 (aT (aB c13 (aT (aB c15 (aT (aT (aC Tryz.call122 (aF (mh _ _ h4) aN)))))))))))
  ·obtain rfl:=sI H12;exact pR 13 [.eqT 30 (.bool false),V2,.cv [.only [0,2,3,4,9,10] [1000]],V1,V2] [] [1000] (aB c9 (aO (1+1) aN))
def eC (x0 x1:List Int):Option (Int×Int) :=
 bif (((x0.length:Nat):Int)==((x1.length:Nat):Int)) then (
  bif decide (((x0.length:Nat):Int)>10000) then (
   some (0,3)
  ) else (
   (eL x0).bind fun y0 =>
   bif y0 then (
    (eL x1).bind fun y1 =>
    bif y1 then (
     (dZ (σ:=(Int×Int×Int×Int×Int×Int)) (ε:=(Int×Int×Int×Int×Int×Int)) (ρ:=Empty) (fun i0 s0 =>
      bH (i0<x1.length) <|
      (cO (x0.getD i0 0) (x1.getD i0 0) s0.1 s0.2.1 s0.2.2.1 s0.2.2.2.1 s0.2.2.2.2.1 s0.2.2.2.2.2).bind fun y2 =>
      some (.go (y2.1,y2.2.1,y2.2.2.1,y2.2.2.2.1,y2.2.2.2.2.1,y2.2.2.2.2.2))
     ) (fun i0 s0=>(s0.1,s0.2.1,s0.2.2.1,s0.2.2.2.1,s0.2.2.2.2.1,s0.2.2.2.2.2)) (x0.length-0) 0 (0,0,0,0,0,0)).bind <| dG fun u0 =>
     (cD u0.1 u0.2.1 u0.2.2.1 u0.2.2.2.1 u0.2.2.2.2.1 u0.2.2.2.2.2).bind fun y3 =>
     some (y3.1,y3.2)
    ) else (
     some (0,2)
    )
   ) else (
    some (0,2)
   )
  )
 ) else (
  some (0,1)
 )
def lN (x0 x1:List Int) (i0:Nat) (s0:Int×Int×Int×Int×Int×Int):AS:=⟨45,[(1,dS ag x1),(4,iI 0),(5,iI 0),(6,.hptr 6 0),(28,dS ag x0),(29,nI x0.length),(30,nI i0)],[(6,.cells 133 [.int .u64 s0.1,.int .u64 s0.2.1,.int .u64 s0.2.2.1,.int .u64 s0.2.2.2.1,.int .u64 s0.2.2.2.2.1,.int .u64 s0.2.2.2.2.2])]⟩
def oZ (u1:Int×Int×Int×Int×Int×Int):AS:=⟨45,[(4,iI 0),(5,iI 0),(6,.hptr 6 0)],[(6,.cells 133 [.int .u64 u1.1,.int .u64 u1.2.1,.int .u64 u1.2.2.1,.int .u64 u1.2.2.2.1,.int .u64 u1.2.2.2.2.1,.int .u64 u1.2.2.2.2.2])]⟩
theorem gN (x0 x1:List Int) (r:Int×Int) (H:eC x0 x1=some r):bW Tryz.prog 47 [dS ag x0,dS ag x1] (.tup [iI r.1,iI r.2]):=by
 unfold eC at H;refine aX Tryz.func47 45 [.tmp 4,.tmp 5] ?_;refine aV H (fun c0 H0 => ?_) (fun c1 H1 => ?_)
 ·refine pA 10 [.rg 0 [] [.v,.v],.rg 0 [] [.v,.e (.int .i64 ((x0.length:Nat):Int)),.v,.e (.int .i64 ((x1.length:Nat):Int)),.v,.v],.eqT 9 (.bool false),.rg 0 [] [.v,.e (.int .i64 ((x0.length:Nat):Int)),.v,.v]] [.only [0,1,4,5,15] []] 9 [false] ⟨45,[(0,.dslice (x0.map ag)),(1,.dslice (x1.map ag)),(4,.int .i64 0),(5,.int .i64 0),(15,.bool (decide (((x0.length:Nat):Int)>10000)))],[]⟩ (aT (aC (aJ ag x0) (aT (aC (aJ ag x1) (aM c0 (aT (aC (aJ ag x0) aN))))))) ?_;refine aV H0 (fun c2 H2 => ?_) (fun c3 H3 => ?_)
  ·obtain rfl:=sI H2;exact pR 5 [.eqT 15 (.bool true),V2] [] [] (aB c2 aN)
  ·have c3p:=Kl c3;refine aP H3 fun y0 h0 H4 => ?_;refine aV H4 (fun c4 H5 => ?_) (fun c5 H6 => ?_)
   ·refine aP H5 fun y1 h1 H7 => ?_;refine aV H7 (fun c6 H8 => ?_) (fun c7 H9 => ?_)
    ·refine pA 13 [.eqT 15 (.bool false),.rg 0 [] [.v,.c true (.bool true),.v,.v,.v,.c true (.bool y1),.v,.v,.v],.eqT 19 (.bool false),.rg 0 [] [.m],.rg 0 [] [.v,.e (.int .i64 ((x0.length:Nat):Int)),.v]] [.only [1,4,5,6,28,29,30] [6]] 11 [false,false] (lN x0 x1 0 (0,0,0,0,0,0)) (aB c3 (aC Tryz.call80 (aC (bW.eq (bM _ _ h0) (cB c4)) (aT (aC Tryz.call80 (aF (bM _ _ h1) (aT (aM c6 (aT (aC (aJ ag x0) aN)))))))))) ?_;refine aP H8 fun R0 h2 H10 => ?_;refine pJ 1 (oZ) R0 ?_ (fun u0 e0 => ?_)
     ·refine pC (lN x0 x1) h2 (fun i0 s0 h3 e1 => ?_) (fun i0 s0 h4 q0 h5 h6 => ?_)
      ·have c8:=lF i0 x0.length (by omega);subst e1;exact pB 5 [r0 [.e (.bool false)]] [.only [4,5,6] [6]] (oZ (s0.1,s0.2.1,s0.2.2.1,s0.2.2.2.1,s0.2.2.2.2.1,s0.2.2.2.2.2)) (aB c8 aN)
      ·have c9:=lT i0 x0.length (by omega);refine aG h5 fun g0 H11 => ?_;refine aP H11 fun y2 h7 H12 => ?_;refine b7 28 (ps:=[(x0.map ag).length≤9223372036854775807]) (by kernel_rfl) (fun l0 => ?_);have l1:x0.length≤9223372036854775807:=by simpa only [bB,Kp] using l0
       clear l0;obtain rfl:=sI H12;exact pB 11 [r0 [.e (.bool true)],r0 [.v,.e (.dptr [iI (x0.getD i0 0)]),.v,.v,.v],r0 [.v,.v,.v,.e (.dptr [iI (x1.getD i0 0)]),.v,.hR [(6,1000)] 40 (.tup []) [(1000,.cells 133 [.int .u64 y2.1,.int .u64 y2.2.1,.int .u64 y2.2.2.1,.int .u64 y2.2.2.2.1,.int .u64 y2.2.2.2.2.1,.int .u64 y2.2.2.2.2.2])]],V2] [.only [1,4,5,6,28,29,30] [6]] (lN x0 x1 (i0+1) (y2.1,y2.2.1,y2.2.2.1,y2.2.2.2.1,y2.2.2.2.2.1,y2.2.2.2.2.2)) (aB c9 (aI cb x0 i0 0 (aI cb x1 i0 0 (aC Tryz.call81 (aC (pM _ _ _ _ _ _ _ _ _ h7) (aH i0 aN))))))
     ·subst e0;have H13:=bI H10;refine aP H13 fun y3 h8 H14 => ?_;obtain rfl:=sI H14;exact pR 3 [r0 [.hR [(6,1000)] 42 (.tup [iI y3.1,iI y3.2]) [(1000,.cells 133 [.int .u64 u0.1,.int .u64 u0.2.1,.int .u64 u0.2.2.1,.int .u64 u0.2.2.2.1,.int .u64 u0.2.2.2.2.1,.int .u64 u0.2.2.2.2.2])],.v,.v,.v,.v]] [] [] (aC Tryz.call82 (aC (oh _ _ _ _ _ _ _ h8) aN))
    ·obtain rfl:=sI H9;exact pR 9 [.eqT 15 (.bool false),r0 [.v,.c true (.bool true),.v,.v,.v,.c true (.bool y1),.v,.v,.v],.eqT 19 (.bool true),V2] [] [] (aB c3 (aC Tryz.call80 (aC (bW.eq (bM _ _ h0) (cB c4)) (aT (aC Tryz.call80 (aF (bM _ _ h1) (aT (aM c7 aN))))))))
   ·obtain rfl:=sI H6;exact pR 8 [.eqT 15 (.bool false),r0 [.v,.c true (.bool false),.v,.v,.s,.s,.s,.v,.v],V2] [] [] (aB c3 (aC Tryz.call80 (aC (bW.eq (bM _ _ h0) (cB c5)) (aT aN))))
 ·obtain rfl:=sI H1;exact pR 11 [V2,r0 [.v,.e (nI x0.length),.v,.e (nI x1.length),.v,.v],.eqT 9 (.bool true),V2] [] [] (aT (aC (aJ ag x0) (aT (aC (aJ ag x1) (aM c1 aN)))))
noncomputable def cV (x0:Nat) (x1:ab) (x2:Int) (x3:List ab):Option (List ab) :=
 bH (x0<x3.length) <|
 (jU ((x3.getD x0 (⟨⟨0,[]⟩,[],0,false⟩)).scale) x1.scale).bind fun y0 =>
 bif ((x3.getD x0 (⟨⟨0,[]⟩,[],0,false⟩)).lost) then (
  some (x3.set x0 (ab.mk (Linear.mk (((x3.getD x0 (⟨⟨0,[]⟩,[],0,false⟩)).q).Const) (((x3.getD x0 (⟨⟨0,[]⟩,[],0,false⟩)).q).Terms)) ((x3.getD x0 (⟨⟨0,[]⟩,[],0,false⟩)).mults) ((x3.getD x0 (⟨⟨0,[]⟩,[],0,false⟩)).scale) true))
 ) else (
  bif x1.lost then (
   some (x3.set x0 (ab.mk (Linear.mk (((x3.getD x0 (⟨⟨0,[]⟩,[],0,false⟩)).q).Const) (((x3.getD x0 (⟨⟨0,[]⟩,[],0,false⟩)).q).Terms)) ((x3.getD x0 (⟨⟨0,[]⟩,[],0,false⟩)).mults) ((x3.getD x0 (⟨⟨0,[]⟩,[],0,false⟩)).scale) true))
  ) else (
   (bN y0.1 y0.2).bind fun y1 =>
   bif y1 then (
    bH ((((x3.getD x0 (⟨⟨0,[]⟩,[],0,false⟩)).scale):Int)≠0) <|
    bH ((x1.scale:Int)≠0) <|
    lM (σ:=((List ab)×(List (Int×Int)))) (ε:=Empty) (β:=(List ab)) ((x3.getD x0 (⟨⟨0,[]⟩,[],0,false⟩)).mults) (fun e0 s0 =>
     (ep e0.2 (aD (y0.1.tdiv ((x3.getD x0 (⟨⟨0,[]⟩,[],0,false⟩)).scale)))).bind fun y2 =>
     bH (x0<s0.1.length) <|
     ((
      bif ((s0.1.getD x0 (⟨⟨0,[]⟩,[],0,false⟩)).lost) then (
       some (s0.1.set x0 (ab.mk (Linear.mk (((s0.1.getD x0 (⟨⟨0,[]⟩,[],0,false⟩)).q).Const) (((s0.1.getD x0 (⟨⟨0,[]⟩,[],0,false⟩)).q).Terms)) ((s0.1.getD x0 (⟨⟨0,[]⟩,[],0,false⟩)).mults) ((s0.1.getD x0 (⟨⟨0,[]⟩,[],0,false⟩)).scale) true))
      ) else (
       (bN y2.1 y2.2).bind fun y3 =>
       some (s0.1.set x0 (ab.mk (Linear.mk (((s0.1.getD x0 (⟨⟨0,[]⟩,[],0,false⟩)).q).Const) (((s0.1.getD x0 (⟨⟨0,[]⟩,[],0,false⟩)).q).Terms)) ((s0.1.getD x0 (⟨⟨0,[]⟩,[],0,false⟩)).mults) ((s0.1.getD x0 (⟨⟨0,[]⟩,[],0,false⟩)).scale) (!y3)))
      )
     ):Option (List ab)).bind fun v0 =>
     some (.go (v0,(bL (e0.1:Int) y2.1 s0.2)))
    ) (x3,[]) (fun s0 =>
     lM (σ:=((List ab)×(List (Int×Int)))) (ε:=Empty) (β:=(List ab)) x1.mults (fun e1 s1 =>
      (eC [1,(aD ((aD (0-(aD (y0.1.tdiv x1.scale))))*x2))] [(bA 0 (e1.1:Int) s1.2),e1.2]).bind fun y4 =>
      bH (x0<s1.1.length) <|
      ((
       bif ((s1.1.getD x0 (⟨⟨0,[]⟩,[],0,false⟩)).lost) then (
        some (s1.1.set x0 (ab.mk (Linear.mk (((s1.1.getD x0 (⟨⟨0,[]⟩,[],0,false⟩)).q).Const) (((s1.1.getD x0 (⟨⟨0,[]⟩,[],0,false⟩)).q).Terms)) ((s1.1.getD x0 (⟨⟨0,[]⟩,[],0,false⟩)).mults) ((s1.1.getD x0 (⟨⟨0,[]⟩,[],0,false⟩)).scale) true))
       ) else (
        (bN y4.1 y4.2).bind fun y5 =>
        some (s1.1.set x0 (ab.mk (Linear.mk (((s1.1.getD x0 (⟨⟨0,[]⟩,[],0,false⟩)).q).Const) (((s1.1.getD x0 (⟨⟨0,[]⟩,[],0,false⟩)).q).Terms)) ((s1.1.getD x0 (⟨⟨0,[]⟩,[],0,false⟩)).mults) ((s1.1.getD x0 (⟨⟨0,[]⟩,[],0,false⟩)).scale) (!y5)))
       )
      ):Option (List ab)).bind fun v1 =>
      some (.go (v1,(bL (e1.1:Int) y4.1 s1.2)))
     ) (s0.1,s0.2) (fun s1 =>
      bH (x0<s1.1.length) <|
      bH (x0<(s1.1.set x0 (ab.mk (Linear.mk (((s1.1.getD x0 (⟨⟨0,[]⟩,[],0,false⟩)).q).Const) (((s1.1.getD x0 (⟨⟨0,[]⟩,[],0,false⟩)).q).Terms)) (ksort s1.2) ((s1.1.getD x0 (⟨⟨0,[]⟩,[],0,false⟩)).scale) ((s1.1.getD x0 (⟨⟨0,[]⟩,[],0,false⟩)).lost))).length) <|
      some ((s1.1.set x0 (ab.mk (Linear.mk (((s1.1.getD x0 (⟨⟨0,[]⟩,[],0,false⟩)).q).Const) (((s1.1.getD x0 (⟨⟨0,[]⟩,[],0,false⟩)).q).Terms)) (ksort s1.2) ((s1.1.getD x0 (⟨⟨0,[]⟩,[],0,false⟩)).scale) ((s1.1.getD x0 (⟨⟨0,[]⟩,[],0,false⟩)).lost))).set x0 (ab.mk (Linear.mk ((((s1.1.set x0 (ab.mk (Linear.mk (((s1.1.getD x0 (⟨⟨0,[]⟩,[],0,false⟩)).q).Const) (((s1.1.getD x0 (⟨⟨0,[]⟩,[],0,false⟩)).q).Terms)) (ksort s1.2) ((s1.1.getD x0 (⟨⟨0,[]⟩,[],0,false⟩)).scale) ((s1.1.getD x0 (⟨⟨0,[]⟩,[],0,false⟩)).lost))).getD x0 (⟨⟨0,[]⟩,[],0,false⟩)).q).Const) ((((s1.1.set x0 (ab.mk (Linear.mk (((s1.1.getD x0 (⟨⟨0,[]⟩,[],0,false⟩)).q).Const) (((s1.1.getD x0 (⟨⟨0,[]⟩,[],0,false⟩)).q).Terms)) (ksort s1.2) ((s1.1.getD x0 (⟨⟨0,[]⟩,[],0,false⟩)).scale) ((s1.1.getD x0 (⟨⟨0,[]⟩,[],0,false⟩)).lost))).getD x0 (⟨⟨0,[]⟩,[],0,false⟩)).q).Terms)) (((s1.1.set x0 (ab.mk (Linear.mk (((s1.1.getD x0 (⟨⟨0,[]⟩,[],0,false⟩)).q).Const) (((s1.1.getD x0 (⟨⟨0,[]⟩,[],0,false⟩)).q).Terms)) (ksort s1.2) ((s1.1.getD x0 (⟨⟨0,[]⟩,[],0,false⟩)).scale) ((s1.1.getD x0 (⟨⟨0,[]⟩,[],0,false⟩)).lost))).getD x0 (⟨⟨0,[]⟩,[],0,false⟩)).mults) y0.1 (((s1.1.set x0 (ab.mk (Linear.mk (((s1.1.getD x0 (⟨⟨0,[]⟩,[],0,false⟩)).q).Const) (((s1.1.getD x0 (⟨⟨0,[]⟩,[],0,false⟩)).q).Terms)) (ksort s1.2) ((s1.1.getD x0 (⟨⟨0,[]⟩,[],0,false⟩)).scale) ((s1.1.getD x0 (⟨⟨0,[]⟩,[],0,false⟩)).lost))).getD x0 (⟨⟨0,[]⟩,[],0,false⟩)).lost)))
     )
    )
   ) else (
    some (x3.set x0 (ab.mk (Linear.mk (((x3.getD x0 (⟨⟨0,[]⟩,[],0,false⟩)).q).Const) (((x3.getD x0 (⟨⟨0,[]⟩,[],0,false⟩)).q).Terms)) ((x3.getD x0 (⟨⟨0,[]⟩,[],0,false⟩)).mults) ((x3.getD x0 (⟨⟨0,[]⟩,[],0,false⟩)).scale) true))
   )
  )
 )
def fN (x0:Nat) (x1:ab) (x2:Int) (x3:List ab) (y0:Int×Int) (i0:List Nat) (s0:(List ab)×(List (Int×Int))):AS:=⟨135,[(0,.hptr 1000 (x0*5)),(2,iI x2),(4,.hptr 4 0),(6,iI y0.1),(8,iI (aD (y0.1.tdiv ((x3.getD x0 (⟨⟨0,[]⟩,[],0,false⟩)).scale)))),(9,iI (aD (y0.1.tdiv x1.scale))),(10,.amap 56),(61,.hptr 61 0)],[(4,.cells 76 [iI x1.q.Const,dS aj x1.q.Terms,.dmap (x1.mults.map (cR ag)),iI x1.scale,.bool x1.lost]),(56,.smap 1 3 (s0.2.map (cR ag))),(61,.iter (((x3.getD x0 (⟨⟨0,[]⟩,[],0,false⟩)).mults).map (cR ag)) i0),(1000,.row 76 5 (s0.1.map aa))]⟩
def fK (x0:Nat) (x1:ab) (x2:Int) (y0:Int×Int) (i1:List Nat) (s1:(List ab)×(List (Int×Int))):AS:=⟨135,[(0,.hptr 1000 (x0*5)),(2,iI x2),(6,iI y0.1),(9,iI (aD (y0.1.tdiv x1.scale))),(10,.amap 56),(91,.hptr 91 0)],[(56,.smap 1 3 (s1.2.map (cR ag))),(91,.iter (x1.mults.map (cR ag)) i1),(1000,.row 76 5 (s1.1.map aa))]⟩
def fJ (x0:Nat) (x1:ab) (x2:Int) (y0:Int×Int) (i1:List Nat) (s1:(List ab)×(List (Int×Int))) (n0:Nat) (e1 y4:Int×Int) (v1:List ab):AS:=⟨135,[(0,.hptr 1000 (x0*5)),(2,iI x2),(6,iI y0.1),(9,iI (aD (y0.1.tdiv x1.scale))),(10,.amap 56),(15,iI e1.1),(17,iI y4.1),(91,.hptr 91 0)],[(56,.smap 1 3 (s1.2.map (cR ag))),(91,.iter (x1.mults.map (cR ag)) (i1++[n0])),(1000,.row 76 5 (v1.map aa))]⟩
def fL (x0:Nat) (x1:ab) (x2:Int) (x3:List ab) (y0:Int×Int) (i0:List Nat) (s0:(List ab)×(List (Int×Int))) (n1:Nat) (e0 y2:Int×Int) (v0:List ab):AS:=⟨135,[(0,.hptr 1000 (x0*5)),(2,iI x2),(4,.hptr 4 0),(6,iI y0.1),(8,iI (aD (y0.1.tdiv ((x3.getD x0 (⟨⟨0,[]⟩,[],0,false⟩)).scale)))),(9,iI (aD (y0.1.tdiv x1.scale))),(10,.amap 56),(11,iI e0.1),(13,iI y2.1),(61,.hptr 61 0)],[(4,.cells 76 [iI x1.q.Const,dS aj x1.q.Terms,.dmap (x1.mults.map (cR ag)),iI x1.scale,.bool x1.lost]),(56,.smap 1 3 (s0.2.map (cR ag))),(61,.iter (((x3.getD x0 (⟨⟨0,[]⟩,[],0,false⟩)).mults).map (cR ag)) (i0++[n1])),(1000,.row 76 5 (v0.map aa))]⟩
theorem pd (x0:Nat) (x1:ab) (x2:Int) (x3 r:List ab) (H:cV x0 x1 x2 x3=some r):bT Tryz.prog 100 [.hptr 1000 (x0*5),.agg [iI x1.q.Const,dS aj x1.q.Terms,.dmap (x1.mults.map (cR ag)),iI x1.scale,.bool x1.lost],iI x2] [(1000,.row 76 5 (x3.map aa))] (fun r2 h0=>r2=(.tup [])∧h0=[(1000,.row 76 5 (r.map aa))]):=by
 unfold cV at H;refine aX Tryz.func100 135 [] ?_;refine aG H fun g0 H0 => ?_;refine aP H0 fun y0 h1 H1 => ?_;refine pA 6 [r0 [.m],.rg 11 [.v,.v,.v,.rl x0 3 (iI ((x3.getD x0 (⟨⟨0,[]⟩,[],0,false⟩)).scale)),.v,.v,.c true (.tup [iI y0.1,iI y0.2]),.v,.v,.v,.v] [.v]] [.only [0,2,4,6,7] [4,1000]] 6 [] ⟨135,[(0,.hptr 1000 (x0*5)),(2,iI x2),(4,.hptr 4 0),(6,iI y0.1),(7,iI y0.2)],[(4,.cells 76 [iI x1.q.Const,dS aj x1.q.Terms,.dmap (x1.mults.map (cR ag)),iI x1.scale,.bool x1.lost]),(1000,.row 76 5 (x3.map aa))]⟩ (aC (gR (f:=aa) (l:=x3) (n:=x0) 5 3 1 (by omega) (by decide)) (aC (sZ (f:=aa) (l:=x3) (n:=x0) (⟨⟨0,[]⟩,[],0,false⟩) 3 (by omega)) (aC Tryz.call132 (aF (wQ _ _ _ h1) aN)))) ?_;refine aV H1 (fun c0 H2 => ?_) (fun c1 H3 => ?_)
 ·obtain rfl:=sI H2;exact pR 5 [r0 [.v,.v,.v,.rl x0 4 (.bool ((x3.getD x0 (⟨⟨0,[]⟩,[],0,false⟩)).lost)),.e (.bool true),.s,.s,.v,.v,.s,.s,.s,.s,.v],r0 [.v,.v,.v,.rs x0 4,.rwH 1000 (.row 76 5 ((x3.set x0 (ab.mk (Linear.mk (((x3.getD x0 (⟨⟨0,[]⟩,[],0,false⟩)).q).Const) (((x3.getD x0 (⟨⟨0,[]⟩,[],0,false⟩)).q).Terms)) ((x3.getD x0 (⟨⟨0,[]⟩,[],0,false⟩)).mults) ((x3.getD x0 (⟨⟨0,[]⟩,[],0,false⟩)).scale) true)).map aa))]] [] [1000] (aC (gR (f:=aa) (l:=x3) (n:=x0) 5 4 1 (by omega) (by decide)) (aC (sZ (f:=aa) (l:=x3) (n:=x0) (⟨⟨0,[]⟩,[],0,false⟩) 4 (by omega)) (aB c0 (aC (gR (f:=aa) (l:=x3) (n:=x0) 5 4 1 (by omega) (by decide)) (aC (r7 (f:=aa) 76 5 x3 x0 (⟨⟨0,[]⟩,[],0,false⟩) (ab.mk (Linear.mk (((x3.getD x0 (⟨⟨0,[]⟩,[],0,false⟩)).q).Const) (((x3.getD x0 (⟨⟨0,[]⟩,[],0,false⟩)).q).Terms)) ((x3.getD x0 (⟨⟨0,[]⟩,[],0,false⟩)).mults) ((x3.getD x0 (⟨⟨0,[]⟩,[],0,false⟩)).scale) true) 4 [.bool true] (by omega) rfl) aN)))))
 ·refine aV H3 (fun c2 H4 => ?_) (fun c3 H5 => ?_)
  ·obtain rfl:=sI H4;exact pR 5 [r0 [.v,.v,.v,.rl x0 4 (.bool ((x3.getD x0 (⟨⟨0,[]⟩,[],0,false⟩)).lost)),.e (.bool false),.v,.e (.bool true),.v,.v,.s,.s,.s,.s,.v],r0 [.v,.v,.v,.rs x0 4,.rwH 1000 (.row 76 5 ((x3.set x0 (ab.mk (Linear.mk (((x3.getD x0 (⟨⟨0,[]⟩,[],0,false⟩)).q).Const) (((x3.getD x0 (⟨⟨0,[]⟩,[],0,false⟩)).q).Terms)) ((x3.getD x0 (⟨⟨0,[]⟩,[],0,false⟩)).mults) ((x3.getD x0 (⟨⟨0,[]⟩,[],0,false⟩)).scale) true)).map aa))]] [] [1000] (aC (gR (f:=aa) (l:=x3) (n:=x0) 5 4 1 (by omega) (by decide)) (aC (sZ (f:=aa) (l:=x3) (n:=x0) (⟨⟨0,[]⟩,[],0,false⟩) 4 (by omega)) (aB c1 (aB c2 (aC (gR (f:=aa) (l:=x3) (n:=x0) 5 4 1 (by omega) (by decide)) (aC (r7 (f:=aa) 76 5 x3 x0 (⟨⟨0,[]⟩,[],0,false⟩) (ab.mk (Linear.mk (((x3.getD x0 (⟨⟨0,[]⟩,[],0,false⟩)).q).Const) (((x3.getD x0 (⟨⟨0,[]⟩,[],0,false⟩)).q).Terms)) ((x3.getD x0 (⟨⟨0,[]⟩,[],0,false⟩)).mults) ((x3.getD x0 (⟨⟨0,[]⟩,[],0,false⟩)).scale) true) 4 [.bool true] (by omega) rfl) aN))))))
  ·refine aP H5 fun y1 h2 H6 => ?_;refine pA 1 [r0 [.v,.v,.v,.rl x0 4 (.bool ((x3.getD x0 (⟨⟨0,[]⟩,[],0,false⟩)).lost)),.e (.bool false),.v,.e (.bool false),.v,.v,.v,.v,.c true (.bool y1),.v,.v]] [.only [0,2,4,6,42] [4,1000]] 1 [] ⟨135,[(0,.hptr 1000 (x0*5)),(2,iI x2),(4,.hptr 4 0),(6,iI y0.1),(42,.bool (!y1))],[(4,.cells 76 [iI x1.q.Const,dS aj x1.q.Terms,.dmap (x1.mults.map (cR ag)),iI x1.scale,.bool x1.lost]),(1000,.row 76 5 (x3.map aa))]⟩ (aC (gR (f:=aa) (l:=x3) (n:=x0) 5 4 1 (by omega) (by decide)) (aC (sZ (f:=aa) (l:=x3) (n:=x0) (⟨⟨0,[]⟩,[],0,false⟩) 4 (by omega)) (aB c1 (aB c3 (aC Tryz.call45 (aF (cQ _ _ _ h2) (aT aN))))))) ?_;refine aV H6 (fun c4 H7 => ?_) (fun c5 H8 => ?_)
   ·refine aG H7 fun g1 H9 => ?_;refine aG H9 fun g2 H10 => ?_;refine pA 11 [.eqT 42 (.bool false),.rg 11 (V 4 [.rl x0 3 (iI ((x3.getD x0 (⟨⟨0,[]⟩,[],0,false⟩)).scale)),.w,.v,.v,.v,.w,.v]) [.v],r0 [.m,.v],r0 [.v,.v,.v,.rl x0 2 (.dmap (((x3.getD x0 (⟨⟨0,[]⟩,[],0,false⟩)).mults).map (cR ag))),.m]] [.only [0,2,4,6,8,9,10,61] [4,56,61,1000]] 10 [false] (fN x0 x1 x2 x3 y0 [] (x3,[])) (aM c4 (aC (gR (f:=aa) (l:=x3) (n:=x0) 5 3 1 (by omega) (by decide)) (aC (sZ (f:=aa) (l:=x3) (n:=x0) (⟨⟨0,[]⟩,[],0,false⟩) 3 (by omega)) (aC (show (((x3.getD x0 (⟨⟨0,[]⟩,[],0,false⟩)).scale):Int)≠0 from g1) (aC (show (x1.scale:Int)≠0 from g2) (aC (gR (f:=aa) (l:=x3) (n:=x0) 5 2 1 (by omega) (by decide)) (aC (sZ (f:=aa) (l:=x3) (n:=x0) (⟨⟨0,[]⟩,[],0,false⟩) 2 (by omega)) aN))))))) ?_;refine pF (cc:=ag) 61 (fN x0 x1 x2 x3 y0) (by kernel_rfl) H10 [.v] (fun i0 s0=>⟨by kernel_rfl,by kernel_rfl⟩) (fun i0 s0=>⟨135,[(0,.hptr 1000 (x0*5)),(2,iI x2),(4,.hptr 4 0),(6,iI y0.1),(8,iI (aD (y0.1.tdiv ((x3.getD x0 (⟨⟨0,[]⟩,[],0,false⟩)).scale)))),(9,iI (aD (y0.1.tdiv x1.scale))),(10,.amap 56),(61,.hptr 61 0),(62,.tup [.bool false]),(63,.bool false)],[(4,.cells 76 [iI x1.q.Const,dS aj x1.q.Terms,.dmap (x1.mults.map (cR ag)),iI x1.scale,.bool x1.lost]),(56,.smap 1 3 (s0.2.map (cR ag))),(61,.iter (((x3.getD x0 (⟨⟨0,[]⟩,[],0,false⟩)).mults).map (cR ag)) i0),(1000,.row 76 5 (s0.1.map aa))]⟩) (fun i0 s0=>by kernel_rfl) (fun i0 s0 n1 e0=>⟨135,[(0,.hptr 1000 (x0*5)),(2,iI x2),(4,.hptr 4 0),(6,iI y0.1),(8,iI (aD (y0.1.tdiv ((x3.getD x0 (⟨⟨0,[]⟩,[],0,false⟩)).scale)))),(9,iI (aD (y0.1.tdiv x1.scale))),(10,.amap 56),(61,.hptr 61 0),(62,.tup [.bool true,iI e0.1,iI e0.2]),(63,.bool true)],[(4,.cells 76 [iI x1.q.Const,dS aj x1.q.Terms,.dmap (x1.mults.map (cR ag)),iI x1.scale,.bool x1.lost]),(56,.smap 1 3 (s0.2.map (cR ag))),(61,.iter (((x3.getD x0 (⟨⟨0,[]⟩,[],0,false⟩)).mults).map (cR ag)) (i0++[n1])),(1000,.row 76 5 (s0.1.map aa))]⟩) (fun i0 s0 n1 e0=>by kernel_rfl) (fun i0 s0 H11 => ?_) (fun i0 s0 n1 e0 h3 q0 h4 h5 => ?_)
    ·refine pA 7 [.rg 0 [] [.v,.v,.m]] [.only [0,2,6,9,10,91] [56,91,1000]] 7 [false] (fK x0 x1 x2 y0 [] (s0.1,s0.2)) aN ?_;refine pF (cc:=ag) 91 (fK x0 x1 x2 y0) (by kernel_rfl) H11 [.v] (fun i1 s1=>⟨by kernel_rfl,by kernel_rfl⟩) (fun i1 s1=>⟨135,[(0,.hptr 1000 (x0*5)),(2,iI x2),(6,iI y0.1),(9,iI (aD (y0.1.tdiv x1.scale))),(10,.amap 56),(91,.hptr 91 0),(92,.tup [.bool false]),(93,.bool false)],[(56,.smap 1 3 (s1.2.map (cR ag))),(91,.iter (x1.mults.map (cR ag)) i1),(1000,.row 76 5 (s1.1.map aa))]⟩) (fun i1 s1=>by kernel_rfl) (fun i1 s1 n0 e1=>⟨135,[(0,.hptr 1000 (x0*5)),(2,iI x2),(6,iI y0.1),(9,iI (aD (y0.1.tdiv x1.scale))),(10,.amap 56),(91,.hptr 91 0),(92,.tup [.bool true,iI e1.1,iI e1.2]),(93,.bool true)],[(56,.smap 1 3 (s1.2.map (cR ag))),(91,.iter (x1.mults.map (cR ag)) (i1++[n0])),(1000,.row 76 5 (s1.1.map aa))]⟩) (fun i1 s1 n0 e1=>by kernel_rfl) (fun i1 s1 H12 => ?_) (fun i1 s1 n0 e1 h6 q1 h7 h8 => ?_)
     ·refine aG H12 fun g3 H13 => ?_;refine aG H13 fun g4 H14 => ?_;obtain rfl:=sI H14;exact pR 4 [r0 (V 6 [.fo 56 ((ksort s1.2).map (cR ag)),.rs x0 2,.rwH 1000 (.row 76 5 ((s1.1.set x0 (ab.mk (Linear.mk (((s1.1.getD x0 (⟨⟨0,[]⟩,[],0,false⟩)).q).Const) (((s1.1.getD x0 (⟨⟨0,[]⟩,[],0,false⟩)).q).Terms)) (ksort s1.2) ((s1.1.getD x0 (⟨⟨0,[]⟩,[],0,false⟩)).scale) ((s1.1.getD x0 (⟨⟨0,[]⟩,[],0,false⟩)).lost))).map aa)),.v,.v,.rs x0 3,.rwH 1000 (.row 76 5 (((s1.1.set x0 (ab.mk (Linear.mk (((s1.1.getD x0 (⟨⟨0,[]⟩,[],0,false⟩)).q).Const) (((s1.1.getD x0 (⟨⟨0,[]⟩,[],0,false⟩)).q).Terms)) (ksort s1.2) ((s1.1.getD x0 (⟨⟨0,[]⟩,[],0,false⟩)).scale) ((s1.1.getD x0 (⟨⟨0,[]⟩,[],0,false⟩)).lost))).set x0 (ab.mk (Linear.mk ((((s1.1.set x0 (ab.mk (Linear.mk (((s1.1.getD x0 (⟨⟨0,[]⟩,[],0,false⟩)).q).Const) (((s1.1.getD x0 (⟨⟨0,[]⟩,[],0,false⟩)).q).Terms)) (ksort s1.2) ((s1.1.getD x0 (⟨⟨0,[]⟩,[],0,false⟩)).scale) ((s1.1.getD x0 (⟨⟨0,[]⟩,[],0,false⟩)).lost))).getD x0 (⟨⟨0,[]⟩,[],0,false⟩)).q).Const) ((((s1.1.set x0 (ab.mk (Linear.mk (((s1.1.getD x0 (⟨⟨0,[]⟩,[],0,false⟩)).q).Const) (((s1.1.getD x0 (⟨⟨0,[]⟩,[],0,false⟩)).q).Terms)) (ksort s1.2) ((s1.1.getD x0 (⟨⟨0,[]⟩,[],0,false⟩)).scale) ((s1.1.getD x0 (⟨⟨0,[]⟩,[],0,false⟩)).lost))).getD x0 (⟨⟨0,[]⟩,[],0,false⟩)).q).Terms)) (((s1.1.set x0 (ab.mk (Linear.mk (((s1.1.getD x0 (⟨⟨0,[]⟩,[],0,false⟩)).q).Const) (((s1.1.getD x0 (⟨⟨0,[]⟩,[],0,false⟩)).q).Terms)) (ksort s1.2) ((s1.1.getD x0 (⟨⟨0,[]⟩,[],0,false⟩)).scale) ((s1.1.getD x0 (⟨⟨0,[]⟩,[],0,false⟩)).lost))).getD x0 (⟨⟨0,[]⟩,[],0,false⟩)).mults) y0.1 (((s1.1.set x0 (ab.mk (Linear.mk (((s1.1.getD x0 (⟨⟨0,[]⟩,[],0,false⟩)).q).Const) (((s1.1.getD x0 (⟨⟨0,[]⟩,[],0,false⟩)).q).Terms)) (ksort s1.2) ((s1.1.getD x0 (⟨⟨0,[]⟩,[],0,false⟩)).scale) ((s1.1.getD x0 (⟨⟨0,[]⟩,[],0,false⟩)).lost))).getD x0 (⟨⟨0,[]⟩,[],0,false⟩)).lost))).map aa))])] [] [1000] (aC (And.intro (tO jL s1.2) (xL ag s1.2)) (aC (gR (f:=aa) (l:=s1.1) (n:=x0) 5 2 1 (by omega) (by decide)) (aC (r7 (f:=aa) 76 5 s1.1 x0 (⟨⟨0,[]⟩,[],0,false⟩) (ab.mk (Linear.mk (((s1.1.getD x0 (⟨⟨0,[]⟩,[],0,false⟩)).q).Const) (((s1.1.getD x0 (⟨⟨0,[]⟩,[],0,false⟩)).q).Terms)) (ksort s1.2) ((s1.1.getD x0 (⟨⟨0,[]⟩,[],0,false⟩)).scale) ((s1.1.getD x0 (⟨⟨0,[]⟩,[],0,false⟩)).lost)) 2 [.dmap ((ksort s1.2).map (cR ag))] (by omega) rfl) (aC (gR (f:=aa) (l:=(s1.1.set x0 (ab.mk (Linear.mk (((s1.1.getD x0 (⟨⟨0,[]⟩,[],0,false⟩)).q).Const) (((s1.1.getD x0 (⟨⟨0,[]⟩,[],0,false⟩)).q).Terms)) (ksort s1.2) ((s1.1.getD x0 (⟨⟨0,[]⟩,[],0,false⟩)).scale) ((s1.1.getD x0 (⟨⟨0,[]⟩,[],0,false⟩)).lost)))) (n:=x0) 5 3 1 (by omega) (by decide)) (aC (r7 (f:=aa) 76 5 (s1.1.set x0 (ab.mk (Linear.mk (((s1.1.getD x0 (⟨⟨0,[]⟩,[],0,false⟩)).q).Const) (((s1.1.getD x0 (⟨⟨0,[]⟩,[],0,false⟩)).q).Terms)) (ksort s1.2) ((s1.1.getD x0 (⟨⟨0,[]⟩,[],0,false⟩)).scale) ((s1.1.getD x0 (⟨⟨0,[]⟩,[],0,false⟩)).lost))) x0 (⟨⟨0,[]⟩,[],0,false⟩) (ab.mk (Linear.mk ((((s1.1.set x0 (ab.mk (Linear.mk (((s1.1.getD x0 (⟨⟨0,[]⟩,[],0,false⟩)).q).Const) (((s1.1.getD x0 (⟨⟨0,[]⟩,[],0,false⟩)).q).Terms)) (ksort s1.2) ((s1.1.getD x0 (⟨⟨0,[]⟩,[],0,false⟩)).scale) ((s1.1.getD x0 (⟨⟨0,[]⟩,[],0,false⟩)).lost))).getD x0 (⟨⟨0,[]⟩,[],0,false⟩)).q).Const) ((((s1.1.set x0 (ab.mk (Linear.mk (((s1.1.getD x0 (⟨⟨0,[]⟩,[],0,false⟩)).q).Const) (((s1.1.getD x0 (⟨⟨0,[]⟩,[],0,false⟩)).q).Terms)) (ksort s1.2) ((s1.1.getD x0 (⟨⟨0,[]⟩,[],0,false⟩)).scale) ((s1.1.getD x0 (⟨⟨0,[]⟩,[],0,false⟩)).lost))).getD x0 (⟨⟨0,[]⟩,[],0,false⟩)).q).Terms)) (((s1.1.set x0 (ab.mk (Linear.mk (((s1.1.getD x0 (⟨⟨0,[]⟩,[],0,false⟩)).q).Const) (((s1.1.getD x0 (⟨⟨0,[]⟩,[],0,false⟩)).q).Terms)) (ksort s1.2) ((s1.1.getD x0 (⟨⟨0,[]⟩,[],0,false⟩)).scale) ((s1.1.getD x0 (⟨⟨0,[]⟩,[],0,false⟩)).lost))).getD x0 (⟨⟨0,[]⟩,[],0,false⟩)).mults) y0.1 (((s1.1.set x0 (ab.mk (Linear.mk (((s1.1.getD x0 (⟨⟨0,[]⟩,[],0,false⟩)).q).Const) (((s1.1.getD x0 (⟨⟨0,[]⟩,[],0,false⟩)).q).Terms)) (ksort s1.2) ((s1.1.getD x0 (⟨⟨0,[]⟩,[],0,false⟩)).scale) ((s1.1.getD x0 (⟨⟨0,[]⟩,[],0,false⟩)).lost))).getD x0 (⟨⟨0,[]⟩,[],0,false⟩)).lost)) 3 [iI y0.1] (by omega) rfl) aN)))))
     ·refine aP h7 fun y4 h9 H15 => ?_;refine aG H15 fun g5 H16 => ?_;refine pA 9 [r0 [.en n0 (.tup [iI e1.1,iI e1.2]),.v,.v,.v,.v],r0 [.v,.w,.v,.w,.b,.v,.v,.l (iI (bA 0 (e1.1:Int) s1.2)),.v,.b,.c true (.tup [iI y4.1,iI y4.2]),.v,.v,.v,.v,.v]] [.only [0,2,6,9,10,15,17,18,91] [56,91,1000]] 9 [true] ⟨135,[(0,.hptr 1000 (x0*5)),(2,iI x2),(6,iI y0.1),(9,iI (aD (y0.1.tdiv x1.scale))),(10,.amap 56),(15,iI e1.1),(17,iI y4.1),(18,iI y4.2),(91,.hptr 91 0)],[(56,.smap 1 3 (s1.2.map (cR ag))),(91,.iter (x1.mults.map (cR ag)) (i1++[n0])),(1000,.row 76 5 (s1.1.map aa))]⟩ (aC (jt i1 n0) (aC (tX (cc:=ag) h6) (aC (nt (c:=ag) (e1.1:Int) 0 s1.2) (aC Tryz.call47 (aF (gN _ _ _ h9) aN))))) ?_;refine aP H16 fun v1 h10 H17 => ?_;refine dQ 0 (fJ x0 x1 x2 y0 i1 s1 n0 e1 y4 v1) (by kernel_rfl) ?_ ?_
      ·refine aV h10 (fun c6 H18 => ?_) (fun c7 H19 => ?_)
       ·obtain rfl:=sI H18;exact pB 1 [r0 (V 4 [.rl x0 4 (.bool ((s1.1.getD x0 (⟨⟨0,[]⟩,[],0,false⟩)).lost)),.e (.bool true),.s,.s,.s,.s,.v,.v,.v,.rs x0 4,.rwH 1000 (.row 76 5 ((s1.1.set x0 (ab.mk (Linear.mk (((s1.1.getD x0 (⟨⟨0,[]⟩,[],0,false⟩)).q).Const) (((s1.1.getD x0 (⟨⟨0,[]⟩,[],0,false⟩)).q).Terms)) ((s1.1.getD x0 (⟨⟨0,[]⟩,[],0,false⟩)).mults) ((s1.1.getD x0 (⟨⟨0,[]⟩,[],0,false⟩)).scale) true)).map aa))])] [.only [0,2,6,9,10,15,17,91] [56,91,1000]] (fJ x0 x1 x2 y0 i1 s1 n0 e1 y4 (s1.1.set x0 (ab.mk (Linear.mk (((s1.1.getD x0 (⟨⟨0,[]⟩,[],0,false⟩)).q).Const) (((s1.1.getD x0 (⟨⟨0,[]⟩,[],0,false⟩)).q).Terms)) ((s1.1.getD x0 (⟨⟨0,[]⟩,[],0,false⟩)).mults) ((s1.1.getD x0 (⟨⟨0,[]⟩,[],0,false⟩)).scale) true))) (aC (gR (f:=aa) (l:=s1.1) (n:=x0) 5 4 1 (by omega) (by decide)) (aC (sZ (f:=aa) (l:=s1.1) (n:=x0) (⟨⟨0,[]⟩,[],0,false⟩) 4 (by omega)) (aB c6 (aC (gR (f:=aa) (l:=s1.1) (n:=x0) 5 4 1 (by omega) (by decide)) (aC (r7 (f:=aa) 76 5 s1.1 x0 (⟨⟨0,[]⟩,[],0,false⟩) (ab.mk (Linear.mk (((s1.1.getD x0 (⟨⟨0,[]⟩,[],0,false⟩)).q).Const) (((s1.1.getD x0 (⟨⟨0,[]⟩,[],0,false⟩)).q).Terms)) ((s1.1.getD x0 (⟨⟨0,[]⟩,[],0,false⟩)).mults) ((s1.1.getD x0 (⟨⟨0,[]⟩,[],0,false⟩)).scale) true) 4 [.bool true] (by omega) rfl) aN)))))
       ·refine aP H19 fun y5 h11 H20 => ?_;obtain rfl:=sI H20;exact pB 1 [r0 (V 4 [.rl x0 4 (.bool ((s1.1.getD x0 (⟨⟨0,[]⟩,[],0,false⟩)).lost)),.e (.bool false),.v,.v,.c true (.bool y5),.v,.v,.v,.v,.rs x0 4,.rwH 1000 (.row 76 5 ((s1.1.set x0 (ab.mk (Linear.mk (((s1.1.getD x0 (⟨⟨0,[]⟩,[],0,false⟩)).q).Const) (((s1.1.getD x0 (⟨⟨0,[]⟩,[],0,false⟩)).q).Terms)) ((s1.1.getD x0 (⟨⟨0,[]⟩,[],0,false⟩)).mults) ((s1.1.getD x0 (⟨⟨0,[]⟩,[],0,false⟩)).scale) (!y5))).map aa))])] [.only [0,2,6,9,10,15,17,91] [56,91,1000]] (fJ x0 x1 x2 y0 i1 s1 n0 e1 y4 (s1.1.set x0 (ab.mk (Linear.mk (((s1.1.getD x0 (⟨⟨0,[]⟩,[],0,false⟩)).q).Const) (((s1.1.getD x0 (⟨⟨0,[]⟩,[],0,false⟩)).q).Terms)) ((s1.1.getD x0 (⟨⟨0,[]⟩,[],0,false⟩)).mults) ((s1.1.getD x0 (⟨⟨0,[]⟩,[],0,false⟩)).scale) (!y5)))) (aC (gR (f:=aa) (l:=s1.1) (n:=x0) 5 4 1 (by omega) (by decide)) (aC (sZ (f:=aa) (l:=s1.1) (n:=x0) (⟨⟨0,[]⟩,[],0,false⟩) 4 (by omega)) (aB c7 (aC Tryz.call45 (aF (cQ _ _ _ h11) (aT (aC (gR (f:=aa) (l:=s1.1) (n:=x0) 5 4 1 (by omega) (by decide)) (aC (r7 (f:=aa) 76 5 s1.1 x0 (⟨⟨0,[]⟩,[],0,false⟩) (ab.mk (Linear.mk (((s1.1.getD x0 (⟨⟨0,[]⟩,[],0,false⟩)).q).Const) (((s1.1.getD x0 (⟨⟨0,[]⟩,[],0,false⟩)).q).Terms)) ((s1.1.getD x0 (⟨⟨0,[]⟩,[],0,false⟩)).mults) ((s1.1.getD x0 (⟨⟨0,[]⟩,[],0,false⟩)).scale) (!y5)) 4 [.bool (!y5)] (by omega) rfl) aN))))))))
      ·obtain rfl:=sI H17;exact pB 1 [r0 [.v,.v,.v,.m,.rwH 56 (.smap 1 3 ((bL (e1.1:Int) y4.1 s1.2).map (cR ag)))]] [.only [0,2,6,9,10,91] [56,91,1000]] (fK x0 x1 x2 y0 (i1++[n0]) (v1,(bL (e1.1:Int) y4.1 s1.2))) (aC (congrArg (AO.smap 1 3) (jz (c:=ag) (e1.1:Int) y4.1 s1.2)) aN)
    ·refine aP h4 fun y2 h12 H21 => ?_;refine aG H21 fun g6 H22 => ?_;refine pA 9 [r0 [.en n1 (.tup [iI e0.1,iI e0.2]),.v,.v,.v,.v],r0 [.v,.v,.c true (.tup [iI y2.1,iI y2.2]),.v,.v,.v,.v,.v]] [.only [0,2,4,6,8,9,10,11,13,14,61] [4,56,61,1000]] 9 [true] ⟨135,[(0,.hptr 1000 (x0*5)),(2,iI x2),(4,.hptr 4 0),(6,iI y0.1),(8,iI (aD (y0.1.tdiv ((x3.getD x0 (⟨⟨0,[]⟩,[],0,false⟩)).scale)))),(9,iI (aD (y0.1.tdiv x1.scale))),(10,.amap 56),(11,iI e0.1),(13,iI y2.1),(14,iI y2.2),(61,.hptr 61 0)],[(4,.cells 76 [iI x1.q.Const,dS aj x1.q.Terms,.dmap (x1.mults.map (cR ag)),iI x1.scale,.bool x1.lost]),(56,.smap 1 3 (s0.2.map (cR ag))),(61,.iter (((x3.getD x0 (⟨⟨0,[]⟩,[],0,false⟩)).mults).map (cR ag)) (i0++[n1])),(1000,.row 76 5 (s0.1.map aa))]⟩ (aC (jt i0 n1) (aC (tX (cc:=ag) h3) (aC Tryz.call58 (aF (gP _ _ _ h12) aN)))) ?_;refine aP H22 fun v0 h13 H23 => ?_;refine dQ 0 (fL x0 x1 x2 x3 y0 i0 s0 n1 e0 y2 v0) (by kernel_rfl) ?_ ?_
     ·refine aV h13 (fun c8 H24 => ?_) (fun c9 H25 => ?_)
      ·obtain rfl:=sI H24;exact pB 1 [r0 (V 4 [.rl x0 4 (.bool ((s0.1.getD x0 (⟨⟨0,[]⟩,[],0,false⟩)).lost)),.e (.bool true),.s,.s,.s,.s,.v,.v,.v,.rs x0 4,.rwH 1000 (.row 76 5 ((s0.1.set x0 (ab.mk (Linear.mk (((s0.1.getD x0 (⟨⟨0,[]⟩,[],0,false⟩)).q).Const) (((s0.1.getD x0 (⟨⟨0,[]⟩,[],0,false⟩)).q).Terms)) ((s0.1.getD x0 (⟨⟨0,[]⟩,[],0,false⟩)).mults) ((s0.1.getD x0 (⟨⟨0,[]⟩,[],0,false⟩)).scale) true)).map aa))])] [.only [0,2,4,6,8,9,10,11,13,61] [4,56,61,1000]] (fL x0 x1 x2 x3 y0 i0 s0 n1 e0 y2 (s0.1.set x0 (ab.mk (Linear.mk (((s0.1.getD x0 (⟨⟨0,[]⟩,[],0,false⟩)).q).Const) (((s0.1.getD x0 (⟨⟨0,[]⟩,[],0,false⟩)).q).Terms)) ((s0.1.getD x0 (⟨⟨0,[]⟩,[],0,false⟩)).mults) ((s0.1.getD x0 (⟨⟨0,[]⟩,[],0,false⟩)).scale) true))) (aC (gR (f:=aa) (l:=s0.1) (n:=x0) 5 4 1 (by omega) (by decide)) (aC (sZ (f:=aa) (l:=s0.1) (n:=x0) (⟨⟨0,[]⟩,[],0,false⟩) 4 (by omega)) (aB c8 (aC (gR (f:=aa) (l:=s0.1) (n:=x0) 5 4 1 (by omega) (by decide)) (aC (r7 (f:=aa) 76 5 s0.1 x0 (⟨⟨0,[]⟩,[],0,false⟩) (ab.mk (Linear.mk (((s0.1.getD x0 (⟨⟨0,[]⟩,[],0,false⟩)).q).Const) (((s0.1.getD x0 (⟨⟨0,[]⟩,[],0,false⟩)).q).Terms)) ((s0.1.getD x0 (⟨⟨0,[]⟩,[],0,false⟩)).mults) ((s0.1.getD x0 (⟨⟨0,[]⟩,[],0,false⟩)).scale) true) 4 [.bool true] (by omega) rfl) aN)))))
      ·refine aP H25 fun y3 h14 H26 => ?_;obtain rfl:=sI H26;exact pB 1 [r0 (V 4 [.rl x0 4 (.bool ((s0.1.getD x0 (⟨⟨0,[]⟩,[],0,false⟩)).lost)),.e (.bool false),.v,.v,.c true (.bool y3),.v,.v,.v,.v,.rs x0 4,.rwH 1000 (.row 76 5 ((s0.1.set x0 (ab.mk (Linear.mk (((s0.1.getD x0 (⟨⟨0,[]⟩,[],0,false⟩)).q).Const) (((s0.1.getD x0 (⟨⟨0,[]⟩,[],0,false⟩)).q).Terms)) ((s0.1.getD x0 (⟨⟨0,[]⟩,[],0,false⟩)).mults) ((s0.1.getD x0 (⟨⟨0,[]⟩,[],0,false⟩)).scale) (!y3))).map aa))])] [.only [0,2,4,6,8,9,10,11,13,61] [4,56,61,1000]] (fL x0 x1 x2 x3 y0 i0 s0 n1 e0 y2 (s0.1.set x0 (ab.mk (Linear.mk (((s0.1.getD x0 (⟨⟨0,[]⟩,[],0,false⟩)).q).Const) (((s0.1.getD x0 (⟨⟨0,[]⟩,[],0,false⟩)).q).Terms)) ((s0.1.getD x0 (⟨⟨0,[]⟩,[],0,false⟩)).mults) ((s0.1.getD x0 (⟨⟨0,[]⟩,[],0,false⟩)).scale) (!y3)))) (aC (gR (f:=aa) (l:=s0.1) (n:=x0) 5 4 1 (by omega) (by decide)) (aC (sZ (f:=aa) (l:=s0.1) (n:=x0) (⟨⟨0,[]⟩,[],0,false⟩) 4 (by omega)) (aB c9 (aC Tryz.call45 (aF (cQ _ _ _ h14) (aT (aC (gR (f:=aa) (l:=s0.1) (n:=x0) 5 4 1 (by omega) (by decide)) (aC (r7 (f:=aa) 76 5 s0.1 x0 (⟨⟨0,[]⟩,[],0,false⟩) (ab.mk (Linear.mk (((s0.1.getD x0 (⟨⟨0,[]⟩,[],0,false⟩)).q).Const) (((s0.1.getD x0 (⟨⟨0,[]⟩,[],0,false⟩)).q).Terms)) ((s0.1.getD x0 (⟨⟨0,[]⟩,[],0,false⟩)).mults) ((s0.1.getD x0 (⟨⟨0,[]⟩,[],0,false⟩)).scale) (!y3)) 4 [.bool (!y3)] (by omega) rfl) aN))))))))
     ·obtain rfl:=sI H23;exact pB 1 [r0 [.v,.v,.v,.m,.rwH 56 (.smap 1 3 ((bL (e0.1:Int) y2.1 s0.2).map (cR ag)))]] [.only [0,2,4,6,8,9,10,61] [4,56,61,1000]] (fN x0 x1 x2 x3 y0 (i0++[n1]) (v0,(bL (e0.1:Int) y2.1 s0.2))) (aC (congrArg (AO.smap 1 3) (jz (c:=ag) (e0.1:Int) y2.1 s0.2)) aN)
   ·obtain rfl:=sI H8;exact pR 5 [.eqT 42 (.bool true),r0 [.v,.v,.v,.rs x0 4,.rwH 1000 (.row 76 5 ((x3.set x0 (ab.mk (Linear.mk (((x3.getD x0 (⟨⟨0,[]⟩,[],0,false⟩)).q).Const) (((x3.getD x0 (⟨⟨0,[]⟩,[],0,false⟩)).q).Terms)) ((x3.getD x0 (⟨⟨0,[]⟩,[],0,false⟩)).mults) ((x3.getD x0 (⟨⟨0,[]⟩,[],0,false⟩)).scale) true)).map aa))]] [] [1000] (aM c5 (aC (gR (f:=aa) (l:=x3) (n:=x0) 5 4 1 (by omega) (by decide)) (aC (r7 (f:=aa) 76 5 x3 x0 (⟨⟨0,[]⟩,[],0,false⟩) (ab.mk (Linear.mk (((x3.getD x0 (⟨⟨0,[]⟩,[],0,false⟩)).q).Const) (((x3.getD x0 (⟨⟨0,[]⟩,[],0,false⟩)).q).Terms)) ((x3.getD x0 (⟨⟨0,[]⟩,[],0,false⟩)).mults) ((x3.getD x0 (⟨⟨0,[]⟩,[],0,false⟩)).scale) true) 4 [.bool true] (by omega) rfl) aN)))
def iO (x0:Bind) (x1:ak):Option Bool :=
 bif (x0.Kind==1) then (
  some (x0.Var==x1.Var)
 ) else (
  some false
 )
theorem rT (x0:Bind) (x1:ak) (r:Bool) (H:iO x0 x1=some r):bW Tryz.prog 163 [.agg [iI x0.Kind,.str x0.Var,iI x0.Dim.Const,dS aj x0.Dim.Terms,.str x0.Row.Row,dS ai x0.Row.Dims,.str x0.Elem],.dptr [.str x1.Var,iI x1.C]] (.bool r):=by
 unfold iO at H;refine aX Tryz.func163 14 [.tmp 3] ?_;refine aV H (fun c0 H0 => ?_) (fun c1 H1 => ?_)
 ·obtain rfl:=sI H0;exact pR 5 [r0 [.m,.v],r0 [.v,.v,.e (.bool true),.v,.v,.v,.v,.v,.v,.v,.v]] [] [] (aB c0 aN)
 ·obtain rfl:=sI H1;exact pR 5 [r0 [.m,.v],r0 [.v,.v,.e (.bool false),.v,.s,.s,.s,.s,.s,.v,.v]] [] [] (aB c1 aN)
def cC (x0:List Bind) (x1:aw) (x2:Int):Option Int :=
 (dZ (σ:=Unit) (ε:=Unit) (ρ:=Int) (fun i0 s0 =>
  (iO (Bind.mk ((x0.getD i0 (⟨0,[],⟨0,[]⟩,⟨[],[]⟩,[]⟩)).Kind) ((x0.getD i0 (⟨0,[],⟨0,[]⟩,⟨[],[]⟩,[]⟩)).Var) (Linear.mk (((x0.getD i0 (⟨0,[],⟨0,[]⟩,⟨[],[]⟩,[]⟩)).Dim).Const) (((x0.getD i0 (⟨0,[],⟨0,[]⟩,⟨[],[]⟩,[]⟩)).Dim).Terms)) (Shape.mk (((x0.getD i0 (⟨0,[],⟨0,[]⟩,⟨[],[]⟩,[]⟩)).Row).Row) (((x0.getD i0 (⟨0,[],⟨0,[]⟩,⟨[],[]⟩,[]⟩)).Row).Dims)) ((x0.getD i0 (⟨0,[],⟨0,[]⟩,⟨[],[]⟩,[]⟩)).Elem)) (ak.mk x1 x2)).bind fun y0 =>
  bif y0 then (
   some (.ret ((i0:Nat):Int))
  ) else (
   some (.go ())
  )
 ) (fun i0 s0=>()) (x0.length-0) 0 ()).bind <| aft fun u0 =>
 some (-1)
def dn (x0:List Bind) (x1:aw) (x2:Int) (i0:Nat) (s0:Unit):AS:=⟨19,[(0,dS al x0),(1,.fn 163 [.hptr 1000 0]),(4,iI 0),(7,nI x0.length),(8,nI i0)],[(1000,.cells 88 [.str x1,iI x2])]⟩
def fB (x1:aw) (x2:Int) (u1:Unit):AS:=⟨19,[(4,iI 0)],[(1000,.cells 88 [.str x1,iI x2])]⟩
theorem kv (x0:List Bind) (x1:aw) (x2 r:Int) (H:cC x0 x1 x2=some r):bT Tryz.prog 162 [dS al x0,.fn 163 [.hptr 1000 0]] [(1000,.cells 88 [.str x1,iI x2])] (fun r2 h0=>r2=(iI r)∧h0=[(1000,.cells 88 [.str x1,iI x2])]):=by
 unfold cC at H;refine aX Tryz.func162 19 [.tmp 4] ?_;refine pA 6 [V1,r0 [.v,.e (nI x0.length),.v]] [.only [0,1,4,7,8] [1000]] 6 [] (dn x0 x1 x2 0 ()) (aT (aC (aJ al x0) aN)) ?_;refine aP H fun R0 h1 H0 => ?_;refine pJ 1 (fB x1 x2) R0 ?_ (fun u0 e0 => ?_)
 ·refine pC (dn x0 x1 x2) h1 (fun i0 s0 h2 e1 => ?_) (fun i0 s0 h3 q0 h4 h5 => ?_)
  ·have c0:=lF i0 x0.length (by omega);subst e1;exact pB 5 [r0 [.e (.bool false)]] [.only [4] [1000]] (fB x1 x2 ()) (aB c0 aN)
  ·have c1:=lT i0 x0.length (by omega);refine aP h4 fun y0 h6 H1 => ?_;refine pA 11 [r0 [.e (.bool true)],V2,r0 [.v,.v,.v,.e (.dptr (al (x0.getD i0 (⟨0,[],⟨0,[]⟩,⟨[],[]⟩,[]⟩)))),.v,.c false (.bool y0)]] [.only [0,1,4,5,7,8,16] [1000]] 11 [true] ⟨19,[(0,dS al x0),(1,.fn 163 [.hptr 1000 0]),(4,iI 0),(5,nI i0),(7,nI x0.length),(8,nI i0),(16,.bool y0)],[(1000,.cells 88 [.str x1,iI x2])]⟩ (aB c1 (aI aQ x0 i0 (⟨0,[],⟨0,[]⟩,⟨[],[]⟩,[]⟩) (aC Tryz.call163 (aF (rT _ _ _ h6) aN)))) ?_;refine aV H1 (fun c2 H2 => ?_) (fun c3 H3 => ?_)
   ·obtain rfl:=sI H2;obtain rfl:=aR h5;obtain rfl:=sI (aA H0);exact pR 5 [.eqT 16 (.bool true),V2] [] [1000] (aB c2 aN)
   ·refine b7 0 (ps:=[(x0.map al).length≤9223372036854775807]) (by kernel_rfl) (fun l0 => ?_);have l1:x0.length≤9223372036854775807:=by simpa only [bB,Kp] using l0
    clear l0;obtain rfl:=sI H3;exact pB 4 [.eqT 16 (.bool false),V2] [.only [0,1,4,7,8] [1000]] (dn x0 x1 x2 (i0+1) ()) (aB c3 (aH i0 aN))
 ·subst e0;have H4:=bp H0;obtain rfl:=sI H4;exact pR 3 [V1] [] [1000] aN
def gg (x0:Linear) (x1 x2:Int) (x3:List (aw×Int)):Option (Int×(List (aw×Int))) :=
 (dZ (σ:=(List (aw×Int))) (ε:=(Int×(List (aw×Int)))) (ρ:=(Int×(List (aw×Int)))) (fun i0 s0 =>
  some (.go (bL ((x0.Terms.getD i0 ⟨[],0⟩).Var) (aD ((bA 0 ((x0.Terms.getD i0 ⟨[],0⟩).Var) s0)+(aD (x1*((x0.Terms.getD i0 ⟨[],0⟩).C))))) s0))
 ) (fun i0 s0=>((aD (x2+(aD (x1*x0.Const)))),s0)) (x0.Terms.length-0) 0 x3).bind <| aft some
def jd (x0:Linear) (x1 x2:Int) (i0:Nat) (s0:List (aw×Int)):AS:=⟨39,[(0,.hptr 1000 0),(2,iI x1),(20,dS aj x0.Terms),(21,nI x0.Terms.length),(22,nI i0)],[(1000,.cells 201 [iI (aD (x2+(aD (x1*x0.Const)))),.amap 1001]),(1001,.smap 0 3 (s0.map (jh ag)))]⟩
theorem rS (x0:Linear) (x1 x2:Int) (x3:List (aw×Int)) (r:Int×(List (aw×Int))) (H:gg x0 x1 x2 x3=some r):bT Tryz.prog 164 [.hptr 1000 0,.agg [iI x0.Const,dS aj x0.Terms],iI x1] [(1000,.cells 201 [iI x2,.amap 1001]),(1001,.smap 0 3 (x3.map (jh ag)))] (fun r2 h0=>r2=(.tup [])∧h0=[(1000,.cells 201 [iI r.1,.amap 1001]),(1001,.smap 0 3 (r.2.map (jh ag)))]):=by
 unfold gg at H;refine aX Tryz.func164 39 [] ?_;refine pA 7 [r0 [.m],.rg 8 (V 7 [.w]) [.w,.v,.v,.m],r0 [.v,.v,.e (nI x0.Terms.length),.v]] [.only [0,2,20,21,22] [1000,1001]] 7 [] (jd x0 x1 x2 0 x3) (aT (aC (aJ aj x0.Terms) aN)) ?_;refine aP H fun R0 h1 H0 => ?_;refine pC (jd x0 x1 x2) h1 (fun i0 s0 h2 e0 => ?_) (fun i0 s0 h3 q0 h4 h5 => ?_)
 ·have c0:=lF i0 x0.Terms.length (by omega);subst e0;obtain rfl:=sI (bp H0);exact pR 5 [r0 [.e (.bool false)]] [] [1000,1001] (aB c0 aN)
 ·have c1:=lT i0 x0.Terms.length (by omega);refine b7 20 (ps:=[(x0.Terms.map aj).length≤9223372036854775807]) (by kernel_rfl) (fun l0 => ?_);have l1:x0.Terms.length≤9223372036854775807:=by simpa only [bB,Kp] using l0
  clear l0;obtain rfl:=sI h4;exact pB 11 [r0 [.e (.bool true)],r0 [.e (.dptr (aj (x0.Terms.getD i0 ⟨[],0⟩))),.v,.m,.m],.rg 11 (V 6 [.l (iI (bA 0 ((x0.Terms.getD i0 ⟨[],0⟩).Var) s0)),.v,.v,.v,.w]) [.w,.m,.rwH 1001 (.smap 0 3 ((bL ((x0.Terms.getD i0 ⟨[],0⟩).Var) (aD ((bA 0 ((x0.Terms.getD i0 ⟨[],0⟩).Var) s0)+(aD (x1*((x0.Terms.getD i0 ⟨[],0⟩).C))))) s0).map (jh ag)))],V2] [.only [0,2,20,21,22] [1000,1001]] (jd x0 x1 x2 (i0+1) (bL ((x0.Terms.getD i0 ⟨[],0⟩).Var) (aD ((bA 0 ((x0.Terms.getD i0 ⟨[],0⟩).Var) s0)+(aD (x1*((x0.Terms.getD i0 ⟨[],0⟩).C))))) s0)) (aB c1 (aI bf x0.Terms i0 ⟨[],0⟩ (aC (nt (c:=ag) ((x0.Terms.getD i0 ⟨[],0⟩).Var) 0 s0) (aC (congrArg (AO.smap 0 3) (jz (c:=ag) ((x0.Terms.getD i0 ⟨[],0⟩).Var) (aD ((bA 0 ((x0.Terms.getD i0 ⟨[],0⟩).Var) s0)+(aD (x1*((x0.Terms.getD i0 ⟨[],0⟩).C))))) s0)) (aH i0 aN)))))
noncomputable def eD (x0:Int) (x1:List (aw×Int)):Option (Linear×Int) :=
 lM (σ:=(List aw)) (ε:=Empty) (β:=(Linear×Int)) x1 (fun e0 s0 =>
  bif (e0.2==0) then (
   some (.go s0)
  ) else (
   bH ((s0.length+1)*16≤140737488355328) <|
   some (.go (s0++[e0.1]))
  )
 ) [] (fun s0 =>
  (jS s0).bind fun y0 =>
  (dZ (σ:=(List ak)) (ε:=(List ak)) (ρ:=Empty) (fun i0 s1 =>
   bH ((s1.length+1)*24≤140737488355328) <|
   some (.go (s1++[(ak.mk (y0.getD i0 []) (bA 0 (y0.getD i0 []) x1))]))
  ) (fun i0 s1=>s1) (y0.length-0) 0 []).bind <| dG fun u0 =>
  (bV (Linear.mk x0 u0)).bind fun y1 =>
  bif y1 then (
   some ((Linear.mk x0 u0),0)
  ) else (
   some ((Linear.mk 0 []),3)
  )
 )
def ea (x0:Int) (x1:List (aw×Int)) (i1:List Nat) (s0:List aw):AS:=⟨58,[(0,.hptr 1000 0),(2,.hptr 2 0),(3,iI 0),(4,.hptr 4 0),(5,.rslice 30),(19,.hptr 19 0)],[(2,.cells 34 [iI 0,.eslice]),(4,.cells 34 [iI x0,.eslice]),(19,.iter (x1.map (jh ag)) i1),(30,.row 9 1 (s0.map bn)),(1000,.cells 201 [iI x0,.dmap (x1.map (jh ag))])]⟩
def gb (x0:Int) (x1:List (aw×Int)) (y0:List aw) (i0:Nat) (s1:List ak):AS:=⟨58,[(0,.hptr 1000 0),(2,.hptr 2 0),(3,iI 0),(4,.hptr 4 0),(33,.rslice 30),(34,nI y0.length),(35,nI i0)],[(2,.cells 34 [iI 0,.eslice]),(4,.cells 34 [iI x0,.rslice 50]),(30,.row 9 1 (y0.map bn)),(50,.row 88 2 (s1.map aj)),(1000,.cells 201 [iI x0,.dmap (x1.map (jh ag))])]⟩
def jO (x0:Int) (x1:List (aw×Int)) (u1:List ak):AS:=⟨58,[(2,.hptr 2 0),(3,iI 0),(4,.hptr 4 0)],[(2,.cells 34 [iI 0,.eslice]),(4,.cells 34 [iI x0,.rslice 50]),(50,.row 88 2 (u1.map aj)),(1000,.cells 201 [iI x0,.dmap (x1.map (jh ag))])]⟩
theorem pO (x0:Int) (x1:List (aw×Int)) (r:Linear×Int) (H:eD x0 x1=some r):bT Tryz.prog 165 [.hptr 1000 0] [(1000,.cells 201 [iI x0,.amap 1001]),(1001,.smap 0 3 (x1.map (jh ag)))] (fun r2 h0=>r2=(.tup [.agg [iI r.1.Const,dS aj r.1.Terms],iI r.2])∧h0=[]):=by
 unfold eD at H;refine aX Tryz.func165 58 [.cell 2 34,.tmp 3] ?_;refine pA 10 [r0 [.m,.v],r0 (V 4 [.b,.m,.m]),V1,r0 (V 4 [.fm 1001,.m])] [.er 5 30 9 1,.only [0,2,3,4,5,19] [2,4,19,30,1000]] 10 [] (ea x0 x1 [] []) (aC (tO jL x1) aN) ?_;refine pF (cc:=ag) 19 (ea x0 x1) (by kernel_rfl) H [.v] (fun i1 s0=>⟨by kernel_rfl,by kernel_rfl⟩) (fun i1 s0=>⟨58,[(0,.hptr 1000 0),(2,.hptr 2 0),(3,iI 0),(4,.hptr 4 0),(5,.rslice 30),(19,.hptr 19 0),(20,.tup [.bool false]),(21,.bool false)],[(2,.cells 34 [iI 0,.eslice]),(4,.cells 34 [iI x0,.eslice]),(19,.iter (x1.map (jh ag)) i1),(30,.row 9 1 (s0.map bn)),(1000,.cells 201 [iI x0,.dmap (x1.map (jh ag))])]⟩) (fun i1 s0=>by kernel_rfl) (fun i1 s0 n0 e0=>⟨58,[(0,.hptr 1000 0),(2,.hptr 2 0),(3,iI 0),(4,.hptr 4 0),(5,.rslice 30),(19,.hptr 19 0),(20,.tup [.bool true,.str e0.1,iI e0.2]),(21,.bool true)],[(2,.cells 34 [iI 0,.eslice]),(4,.cells 34 [iI x0,.eslice]),(19,.iter (x1.map (jh ag)) (i1++[n0])),(30,.row 9 1 (s0.map bn)),(1000,.cells 201 [iI x0,.dmap (x1.map (jh ag))])]⟩) (fun i1 s0 n0 e0=>by kernel_rfl) (fun i1 s0 H0 => ?_) (fun i1 s0 n0 e0 h1 q0 h2 h3 => ?_)
 ·refine aP H0 fun y0 h4 H1 => ?_;refine pA 9 [r0 [.v,.hR [(30,1000)] 32 (.tup []) [(1000,.row 9 1 (y0.map bn))]],r0 [.v,.e (nI y0.length),.v]] [.erH 4 1 50 88 2,.only [0,2,3,4,33,34,35] [2,4,30,50,1000]] 9 [false] (gb x0 x1 y0 0 []) (aC Tryz.call63 (aC (vm s0 y0 h4) (aT (aC (aJ bn y0) aN)))) ?_;refine aP H1 fun R0 h5 H2 => ?_;refine pJ 1 (jO x0 x1) R0 ?_ (fun u0 e1 => ?_)
  ·refine pC (gb x0 x1 y0) h5 (fun i0 s1 h6 e2 => ?_) (fun i0 s1 h7 q1 h8 h9 => ?_)
   ·have c0:=lF i0 y0.length (by omega);subst e2;exact pB 5 [r0 [.e (.bool false)]] [.only [2,3,4] [2,4,50,1000]] (jO x0 x1 s1) (aB c0 aN)
   ·have c1:=lT i0 y0.length (by omega);refine aG h8 fun g0 H3 => ?_;refine tT 30 (n:=(y0.map bn).length) (by kernel_rfl) (fun l0 => ?_);have l1:y0.length≤9223372036854775807:=by simpa only [Kp] using l0
    clear l0;obtain rfl:=sI H3;exact pB 11 [r0 [.e (.bool true)],r0 [.v,.rl i0 0 (.str (y0.getD i0 [])),.v],.rg 11 (V 8 [.l (iI (bA 0 (y0.getD i0 []) x1)),.b,.b]) [.ap,.rwH 50 (.row 88 2 ((s1++[(ak.mk (y0.getD i0 []) (bA 0 (y0.getD i0 []) x1))]).map aj)),.v,.m],V2] [.only [0,2,3,4,33,34,35] [2,4,30,50,1000]] (gb x0 x1 y0 (i0+1) (s1++[(ak.mk (y0.getD i0 []) (bA 0 (y0.getD i0 []) x1))])) (aB c1 (aC (show (0:Int)≤((i0:Nat):Int)∧((i0:Nat):Int)<((y0.map bn).length:Int) from by rw [Kp];omega) (aC (gR (f:=bn) (l:=y0) (n:=i0) 1 0 1 (by omega) (by decide)) (aC (sZ (f:=bn) (l:=y0) (n:=i0) [] 0 (by omega)) (aC (Dx ag (y0.getD i0 []) x1) (aC (nt (c:=ag) (y0.getD i0 []) 0 x1) (bF (wD (c:=aj) gO s1 [(ak.mk (y0.getD i0 []) (bA 0 (y0.getD i0 []) x1))] 24 (by decide) (by simpa using g0)) (aC (zO 88 2 aj s1 [(ak.mk (y0.getD i0 []) (bA 0 (y0.getD i0 []) x1))]) (aH i0 aN)))))))))
  ·subst e1;have H4:=bI H2;refine aP H4 fun y1 h10 H5 => ?_;refine aV H5 (fun c2 H6 => ?_) (fun c3 H7 => ?_)
   ·obtain rfl:=sI H6;exact pR 9 [r0 [.v,.c false (.bool y1),.v],.eqT 55 (.bool false),r0 [.v,.m,.v]] [.fz 50] [] (aC Tryz.call50 (aF (bO _ _ h10) (aT (aM c2 aN))))
   ·obtain rfl:=sI H7;exact pR 8 [r0 [.v,.c false (.bool y1),.v],.eqT 55 (.bool true),r0 [.b,.m,.v]] [.wkH 2 1 []] [] (aC Tryz.call50 (aF (bO _ _ h10) (aT (aM c3 aN))))
 ·refine aV h2 (fun c4 H8 => ?_) (fun c5 H9 => ?_)
  ·obtain rfl:=sI H8;exact pB 11 [r0 [.en n0 (.tup [.str e0.1,iI e0.2]),.v,.v,.v,.v],V2,.eqT 26 (.bool false)] [.only [0,2,3,4,5,19] [2,4,19,30,1000]] (ea x0 x1 (i1++[n0]) s0) (aC (jt i1 n0) (aC (tX (cc:=ag) h1) (aM c4 aN)))
  ·refine aG H9 fun g1 H10 => ?_;obtain rfl:=sI H10;exact pB 11 [r0 [.en n0 (.tup [.str e0.1,iI e0.2]),.v,.v,.v,.v],V2,.eqT 26 (.bool true),r0 [.v,.v,.b,.ap,.rwH 30 (.row 9 1 ((s0++[e0.1]).map bn)),.v]] [.only [0,2,3,4,5,19] [2,4,19,30,1000]] (ea x0 x1 (i1++[n0]) (s0++[e0.1])) (aC (jt i1 n0) (aC (tX (cc:=ag) h1) (aM c5 (bF (wD (c:=bn) rF s0 [e0.1] 16 (by decide) (by simpa using g1)) (aC (zO 9 1 bn s0 [e0.1]) aN)))))
noncomputable def gi (x0:Linear) (x1:List Bind):Option (Linear×Int) :=
 (bV x0).bind fun y0 =>
 bif y0 then (
  (dZ (σ:=(Int×(List (aw×Int)))) (ε:=(Int×(List (aw×Int)))) (ρ:=(Linear×Int)) (fun i0 s0 =>
   (cC x1 ((x0.Terms.getD i0 ⟨[],0⟩).Var) ((x0.Terms.getD i0 ⟨[],0⟩).C)).bind fun y1 =>
   ((
    bif decide (y1<0) then (
     some (.brk (s0.1,(bL ((x0.Terms.getD i0 ⟨[],0⟩).Var) (aD ((bA 0 ((x0.Terms.getD i0 ⟨[],0⟩).Var) s0.2)+((x0.Terms.getD i0 ⟨[],0⟩).C))) s0.2)))
    ) else (
     bH (0≤y1∧y1<(x1.length:Int)) <|
     (bV (Linear.mk (((x1.getD y1.toNat (⟨0,[],⟨0,[]⟩,⟨[],[]⟩,[]⟩)).Dim).Const) (((x1.getD y1.toNat (⟨0,[],⟨0,[]⟩,⟨[],[]⟩,[]⟩)).Dim).Terms))).bind fun y2 =>
     bif y2 then (
      (gg (Linear.mk (((x1.getD y1.toNat (⟨0,[],⟨0,[]⟩,⟨[],[]⟩,[]⟩)).Dim).Const) (((x1.getD y1.toNat (⟨0,[],⟨0,[]⟩,⟨[],[]⟩,[]⟩)).Dim).Terms)) ((x0.Terms.getD i0 ⟨[],0⟩).C) s0.1 s0.2).bind fun y3 =>
      some (.brk (y3.1,y3.2))
     ) else (
      some (.ret (.ret ((Linear.mk 0 []),1)))
     )
    )
   ):Option (Out (Int×(List (aw×Int))) (fX (Int×(List (aw×Int))) (Int×(List (aw×Int))) (Linear×Int)))).bind (aft fun u0 =>
    some (.go (u0.1,u0.2))
   )
  ) (fun i0 s0=>(s0.1,s0.2)) (x0.Terms.length-0) 0 (x0.Const,[])).bind <| aft fun u1 =>
  (eD u1.1 u1.2).bind fun y4 =>
  some (y4.1,y4.2)
 ) else (
  some ((Linear.mk 0 []),1)
 )
def ki (x0:Linear) (x1:List Bind) (i0:Nat) (s0:Int×(List (aw×Int))):AS:=⟨60,[(1,dS al x1),(4,.hptr 4 0),(5,iI 0),(6,.hptr 6 0),(19,dS aj x0.Terms),(20,nI x0.Terms.length),(21,nI i0)],[(4,.cells 34 [iI 0,.eslice]),(6,.cells 201 [iI s0.1,.amap 16]),(16,.smap 0 3 (s0.2.map (jh ag)))]⟩
def od (u2:Int×(List (aw×Int))):AS:=⟨60,[(4,.hptr 4 0),(5,iI 0),(6,.hptr 6 0)],[(4,.cells 34 [iI 0,.eslice]),(6,.cells 201 [iI u2.1,.amap 16]),(16,.smap 0 3 (u2.2.map (jh ag)))]⟩
def kg (x0:Linear) (x1:List Bind) (i0:Nat) (u0:Int×(List (aw×Int))):AS:=⟨60,[(1,dS al x1),(4,.hptr 4 0),(5,iI 0),(6,.hptr 6 0),(19,dS aj x0.Terms),(20,nI x0.Terms.length),(21,nI i0)],[(4,.cells 34 [iI 0,.eslice]),(6,.cells 201 [iI u0.1,.amap 16]),(16,.smap 0 3 (u0.2.map (jh ag)))]⟩
theorem oC (x0:Linear) (x1:List Bind) (r:Linear×Int) (H:gi x0 x1=some r):bW Tryz.prog 131 [.agg [iI x0.Const,dS aj x0.Terms],dS al x1] (.tup [.agg [iI r.1.Const,dS aj r.1.Terms],iI r.2]):=by
 unfold gi at H;refine aX Tryz.func131 60 [.cell 4 34,.tmp 5] ?_;refine aP H fun y0 h0 H0 => ?_;refine aV H0 (fun c0 H1 => ?_) (fun c1 H2 => ?_)
 ·refine pA 14 [.rg 0 [] [.m,.m,.v],.rg 0 [] [.v,.c true (.bool y0),.v],.eqT 12 (.bool false),.rg 0 [] [.v,.v,.m,.b,.m,.m],.rg 0 [] [.v,.v,.e (.int .i64 ((x0.Terms.length:Nat):Int)),.v]] [.only [1,4,5,6,19,20,21] [4,6,16]] 13 [false] (ki x0 x1 0 (x0.Const,[])) (aC Tryz.call50 (aF (bO _ _ h0) (aT (aM c0 (aT (aC (aJ aj x0.Terms) aN)))))) ?_;refine aP H1 fun R0 h1 H3 => ?_;refine pJ 1 (od) R0 ?_ (fun u1 e0 => ?_)
  ·refine pC (ki x0 x1) h1 (fun i0 s0 h2 e1 => ?_) (fun i0 s0 h3 q0 h4 h5 => ?_)
   ·have c2:=lF i0 x0.Terms.length (by omega);subst e1;exact pB 5 [r0 [.e (.bool false)]] [.only [4,5,6] [4,6,16]] (od (s0.1,s0.2)) (aB c2 aN)
   ·have c3:=lT i0 x0.Terms.length (by omega);refine aP h4 fun y1 h6 H4 => ?_;refine pA 14 [r0 [.e (.bool true)],r0 [.e (.dptr (aj (x0.Terms.getD i0 ⟨[],0⟩))),.v,.m,.m],r0 [.v,.v,.hR [(8,1000)] 27 (iI y1) [(1000,.cells 88 (aj (x0.Terms.getD i0 ⟨[],0⟩)))],.v],V3] [.only [1,4,5,6,8,9,19,20,21,36] [4,6,8,16]] 14 [true] ⟨60,[(1,dS al x1),(4,.hptr 4 0),(5,iI 0),(6,.hptr 6 0),(8,.hptr 8 0),(9,iI y1),(19,dS aj x0.Terms),(20,nI x0.Terms.length),(21,nI i0),(36,.bool (decide (y1<0)))],[(4,.cells 34 [iI 0,.eslice]),(6,.cells 201 [iI s0.1,.amap 16]),(8,.cells 88 (aj (x0.Terms.getD i0 ⟨[],0⟩))),(16,.smap 0 3 (s0.2.map (jh ag)))]⟩ (aB c3 (aI bf x0.Terms i0 ⟨[],0⟩ (aC Tryz.call162 (aC (kv _ _ _ _ h6) aN)))) ?_;refine aP H4 fun v0 h7 H5 => ?_;refine pJ 2 (kg x0 x1 i0) v0 ?_ (fun u0 e2 => ?_)
    ·refine aV h7 (fun c4 H6 => ?_) (fun c5 H7 => ?_)
     ·obtain rfl:=sI H6;exact pB 3 [.eqT 36 (.bool true),r0 (V 4 [.l (iI (bA 0 ((x0.Terms.getD i0 ⟨[],0⟩).Var) s0.2)),.v,.v,.w,.m,.rwH 16 (.smap 0 3 ((bL ((x0.Terms.getD i0 ⟨[],0⟩).Var) (aD ((bA 0 ((x0.Terms.getD i0 ⟨[],0⟩).Var) s0.2)+((x0.Terms.getD i0 ⟨[],0⟩).C))) s0.2).map (jh ag)))])] [.only [1,4,5,6,19,20,21] [4,6,16]] (kg x0 x1 i0 (s0.1,(bL ((x0.Terms.getD i0 ⟨[],0⟩).Var) (aD ((bA 0 ((x0.Terms.getD i0 ⟨[],0⟩).Var) s0.2)+((x0.Terms.getD i0 ⟨[],0⟩).C))) s0.2))) (aB c4 (aC (nt (c:=ag) ((x0.Terms.getD i0 ⟨[],0⟩).Var) 0 s0.2) (aC (congrArg (AO.smap 0 3) (jz (c:=ag) ((x0.Terms.getD i0 ⟨[],0⟩).Var) (aD ((bA 0 ((x0.Terms.getD i0 ⟨[],0⟩).Var) s0.2)+((x0.Terms.getD i0 ⟨[],0⟩).C))) s0.2)) aN)))
     ·refine aG H7 fun g0 H8 => ?_;refine aP H8 fun y2 h8 H9 => ?_;refine pA 4 [.eqT 36 (.bool false),r0 [.v,.v,.e (.dptr (al (x1.getD y1.toNat (⟨0,[],⟨0,[]⟩,⟨[],[]⟩,[]⟩)))),.v,.v,.c true (.bool y2),.v,.v]] [.only [1,4,5,6,8,9,19,20,21,47] [4,6,8,16]] 3 [false] ⟨60,[(1,dS al x1),(4,.hptr 4 0),(5,iI 0),(6,.hptr 6 0),(8,.hptr 8 0),(9,iI y1),(19,dS aj x0.Terms),(20,nI x0.Terms.length),(21,nI i0),(47,.bool (!y2))],[(4,.cells 34 [iI 0,.eslice]),(6,.cells 201 [iI s0.1,.amap 16]),(8,.cells 88 (aj (x0.Terms.getD i0 ⟨[],0⟩))),(16,.smap 0 3 (s0.2.map (jh ag)))]⟩ (aB c5 (bF (GI (f:=al) (l:=x1) (n:=y1) (⟨0,[],⟨0,[]⟩,⟨[],[]⟩,[]⟩) aQ (by decide) (by exact g0)) (aC Tryz.call50 (aF (bO _ _ h8) (aT aN))))) ?_;refine aV H9 (fun c6 H10 => ?_) (fun c7 H11 => ?_)
      ·refine aP H10 fun y3 h9 H12 => ?_;obtain rfl:=sI H12;exact pB 3 [.eqT 47 (.bool false),.rg 7 [.v,.v,.e (.dptr (al (x1.getD y1.toNat (⟨0,[],⟨0,[]⟩,⟨[],[]⟩,[]⟩)))),.v,.v,.v,.v] [.hR [(6,1000),(16,1001)] 35 (.tup []) [(1000,.cells 201 [iI y3.1,.amap 1001]),(1001,.smap 0 3 (y3.2.map (jh ag)))]]] [.only [1,4,5,6,19,20,21] [4,6,16]] (kg x0 x1 i0 (y3.1,y3.2)) (aM c6 (bF (GI (f:=al) (l:=x1) (n:=y1) (⟨0,[],⟨0,[]⟩,⟨[],[]⟩,[]⟩) aQ (by decide) (by exact g0)) (aC Tryz.call164 (aC (rS _ _ _ _ _ h9) aN))))
      ·obtain rfl:=sI H11;obtain rfl:=sI (aA H5);obtain rfl:=aR h5;obtain rfl:=sI (aA H3);exact pR 5 [.eqT 47 (.bool true),r0 [.b,.m,.v]] [.wkH 4 1 []] [] (aM c7 aN)
    ·subst e2;have H13:=bp H5;refine b7 19 (ps:=[(x0.Terms.map aj).length≤9223372036854775807]) (by kernel_rfl) (fun l0 => ?_);have l1:x0.Terms.length≤9223372036854775807:=by simpa only [bB,Kp] using l0
     clear l0;obtain rfl:=sI H13;exact pB 1 [V2] [.only [1,4,5,6,19,20,21] [4,6,16]] (ki x0 x1 (i0+1) (u0.1,u0.2)) (aH i0 aN)
  ·subst e0;have H14:=bp H3;refine aP H14 fun y4 h10 H15 => ?_;obtain rfl:=sI H15;exact pR 3 [r0 [.hR [(6,1000),(16,1001)] 57 (.tup [.agg [iI y4.1.Const,dS aj y4.1.Terms],iI y4.2]) [],.v,.v,.m,.v]] [] [] (aC Tryz.call165 (aC (pO _ _ _ h10) aN))
 ·obtain rfl:=sI H2;exact pR 10 [r0 [.m,.m,.v],r0 [.v,.c true (.bool y0),.v],.eqT 12 (.bool true),r0 [.b,.m,.v]] [.wkH 4 1 []] [] (aC Tryz.call50 (aF (bO _ _ h0) (aT (aM c1 aN))))
noncomputable def cy (x0:Nat) (x1:List Bind) (x2:aw) (x3:List Bind):Option (Bool×(List Bind)) :=
 bH (x0<x1.length) <|
 (cS (Linear.mk (((x1.getD x0 (⟨0,[],⟨0,[]⟩,⟨[],[]⟩,[]⟩)).Dim).Const) (((x1.getD x0 (⟨0,[],⟨0,[]⟩,⟨[],[]⟩,[]⟩)).Dim).Terms)) x2).bind fun y0 =>
 bif (y0==0) then (
  some (true,x1)
 ) else (
  (gi (Linear.mk (((x1.getD x0 (⟨0,[],⟨0,[]⟩,⟨[],[]⟩,[]⟩)).Dim).Const) (((x1.getD x0 (⟨0,[],⟨0,[]⟩,⟨[],[]⟩,[]⟩)).Dim).Terms)) x3).bind fun y1 =>
  some ((y1.2==0),(x1.set x0 (Bind.mk ((x1.getD x0 (⟨0,[],⟨0,[]⟩,⟨[],[]⟩,[]⟩)).Kind) ((x1.getD x0 (⟨0,[],⟨0,[]⟩,⟨[],[]⟩,[]⟩)).Var) y1.1 (Shape.mk (((x1.getD x0 (⟨0,[],⟨0,[]⟩,⟨[],[]⟩,[]⟩)).Row).Row) (((x1.getD x0 (⟨0,[],⟨0,[]⟩,⟨[],[]⟩,[]⟩)).Row).Dims)) ((x1.getD x0 (⟨0,[],⟨0,[]⟩,⟨[],[]⟩,[]⟩)).Elem))))
 )
theorem mx (x0:Nat) (x1:List Bind) (x2:aw) (x3:List Bind) (r:Bool×(List Bind)) (H:cy x0 x1 x2 x3=some r):bT Tryz.prog 130 [.hptr 1000 (x0*7+2),.hptr 1001 0,.hptr 1002 0] [(1000,.row 41 7 (x1.map al)),(1001,.cells 9 [.str x2]),(1002,.cells 25 [dS al x3])] (fun r2 h0=>r2=(.bool r.1)∧h0=[(1000,.row 41 7 (r.2.map al)),(1001,.cells 9 [.str x2]),(1002,.cells 25 [dS al x3])]):=by
 unfold cy at H;refine aX Tryz.func130 26 [.tmp 4] ?_;refine aG H fun g0 H0 => ?_;refine aP H0 fun y0 h1 H1 => ?_;refine pA 5 [V1,.rg 4 [.v,.v,.rl x0 2 (.agg (ai ((x1.getD x0 (⟨0,[],⟨0,[]⟩,⟨[],[]⟩,[]⟩)).Dim))),.v] [.c true (iI y0),.v]] [.only [0,2,4,12] [1000,1001,1002]] 5 [] ⟨26,[(0,.hptr 1000 (x0*7+2)),(2,.hptr 1002 0),(4,.bool false),(12,.bool (y0==0))],[(1000,.row 41 7 (x1.map al)),(1001,.cells 9 [.str x2]),(1002,.cells 25 [dS al x3])]⟩ (aC (gR (f:=al) (l:=x1) (n:=x0) 7 2 2 (by omega) (by decide)) (aC (Ew (f:=al) (l:=x1) (n:=x0) (⟨0,[],⟨0,[]⟩,⟨[],[]⟩,[]⟩) 2 2 (by omega)) (aC Tryz.call46 (aF (gG _ _ _ h1) aN)))) ?_;refine aV H1 (fun c0 H2 => ?_) (fun c1 H3 => ?_)
 ·obtain rfl:=sI H2;exact pR 5 [.eqT 12 (.bool true),V1] [] [1000,1001,1002] (aB c0 aN)
 ·refine aP H3 fun y1 h2 H4 => ?_;obtain rfl:=sI H4;exact pR 10 [.eqT 12 (.bool false),.rg 10 [.v,.v,.rl x0 2 (.agg (ai ((x1.getD x0 (⟨0,[],⟨0,[]⟩,⟨[],[]⟩,[]⟩)).Dim))),.v,.c true (.tup [.agg [iI y1.1.Const,dS aj y1.1.Terms],iI y1.2]),.v,.v,.v,.m,.m] [.v],r0 [.v,.v,.v,.rs x0 2,.rwH 1000 (.row 41 7 ((x1.set x0 (Bind.mk ((x1.getD x0 (⟨0,[],⟨0,[]⟩,⟨[],[]⟩,[]⟩)).Kind) ((x1.getD x0 (⟨0,[],⟨0,[]⟩,⟨[],[]⟩,[]⟩)).Var) y1.1 (Shape.mk (((x1.getD x0 (⟨0,[],⟨0,[]⟩,⟨[],[]⟩,[]⟩)).Row).Row) (((x1.getD x0 (⟨0,[],⟨0,[]⟩,⟨[],[]⟩,[]⟩)).Row).Dims)) ((x1.getD x0 (⟨0,[],⟨0,[]⟩,⟨[],[]⟩,[]⟩)).Elem))).map al))],V3] [] [1000,1001,1002] (aB c1 (aC (gR (f:=al) (l:=x1) (n:=x0) 7 2 2 (by omega) (by decide)) (aC (Ew (f:=al) (l:=x1) (n:=x0) (⟨0,[],⟨0,[]⟩,⟨[],[]⟩,[]⟩) 2 2 (by omega)) (aC Tryz.call131 (aF (oC _ _ _ h2) (aC (gR (f:=al) (l:=x1) (n:=x0) 7 2 2 (by omega) (by decide)) (aC (r7 (f:=al) 41 7 x1 x0 (⟨0,[],⟨0,[]⟩,⟨[],[]⟩,[]⟩) (Bind.mk ((x1.getD x0 (⟨0,[],⟨0,[]⟩,⟨[],[]⟩,[]⟩)).Kind) ((x1.getD x0 (⟨0,[],⟨0,[]⟩,⟨[],[]⟩,[]⟩)).Var) y1.1 (Shape.mk (((x1.getD x0 (⟨0,[],⟨0,[]⟩,⟨[],[]⟩,[]⟩)).Row).Row) (((x1.getD x0 (⟨0,[],⟨0,[]⟩,⟨[],[]⟩,[]⟩)).Row).Dims)) ((x1.getD x0 (⟨0,[],⟨0,[]⟩,⟨[],[]⟩,[]⟩)).Elem)) 2 [iI y1.1.Const,dS aj y1.1.Terms] (by omega) rfl) aN)))))))
noncomputable def bZ (x0:Nat) (x1:List ab) (x2:aw) (x3:List Bind):Option (Bool×(List ab)) :=
 bH (x0<x1.length) <|
 (cS (Linear.mk (((x1.getD x0 (⟨⟨0,[]⟩,[],0,false⟩)).q).Const) (((x1.getD x0 (⟨⟨0,[]⟩,[],0,false⟩)).q).Terms)) x2).bind fun y0 =>
 bif (y0==0) then (
  some (true,x1)
 ) else (
  (gi (Linear.mk (((x1.getD x0 (⟨⟨0,[]⟩,[],0,false⟩)).q).Const) (((x1.getD x0 (⟨⟨0,[]⟩,[],0,false⟩)).q).Terms)) x3).bind fun y1 =>
  some ((y1.2==0),(x1.set x0 (ab.mk y1.1 ((x1.getD x0 (⟨⟨0,[]⟩,[],0,false⟩)).mults) ((x1.getD x0 (⟨⟨0,[]⟩,[],0,false⟩)).scale) ((x1.getD x0 (⟨⟨0,[]⟩,[],0,false⟩)).lost))))
 )
theorem kP (x0:Nat) (x1:List ab) (x2:aw) (x3:List Bind) (r:Bool×(List ab)) (H:bZ x0 x1 x2 x3=some r):bT Tryz.prog 130 [.hptr 1000 (x0*5),.hptr 1001 0,.hptr 1002 0] [(1000,.row 76 5 (x1.map aa)),(1001,.cells 9 [.str x2]),(1002,.cells 25 [dS al x3])] (fun r2 h0=>r2=(.bool r.1)∧h0=[(1000,.row 76 5 (r.2.map aa)),(1001,.cells 9 [.str x2]),(1002,.cells 25 [dS al x3])]):=by
 unfold bZ at H;refine aX Tryz.func130 26 [.tmp 4] ?_;refine aG H fun g0 H0 => ?_;refine aP H0 fun y0 h1 H1 => ?_;refine pA 5 [V1,.rg 4 [.v,.v,.rl x0 0 (.agg (ai ((x1.getD x0 (⟨⟨0,[]⟩,[],0,false⟩)).q))),.v] [.c true (iI y0),.v]] [.only [0,2,4,12] [1000,1001,1002]] 5 [] ⟨26,[(0,.hptr 1000 (x0*5)),(2,.hptr 1002 0),(4,.bool false),(12,.bool (y0==0))],[(1000,.row 76 5 (x1.map aa)),(1001,.cells 9 [.str x2]),(1002,.cells 25 [dS al x3])]⟩ (aC (gR (f:=aa) (l:=x1) (n:=x0) 5 0 2 (by omega) (by decide)) (aC (Ew (f:=aa) (l:=x1) (n:=x0) (⟨⟨0,[]⟩,[],0,false⟩) 0 2 (by omega)) (aC Tryz.call46 (aF (gG _ _ _ h1) aN)))) ?_;refine aV H1 (fun c0 H2 => ?_) (fun c1 H3 => ?_)
 ·obtain rfl:=sI H2;exact pR 5 [.eqT 12 (.bool true),V1] [] [1000,1001,1002] (aB c0 aN)
 ·refine aP H3 fun y1 h2 H4 => ?_;obtain rfl:=sI H4;exact pR 10 [.eqT 12 (.bool false),.rg 10 [.v,.v,.rl x0 0 (.agg (ai ((x1.getD x0 (⟨⟨0,[]⟩,[],0,false⟩)).q))),.v,.c true (.tup [.agg [iI y1.1.Const,dS aj y1.1.Terms],iI y1.2]),.v,.v,.v,.m,.m] [.v],r0 [.v,.v,.v,.rs x0 0,.rwH 1000 (.row 76 5 ((x1.set x0 (ab.mk y1.1 ((x1.getD x0 (⟨⟨0,[]⟩,[],0,false⟩)).mults) ((x1.getD x0 (⟨⟨0,[]⟩,[],0,false⟩)).scale) ((x1.getD x0 (⟨⟨0,[]⟩,[],0,false⟩)).lost))).map aa))],V3] [] [1000,1001,1002] (aB c1 (aC (gR (f:=aa) (l:=x1) (n:=x0) 5 0 2 (by omega) (by decide)) (aC (Ew (f:=aa) (l:=x1) (n:=x0) (⟨⟨0,[]⟩,[],0,false⟩) 0 2 (by omega)) (aC Tryz.call131 (aF (oC _ _ _ h2) (aC (gR (f:=aa) (l:=x1) (n:=x0) 5 0 2 (by omega) (by decide)) (aC (r7 (f:=aa) 76 5 x1 x0 (⟨⟨0,[]⟩,[],0,false⟩) (ab.mk y1.1 ((x1.getD x0 (⟨⟨0,[]⟩,[],0,false⟩)).mults) ((x1.getD x0 (⟨⟨0,[]⟩,[],0,false⟩)).scale) ((x1.getD x0 (⟨⟨0,[]⟩,[],0,false⟩)).lost)) 0 [iI y1.1.Const,dS aj y1.1.Terms] (by omega) rfl) aN)))))))
noncomputable def bc (x0:aw) (x1:Linear) (x2 x3:Int) (x4:List ab) (x5:List Bind):Option (Int×(List ab)×(List Bind)) :=
 (bV x1).bind fun y0 =>
 bif y0 then (
  (kD (σ:=(Int×(List Bind))) (ε:=(List Bind)) (ρ:=(Int×(List ab)×(List Bind))) (fun s0 =>
   bif decide (s0.1<((x5.length:Nat):Int)) then (
    bH (0≤s0.1∧s0.1<(s0.2.length:Int)) <|
    (cy s0.1.toNat s0.2 x0 [(Bind.mk 1 x0 x1 (Shape.mk [] []) [])]).bind fun y1 =>
    bif y1.1 then (
     some (.go ((aD (s0.1+1)),y1.2))
    ) else (
     some (.ret (3,x4,y1.2))
    )
   ) else (
    some (.brk s0.2)
   )
  ) 4294967296 (0,x5)).bind <| aft fun u0 =>
  (kD (σ:=(Int×(List ab))) (ε:=(List ab)) (ρ:=(Int×(List ab)×(List Bind))) (fun s1 =>
   bif decide (s1.1<((s1.2.length:Nat):Int)) then (
    bH (0≤s1.1∧s1.1<(s1.2.length:Int)) <|
    (bZ s1.1.toNat s1.2 x0 [(Bind.mk 1 x0 x1 (Shape.mk [] []) [])]).bind fun y2 =>
    bif y2.1 then (
     some (.go ((aD (s1.1+1)),y2.2))
    ) else (
     some (.ret (3,y2.2,u0))
    )
   ) else (
    some (.brk s1.2)
   )
  ) 4294967296 (x2,x4)).bind <| aft fun u1 =>
  bH (0<[(Bind.mk 1 x0 x1 (Shape.mk [] []) [])].length) <|
  bH ((u0.length+1)*112≤140737488355328) <|
  some (0,u1,(u0++[(Bind.mk (([(Bind.mk 1 x0 x1 (Shape.mk [] []) [])].getD 0 (⟨0,[],⟨0,[]⟩,⟨[],[]⟩,[]⟩)).Kind) (([(Bind.mk 1 x0 x1 (Shape.mk [] []) [])].getD 0 (⟨0,[],⟨0,[]⟩,⟨[],[]⟩,[]⟩)).Var) (Linear.mk ((([(Bind.mk 1 x0 x1 (Shape.mk [] []) [])].getD 0 (⟨0,[],⟨0,[]⟩,⟨[],[]⟩,[]⟩)).Dim).Const) ((([(Bind.mk 1 x0 x1 (Shape.mk [] []) [])].getD 0 (⟨0,[],⟨0,[]⟩,⟨[],[]⟩,[]⟩)).Dim).Terms)) (Shape.mk ((([(Bind.mk 1 x0 x1 (Shape.mk [] []) [])].getD 0 (⟨0,[],⟨0,[]⟩,⟨[],[]⟩,[]⟩)).Row).Row) ((([(Bind.mk 1 x0 x1 (Shape.mk [] []) [])].getD 0 (⟨0,[],⟨0,[]⟩,⟨[],[]⟩,[]⟩)).Row).Dims)) (([(Bind.mk 1 x0 x1 (Shape.mk [] []) [])].getD 0 (⟨0,[],⟨0,[]⟩,⟨[],[]⟩,[]⟩)).Elem))]))
 ) else (
  some (3,x4,x5)
 )
def fb (x0:aw) (x1:Linear) (x2 x3:Int) (x4:List ab) (x5:List Bind) (s0:Int×(List Bind)):AS:=⟨72,[(0,.hptr 1000 0),(3,iI x2),(8,iI 0),(9,.hptr 9 0),(10,.fn 130 [.hptr 5 0,.hptr 9 0]),(25,nI x5.length),(26,iI s0.1)],[(5,.cells 9 [.str x0]),(9,.cells 25 [.dslice ([(Bind.mk 1 x0 x1 (Shape.mk [] []) [])].map al)]),(1000,.cells 73 [.rslice 1001,.rslice 1002,iI x3]),(1001,.row 76 5 (x4.map aa)),(1002,.row 41 7 (s0.2.map al))]⟩
def iD (x0:aw) (x1:Linear) (x2 x3:Int) (x4:List ab) (u2:List Bind):AS:=⟨72,[(0,.hptr 1000 0),(3,iI x2),(8,iI 0),(9,.hptr 9 0),(10,.fn 130 [.hptr 5 0,.hptr 9 0])],[(5,.cells 9 [.str x0]),(9,.cells 25 [.dslice ([(Bind.mk 1 x0 x1 (Shape.mk [] []) [])].map al)]),(1000,.cells 73 [.rslice 1001,.rslice 1002,iI x3]),(1001,.row 76 5 (x4.map aa)),(1002,.row 41 7 (u2.map al))]⟩
def eU (x0:aw) (x1:Linear) (x3:Int) (u0:List Bind) (s1:Int×(List ab)):AS:=⟨72,[(0,.hptr 1000 0),(8,iI 0),(9,.hptr 9 0),(10,.fn 130 [.hptr 5 0,.hptr 9 0]),(12,iI s1.1)],[(5,.cells 9 [.str x0]),(9,.cells 25 [.dslice ([(Bind.mk 1 x0 x1 (Shape.mk [] []) [])].map al)]),(1000,.cells 73 [.rslice 1001,.rslice 1002,iI x3]),(1001,.row 76 5 (s1.2.map aa)),(1002,.row 41 7 (u0.map al))]⟩
def iF (x0:aw) (x1:Linear) (x3:Int) (u0:List Bind) (u3:List ab):AS:=⟨72,[(0,.hptr 1000 0),(8,iI 0),(9,.hptr 9 0)],[(9,.cells 25 [.dslice ([(Bind.mk 1 x0 x1 (Shape.mk [] []) [])].map al)]),(1000,.cells 73 [.rslice 1001,.rslice 1002,iI x3]),(1001,.row 76 5 (u3.map aa)),(1002,.row 41 7 (u0.map al))]⟩
theorem iP (x0:aw) (x1:Linear) (x2 x3:Int) (x4:List ab) (x5:List Bind) (r:Int×(List ab)×(List Bind)) (H:bc x0 x1 x2 x3 x4 x5=some r):bT Tryz.prog 99 [.hptr 1000 0,.str x0,.agg [iI x1.Const,dS aj x1.Terms],iI x2] [(1000,.cells 73 [.rslice 1001,.rslice 1002,iI x3]),(1001,.row 76 5 (x4.map aa)),(1002,.row 41 7 (x5.map al))] (fun r2 h0=>r2=(iI r.1)∧h0=[(0,.row 41 7 (r.2.2.map al)),(1000,.cells 73 [.rslice 1001,.rslice 0,iI x3]),(1001,.row 76 5 (r.2.1.map aa))]):=by
 unfold bc at H;refine aX Tryz.func99 72 [.tmp 8] ?_;refine aP H fun y0 h1 H0 => ?_;refine aV H0 (fun c0 H1 => ?_) (fun c1 H2 => ?_)
 ·refine pA 16 [.rg 0 [] [.m,.m,.v],.rg 0 [] [.v,.c true (.bool y0),.v],.eqT 15 (.bool false),.rg 0 [] [.v,.v,.b,.b,.wk 19 [(0,5)],.m,.m],.rg 0 [] [.v,.v],.rg 0 [] (V 4 [.e (.int .i64 ((x5.length:Nat):Int)),.v])] [.only [0,3,8,9,10,25,26] [5,9,1000,1001,1002]] 15 [false] (fb x0 x1 x2 x3 x4 x5 (0,x5)) (aC Tryz.call50 (aF (bO _ _ h1) (aT (aM c0 (aT (aC (aJ al x5) aN)))))) ?_;refine aP H1 fun R0 h2 H3 => ?_;refine pJ 1 (iD x0 x1 x2 x3 x4) R0 ?_ (fun u0 e0 => ?_)
  ·refine pV (fb x0 x1 x2 x3 x4 x5) (by kernel_rfl) h2 (fun s0 q0 h3 h4 => ?_)
   ·refine aV h3 (fun c2 H4 => ?_) (fun c3 H5 => ?_)
    ·refine aG H4 fun g0 H6 => ?_;refine aP H6 fun y1 h5 H7 => ?_;refine pA 12 [V1,.eqT 27 (.bool true),V2,r0 (V 8 [.hM [(1002,1000),(5,1001),(9,1002)] [] (.bool y1.1) [(1000,.row 41 7 (y1.2.map al)),(1001,.cells 9 [.str x0]),(1002,.cells 25 [.dslice ([(Bind.mk 1 x0 x1 (Shape.mk [] []) [])].map al)])],.v])] [.only [0,3,8,9,10,25,26,38] [5,9,1000,1001,1002]] 11 [true] ⟨72,[(0,.hptr 1000 0),(3,iI x2),(8,iI 0),(9,.hptr 9 0),(10,.fn 130 [.hptr 5 0,.hptr 9 0]),(25,nI x5.length),(26,iI s0.1),(38,.bool (!y1.1))],[(5,.cells 9 [.str x0]),(9,.cells 25 [.dslice ([(Bind.mk 1 x0 x1 (Shape.mk [] []) [])].map al)]),(1000,.cells 73 [.rslice 1001,.rslice 1002,iI x3]),(1001,.row 76 5 (x4.map aa)),(1002,.row 41 7 (y1.2.map al))]⟩ (aB c2 (aC (show (0:Int)≤s0.1∧s0.1<((s0.2.map al).length:Int) from by rw [Kp];exact g0) (aC Tryz.call130 (aC (mx _ _ _ _ _ h5) (aT aN))))) ?_;refine aV H7 (fun c4 H8 => ?_) (fun c5 H9 => ?_)
     ·obtain rfl:=sI H8;exact pB 4 [.eqT 38 (.bool false),r0 [.w,.v]] [.only [0,3,8,9,10,25,26] [5,9,1000,1001,1002]] (fb x0 x1 x2 x3 x4 x5 ((aD (s0.1+1)),y1.2)) (aM c4 aN)
     ·obtain rfl:=sI H9;obtain rfl:=aR h4;obtain rfl:=sI (aA H3);exact pR 5 [.eqT 38 (.bool true),V1] [.ren [(1002,0),(1000,1000),(1001,1001)]] [0,1000,1001] (aM c5 aN)
    ·obtain rfl:=sI H5;obtain rfl:=iL h4;exact pB 6 [V1,.eqT 27 (.bool false)] [.only [0,3,8,9,10] [5,9,1000,1001,1002]] (iD x0 x1 x2 x3 x4 s0.2) (aB c3 aN)
  ·subst e0;have H10:=bp H3;refine pA 4 [V2] [.only [0,8,9,10,12] [5,9,1000,1001,1002]] 4 [] (eU x0 x1 x3 u0 (x2,x4)) aN ?_;refine aP H10 fun R1 h6 H11 => ?_;refine pJ 1 (iF x0 x1 x3 u0) R1 ?_ (fun u1 e1 => ?_)
   ·refine pV (eU x0 x1 x3 u0) (by kernel_rfl) h6 (fun s1 q1 h7 h8 => ?_)
    ·refine aV h7 (fun c6 H12 => ?_) (fun c7 H13 => ?_)
     ·refine aG H12 fun g1 H14 => ?_;refine aP H14 fun y2 h9 H15 => ?_;refine pA 10 [r0 (V 5 [.e (nI s1.2.length),.v]),.eqT 47 (.bool true),r0 (V 8 [.hM [(1001,1000),(5,1001),(9,1002)] [] (.bool y2.1) [(1000,.row 76 5 (y2.2.map aa)),(1001,.cells 9 [.str x0]),(1002,.cells 25 [.dslice ([(Bind.mk 1 x0 x1 (Shape.mk [] []) [])].map al)])],.v])] [.only [0,8,9,10,12,59] [5,9,1000,1001,1002]] 9 [true] ⟨72,[(0,.hptr 1000 0),(8,iI 0),(9,.hptr 9 0),(10,.fn 130 [.hptr 5 0,.hptr 9 0]),(12,iI s1.1),(59,.bool (!y2.1))],[(5,.cells 9 [.str x0]),(9,.cells 25 [.dslice ([(Bind.mk 1 x0 x1 (Shape.mk [] []) [])].map al)]),(1000,.cells 73 [.rslice 1001,.rslice 1002,iI x3]),(1001,.row 76 5 (y2.2.map aa)),(1002,.row 41 7 (u0.map al))]⟩ (aT (aC (aJ aa s1.2) (aB c6 (aC (show (0:Int)≤s1.1∧s1.1<((s1.2.map aa).length:Int) from by rw [Kp];exact g1) (aC Tryz.call130 (aC (kP _ _ _ _ _ h9) (aT aN))))))) ?_;refine aV H15 (fun c8 H16 => ?_) (fun c9 H17 => ?_)
      ·obtain rfl:=sI H16;exact pB 4 [.eqT 59 (.bool false),r0 [.v,.w,.v]] [.only [0,8,9,10,12] [5,9,1000,1001,1002]] (eU x0 x1 x3 u0 ((aD (s1.1+1)),y2.2)) (aM c8 aN)
      ·obtain rfl:=sI H17;obtain rfl:=aR h8;obtain rfl:=sI (aA H11);exact pR 5 [.eqT 59 (.bool true),V1] [.ren [(1002,0),(1000,1000),(1001,1001)]] [0,1000,1001] (aM c9 aN)
     ·obtain rfl:=sI H13;obtain rfl:=iL h8;exact pB 6 [r0 (V 5 [.e (nI s1.2.length),.v]),.eqT 47 (.bool false)] [.only [0,8,9] [9,1000,1001,1002]] (iF x0 x1 x3 u0 s1.2) (aT (aC (aJ aa s1.2) (aB c7 aN)))
   ·subst e1;have H18:=bp H11;refine aG H18 fun g2 H19 => ?_;refine aG H19 fun g3 H20 => ?_;obtain rfl:=sI H20;exact pR 5 [.rg 10 (V 4 [.lt,.v,.e (.dptr (al ([(Bind.mk 1 x0 x1 (Shape.mk [] []) [])].getD 0 (⟨0,[],⟨0,[]⟩,⟨[],[]⟩,[]⟩)))),.v,.b,.apx ((u0++[(Bind.mk (([(Bind.mk 1 x0 x1 (Shape.mk [] []) [])].getD 0 (⟨0,[],⟨0,[]⟩,⟨[],[]⟩,[]⟩)).Kind) (([(Bind.mk 1 x0 x1 (Shape.mk [] []) [])].getD 0 (⟨0,[],⟨0,[]⟩,⟨[],[]⟩,[]⟩)).Var) (Linear.mk ((([(Bind.mk 1 x0 x1 (Shape.mk [] []) [])].getD 0 (⟨0,[],⟨0,[]⟩,⟨[],[]⟩,[]⟩)).Dim).Const) ((([(Bind.mk 1 x0 x1 (Shape.mk [] []) [])].getD 0 (⟨0,[],⟨0,[]⟩,⟨[],[]⟩,[]⟩)).Dim).Terms)) (Shape.mk ((([(Bind.mk 1 x0 x1 (Shape.mk [] []) [])].getD 0 (⟨0,[],⟨0,[]⟩,⟨[],[]⟩,[]⟩)).Row).Row) ((([(Bind.mk 1 x0 x1 (Shape.mk [] []) [])].getD 0 (⟨0,[],⟨0,[]⟩,⟨[],[]⟩,[]⟩)).Row).Dims)) (([(Bind.mk 1 x0 x1 (Shape.mk [] []) [])].getD 0 (⟨0,[],⟨0,[]⟩,⟨[],[]⟩,[]⟩)).Elem))]).map al)]) [.v,.v,.m],V1] [.ren [(69,0),(1000,1000),(1001,1001)]] [0,1000,1001] (aI aQ ([(Bind.mk 1 x0 x1 (Shape.mk [] []) [])]) 0 (⟨0,[],⟨0,[]⟩,⟨[],[]⟩,[]⟩) (bF (Hw (c:=al) AQ u0 [(Bind.mk (([(Bind.mk 1 x0 x1 (Shape.mk [] []) [])].getD 0 (⟨0,[],⟨0,[]⟩,⟨[],[]⟩,[]⟩)).Kind) (([(Bind.mk 1 x0 x1 (Shape.mk [] []) [])].getD 0 (⟨0,[],⟨0,[]⟩,⟨[],[]⟩,[]⟩)).Var) (Linear.mk ((([(Bind.mk 1 x0 x1 (Shape.mk [] []) [])].getD 0 (⟨0,[],⟨0,[]⟩,⟨[],[]⟩,[]⟩)).Dim).Const) ((([(Bind.mk 1 x0 x1 (Shape.mk [] []) [])].getD 0 (⟨0,[],⟨0,[]⟩,⟨[],[]⟩,[]⟩)).Dim).Terms)) (Shape.mk ((([(Bind.mk 1 x0 x1 (Shape.mk [] []) [])].getD 0 (⟨0,[],⟨0,[]⟩,⟨[],[]⟩,[]⟩)).Row).Row) ((([(Bind.mk 1 x0 x1 (Shape.mk [] []) [])].getD 0 (⟨0,[],⟨0,[]⟩,⟨[],[]⟩,[]⟩)).Row).Dims)) (([(Bind.mk 1 x0 x1 (Shape.mk [] []) [])].getD 0 (⟨0,[],⟨0,[]⟩,⟨[],[]⟩,[]⟩)).Elem))] 112 (by decide) (by simpa using g3) List.map_append.symm) aN))
 ·obtain rfl:=sI H2;exact pR 10 [r0 [.m,.m,.v],r0 [.v,.c true (.bool y0),.v],.eqT 15 (.bool true),V1] [.ren [(1002,0),(1000,1000),(1001,1001)]] [0,1000,1001] (aC Tryz.call50 (aF (bO _ _ h1) (aT (aM c1 aN))))
end Go.Proofs.YtlhcekghjfjajaaGreatDoor
