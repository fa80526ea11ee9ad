/- What functions of the program compute, walked: each as a plain function, with the theorem that the code computes it wherever that answers. Printed by a program, part 2. -/
import Derived.Test.YtlhcekghjfjajaaGreatDoorWkaEquationsSame
set_option linter.unusedSimpArgs false
set_option linter.unusedVariables false
namespace Go.Proofs.YtlhcekghjfjajaaGreatDoor
open Go.RowKit Go.Ab Go.Sh
noncomputable def br (x0:Int) (x1:ak) (x2:Int) (x3:List ab) (x4:List Bind):Option (Int×(List ab)×(List Bind)) :=
 bH (0≤x0∧x0<(x3.length:Int)) <|
 bH (x0.toNat<x3.length) <|
 (dZ (σ:=(List ak)) (ε:=(List ak)) (ρ:=Empty) (fun i0 s0 =>
  ((
   bif ((((((x3.getD x0.toNat (⟨⟨0,[]⟩,[],0,false⟩)).q).Terms).getD i0 ⟨[],0⟩).Var)==x1.Var) then (
    some s0
   ) else (
    bH ((s0.length+1)*24≤140737488355328) <|
    some (s0++[(ak.mk (((((x3.getD x0.toNat (⟨⟨0,[]⟩,[],0,false⟩)).q).Terms).getD i0 ⟨[],0⟩).Var) (aD ((aD (0-x1.C))*(((((x3.getD x0.toNat (⟨⟨0,[]⟩,[],0,false⟩)).q).Terms).getD i0 ⟨[],0⟩).C))))])
   )
  ):Option (List ak)).bind fun v0 =>
  some (.go v0)
 ) (fun i0 s0=>s0) ((((x3.getD x0.toNat (⟨⟨0,[]⟩,[],0,false⟩)).q).Terms).length-0) 0 []).bind <| dG fun u0 =>
 (kD (σ:=(Int×(List ab))) (ε:=(List ab)) (ρ:=Empty) (fun s1 =>
  bif decide (s1.1<((s1.2.length:Nat):Int)) then (
   bH (0≤s1.1∧s1.1<(s1.2.length:Int)) <|
   bH (s1.1.toNat<s1.2.length) <|
   (cS (Linear.mk (((s1.2.getD s1.1.toNat (⟨⟨0,[]⟩,[],0,false⟩)).q).Const) (((s1.2.getD s1.1.toNat (⟨⟨0,[]⟩,[],0,false⟩)).q).Terms)) x1.Var).bind fun y0 =>
   ((
    bif (y0==0) then (
     some s1.2
    ) else (
     (cV s1.1.toNat (ab.mk (Linear.mk (((x3.getD x0.toNat (⟨⟨0,[]⟩,[],0,false⟩)).q).Const) (((x3.getD x0.toNat (⟨⟨0,[]⟩,[],0,false⟩)).q).Terms)) ((x3.getD x0.toNat (⟨⟨0,[]⟩,[],0,false⟩)).mults) ((x3.getD x0.toNat (⟨⟨0,[]⟩,[],0,false⟩)).scale) ((x3.getD x0.toNat (⟨⟨0,[]⟩,[],0,false⟩)).lost)) (aD (y0*x1.C)) s1.2).bind fun y1 =>
     some y1
    )
   ):Option (List ab)).bind fun v1 =>
   some (.go ((aD (s1.1+1)),v1))
  ) else (
   some (.brk s1.2)
  )
 ) 4294967296 ((aD (x0+1)),x3)).bind <| dG fun u1 =>
 (bc x1.Var (Linear.mk (aD ((aD (0-x1.C))*(((x3.getD x0.toNat (⟨⟨0,[]⟩,[],0,false⟩)).q).Const))) u0) x0 x2 u1 x4).bind fun y2 =>
 some (y2.1,y2.2.1,y2.2.2)
def eN (x0:Int) (x1:ak) (x2:Int) (x3:List ab) (x4:List Bind) (i0:Nat) (s0:List ak):AS:=⟨98,[(0,.hptr 1000 0),(1,iI x0),(5,.hptr 5 0),(6,iI 0),(7,.hptr 7 0),(8,.hptr 8 0),(30,.dslice ((((x3.getD x0.toNat (⟨⟨0,[]⟩,[],0,false⟩)).q).Terms).map aj)),(31,iI (((((x3.getD x0.toNat (⟨⟨0,[]⟩,[],0,false⟩)).q).Terms).length:Nat):Int)),(32,nI i0)],[(5,.cells 88 [.str x1.Var,iI x1.C]),(7,.cells 76 [iI (((x3.getD x0.toNat (⟨⟨0,[]⟩,[],0,false⟩)).q).Const),.dslice ((((x3.getD x0.toNat (⟨⟨0,[]⟩,[],0,false⟩)).q).Terms).map aj),.dmap (((x3.getD x0.toNat (⟨⟨0,[]⟩,[],0,false⟩)).mults).map (cR ag)),iI ((x3.getD x0.toNat (⟨⟨0,[]⟩,[],0,false⟩)).scale),.bool ((x3.getD x0.toNat (⟨⟨0,[]⟩,[],0,false⟩)).lost)]),(8,.cells 34 [iI (aD ((aD (0-x1.C))*(((x3.getD x0.toNat (⟨⟨0,[]⟩,[],0,false⟩)).q).Const))),.rslice 53]),(53,.row 88 2 (s0.map aj)),(1000,.cells 73 [.rslice 1001,.rslice 1002,iI x2]),(1001,.row 76 5 (x3.map aa)),(1002,.row 41 7 (x4.map al))]⟩
def gF (x0:Int) (x1:ak) (x2:Int) (x3:List ab) (x4:List Bind) (u2:List ak):AS:=⟨98,[(0,.hptr 1000 0),(1,iI x0),(5,.hptr 5 0),(6,iI 0),(7,.hptr 7 0),(8,.hptr 8 0)],[(5,.cells 88 [.str x1.Var,iI x1.C]),(7,.cells 76 [iI (((x3.getD x0.toNat (⟨⟨0,[]⟩,[],0,false⟩)).q).Const),.dslice ((((x3.getD x0.toNat (⟨⟨0,[]⟩,[],0,false⟩)).q).Terms).map aj),.dmap (((x3.getD x0.toNat (⟨⟨0,[]⟩,[],0,false⟩)).mults).map (cR ag)),iI ((x3.getD x0.toNat (⟨⟨0,[]⟩,[],0,false⟩)).scale),.bool ((x3.getD x0.toNat (⟨⟨0,[]⟩,[],0,false⟩)).lost)]),(8,.cells 34 [iI (aD ((aD (0-x1.C))*(((x3.getD x0.toNat (⟨⟨0,[]⟩,[],0,false⟩)).q).Const))),.rslice 53]),(53,.row 88 2 (u2.map aj)),(1000,.cells 73 [.rslice 1001,.rslice 1002,iI x2]),(1001,.row 76 5 (x3.map aa)),(1002,.row 41 7 (x4.map al))]⟩
def eF (x0:Int) (x1:ak) (x2:Int) (x3:List ab) (x4:List Bind) (i0:Nat) (v0:List ak):AS:=⟨98,[(0,.hptr 1000 0),(1,iI x0),(5,.hptr 5 0),(6,iI 0),(7,.hptr 7 0),(8,.hptr 8 0),(30,.dslice ((((x3.getD x0.toNat (⟨⟨0,[]⟩,[],0,false⟩)).q).Terms).map aj)),(31,iI (((((x3.getD x0.toNat (⟨⟨0,[]⟩,[],0,false⟩)).q).Terms).length:Nat):Int)),(32,nI i0)],[(5,.cells 88 [.str x1.Var,iI x1.C]),(7,.cells 76 [iI (((x3.getD x0.toNat (⟨⟨0,[]⟩,[],0,false⟩)).q).Const),.dslice ((((x3.getD x0.toNat (⟨⟨0,[]⟩,[],0,false⟩)).q).Terms).map aj),.dmap (((x3.getD x0.toNat (⟨⟨0,[]⟩,[],0,false⟩)).mults).map (cR ag)),iI ((x3.getD x0.toNat (⟨⟨0,[]⟩,[],0,false⟩)).scale),.bool ((x3.getD x0.toNat (⟨⟨0,[]⟩,[],0,false⟩)).lost)]),(8,.cells 34 [iI (aD ((aD (0-x1.C))*(((x3.getD x0.toNat (⟨⟨0,[]⟩,[],0,false⟩)).q).Const))),.rslice 53]),(53,.row 88 2 (v0.map aj)),(1000,.cells 73 [.rslice 1001,.rslice 1002,iI x2]),(1001,.row 76 5 (x3.map aa)),(1002,.row 41 7 (x4.map al))]⟩
def eM (x0:Int) (x1:ak) (x2:Int) (x3:List ab) (x4:List Bind) (u0:List ak) (s1:Int×(List ab)):AS:=⟨98,[(0,.hptr 1000 0),(1,iI x0),(5,.hptr 5 0),(6,iI 0),(7,.hptr 7 0),(8,.hptr 8 0),(11,iI s1.1)],[(5,.cells 88 [.str x1.Var,iI x1.C]),(7,.cells 76 [iI (((x3.getD x0.toNat (⟨⟨0,[]⟩,[],0,false⟩)).q).Const),.dslice ((((x3.getD x0.toNat (⟨⟨0,[]⟩,[],0,false⟩)).q).Terms).map aj),.dmap (((x3.getD x0.toNat (⟨⟨0,[]⟩,[],0,false⟩)).mults).map (cR ag)),iI ((x3.getD x0.toNat (⟨⟨0,[]⟩,[],0,false⟩)).scale),.bool ((x3.getD x0.toNat (⟨⟨0,[]⟩,[],0,false⟩)).lost)]),(8,.cells 34 [iI (aD ((aD (0-x1.C))*(((x3.getD x0.toNat (⟨⟨0,[]⟩,[],0,false⟩)).q).Const))),.rslice 53]),(53,.row 88 2 (u0.map aj)),(1000,.cells 73 [.rslice 1001,.rslice 1002,iI x2]),(1001,.row 76 5 (s1.2.map aa)),(1002,.row 41 7 (x4.map al))]⟩
def gQ (x0:Int) (x1:ak) (x2:Int) (x3:List ab) (x4:List Bind) (u0:List ak) (u3:List ab):AS:=⟨98,[(0,.hptr 1000 0),(1,iI x0),(5,.hptr 5 0),(6,iI 0),(8,.hptr 8 0)],[(5,.cells 88 [.str x1.Var,iI x1.C]),(8,.cells 34 [iI (aD ((aD (0-x1.C))*(((x3.getD x0.toNat (⟨⟨0,[]⟩,[],0,false⟩)).q).Const))),.rslice 53]),(53,.row 88 2 (u0.map aj)),(1000,.cells 73 [.rslice 1001,.rslice 1002,iI x2]),(1001,.row 76 5 (u3.map aa)),(1002,.row 41 7 (x4.map al))]⟩
def eH (x0:Int) (x1:ak) (x2:Int) (x3:List ab) (x4:List Bind) (u0:List ak) (s1:Int×(List ab)) (v1:List ab):AS:=⟨98,[(0,.hptr 1000 0),(1,iI x0),(5,.hptr 5 0),(6,iI 0),(7,.hptr 7 0),(8,.hptr 8 0),(11,iI s1.1)],[(5,.cells 88 [.str x1.Var,iI x1.C]),(7,.cells 76 [iI (((x3.getD x0.toNat (⟨⟨0,[]⟩,[],0,false⟩)).q).Const),.dslice ((((x3.getD x0.toNat (⟨⟨0,[]⟩,[],0,false⟩)).q).Terms).map aj),.dmap (((x3.getD x0.toNat (⟨⟨0,[]⟩,[],0,false⟩)).mults).map (cR ag)),iI ((x3.getD x0.toNat (⟨⟨0,[]⟩,[],0,false⟩)).scale),.bool ((x3.getD x0.toNat (⟨⟨0,[]⟩,[],0,false⟩)).lost)]),(8,.cells 34 [iI (aD ((aD (0-x1.C))*(((x3.getD x0.toNat (⟨⟨0,[]⟩,[],0,false⟩)).q).Const))),.rslice 53]),(53,.row 88 2 (u0.map aj)),(1000,.cells 73 [.rslice 1001,.rslice 1002,iI x2]),(1001,.row 76 5 (v1.map aa)),(1002,.row 41 7 (x4.map al))]⟩
theorem di (x0:Int) (x1:ak) (x2:Int) (x3:List ab) (x4:List Bind) (r:Int×(List ab)×(List Bind)) (H:br x0 x1 x2 x3 x4=some r):bT Tryz.prog 61 [.hptr 1000 0,iI x0,.agg [.str x1.Var,iI x1.C]] [(1000,.cells 73 [.rslice 1001,.rslice 1002,iI x2]),(1001,.row 76 5 (x3.map aa)),(1002,.row 41 7 (x4.map al))] (fun r2 h0=>r2=(iI r.1)∧h0=[(0,.row 41 7 (r.2.2.map al)),(1000,.cells 73 [.rslice 1001,.rslice 0,iI x2]),(1001,.row 76 5 (r.2.1.map aa))]):=by
 unfold br at H;refine aX Tryz.func61 98 [.tmp 6] ?_;refine aG H fun g0 H0 => ?_;refine aG H0 fun g1 H1 => ?_;refine pA 10 [r0 [.m,.v],r0 (V 6 [.rl x0.toNat 0 (.agg [iI (((x3.getD x0.toNat (⟨⟨0,[]⟩,[],0,false⟩)).q).Const),.dslice ((((x3.getD x0.toNat (⟨⟨0,[]⟩,[],0,false⟩)).q).Terms).map aj),.dmap (((x3.getD x0.toNat (⟨⟨0,[]⟩,[],0,false⟩)).mults).map (cR ag)),iI ((x3.getD x0.toNat (⟨⟨0,[]⟩,[],0,false⟩)).scale),.bool ((x3.getD x0.toNat (⟨⟨0,[]⟩,[],0,false⟩)).lost)]),.m,.m]),r0 [.v,.v,.w,.v,.v,.v,.w,.b,.m,.m],r0 [.v,.v,.v,.e (iI (((((x3.getD x0.toNat (⟨⟨0,[]⟩,[],0,false⟩)).q).Terms).length:Nat):Int)),.v]] [.erH 8 1 53 88 2,.only [0,1,5,6,7,8,30,31,32] [5,7,8,53,1000,1001,1002]] 10 [] (eN x0 x1 x2 x3 x4 0 []) (aC (show (0:Int)≤x0∧x0<((x3.map aa).length:Int) from by rw [Kp];exact g0) (aC (gR (f:=aa) (l:=x3) (n:=x0.toNat) 5 0 5 (by omega) (by decide)) (aC (Ew (f:=aa) (l:=x3) (n:=x0.toNat) (⟨⟨0,[]⟩,[],0,false⟩) 0 5 (by omega)) (aT (aC (aJ aj (((x3.getD x0.toNat (⟨⟨0,[]⟩,[],0,false⟩)).q).Terms)) aN))))) ?_;refine aP H1 fun R0 h1 H2 => ?_;refine pJ 1 (gF x0 x1 x2 x3 x4) R0 ?_ (fun u0 e0 => ?_)
 ·refine pC (eN x0 x1 x2 x3 x4) h1 (fun i0 s0 h2 e1 => ?_) (fun i0 s0 h3 q0 h4 h5 => ?_)
  ·have c0:=lF i0 ((((x3.getD x0.toNat (⟨⟨0,[]⟩,[],0,false⟩)).q).Terms).length) (by omega);subst e1;exact pB 5 [r0 [.e (.bool false)]] [.only [0,1,5,6,7,8] [5,7,8,53,1000,1001,1002]] (gF x0 x1 x2 x3 x4 s0) (aB c0 aN)
  ·have c1:=lT i0 ((((x3.getD x0.toNat (⟨⟨0,[]⟩,[],0,false⟩)).q).Terms).length) (by omega);refine pA 11 [r0 [.e (.bool true)],r0 [.e (.dptr (aj ((((x3.getD x0.toNat (⟨⟨0,[]⟩,[],0,false⟩)).q).Terms).getD i0 ⟨[],0⟩))),.v,.m,.m],V5] [.only [0,1,5,6,7,8,10,30,31,32,40] [5,7,8,10,53,1000,1001,1002]] 11 [true] ⟨98,[(0,.hptr 1000 0),(1,iI x0),(5,.hptr 5 0),(6,iI 0),(7,.hptr 7 0),(8,.hptr 8 0),(10,.hptr 10 0),(30,.dslice ((((x3.getD x0.toNat (⟨⟨0,[]⟩,[],0,false⟩)).q).Terms).map aj)),(31,iI (((((x3.getD x0.toNat (⟨⟨0,[]⟩,[],0,false⟩)).q).Terms).length:Nat):Int)),(32,nI i0),(40,.bool (!((((((x3.getD x0.toNat (⟨⟨0,[]⟩,[],0,false⟩)).q).Terms).getD i0 ⟨[],0⟩).Var)==x1.Var)))],[(5,.cells 88 [.str x1.Var,iI x1.C]),(7,.cells 76 [iI (((x3.getD x0.toNat (⟨⟨0,[]⟩,[],0,false⟩)).q).Const),.dslice ((((x3.getD x0.toNat (⟨⟨0,[]⟩,[],0,false⟩)).q).Terms).map aj),.dmap (((x3.getD x0.toNat (⟨⟨0,[]⟩,[],0,false⟩)).mults).map (cR ag)),iI ((x3.getD x0.toNat (⟨⟨0,[]⟩,[],0,false⟩)).scale),.bool ((x3.getD x0.toNat (⟨⟨0,[]⟩,[],0,false⟩)).lost)]),(8,.cells 34 [iI (aD ((aD (0-x1.C))*(((x3.getD x0.toNat (⟨⟨0,[]⟩,[],0,false⟩)).q).Const))),.rslice 53]),(10,.cells 88 (aj ((((x3.getD x0.toNat (⟨⟨0,[]⟩,[],0,false⟩)).q).Terms).getD i0 ⟨[],0⟩))),(53,.row 88 2 (s0.map aj)),(1000,.cells 73 [.rslice 1001,.rslice 1002,iI x2]),(1001,.row 76 5 (x3.map aa)),(1002,.row 41 7 (x4.map al))]⟩ (aB c1 (aI bf ((((x3.getD x0.toNat (⟨⟨0,[]⟩,[],0,false⟩)).q).Terms)) i0 ⟨[],0⟩ aN)) ?_;refine aP h4 fun v0 h6 H3 => ?_;refine dQ 1 (eF x0 x1 x2 x3 x4 i0 v0) (by kernel_rfl) ?_ ?_
   ·refine aV h6 (fun c2 H4 => ?_) (fun c3 H5 => ?_)
    ·refine cK H4 fun e2 => ?_;subst e2;exact pB 3 [.eqT 40 (.bool false)] [.only [0,1,5,6,7,8,30,31,32] [5,7,8,53,1000,1001,1002]] (eF x0 x1 x2 x3 x4 i0 s0) (aM c2 aN)
    ·refine aG H5 fun g2 H6 => ?_;obtain rfl:=sI H6;exact pB 3 [.eqT 40 (.bool true),r0 (V 6 [.w,.v,.v,.w,.b,.b,.ap,.rwH 53 (.row 88 2 ((s0++[(ak.mk (((((x3.getD x0.toNat (⟨⟨0,[]⟩,[],0,false⟩)).q).Terms).getD i0 ⟨[],0⟩).Var) (aD ((aD (0-x1.C))*(((((x3.getD x0.toNat (⟨⟨0,[]⟩,[],0,false⟩)).q).Terms).getD i0 ⟨[],0⟩).C))))]).map aj)),.v,.m])] [.only [0,1,5,6,7,8,30,31,32] [5,7,8,53,1000,1001,1002]] (eF x0 x1 x2 x3 x4 i0 (s0++[(ak.mk (((((x3.getD x0.toNat (⟨⟨0,[]⟩,[],0,false⟩)).q).Terms).getD i0 ⟨[],0⟩).Var) (aD ((aD (0-x1.C))*(((((x3.getD x0.toNat (⟨⟨0,[]⟩,[],0,false⟩)).q).Terms).getD i0 ⟨[],0⟩).C))))])) (aM c3 (bF (wD (c:=aj) gO s0 [(ak.mk (((((x3.getD x0.toNat (⟨⟨0,[]⟩,[],0,false⟩)).q).Terms).getD i0 ⟨[],0⟩).Var) (aD ((aD (0-x1.C))*(((((x3.getD x0.toNat (⟨⟨0,[]⟩,[],0,false⟩)).q).Terms).getD i0 ⟨[],0⟩).C))))] 24 (by decide) (by simpa using g2)) (aC (zO 88 2 aj s0 [(ak.mk (((((x3.getD x0.toNat (⟨⟨0,[]⟩,[],0,false⟩)).q).Terms).getD i0 ⟨[],0⟩).Var) (aD ((aD (0-x1.C))*(((((x3.getD x0.toNat (⟨⟨0,[]⟩,[],0,false⟩)).q).Terms).getD i0 ⟨[],0⟩).C))))]) aN)))
   ·refine b7 30 (ps:=[((((x3.getD x0.toNat (⟨⟨0,[]⟩,[],0,false⟩)).q).Terms).map aj).length≤9223372036854775807]) (by kernel_rfl) (fun l0 => ?_);have l1:(((x3.getD x0.toNat (⟨⟨0,[]⟩,[],0,false⟩)).q).Terms).length≤9223372036854775807:=by simpa only [bB,Kp] using l0
    clear l0;obtain rfl:=sI H3;exact pB 1 [V2] [.only [0,1,5,6,7,8,30,31,32] [5,7,8,53,1000,1001,1002]] (eN x0 x1 x2 x3 x4 (i0+1) v0) (aH i0 aN)
 ·subst e0;have H7:=bI H2;refine pA 4 [r0 [.v,.w,.v]] [.only [0,1,5,6,7,8,11] [5,7,8,53,1000,1001,1002]] 4 [] (eM x0 x1 x2 x3 x4 u0 ((aD (x0+1)),x3)) aN ?_;refine aP H7 fun R1 h7 H8 => ?_;refine pJ 1 (gQ x0 x1 x2 x3 x4 u0) R1 ?_ (fun u1 e3 => ?_)
  ·refine pV (eM x0 x1 x2 x3 x4 u0) (by kernel_rfl) h7 (fun s1 q1 h8 h9 => ?_)
   ·refine aV h8 (fun c4 H9 => ?_) (fun c5 H10 => ?_)
    ·have c4p:=Km c4;refine aG H9 fun g3 H11 => ?_;refine aG H11 fun g4 H12 => ?_;refine aP H12 fun y0 h10 H13 => ?_;refine pA 12 [r0 (V 5 [.e (nI s1.2.length),.v]),.eqT 64 (.bool true),.rg 10 (V 7 [.rl s1.1.toNat 0 (.agg (ai ((s1.2.getD s1.1.toNat (⟨⟨0,[]⟩,[],0,false⟩)).q))),.v,.v]) [.c true (iI y0),.v],V2] [.only [0,1,5,6,7,8,11,12,79] [5,7,8,53,1000,1001,1002]] 11 [true] ⟨98,[(0,.hptr 1000 0),(1,iI x0),(5,.hptr 5 0),(6,iI 0),(7,.hptr 7 0),(8,.hptr 8 0),(11,iI s1.1),(12,iI y0),(79,.bool (y0 != 0))],[(5,.cells 88 [.str x1.Var,iI x1.C]),(7,.cells 76 [iI (((x3.getD x0.toNat (⟨⟨0,[]⟩,[],0,false⟩)).q).Const),.dslice ((((x3.getD x0.toNat (⟨⟨0,[]⟩,[],0,false⟩)).q).Terms).map aj),.dmap (((x3.getD x0.toNat (⟨⟨0,[]⟩,[],0,false⟩)).mults).map (cR ag)),iI ((x3.getD x0.toNat (⟨⟨0,[]⟩,[],0,false⟩)).scale),.bool ((x3.getD x0.toNat (⟨⟨0,[]⟩,[],0,false⟩)).lost)]),(8,.cells 34 [iI (aD ((aD (0-x1.C))*(((x3.getD x0.toNat (⟨⟨0,[]⟩,[],0,false⟩)).q).Const))),.rslice 53]),(53,.row 88 2 (u0.map aj)),(1000,.cells 73 [.rslice 1001,.rslice 1002,iI x2]),(1001,.row 76 5 (s1.2.map aa)),(1002,.row 41 7 (x4.map al))]⟩ (aT (aC (aJ aa s1.2) (aB c4 (aC (show (0:Int)≤s1.1∧s1.1<((s1.2.map aa).length:Int) from by rw [Kp];exact g3) (aC (gR (f:=aa) (l:=s1.2) (n:=s1.1.toNat) 5 0 2 (by omega) (by decide)) (aC (Ew (f:=aa) (l:=s1.2) (n:=s1.1.toNat) (⟨⟨0,[]⟩,[],0,false⟩) 0 2 (by omega)) (aC Tryz.call46 (aF (gG _ _ _ h10) aN)))))))) ?_;refine aP H13 fun v1 h11 H14 => ?_;refine dQ 1 (eH x0 x1 x2 x3 x4 u0 s1 v1) (by kernel_rfl) ?_ ?_
     ·refine aV h11 (fun c6 H15 => ?_) (fun c7 H16 => ?_)
      ·obtain rfl:=sI H15;exact pB 3 [.eqT 79 (.bool false)] [.only [0,1,5,6,7,8,11] [5,7,8,53,1000,1001,1002]] (eH x0 x1 x2 x3 x4 u0 s1 s1.2) (aM c6 aN)
      ·refine aP H16 fun y1 h12 H17 => ?_;refine cK H17 fun e4 => ?_;subst e4;exact pB 3 [.eqT 79 (.bool true),.rg 11 (V 10 [.w]) [.hM [(1001,1000)] [] (.tup []) [(1000,.row 76 5 (y1.map aa))]]] [.only [0,1,5,6,7,8,11] [5,7,8,53,1000,1001,1002]] (eH x0 x1 x2 x3 x4 u0 s1 y1) (aM c7 (aC (show (0:Int)≤s1.1∧s1.1<((s1.2.map aa).length:Int) from by rw [Kp];exact g3) (aC Tryz.call100 (aC (pd _ _ _ _ _ h12) aN))))
     ·obtain rfl:=sI H14;exact pB 1 [r0 [.v,.w,.v]] [.only [0,1,5,6,7,8,11] [5,7,8,53,1000,1001,1002]] (eM x0 x1 x2 x3 x4 u0 ((aD (s1.1+1)),v1)) aN
    ·obtain rfl:=sI H10;obtain rfl:=iL h9;exact pB 6 [r0 (V 5 [.e (nI s1.2.length),.v]),.eqT 64 (.bool false)] [.only [0,1,5,6,8] [5,8,53,1000,1001,1002]] (gQ x0 x1 x2 x3 x4 u0 s1.2) (aT (aC (aJ aa s1.2) (aB c5 aN)))
  ·subst e3;have H18:=bI H8;refine aP H18 fun y2 h13 H19 => ?_;obtain rfl:=sI H19;exact pR 3 [r0 (V 5 [.fz 53,.hM [(1000,1000),(1001,1001),(1002,1002)] [(0,900)] (iI y2.1) [(0,.row 41 7 (y2.2.2.map al)),(1000,.cells 73 [.rslice 1001,.rslice 0,iI x2]),(1001,.row 76 5 (y2.2.1.map aa))],.v])] [.ren [(900,0),(1000,1000),(1001,1001)]] [0,1000,1001] (aC Tryz.call99 (aC (iP _ _ _ _ _ _ _ h13) aN))
def fS (x0 x1:Int):Option Int :=
 (eL [x0,x1]).bind fun y0 =>
 bif y0 then (
  bif (x1==0) then (
   some 1
  ) else (
   some 0
  )
 ) else (
  some 2
 )
theorem kq (x0 x1 r:Int) (H:fS x0 x1=some r):bW Tryz.prog 127 [iI x0,iI x1] (iI r):=by
 unfold fS at H;refine aX Tryz.func127 14 [.tmp 4] ?_;refine aP H fun y0 h0 H0 => ?_;refine aV H0 (fun c0 H1 => ?_) (fun c1 H2 => ?_)
 ·refine aV H1 (fun c2 H3 => ?_) (fun c3 H4 => ?_)
  ·obtain rfl:=sI H3;exact pR 15 [V1,r0 [.v,.v,.b,.c true (.bool y0),.v,.v],.eqT 5 (.bool false),V3,.eqT 11 (.bool true),V1] [] [] (aC Tryz.call80 (aF (bM _ _ h0) (aT (aM c0 (aB c2 aN)))))
  ·obtain rfl:=sI H4;exact pR 16 [V1,r0 [.v,.v,.b,.c true (.bool y0),.v,.v],.eqT 5 (.bool false),V3,.eqT 11 (.bool false),V1] [] [] (aC Tryz.call80 (aF (bM _ _ h0) (aT (aM c0 (aB c3 aN)))))
 ·obtain rfl:=sI H2;exact pR 11 [V1,r0 [.v,.v,.b,.c true (.bool y0),.v,.v],.eqT 5 (.bool true),V1] [] [] (aC Tryz.call80 (aF (bM _ _ h0) (aT (aM c1 aN))))
def iX (x0 x1:Int):Option (Int×Int) :=
 bH ((x1:Int)≠0) <|
 ((
  bif ((x0.tmod x1)==0) then (
   some (.brk ())
  ) else (
   bif (decide ((x0.tmod x1)<0)==decide (x1<0)) then (
    some (.brk ())
   ) else (
    some (.ret ((aD ((aD (x0.tdiv x1))-1)),(aD ((x0.tmod x1)+x1))))
   )
  )
 ):Option (Out Unit (Int×Int))).bind (aft fun u0 =>
  some ((aD (x0.tdiv x1)),(x0.tmod x1))
 )
def iK (x0 x1:Int) (u0:Unit):AS:=⟨30,[(4,iI 0),(5,iI 0),(6,iI (aD (x0.tdiv x1))),(7,iI (x0.tmod x1))],[]⟩
theorem si (x0 x1:Int) (r:Int×Int) (H:iX x0 x1=some r):bW Tryz.prog 128 [iI x0,iI x1] (.tup [iI r.1,iI r.2]):=by
 unfold iX at H;refine aX Tryz.func128 30 [.tmp 4,.tmp 5] ?_;refine aG H fun g0 H0 => ?_;refine pA 8 [V2,.rg 7 [.v,.v,.w,.v,.v,.v,.v] [.v],V3] [.only [1,4,5,6,7,14] []] 8 [] ⟨30,[(1,iI x1),(4,iI 0),(5,iI 0),(6,iI (aD (x0.tdiv x1))),(7,iI (x0.tmod x1)),(14,.bool ((x0.tmod x1)==0))],[]⟩ (aC (show (x1:Int)≠0 from g0) (aC (show (x1:Int)≠0 from g0) aN)) ?_;refine aP H0 fun v0 h0 H1 => ?_;refine pJ 1 (iK x0 x1) v0 ?_ (fun u0 e0 => ?_)
 ·refine aV h0 (fun c0 H2 => ?_) (fun c1 H3 => ?_)
  ·obtain rfl:=sI H2;exact pB 3 [.eqT 14 (.bool true)] [.only [4,5,6,7] []] (iK x0 x1 ()) (aB c0 aN)
  ·refine aV H3 (fun c2 H4 => ?_) (fun c3 H5 => ?_)
   ·obtain rfl:=sI H4;exact pB 7 [.eqT 14 (.bool false),V6,.eqT 17 (.bool false)] [.only [4,5,6,7] []] (iK x0 x1 ()) (aB c1 (aM c2 aN))
   ·obtain rfl:=sI H5;obtain rfl:=sI (aA H1);exact pR 9 [.eqT 14 (.bool false),V6,.eqT 17 (.bool true),r0 [.v,.w,.v,.v,.w,.v,.v]] [] [] (aB c1 (aM c3 aN))
 ·subst e0;have H6:=bp H1;obtain rfl:=sI H6;exact pR 3 [V4] [] [] aN
def jP (x0 x1:Int):Option (Int×Int) :=
 (fS x0 x1).bind fun y0 =>
 bif (y0==0) then (
  (iX x0 x1).bind fun y1 =>
  some (y1.1,0)
 ) else (
  some (0,y0)
 )
theorem wE (x0 x1:Int) (r:Int×Int) (H:jP x0 x1=some r):bW Tryz.prog 96 [iI x0,iI x1] (.tup [iI r.1,iI r.2]):=by
 unfold jP at H;refine aX Tryz.func96 22 [.tmp 4,.tmp 5] ?_;refine aP H fun y0 h0 H0 => ?_;refine aV H0 (fun c0 H1 => ?_) (fun c1 H2 => ?_)
 ·refine aP H1 fun y1 h1 H3 => ?_;obtain rfl:=sI H3;exact pR 15 [V2,r0 [.v,.v,.c true (iI y0),.v],V2,.eqT 13 (.bool false),r0 [.v,.v,.c true (.tup [iI y1.1,iI y1.2]),.v,.v,.v,.v,.v],V3] [] [] (aC Tryz.call127 (aF (kq _ _ _ h0) (aM c0 (aC Tryz.call128 (aF (si _ _ _ h1) aN)))))
 ·obtain rfl:=sI H2;exact pR 12 [V2,r0 [.v,.v,.c true (iI y0),.v],V2,.eqT 13 (.bool true),V3] [] [] (aC Tryz.call127 (aF (kq _ _ _ h0) (aM c1 aN)))
def bD (x0:Int) (x1:ak):Option Int :=
 (jP x0 x1.C).bind fun y0 =>
 some (aD (0-y0.1))
theorem fR (x0:Int) (x1:ak) (r:Int) (H:bD x0 x1=some r):bW Tryz.prog 95 [iI x0,.dptr [.str x1.Var,iI x1.C]] (iI r):=by unfold bD at H;refine aX Tryz.func95 15 [.tmp 3] ?_;refine aP H fun y0 h0 H0 => ?_;obtain rfl:=sI H0;exact pR 7 [V1,r0 [.v,.v,.v,.c true (.tup [iI y0.1,iI y0.2]),.v,.v,.v,.v,.v],r0 [.v,.w,.v]] [] [] (aC Tryz.call96 (aF (wE _ _ _ h0) aN))
noncomputable def bQ (x0:Int) (x1:ak) (x2:Int) (x3:List ab) (x4:List Bind):Option (Int×Int×(List ab)×(List Bind)) :=
 bH (0≤x0∧x0<(x3.length:Int)) <|
 bH (x0.toNat<x3.length) <|
 (gM x2).bind fun y0 =>
 bH ([95].length+y0.length≤9223372036854775807) <|
 bif decide ((aD (x2+1))≥1000000000) then (
  some (3,(aD (x2+1)),x3,x4)
 ) else (
  (bD (((x3.getD x0.toNat (⟨⟨0,[]⟩,[],0,false⟩)).q).Const) x1).bind fun y1 =>
  (dZ (σ:=(List ak)) (ε:=(List ak)) (ρ:=Empty) (fun i0 s0 =>
   (bD (((((x3.getD x0.toNat (⟨⟨0,[]⟩,[],0,false⟩)).q).Terms).getD i0 ⟨[],0⟩).C) x1).bind fun y2 =>
   ((
    bif ((((((x3.getD x0.toNat (⟨⟨0,[]⟩,[],0,false⟩)).q).Terms).getD i0 ⟨[],0⟩).Var)==x1.Var) then (
     some false
    ) else (
     some (y2 != 0)
    )
   ):Option Bool).bind fun v0 =>
   ((
    bif v0 then (
     bH ((s0.length+1)*24≤140737488355328) <|
     some (s0++[(ak.mk (((((x3.getD x0.toNat (⟨⟨0,[]⟩,[],0,false⟩)).q).Terms).getD i0 ⟨[],0⟩).Var) y2)])
    ) else (
     some s0
    )
   ):Option (List ak)).bind fun v1 =>
   some (.go v1)
  ) (fun i0 s0=>s0) ((((x3.getD x0.toNat (⟨⟨0,[]⟩,[],0,false⟩)).q).Terms).length-0) 0 [(ak.mk ([95]++y0) 1)]).bind <| dG fun u0 =>
  (iB (fun x=>x.Var) u0).bind fun y3 =>
  (bc x1.Var (Linear.mk y1 y3) x0 (aD (x2+1)) x3 x4).bind fun y4 =>
  some (y4.1,(aD (x2+1)),y4.2.1,y4.2.2)
 )
def dH (x0:Int) (x1:ak) (x2:Int) (x3:List ab) (x4:List Bind) (y1:Int) (i0:Nat) (s0:List ak):AS:=⟨93,[(0,.hptr 1000 0),(1,iI x0),(5,.hptr 5 0),(6,iI 0),(9,.hptr 9 0),(10,.fn 95 [.hptr 5 0]),(55,.dslice ((((x3.getD x0.toNat (⟨⟨0,[]⟩,[],0,false⟩)).q).Terms).map aj)),(56,iI (((((x3.getD x0.toNat (⟨⟨0,[]⟩,[],0,false⟩)).q).Terms).length:Nat):Int)),(57,nI i0)],[(5,.cells 88 [.str x1.Var,iI x1.C]),(9,.cells 34 [iI y1,.rslice 52]),(52,.row 88 2 (s0.map aj)),(1000,.cells 73 [.rslice 1001,.rslice 1002,iI (aD (x2+1))]),(1001,.row 76 5 (x3.map aa)),(1002,.row 41 7 (x4.map al))]⟩
def ga (x0:Int) (x1:ak) (x2:Int) (x3:List ab) (x4:List Bind) (y1:Int) (u1:List ak):AS:=⟨93,[(0,.hptr 1000 0),(1,iI x0),(5,.hptr 5 0),(6,iI 0),(9,.hptr 9 0)],[(5,.cells 88 [.str x1.Var,iI x1.C]),(9,.cells 34 [iI y1,.rslice 52]),(52,.row 88 2 (u1.map aj)),(1000,.cells 73 [.rslice 1001,.rslice 1002,iI (aD (x2+1))]),(1001,.row 76 5 (x3.map aa)),(1002,.row 41 7 (x4.map al))]⟩
def dL (x0:Int) (x1:ak) (x2:Int) (x3:List ab) (x4:List Bind) (y1:Int) (i0:Nat) (s0:List ak) (y2:Int) (v0:Bool):AS:=⟨93,[(0,.hptr 1000 0),(1,iI x0),(5,.hptr 5 0),(6,iI 0),(9,.hptr 9 0),(10,.fn 95 [.hptr 5 0]),(12,.hptr 12 0),(13,iI y2),(55,.dslice ((((x3.getD x0.toNat (⟨⟨0,[]⟩,[],0,false⟩)).q).Terms).map aj)),(56,iI (((((x3.getD x0.toNat (⟨⟨0,[]⟩,[],0,false⟩)).q).Terms).length:Nat):Int)),(57,nI i0),(73,.bool v0)],[(5,.cells 88 [.str x1.Var,iI x1.C]),(9,.cells 34 [iI y1,.rslice 52]),(12,.cells 88 [.str (((((x3.getD x0.toNat (⟨⟨0,[]⟩,[],0,false⟩)).q).Terms).getD i0 ⟨[],0⟩).Var),iI (((((x3.getD x0.toNat (⟨⟨0,[]⟩,[],0,false⟩)).q).Terms).getD i0 ⟨[],0⟩).C)]),(52,.row 88 2 (s0.map aj)),(1000,.cells 73 [.rslice 1001,.rslice 1002,iI (aD (x2+1))]),(1001,.row 76 5 (x3.map aa)),(1002,.row 41 7 (x4.map al))]⟩
def dJ (x0:Int) (x1:ak) (x2:Int) (x3:List ab) (x4:List Bind) (y1:Int) (i0:Nat) (v1:List ak):AS:=⟨93,[(0,.hptr 1000 0),(1,iI x0),(5,.hptr 5 0),(6,iI 0),(9,.hptr 9 0),(10,.fn 95 [.hptr 5 0]),(55,.dslice ((((x3.getD x0.toNat (⟨⟨0,[]⟩,[],0,false⟩)).q).Terms).map aj)),(56,iI (((((x3.getD x0.toNat (⟨⟨0,[]⟩,[],0,false⟩)).q).Terms).length:Nat):Int)),(57,nI i0)],[(5,.cells 88 [.str x1.Var,iI x1.C]),(9,.cells 34 [iI y1,.rslice 52]),(52,.row 88 2 (v1.map aj)),(1000,.cells 73 [.rslice 1001,.rslice 1002,iI (aD (x2+1))]),(1001,.row 76 5 (x3.map aa)),(1002,.row 41 7 (x4.map al))]⟩
theorem gu (x0:Int) (x1:ak) (x2:Int) (x3:List ab) (x4:List Bind) (r:Int×Int×(List ab)×(List Bind)) (H:bQ x0 x1 x2 x3 x4=some r):bT Tryz.prog 60 [.hptr 1000 0,iI x0,.agg [.str x1.Var,iI x1.C]] [(1000,.cells 73 [.rslice 1001,.rslice 1002,iI x2]),(1001,.row 76 5 (x3.map aa)),(1002,.row 41 7 (x4.map al))] (fun r2 h0=>r2=(iI r.1)∧h0=[(0,.row 41 7 (r.2.2.2.map al)),(1000,.cells 73 [.rslice 1001,.rslice 0,iI r.2.1]),(1001,.row 76 5 (r.2.2.1.map aa))]):=by
 unfold bQ at H;refine aX Tryz.func60 93 [.tmp 6] ?_;refine aG H fun g0 H0 => ?_;refine aG H0 fun g1 H1 => ?_;refine aP H1 fun y0 h1 H2 => ?_;refine aG H2 fun g2 H3 => ?_;refine pA 11 [r0 [.m,.v],r0 (V 7 [.rl x0.toNat 0 (.agg (ai ((x3.getD x0.toNat (⟨⟨0,[]⟩,[],0,false⟩)).q))),.m,.m]),r0 (V 4 [.c true (.str y0),.v,.v]),r0 (V 4 [.w,.v,.v,.m]),V5] [.only [0,1,5,6,7,8,39] [5,7,1000,1001,1002]] 11 [] ⟨93,[(0,.hptr 1000 0),(1,iI x0),(5,.hptr 5 0),(6,iI 0),(7,.hptr 7 0),(8,.str ([95]++y0)),(39,.bool (decide ((aD (x2+1))≥1000000000)))],[(5,.cells 88 [.str x1.Var,iI x1.C]),(7,.cells 34 (ai ((x3.getD x0.toNat (⟨⟨0,[]⟩,[],0,false⟩)).q))),(1000,.cells 73 [.rslice 1001,.rslice 1002,iI (aD (x2+1))]),(1001,.row 76 5 (x3.map aa)),(1002,.row 41 7 (x4.map al))]⟩ (aC (show (0:Int)≤x0∧x0<((x3.map aa).length:Int) from by rw [Kp];exact g0) (aC (gR (f:=aa) (l:=x3) (n:=x0.toNat) 5 0 2 (by omega) (by decide)) (aC (Ew (f:=aa) (l:=x3) (n:=x0.toNat) (⟨⟨0,[]⟩,[],0,false⟩) 0 2 (by omega)) (aC Tryz.call94 (aF (vY x2 y0 h1) (aC (show [95].length+y0.length≤9223372036854775807 from g2) aN)))))) ?_;refine aV H3 (fun c0 H4 => ?_) (fun c1 H5 => ?_)
 ·obtain rfl:=sI H4;exact pR 5 [.eqT 39 (.bool true),V1] [.ren [(1002,0),(1000,1000),(1001,1001)]] [0,1000,1001] (aB c0 aN)
 ·have c1p:=Kl c1;refine aP H5 fun y1 h2 H6 => ?_;refine pA 15 [.eqT 39 (.bool false),r0 [.b,.m,.m],V2,r0 [.v,.v,.v,.c false (iI y1),.v,.m],r0 [.v,.v,.v,.b,.b,.er 48 52 88 2,.ap,.rwH 52 (.row 88 2 ([(ak.mk ([95]++y0) 1)].map aj)),.v,.m],r0 [.v,.v,.e (iI (((((x3.getD x0.toNat (⟨⟨0,[]⟩,[],0,false⟩)).q).Terms).length:Nat):Int)),.v]] [.only [0,1,5,6,9,10,55,56,57] [5,9,52,1000,1001,1002]] 14 [false] (dH x0 x1 x2 x3 x4 y1 0 [(ak.mk ([95]++y0) 1)]) (aB c1 (aC Tryz.call95 (aF (fR _ _ _ h2) (bF (wD (c:=aj) gO [] [(ak.mk ([95]++y0) 1)] 24 (by decide) (by simp)) (aC (IE 88 2 aj [(ak.mk ([95]++y0) 1)]) (aT (aC (aJ aj (((x3.getD x0.toNat (⟨⟨0,[]⟩,[],0,false⟩)).q).Terms)) aN))))))) ?_;refine aP H6 fun R0 h3 H7 => ?_;refine pJ 1 (ga x0 x1 x2 x3 x4 y1) R0 ?_ (fun u0 e0 => ?_)
  ·refine pC (dH x0 x1 x2 x3 x4 y1) h3 (fun i0 s0 h4 e1 => ?_) (fun i0 s0 h5 q0 h6 h7 => ?_)
   ·have c2:=lF i0 ((((x3.getD x0.toNat (⟨⟨0,[]⟩,[],0,false⟩)).q).Terms).length) (by omega);subst e1;exact pB 5 [r0 [.e (.bool false)]] [.only [0,1,5,6,9] [5,9,52,1000,1001,1002]] (ga x0 x1 x2 x3 x4 y1 s0) (aB c2 aN)
   ·have c3:=lT i0 ((((x3.getD x0.toNat (⟨⟨0,[]⟩,[],0,false⟩)).q).Terms).length) (by omega);refine aP h6 fun y2 h8 H8 => ?_;refine pA 12 [r0 [.e (.bool true)],r0 [.e (.dptr (aj ((((x3.getD x0.toNat (⟨⟨0,[]⟩,[],0,false⟩)).q).Terms).getD i0 ⟨[],0⟩))),.v,.m,.m],r0 [.v,.v,.v,.c false (iI y2),.v]] [.only [0,1,5,6,9,10,12,13,55,56,57] [5,9,12,52,1000,1001,1002]] 12 [true] ⟨93,[(0,.hptr 1000 0),(1,iI x0),(5,.hptr 5 0),(6,iI 0),(9,.hptr 9 0),(10,.fn 95 [.hptr 5 0]),(12,.hptr 12 0),(13,iI y2),(55,.dslice ((((x3.getD x0.toNat (⟨⟨0,[]⟩,[],0,false⟩)).q).Terms).map aj)),(56,iI (((((x3.getD x0.toNat (⟨⟨0,[]⟩,[],0,false⟩)).q).Terms).length:Nat):Int)),(57,nI i0)],[(5,.cells 88 [.str x1.Var,iI x1.C]),(9,.cells 34 [iI y1,.rslice 52]),(12,.cells 88 (aj ((((x3.getD x0.toNat (⟨⟨0,[]⟩,[],0,false⟩)).q).Terms).getD i0 ⟨[],0⟩))),(52,.row 88 2 (s0.map aj)),(1000,.cells 73 [.rslice 1001,.rslice 1002,iI (aD (x2+1))]),(1001,.row 76 5 (x3.map aa)),(1002,.row 41 7 (x4.map al))]⟩ (aB c3 (aI bf ((((x3.getD x0.toNat (⟨⟨0,[]⟩,[],0,false⟩)).q).Terms)) i0 ⟨[],0⟩ (aC Tryz.call95 (aF (fR _ _ _ h8) aN)))) ?_;refine aP H8 fun v0 h9 H9 => ?_;refine dQ 0 (dL x0 x1 x2 x3 x4 y1 i0 s0 y2 v0) (by kernel_rfl) ?_ ?_
    ·refine aV h9 (fun c4 H10 => ?_) (fun c5 H11 => ?_)
     ·obtain rfl:=sI H10;exact pB 1 [r0 (V 4 [.e (.bool false),.v,.s,.s,.v])] [.only [0,1,5,6,9,10,12,13,55,56,57,73] [5,9,12,52,1000,1001,1002]] (dL x0 x1 x2 x3 x4 y1 i0 s0 y2 false) (aM c4 aN)
     ·obtain rfl:=sI H11;exact pB 1 [r0 (V 4 [.e (.bool true),.v,.v,.v,.v])] [.only [0,1,5,6,9,10,12,13,55,56,57,73] [5,9,12,52,1000,1001,1002]] (dL x0 x1 x2 x3 x4 y1 i0 s0 y2 (y2 != 0)) (aM c5 aN)
    ·refine aP H9 fun v1 h10 H12 => ?_;refine dQ 1 (dJ x0 x1 x2 x3 x4 y1 i0 v1) (by kernel_rfl) ?_ ?_
     ·refine aV h10 (fun c6 H13 => ?_) (fun c7 H14 => ?_)
      ·refine aG H13 fun g3 H15 => ?_;obtain rfl:=sI H15;exact pB 3 [.eqT 73 (.bool true),r0 (V 5 [.b,.b,.ap,.rwH 81 (.row 88 2 ((s0++[(ak.mk (((((x3.getD x0.toNat (⟨⟨0,[]⟩,[],0,false⟩)).q).Terms).getD i0 ⟨[],0⟩).Var) y2)]).map aj)),.v,.m])] [.ren [(5,5),(9,9),(81,52),(1000,1000),(1001,1001),(1002,1002)],.only [0,1,5,6,9,10,55,56,57] [5,9,52,1000,1001,1002]] (dJ x0 x1 x2 x3 x4 y1 i0 (s0++[(ak.mk (((((x3.getD x0.toNat (⟨⟨0,[]⟩,[],0,false⟩)).q).Terms).getD i0 ⟨[],0⟩).Var) y2)])) (aB c6 (bF (wD (c:=aj) gO s0 [(ak.mk (((((x3.getD x0.toNat (⟨⟨0,[]⟩,[],0,false⟩)).q).Terms).getD i0 ⟨[],0⟩).Var) y2)] 24 (by decide) (by simpa using g3)) (aC (zO 88 2 aj s0 [(ak.mk (((((x3.getD x0.toNat (⟨⟨0,[]⟩,[],0,false⟩)).q).Terms).getD i0 ⟨[],0⟩).Var) y2)]) aN)))
      ·refine cK H14 fun e2 => ?_;subst e2;exact pB 3 [.eqT 73 (.bool false)] [.only [0,1,5,6,9,10,55,56,57] [5,9,52,1000,1001,1002]] (dJ x0 x1 x2 x3 x4 y1 i0 s0) (aB c7 aN)
     ·refine b7 55 (ps:=[((((x3.getD x0.toNat (⟨⟨0,[]⟩,[],0,false⟩)).q).Terms).map aj).length≤9223372036854775807]) (by kernel_rfl) (fun l0 => ?_);have l1:(((x3.getD x0.toNat (⟨⟨0,[]⟩,[],0,false⟩)).q).Terms).length≤9223372036854775807:=by simpa only [bB,Kp] using l0
      clear l0;obtain rfl:=sI H12;exact pB 1 [V2] [.only [0,1,5,6,9,10,55,56,57] [5,9,52,1000,1001,1002]] (dH x0 x1 x2 x3 x4 y1 (i0+1) v1) (aH i0 aN)
  ·subst e0;have H16:=bI H7;refine aP H16 fun y3 h11 H17 => ?_;refine aP H17 fun y4 h12 H18 => ?_;obtain rfl:=sI H18;exact pR 5 [r0 [.v,.v,.hR [(52,1000)] 86 (.tup []) [(1000,.row 88 2 (y3.map aj))]],r0 (V 5 [.fz 52,.hM [(1000,1000),(1001,1001),(1002,1002)] [(0,900)] (iI y4.1) [(0,.row 41 7 (y4.2.2.map al)),(1000,.cells 73 [.rslice 1001,.rslice 0,iI (aD (x2+1))]),(1001,.row 76 5 (y4.2.1.map aa))],.v])] [.ren [(900,0),(1000,1000),(1001,1001)]] [0,1000,1001] (aC Tryz.call97 (aC (AR aj (fun x=>x.Var) _ (fun _=>rfl) (fun _=>rfl) u0 y3 h11) (aC Tryz.call99 (aC (iP _ _ _ _ _ _ _ h12) aN))))
noncomputable def bg (x0 x1:Int) (x2:List ab) (x3:List Bind):Option ((ah×Int)×Int×(List ab)×(List Bind)) :=
 bH (0≤x0∧x0<(x2.length:Int)) <|
 bH (x0.toNat<x2.length) <|
 (fY (Linear.mk (((x2.getD x0.toNat (⟨⟨0,[]⟩,[],0,false⟩)).q).Const) (((x2.getD x0.toNat (⟨⟨0,[]⟩,[],0,false⟩)).q).Terms))).bind fun y0 =>
 bif (y0==0) then (
  (ep ((x2.getD x0.toNat (⟨⟨0,[]⟩,[],0,false⟩)).scale) y0).bind fun y1 =>
  bif ((x2.getD x0.toNat (⟨⟨0,[]⟩,[],0,false⟩)).lost) then (
   some (((ah.mk [] 0),9),x1,x2,x3)
  ) else (
   (bN y1.1 y1.2).bind fun y2 =>
   bif y2 then (
    bH (8*x2.length≤140737488355328) <|
    lM (σ:=(List Int)) (ε:=Empty) (β:=((ah×Int)×Int×(List ab)×(List Bind))) ((x2.getD x0.toNat (⟨⟨0,[]⟩,[],0,false⟩)).mults) (fun e0 s0 =>
     bH (0≤e0.1∧e0.1<(s0.length:Int)) <|
     bH (e0.1.toNat<s0.length) <|
     (some (s0.set e0.1.toNat e0.2)).bind fun y3 =>
     some (.go y3)
    ) (List.replicate x2.length (0:Int)) (fun s0 =>
     some (((ah.mk s0 y1.1),9),x1,x2,x3)
    )
   ) else (
    some (((ah.mk [] 0),9),x1,x2,x3)
   )
  )
 ) else (
  bH ((y0:Int)≠0) <|
  bif (((((x2.getD x0.toNat (⟨⟨0,[]⟩,[],0,false⟩)).q).Const).tmod y0)==0) then (
   (dZ (σ:=(List ak)) (ε:=(List ak)) (ρ:=Empty) (fun i0 s1 =>
    bH ((s1.length+1)*24≤140737488355328) <|
    some (.go (s1++[(ak.mk (((((x2.getD x0.toNat (⟨⟨0,[]⟩,[],0,false⟩)).q).Terms).getD i0 ⟨[],0⟩).Var) (aD ((((((x2.getD x0.toNat (⟨⟨0,[]⟩,[],0,false⟩)).q).Terms).getD i0 ⟨[],0⟩).C).tdiv y0)))]))
   ) (fun i0 s1=>s1) ((((x2.getD x0.toNat (⟨⟨0,[]⟩,[],0,false⟩)).q).Terms).length-0) 0 []).bind <| dG fun u0 =>
   (ep ((x2.getD x0.toNat (⟨⟨0,[]⟩,[],0,false⟩)).scale) y0).bind fun y4 =>
   (bN y4.1 y4.2).bind fun y5 =>
   bif y5 then (
    (some (x2.set x0.toNat (ab.mk (Linear.mk (aD ((((x2.getD x0.toNat (⟨⟨0,[]⟩,[],0,false⟩)).q).Const).tdiv y0)) u0) ((x2.getD x0.toNat (⟨⟨0,[]⟩,[],0,false⟩)).mults) ((x2.getD x0.toNat (⟨⟨0,[]⟩,[],0,false⟩)).scale) ((x2.getD x0.toNat (⟨⟨0,[]⟩,[],0,false⟩)).lost)))).bind fun y6 =>
    bH (x0.toNat<y6.length) <|
    (some (y6.set x0.toNat (ab.mk (Linear.mk (((y6.getD x0.toNat (⟨⟨0,[]⟩,[],0,false⟩)).q).Const) (((y6.getD x0.toNat (⟨⟨0,[]⟩,[],0,false⟩)).q).Terms)) ((y6.getD x0.toNat (⟨⟨0,[]⟩,[],0,false⟩)).mults) y4.1 ((y6.getD x0.toNat (⟨⟨0,[]⟩,[],0,false⟩)).lost)))).bind fun y7 =>
    (fa (Linear.mk (aD ((((x2.getD x0.toNat (⟨⟨0,[]⟩,[],0,false⟩)).q).Const).tdiv y0)) u0)).bind fun y8 =>
    bif (y8.C==1) then (
     (br x0 y8 x1 y7 x3).bind fun y9 =>
     some (((ah.mk [] 0),y9.1),x1,y9.2.1,y9.2.2)
    ) else (
     bif (y8.C==(-1)) then (
      (br x0 y8 x1 y7 x3).bind fun y10 =>
      some (((ah.mk [] 0),y10.1),x1,y10.2.1,y10.2.2)
     ) else (
      (bQ x0 y8 x1 y7 x3).bind fun y11 =>
      some (((ah.mk [] 0),y11.1),y11.2.1,y11.2.2.1,y11.2.2.2)
     )
    )
   ) else (
    (some (x2.set x0.toNat (ab.mk (Linear.mk (((x2.getD x0.toNat (⟨⟨0,[]⟩,[],0,false⟩)).q).Const) (((x2.getD x0.toNat (⟨⟨0,[]⟩,[],0,false⟩)).q).Terms)) ((x2.getD x0.toNat (⟨⟨0,[]⟩,[],0,false⟩)).mults) ((x2.getD x0.toNat (⟨⟨0,[]⟩,[],0,false⟩)).scale) true))).bind fun y12 =>
    bH (x0.toNat<y12.length) <|
    (some (y12.set x0.toNat (ab.mk (Linear.mk (aD ((((x2.getD x0.toNat (⟨⟨0,[]⟩,[],0,false⟩)).q).Const).tdiv y0)) u0) ((y12.getD x0.toNat (⟨⟨0,[]⟩,[],0,false⟩)).mults) ((y12.getD x0.toNat (⟨⟨0,[]⟩,[],0,false⟩)).scale) ((y12.getD x0.toNat (⟨⟨0,[]⟩,[],0,false⟩)).lost)))).bind fun y13 =>
    bH (x0.toNat<y13.length) <|
    (some (y13.set x0.toNat (ab.mk (Linear.mk (((y13.getD x0.toNat (⟨⟨0,[]⟩,[],0,false⟩)).q).Const) (((y13.getD x0.toNat (⟨⟨0,[]⟩,[],0,false⟩)).q).Terms)) ((y13.getD x0.toNat (⟨⟨0,[]⟩,[],0,false⟩)).mults) 1 ((y13.getD x0.toNat (⟨⟨0,[]⟩,[],0,false⟩)).lost)))).bind fun y14 =>
    (fa (Linear.mk (aD ((((x2.getD x0.toNat (⟨⟨0,[]⟩,[],0,false⟩)).q).Const).tdiv y0)) u0)).bind fun y15 =>
    bif (y15.C==1) then (
     (br x0 y15 x1 y14 x3).bind fun y16 =>
     some (((ah.mk [] 0),y16.1),x1,y16.2.1,y16.2.2)
    ) else (
     bif (y15.C==(-1)) then (
      (br x0 y15 x1 y14 x3).bind fun y17 =>
      some (((ah.mk [] 0),y17.1),x1,y17.2.1,y17.2.2)
     ) else (
      (bQ x0 y15 x1 y14 x3).bind fun y18 =>
      some (((ah.mk [] 0),y18.1),y18.2.1,y18.2.2.1,y18.2.2.2)
     )
    )
   )
  ) else (
   (ep ((x2.getD x0.toNat (⟨⟨0,[]⟩,[],0,false⟩)).scale) y0).bind fun y19 =>
   bif ((x2.getD x0.toNat (⟨⟨0,[]⟩,[],0,false⟩)).lost) then (
    some (((ah.mk [] 0),9),x1,x2,x3)
   ) else (
    (bN y19.1 y19.2).bind fun y20 =>
    bif y20 then (
     bH (8*x2.length≤140737488355328) <|
     lM (σ:=(List Int)) (ε:=Empty) (β:=((ah×Int)×Int×(List ab)×(List Bind))) ((x2.getD x0.toNat (⟨⟨0,[]⟩,[],0,false⟩)).mults) (fun e1 s2 =>
      bH (0≤e1.1∧e1.1<(s2.length:Int)) <|
      bH (e1.1.toNat<s2.length) <|
      (some (s2.set e1.1.toNat e1.2)).bind fun y21 =>
      some (.go y21)
     ) (List.replicate x2.length (0:Int)) (fun s2 =>
      some (((ah.mk s2 y19.1),9),x1,x2,x3)
     )
    ) else (
     some (((ah.mk [] 0),9),x1,x2,x3)
    )
   )
  )
 )
def eJ (x0 x1:Int) (x2:List ab) (x3:List Bind) (y0:Int) (y1:Int×Int) (i1:List Nat) (s0:List Int):AS:=⟨161,[(0,.hptr 1000 0),(1,iI x0),(4,.hptr 4 0),(5,iI 0),(6,.hptr 1001 (x0.toNat*5)),(7,iI y0),(10,.hptr 10 0),(75,.hptr 75 0)],[(4,.cells 28 [.eslice,iI 0]),(10,.cells 28 [.rslice 68,iI y1.1]),(68,.row 3 1 (s0.map ag)),(75,.iter (((x2.getD x0.toNat (⟨⟨0,[]⟩,[],0,false⟩)).mults).map (cR ag)) i1),(1000,.cells 73 [.rslice 1001,.rslice 1002,iI x1]),(1001,.row 76 5 (x2.map aa)),(1002,.row 41 7 (x3.map al))]⟩
def eK (x0 x1:Int) (x2:List ab) (x3:List Bind) (y0:Int) (i0:Nat) (s1:List ak):AS:=⟨161,[(0,.hptr 1000 0),(1,iI x0),(4,.hptr 4 0),(5,iI 0),(6,.hptr 1001 (x0.toNat*5)),(7,iI y0),(13,.hptr 13 0),(99,.dslice ((((x2.getD x0.toNat (⟨⟨0,[]⟩,[],0,false⟩)).q).Terms).map aj)),(100,iI (((((x2.getD x0.toNat (⟨⟨0,[]⟩,[],0,false⟩)).q).Terms).length:Nat):Int)),(101,nI i0)],[(4,.cells 28 [.eslice,iI 0]),(13,.cells 34 [iI (aD ((((x2.getD x0.toNat (⟨⟨0,[]⟩,[],0,false⟩)).q).Const).tdiv y0)),.rslice 115]),(115,.row 88 2 (s1.map aj)),(1000,.cells 73 [.rslice 1001,.rslice 1002,iI x1]),(1001,.row 76 5 (x2.map aa)),(1002,.row 41 7 (x3.map al))]⟩
def gL (x0 x1:Int) (x2:List ab) (x3:List Bind) (y0:Int) (u1:List ak):AS:=⟨161,[(0,.hptr 1000 0),(1,iI x0),(4,.hptr 4 0),(5,iI 0),(6,.hptr 1001 (x0.toNat*5)),(7,iI y0),(13,.hptr 13 0)],[(4,.cells 28 [.eslice,iI 0]),(13,.cells 34 [iI (aD ((((x2.getD x0.toNat (⟨⟨0,[]⟩,[],0,false⟩)).q).Const).tdiv y0)),.rslice 115]),(115,.row 88 2 (u1.map aj)),(1000,.cells 73 [.rslice 1001,.rslice 1002,iI x1]),(1001,.row 76 5 (x2.map aa)),(1002,.row 41 7 (x3.map al))]⟩
def eI (x0 x1:Int) (x2:List ab) (x3:List Bind) (y0:Int) (y19:Int×Int) (i2:List Nat) (s2:List Int):AS:=⟨161,[(0,.hptr 1000 0),(1,iI x0),(4,.hptr 4 0),(5,iI 0),(6,.hptr 1001 (x0.toNat*5)),(7,iI y0),(10,.hptr 10 0),(75,.hptr 75 0)],[(4,.cells 28 [.eslice,iI 0]),(10,.cells 28 [.rslice 68,iI y19.1]),(68,.row 3 1 (s2.map ag)),(75,.iter (((x2.getD x0.toNat (⟨⟨0,[]⟩,[],0,false⟩)).mults).map (cR ag)) i2),(1000,.cells 73 [.rslice 1001,.rslice 1002,iI x1]),(1001,.row 76 5 (x2.map aa)),(1002,.row 41 7 (x3.map al))]⟩
theorem nr (x0 x1:Int) (x2:List ab) (x3:List Bind) (r:(ah×Int)×Int×(List ab)×(List Bind)) (H:bg x0 x1 x2 x3=some r):bT Tryz.prog 30 [.hptr 1000 0,iI x0] [(1000,.cells 73 [.rslice 1001,.rslice 1002,iI x1]),(1001,.row 76 5 (x2.map aa)),(1002,.row 41 7 (x3.map al))] (fun r2 h0=>r2=(.tup [.agg [dS ag r.1.1.Mults,iI r.1.1.Mod],iI r.1.2])∧h0=[(0,.row 41 7 (r.2.2.2.map al)),(1000,.cells 73 [.rslice 1001,.rslice 0,iI r.2.1]),(1001,.row 76 5 (r.2.2.1.map aa))]):=by
 unfold bg at H;refine aX Tryz.func30 161 [.cell 4 28,.tmp 5] ?_;refine aG H fun g0 H0 => ?_;refine aG H0 fun g1 H1 => ?_;refine aP H1 fun y0 h1 H2 => ?_;refine pA 8 [r0 [.m,.v],r0 (V 7 []),r0 [.v,.v,.v,.rl x0.toNat 0 (.agg (ai ((x2.getD x0.toNat (⟨⟨0,[]⟩,[],0,false⟩)).q))),.c true (iI y0),.v]] [.only [0,1,4,5,6,7] [4,1000,1001,1002]] 8 [] ⟨161,[(0,.hptr 1000 0),(1,iI x0),(4,.hptr 4 0),(5,iI 0),(6,.hptr 1001 (x0.toNat*5)),(7,iI y0)],[(4,.cells 28 [.eslice,iI 0]),(1000,.cells 73 [.rslice 1001,.rslice 1002,iI x1]),(1001,.row 76 5 (x2.map aa)),(1002,.row 41 7 (x3.map al))]⟩ (aC (show (0:Int)≤x0∧x0<((x2.map aa).length:Int) from by rw [Kp];exact g0) (aC (gR (f:=aa) (l:=x2) (n:=x0.toNat) 5 0 2 (by omega) (by decide)) (aC (Ew (f:=aa) (l:=x2) (n:=x0.toNat) (⟨⟨0,[]⟩,[],0,false⟩) 0 2 (by omega)) (aC Tryz.call57 (aF (sJ _ _ h1) aN))))) ?_;refine aV H2 (fun c0 H3 => ?_) (fun c1 H4 => ?_)
 ·refine aP H3 fun y1 h2 H5 => ?_;refine pA 6 [r0 [.v,.e (.bool true),.v,.s,.s,.s,.s,.s,.s,.s,.s,.v],r0 [.v,.v,.v,.rl x0.toNat 3 (iI ((x2.getD x0.toNat (⟨⟨0,[]⟩,[],0,false⟩)).scale)),.v,.c true (.tup [iI y1.1,iI y1.2]),.v,.v,.v,.v,.v]] [.only [0,1,4,5,6,7,8,9] [4,1000,1001,1002]] 6 [true] ⟨161,[(0,.hptr 1000 0),(1,iI x0),(4,.hptr 4 0),(5,iI 0),(6,.hptr 1001 (x0.toNat*5)),(7,iI y0),(8,iI y1.1),(9,iI y1.2)],[(4,.cells 28 [.eslice,iI 0]),(1000,.cells 73 [.rslice 1001,.rslice 1002,iI x1]),(1001,.row 76 5 (x2.map aa)),(1002,.row 41 7 (x3.map al))]⟩ (aB c0 (aC (gR (f:=aa) (l:=x2) (n:=x0.toNat) 5 3 1 (by omega) (by decide)) (aC (sZ (f:=aa) (l:=x2) (n:=x0.toNat) (⟨⟨0,[]⟩,[],0,false⟩) 3 (by omega)) (aC Tryz.call58 (aF (gP _ _ _ h2) aN))))) ?_;refine aV H5 (fun c2 H6 => ?_) (fun c3 H7 => ?_)
  ·obtain rfl:=sI H6;exact pR 5 [r0 [.v,.v,.v,.rl x0.toNat 4 (.bool ((x2.getD x0.toNat (⟨⟨0,[]⟩,[],0,false⟩)).lost)),.e (.bool true),.s,.s,.s,.s,.v],r0 [.b,.m,.v]] [.wkH 4 0 [],.ren [(1002,0),(4,4),(1000,1000),(1001,1001)]] [0,1000,1001] (aC (gR (f:=aa) (l:=x2) (n:=x0.toNat) 5 4 1 (by omega) (by decide)) (aC (sZ (f:=aa) (l:=x2) (n:=x0.toNat) (⟨⟨0,[]⟩,[],0,false⟩) 4 (by omega)) (aB c2 aN)))
  ·refine aP H7 fun y2 h3 H8 => ?_;refine pA 1 [r0 [.v,.v,.v,.rl x0.toNat 4 (.bool ((x2.getD x0.toNat (⟨⟨0,[]⟩,[],0,false⟩)).lost)),.e (.bool false),.v,.v,.c true (.bool y2),.v,.v]] [.only [0,1,4,5,6,7,8,61] [4,1000,1001,1002]] 1 [] ⟨161,[(0,.hptr 1000 0),(1,iI x0),(4,.hptr 4 0),(5,iI 0),(6,.hptr 1001 (x0.toNat*5)),(7,iI y0),(8,iI y1.1),(61,.bool (!y2))],[(4,.cells 28 [.eslice,iI 0]),(1000,.cells 73 [.rslice 1001,.rslice 1002,iI x1]),(1001,.row 76 5 (x2.map aa)),(1002,.row 41 7 (x3.map al))]⟩ (aC (gR (f:=aa) (l:=x2) (n:=x0.toNat) 5 4 1 (by omega) (by decide)) (aC (sZ (f:=aa) (l:=x2) (n:=x0.toNat) (⟨⟨0,[]⟩,[],0,false⟩) 4 (by omega)) (aB c3 (aC Tryz.call45 (aF (cQ _ _ _ h3) (aT aN)))))) ?_;refine aV H8 (fun c4 H9 => ?_) (fun c5 H10 => ?_)
   ·refine aG H9 fun g2 H11 => ?_;refine pA 9 [.eqT 61 (.bool false),r0 (V 4 [.e (nI x2.length),.mk x2.length,.rwH 68 (.row 3 1 ((List.replicate x2.length (0:Int)).map ag)),.v,.b,.m,.m]),r0 [.v,.v,.v,.rl x0.toNat 2 (.dmap (((x2.getD x0.toNat (⟨⟨0,[]⟩,[],0,false⟩)).mults).map (cR ag))),.m]] [.only [0,1,4,5,6,7,10,75] [4,10,68,75,1000,1001,1002]] 8 [false] (eJ x0 x1 x2 x3 y0 y1 [] (List.replicate x2.length (0:Int))) (aM c4 (aT (aC (aJ aa x2) (aC (show ((x2.length:Nat):Int)=((x2.length:Nat):Int)∧((x2.length:Nat):Int)=((x2.length:Nat):Int)∧8*x2.length≤140737488355328∧x2.length≤9223372036854775807 from ⟨rfl,rfl,by omega,by omega⟩) (aC (v7 (z:=yV Tryz.prog 3) ag (0:Int) x2.length 3 1 (by kernel_rfl)) (aC (gR (f:=aa) (l:=x2) (n:=x0.toNat) 5 2 1 (by omega) (by decide)) (aC (sZ (f:=aa) (l:=x2) (n:=x0.toNat) (⟨⟨0,[]⟩,[],0,false⟩) 2 (by omega)) aN))))))) ?_;refine pF (cc:=ag) 75 (eJ x0 x1 x2 x3 y0 y1) (by kernel_rfl) H11 [.v] (fun i1 s0=>⟨by kernel_rfl,by kernel_rfl⟩) (fun i1 s0=>⟨161,[(0,.hptr 1000 0),(1,iI x0),(4,.hptr 4 0),(5,iI 0),(6,.hptr 1001 (x0.toNat*5)),(7,iI y0),(10,.hptr 10 0),(75,.hptr 75 0),(76,.tup [.bool false]),(77,.bool false)],[(4,.cells 28 [.eslice,iI 0]),(10,.cells 28 [.rslice 68,iI y1.1]),(68,.row 3 1 (s0.map ag)),(75,.iter (((x2.getD x0.toNat (⟨⟨0,[]⟩,[],0,false⟩)).mults).map (cR ag)) i1),(1000,.cells 73 [.rslice 1001,.rslice 1002,iI x1]),(1001,.row 76 5 (x2.map aa)),(1002,.row 41 7 (x3.map al))]⟩) (fun i1 s0=>by kernel_rfl) (fun i1 s0 n0 e0=>⟨161,[(0,.hptr 1000 0),(1,iI x0),(4,.hptr 4 0),(5,iI 0),(6,.hptr 1001 (x0.toNat*5)),(7,iI y0),(10,.hptr 10 0),(75,.hptr 75 0),(76,.tup [.bool true,iI e0.1,iI e0.2]),(77,.bool true)],[(4,.cells 28 [.eslice,iI 0]),(10,.cells 28 [.rslice 68,iI y1.1]),(68,.row 3 1 (s0.map ag)),(75,.iter (((x2.getD x0.toNat (⟨⟨0,[]⟩,[],0,false⟩)).mults).map (cR ag)) (i1++[n0])),(1000,.cells 73 [.rslice 1001,.rslice 1002,iI x1]),(1001,.row 76 5 (x2.map aa)),(1002,.row 41 7 (x3.map al))]⟩) (fun i1 s0 n0 e0=>by kernel_rfl) (fun i1 s0 H12 => ?_) (fun i1 s0 n0 e0 h4 q0 h5 h6 => ?_)
    ·obtain rfl:=sI H12;exact pR 6 [r0 [.v,.m,.v]] [.fz 68,.ren [(1002,0),(4,4),(1000,1000),(1001,1001)]] [0,1000,1001] aN
    ·refine aG h5 fun g3 H13 => ?_;refine aG H13 fun g4 H14 => ?_;refine aP H14 fun y3 h7 H15 => ?_;obtain rfl:=sI H15;exact pB 7 [r0 [.en n0 (.tup [iI e0.1,iI e0.2]),.v,.v,.v,.v],r0 (V 5 [.rs e0.1.toNat 0,.rwH 68 (.row 3 1 (y3.map ag))])] [.only [0,1,4,5,6,7,10,75] [4,10,68,75,1000,1001,1002]] (eJ x0 x1 x2 x3 y0 y1 (i1++[n0]) y3) (aC (jt i1 n0) (aC (tX (cc:=ag) h4) (aC (show (0:Int)≤e0.1∧e0.1<((s0.map ag).length:Int) from by rw [Kp];exact g3) (aC (gR (f:=ag) (l:=s0) (n:=e0.1.toNat) 1 0 1 (by omega) (by decide)) (aC ((r7 (f:=ag) 3 1 s0 e0.1.toNat 0 e0.2 0 [iI e0.2] (by omega) rfl).trans (congrArg (fun l=>AO.row 3 1 (l.map ag)) (Kt h7))) aN)))))
   ·obtain rfl:=sI H10;exact pR 5 [.eqT 61 (.bool true),r0 [.b,.m,.v]] [.wkH 4 0 [],.ren [(1002,0),(4,4),(1000,1000),(1001,1001)]] [0,1000,1001] (aM c5 aN)
 ·refine aG H4 fun g5 H16 => ?_;refine pA 1 [r0 [.v,.e (.bool false),.v,.v,.v,.v,.v,.rl x0.toNat 0 (iI (((x2.getD x0.toNat (⟨⟨0,[]⟩,[],0,false⟩)).q).Const)),.v,.v,.v,.v]] [.only [0,1,4,5,6,7,42] [4,1000,1001,1002]] 1 [] ⟨161,[(0,.hptr 1000 0),(1,iI x0),(4,.hptr 4 0),(5,iI 0),(6,.hptr 1001 (x0.toNat*5)),(7,iI y0),(42,.bool (((((x2.getD x0.toNat (⟨⟨0,[]⟩,[],0,false⟩)).q).Const).tmod y0) != 0))],[(4,.cells 28 [.eslice,iI 0]),(1000,.cells 73 [.rslice 1001,.rslice 1002,iI x1]),(1001,.row 76 5 (x2.map aa)),(1002,.row 41 7 (x3.map al))]⟩ (aB c1 (aC (gR (f:=aa) (l:=x2) (n:=x0.toNat) 5 0 1 (by omega) (by decide)) (aC (sZ (f:=aa) (l:=x2) (n:=x0.toNat) (⟨⟨0,[]⟩,[],0,false⟩) 0 (by omega)) (aC (show (y0:Int)≠0 from g5) aN)))) ?_;refine aV H16 (fun c6 H17 => ?_) (fun c7 H18 => ?_)
  ·refine pA 9 [.eqT 42 (.bool false),.rg 0 [] (V 4 [.rl x0.toNat 0 (.int .i64 (((x2.getD x0.toNat (⟨⟨0,[]⟩,[],0,false⟩)).q).Const)),.v,.w,.b,.m,.m]),.rg 0 [] (V 4 [.rl x0.toNat 1 (.dslice ((((x2.getD x0.toNat (⟨⟨0,[]⟩,[],0,false⟩)).q).Terms).map aj)),.e (.int .i64 (((((x2.getD x0.toNat (⟨⟨0,[]⟩,[],0,false⟩)).q).Terms).length:Nat):Int)),.v])] [.erH 13 1 115 88 2,.only [0,1,4,5,6,7,13,99,100,101] [4,13,115,1000,1001,1002]] 8 [false] (eK x0 x1 x2 x3 y0 0 []) (aM c6 (aC (gR (f:=aa) (l:=x2) (n:=x0.toNat) 5 0 1 (by omega) (by decide)) (aC (sZ (f:=aa) (l:=x2) (n:=x0.toNat) (⟨⟨0,[]⟩,[],0,false⟩) 0 (by omega)) (aC (show (y0:Int)≠0 from g5) (aC (gR (f:=aa) (l:=x2) (n:=x0.toNat) 5 1 1 (by omega) (by decide)) (aC (sZ (f:=aa) (l:=x2) (n:=x0.toNat) (⟨⟨0,[]⟩,[],0,false⟩) 1 (by omega)) (aT (aC (aJ aj (((x2.getD x0.toNat (⟨⟨0,[]⟩,[],0,false⟩)).q).Terms)) aN)))))))) ?_;refine aP H17 fun R0 h8 H19 => ?_;refine pJ 1 (gL x0 x1 x2 x3 y0) R0 ?_ (fun u0 e2 => ?_)
   ·refine pC (eK x0 x1 x2 x3 y0) h8 (fun i0 s1 h9 e3 => ?_) (fun i0 s1 h10 q1 h11 h12 => ?_)
    ·have c8:=lF i0 ((((x2.getD x0.toNat (⟨⟨0,[]⟩,[],0,false⟩)).q).Terms).length) (by omega);subst e3;exact pB 5 [r0 [.e (.bool false)]] [.only [0,1,4,5,6,7,13] [4,13,115,1000,1001,1002]] (gL x0 x1 x2 x3 y0 s1) (aB c8 aN)
    ·have c9:=lT i0 ((((x2.getD x0.toNat (⟨⟨0,[]⟩,[],0,false⟩)).q).Terms).length) (by omega);refine aG h11 fun g6 H20 => ?_;refine b7 99 (ps:=[((((x2.getD x0.toNat (⟨⟨0,[]⟩,[],0,false⟩)).q).Terms).map aj).length≤9223372036854775807]) (by kernel_rfl) (fun l0 => ?_);have l1:(((x2.getD x0.toNat (⟨⟨0,[]⟩,[],0,false⟩)).q).Terms).length≤9223372036854775807:=by simpa only [bB,Kp] using l0
     clear l0;obtain rfl:=sI H20;exact pB 11 [r0 [.e (.bool true)],r0 [.e (.dptr (aj ((((x2.getD x0.toNat (⟨⟨0,[]⟩,[],0,false⟩)).q).Terms).getD i0 ⟨[],0⟩))),.v,.m,.m],.rg 10 (V 7 [.w,.b,.b]) [.ap,.rwH 115 (.row 88 2 ((s1++[(ak.mk (((((x2.getD x0.toNat (⟨⟨0,[]⟩,[],0,false⟩)).q).Terms).getD i0 ⟨[],0⟩).Var) (aD ((((((x2.getD x0.toNat (⟨⟨0,[]⟩,[],0,false⟩)).q).Terms).getD i0 ⟨[],0⟩).C).tdiv y0)))]).map aj)),.v,.m],V2] [.only [0,1,4,5,6,7,13,99,100,101] [4,13,115,1000,1001,1002]] (eK x0 x1 x2 x3 y0 (i0+1) (s1++[(ak.mk (((((x2.getD x0.toNat (⟨⟨0,[]⟩,[],0,false⟩)).q).Terms).getD i0 ⟨[],0⟩).Var) (aD ((((((x2.getD x0.toNat (⟨⟨0,[]⟩,[],0,false⟩)).q).Terms).getD i0 ⟨[],0⟩).C).tdiv y0)))])) (aB c9 (aI bf ((((x2.getD x0.toNat (⟨⟨0,[]⟩,[],0,false⟩)).q).Terms)) i0 ⟨[],0⟩ (aC (show (y0:Int)≠0 from g5) (bF (wD (c:=aj) gO s1 [(ak.mk (((((x2.getD x0.toNat (⟨⟨0,[]⟩,[],0,false⟩)).q).Terms).getD i0 ⟨[],0⟩).Var) (aD ((((((x2.getD x0.toNat (⟨⟨0,[]⟩,[],0,false⟩)).q).Terms).getD i0 ⟨[],0⟩).C).tdiv y0)))] 24 (by decide) (by simpa using g6)) (aC (zO 88 2 aj s1 [(ak.mk (((((x2.getD x0.toNat (⟨⟨0,[]⟩,[],0,false⟩)).q).Terms).getD i0 ⟨[],0⟩).Var) (aD ((((((x2.getD x0.toNat (⟨⟨0,[]⟩,[],0,false⟩)).q).Terms).getD i0 ⟨[],0⟩).C).tdiv y0)))]) (aH i0 aN))))))
   ·subst e2;have H21:=bI H19;refine aP H21 fun y4 h13 H22 => ?_;refine aP H22 fun y5 h14 H23 => ?_;refine pA 5 [r0 [.v,.v,.v,.rl x0.toNat 3 (iI ((x2.getD x0.toNat (⟨⟨0,[]⟩,[],0,false⟩)).scale)),.v,.c true (.tup [iI y4.1,iI y4.2]),.v,.v,.v,.v,.v],r0 [.v,.v,.c true (.bool y5),.v]] [.only [0,1,4,5,6,13,16,130] [4,13,115,1000,1001,1002]] 5 [] ⟨161,[(0,.hptr 1000 0),(1,iI x0),(4,.hptr 4 0),(5,iI 0),(6,.hptr 1001 (x0.toNat*5)),(13,.hptr 13 0),(16,iI y4.1),(130,.bool (!y5))],[(4,.cells 28 [.eslice,iI 0]),(13,.cells 34 [iI (aD ((((x2.getD x0.toNat (⟨⟨0,[]⟩,[],0,false⟩)).q).Const).tdiv y0)),.rslice 115]),(115,.row 88 2 (u0.map aj)),(1000,.cells 73 [.rslice 1001,.rslice 1002,iI x1]),(1001,.row 76 5 (x2.map aa)),(1002,.row 41 7 (x3.map al))]⟩ (aC (gR (f:=aa) (l:=x2) (n:=x0.toNat) 5 3 1 (by omega) (by decide)) (aC (sZ (f:=aa) (l:=x2) (n:=x0.toNat) (⟨⟨0,[]⟩,[],0,false⟩) 3 (by omega)) (aC Tryz.call58 (aF (gP _ _ _ h13) (aC Tryz.call45 (aF (cQ _ _ _ h14) (aT aN))))))) ?_;refine aV H23 (fun c10 H24 => ?_) (fun c11 H25 => ?_)
    ·refine aP H24 fun y6 h15 H26 => ?_;refine aG H26 fun g7 H27 => ?_;refine aP H27 fun y7 h16 H28 => ?_;refine aP H28 fun y8 h17 H29 => ?_;refine pA 11 [.eqT 130 (.bool false),r0 (V 6 [.fz 115,.rs x0.toNat 0,.rwH 1001 (.row 76 5 (y6.map aa)),.v,.v,.rs x0.toNat 3,.rwH 1001 (.row 76 5 (y7.map aa))]),r0 [.v,.c true (.agg [.str y8.Var,iI y8.C]),.m,.m],V3] [.only [0,1,4,5,18,19] [4,18,1000,1001,1002]] 10 [false] ⟨161,[(0,.hptr 1000 0),(1,iI x0),(4,.hptr 4 0),(5,iI 0),(18,.hptr 18 0),(19,.bm 60 1000 0)],[(4,.cells 28 [.eslice,iI 0]),(18,.cells 88 [.str y8.Var,iI y8.C]),(1000,.cells 73 [.rslice 1001,.rslice 1002,iI x1]),(1001,.row 76 5 (y7.map aa)),(1002,.row 41 7 (x3.map al))]⟩ (aM c10 (aC (gR (f:=aa) (l:=x2) (n:=x0.toNat) 5 0 2 (by omega) (by decide)) (aC ((r7 (f:=aa) 76 5 x2 x0.toNat (⟨⟨0,[]⟩,[],0,false⟩) (ab.mk (Linear.mk (aD ((((x2.getD x0.toNat (⟨⟨0,[]⟩,[],0,false⟩)).q).Const).tdiv y0)) u0) ((x2.getD x0.toNat (⟨⟨0,[]⟩,[],0,false⟩)).mults) ((x2.getD x0.toNat (⟨⟨0,[]⟩,[],0,false⟩)).scale) ((x2.getD x0.toNat (⟨⟨0,[]⟩,[],0,false⟩)).lost)) 0 [iI (aD ((((x2.getD x0.toNat (⟨⟨0,[]⟩,[],0,false⟩)).q).Const).tdiv y0)),dS aj u0] (by omega) rfl).trans (congrArg (fun l=>AO.row 76 5 (l.map aa)) (Kt h15))) (aC (gR (f:=aa) (l:=y6) (n:=x0.toNat) 5 3 1 (by omega) (by decide)) (aC ((r7 (f:=aa) 76 5 y6 x0.toNat (⟨⟨0,[]⟩,[],0,false⟩) (ab.mk (Linear.mk (((y6.getD x0.toNat (⟨⟨0,[]⟩,[],0,false⟩)).q).Const) (((y6.getD x0.toNat (⟨⟨0,[]⟩,[],0,false⟩)).q).Terms)) ((y6.getD x0.toNat (⟨⟨0,[]⟩,[],0,false⟩)).mults) y4.1 ((y6.getD x0.toNat (⟨⟨0,[]⟩,[],0,false⟩)).lost)) 3 [iI y4.1] (by omega) rfl).trans (congrArg (fun l=>AO.row 76 5 (l.map aa)) (Kt h16))) (aC Tryz.call59 (aF (mZ _ _ h17) aN))))))) ?_;refine aV H29 (fun c12 H30 => ?_) (fun c13 H31 => ?_)
     ·refine aP H30 fun y9 h18 H32 => ?_;obtain rfl:=sI H32;exact pR 6 [r0 [.v,.v,.e (.bool true),.v,.s,.s,.s,.v],V3,r0 [.b,.v,.v,.v,.hM [(1000,1000),(1001,1001),(1002,1002)] [(0,900)] (iI y9.1) [(0,.row 41 7 (y9.2.2.map al)),(1000,.cells 73 [.rslice 1001,.rslice 0,iI x1]),(1001,.row 76 5 (y9.2.1.map aa))],.m,.v]] [.wkH 4 0 [],.ren [(900,0),(4,4),(1000,1000),(1001,1001)]] [0,1000,1001] (aB c12 (aC Tryz.call61 (aC (di _ _ _ _ _ _ h18) aN)))
     ·refine aV H31 (fun c14 H33 => ?_) (fun c15 H34 => ?_)
      ·refine aP H33 fun y10 h19 H35 => ?_;obtain rfl:=sI H35;exact pR 7 [r0 [.v,.v,.e (.bool false),.v,.v,.v,.v,.v],.eqT 153 (.bool true),V3,r0 [.b,.v,.v,.v,.hM [(1000,1000),(1001,1001),(1002,1002)] [(0,900)] (iI y10.1) [(0,.row 41 7 (y10.2.2.map al)),(1000,.cells 73 [.rslice 1001,.rslice 0,iI x1]),(1001,.row 76 5 (y10.2.1.map aa))],.m,.v]] [.wkH 4 0 [],.ren [(900,0),(4,4),(1000,1000),(1001,1001)]] [0,1000,1001] (aB c13 (aB c14 (aC Tryz.call61 (aC (di _ _ _ _ _ _ h19) aN))))
      ·refine aP H34 fun y11 h20 H36 => ?_;obtain rfl:=sI H36;exact pR 7 [r0 [.v,.v,.e (.bool false),.v,.v,.v,.v,.v],.eqT 153 (.bool false),r0 [.b,.v,.v,.v,.hM [(1000,1000),(1001,1001),(1002,1002)] [(0,900)] (iI y11.1) [(0,.row 41 7 (y11.2.2.2.map al)),(1000,.cells 73 [.rslice 1001,.rslice 0,iI y11.2.1]),(1001,.row 76 5 (y11.2.2.1.map aa))],.m,.v]] [.wkH 4 0 [],.ren [(900,0),(4,4),(1000,1000),(1001,1001)]] [0,1000,1001] (aB c13 (aB c15 (aC Tryz.call60 (aC (gu _ _ _ _ _ _ h20) aN))))
    ·refine aP H25 fun y12 h21 H37 => ?_;refine aG H37 fun g8 H38 => ?_;refine aP H38 fun y13 h22 H39 => ?_;refine aG H39 fun g9 H40 => ?_;refine aP H40 fun y14 h23 H41 => ?_;refine aP H41 fun y15 h24 H42 => ?_;refine pA 13 [.eqT 130 (.bool true),r0 [.v,.v,.v,.rs x0.toNat 4,.rwH 1001 (.row 76 5 (y12.map aa))],V1,r0 (V 6 [.fz 115,.rs x0.toNat 0,.rwH 1001 (.row 76 5 (y13.map aa)),.v,.v,.rs x0.toNat 3,.rwH 1001 (.row 76 5 (y14.map aa))]),r0 [.v,.c true (.agg [.str y15.Var,iI y15.C]),.m,.m],V3] [.only [0,1,4,5,18,19] [4,18,1000,1001,1002]] 12 [true] ⟨161,[(0,.hptr 1000 0),(1,iI x0),(4,.hptr 4 0),(5,iI 0),(18,.hptr 18 0),(19,.bm 60 1000 0)],[(4,.cells 28 [.eslice,iI 0]),(18,.cells 88 [.str y15.Var,iI y15.C]),(1000,.cells 73 [.rslice 1001,.rslice 1002,iI x1]),(1001,.row 76 5 (y14.map aa)),(1002,.row 41 7 (x3.map al))]⟩ (aM c11 (aC (gR (f:=aa) (l:=x2) (n:=x0.toNat) 5 4 1 (by omega) (by decide)) (aC ((r7 (f:=aa) 76 5 x2 x0.toNat (⟨⟨0,[]⟩,[],0,false⟩) (ab.mk (Linear.mk (((x2.getD x0.toNat (⟨⟨0,[]⟩,[],0,false⟩)).q).Const) (((x2.getD x0.toNat (⟨⟨0,[]⟩,[],0,false⟩)).q).Terms)) ((x2.getD x0.toNat (⟨⟨0,[]⟩,[],0,false⟩)).mults) ((x2.getD x0.toNat (⟨⟨0,[]⟩,[],0,false⟩)).scale) true) 4 [.bool true] (by omega) rfl).trans (congrArg (fun l=>AO.row 76 5 (l.map aa)) (Kt h21))) (aC (gR (f:=aa) (l:=y12) (n:=x0.toNat) 5 0 2 (by omega) (by decide)) (aC ((r7 (f:=aa) 76 5 y12 x0.toNat (⟨⟨0,[]⟩,[],0,false⟩) (ab.mk (Linear.mk (aD ((((x2.getD x0.toNat (⟨⟨0,[]⟩,[],0,false⟩)).q).Const).tdiv y0)) u0) ((y12.getD x0.toNat (⟨⟨0,[]⟩,[],0,false⟩)).mults) ((y12.getD x0.toNat (⟨⟨0,[]⟩,[],0,false⟩)).scale) ((y12.getD x0.toNat (⟨⟨0,[]⟩,[],0,false⟩)).lost)) 0 [iI (aD ((((x2.getD x0.toNat (⟨⟨0,[]⟩,[],0,false⟩)).q).Const).tdiv y0)),dS aj u0] (by omega) rfl).trans (congrArg (fun l=>AO.row 76 5 (l.map aa)) (Kt h22))) (aC (gR (f:=aa) (l:=y13) (n:=x0.toNat) 5 3 1 (by omega) (by decide)) (aC ((r7 (f:=aa) 76 5 y13 x0.toNat (⟨⟨0,[]⟩,[],0,false⟩) (ab.mk (Linear.mk (((y13.getD x0.toNat (⟨⟨0,[]⟩,[],0,false⟩)).q).Const) (((y13.getD x0.toNat (⟨⟨0,[]⟩,[],0,false⟩)).q).Terms)) ((y13.getD x0.toNat (⟨⟨0,[]⟩,[],0,false⟩)).mults) 1 ((y13.getD x0.toNat (⟨⟨0,[]⟩,[],0,false⟩)).lost)) 3 [iI 1] (by omega) rfl).trans (congrArg (fun l=>AO.row 76 5 (l.map aa)) (Kt h23))) (aC Tryz.call59 (aF (mZ _ _ h24) aN))))))))) ?_;refine aV H42 (fun c16 H43 => ?_) (fun c17 H44 => ?_)
     ·refine aP H43 fun y16 h25 H45 => ?_;obtain rfl:=sI H45;exact pR 6 [r0 [.v,.v,.e (.bool true),.v,.s,.s,.s,.v],V3,r0 [.b,.v,.v,.v,.hM [(1000,1000),(1001,1001),(1002,1002)] [(0,900)] (iI y16.1) [(0,.row 41 7 (y16.2.2.map al)),(1000,.cells 73 [.rslice 1001,.rslice 0,iI x1]),(1001,.row 76 5 (y16.2.1.map aa))],.m,.v]] [.wkH 4 0 [],.ren [(900,0),(4,4),(1000,1000),(1001,1001)]] [0,1000,1001] (aB c16 (aC Tryz.call61 (aC (di _ _ _ _ _ _ h25) aN)))
     ·refine aV H44 (fun c18 H46 => ?_) (fun c19 H47 => ?_)
      ·refine aP H46 fun y17 h26 H48 => ?_;obtain rfl:=sI H48;exact pR 7 [r0 [.v,.v,.e (.bool false),.v,.v,.v,.v,.v],.eqT 153 (.bool true),V3,r0 [.b,.v,.v,.v,.hM [(1000,1000),(1001,1001),(1002,1002)] [(0,900)] (iI y17.1) [(0,.row 41 7 (y17.2.2.map al)),(1000,.cells 73 [.rslice 1001,.rslice 0,iI x1]),(1001,.row 76 5 (y17.2.1.map aa))],.m,.v]] [.wkH 4 0 [],.ren [(900,0),(4,4),(1000,1000),(1001,1001)]] [0,1000,1001] (aB c17 (aB c18 (aC Tryz.call61 (aC (di _ _ _ _ _ _ h26) aN))))
      ·refine aP H47 fun y18 h27 H49 => ?_;obtain rfl:=sI H49;exact pR 7 [r0 [.v,.v,.e (.bool false),.v,.v,.v,.v,.v],.eqT 153 (.bool false),r0 [.b,.v,.v,.v,.hM [(1000,1000),(1001,1001),(1002,1002)] [(0,900)] (iI y18.1) [(0,.row 41 7 (y18.2.2.2.map al)),(1000,.cells 73 [.rslice 1001,.rslice 0,iI y18.2.1]),(1001,.row 76 5 (y18.2.2.1.map aa))],.m,.v]] [.wkH 4 0 [],.ren [(900,0),(4,4),(1000,1000),(1001,1001)]] [0,1000,1001] (aB c17 (aB c19 (aC Tryz.call60 (aC (gu _ _ _ _ _ _ h27) aN))))
  ·refine aP H18 fun y19 h28 H50 => ?_;refine pA 6 [.eqT 42 (.bool true),r0 [.v,.v,.v,.rl x0.toNat 3 (iI ((x2.getD x0.toNat (⟨⟨0,[]⟩,[],0,false⟩)).scale)),.v,.c true (.tup [iI y19.1,iI y19.2]),.v,.v,.v,.v,.v]] [.only [0,1,4,5,6,7,8,9] [4,1000,1001,1002]] 5 [true] ⟨161,[(0,.hptr 1000 0),(1,iI x0),(4,.hptr 4 0),(5,iI 0),(6,.hptr 1001 (x0.toNat*5)),(7,iI y0),(8,iI y19.1),(9,iI y19.2)],[(4,.cells 28 [.eslice,iI 0]),(1000,.cells 73 [.rslice 1001,.rslice 1002,iI x1]),(1001,.row 76 5 (x2.map aa)),(1002,.row 41 7 (x3.map al))]⟩ (aM c7 (aC (gR (f:=aa) (l:=x2) (n:=x0.toNat) 5 3 1 (by omega) (by decide)) (aC (sZ (f:=aa) (l:=x2) (n:=x0.toNat) (⟨⟨0,[]⟩,[],0,false⟩) 3 (by omega)) (aC Tryz.call58 (aF (gP _ _ _ h28) aN))))) ?_;refine aV H50 (fun c20 H51 => ?_) (fun c21 H52 => ?_)
   ·obtain rfl:=sI H51;exact pR 5 [r0 [.v,.v,.v,.rl x0.toNat 4 (.bool ((x2.getD x0.toNat (⟨⟨0,[]⟩,[],0,false⟩)).lost)),.e (.bool true),.s,.s,.s,.s,.v],r0 [.b,.m,.v]] [.wkH 4 0 [],.ren [(1002,0),(4,4),(1000,1000),(1001,1001)]] [0,1000,1001] (aC (gR (f:=aa) (l:=x2) (n:=x0.toNat) 5 4 1 (by omega) (by decide)) (aC (sZ (f:=aa) (l:=x2) (n:=x0.toNat) (⟨⟨0,[]⟩,[],0,false⟩) 4 (by omega)) (aB c20 aN)))
   ·refine aP H52 fun y20 h29 H53 => ?_;refine pA 1 [r0 [.v,.v,.v,.rl x0.toNat 4 (.bool ((x2.getD x0.toNat (⟨⟨0,[]⟩,[],0,false⟩)).lost)),.e (.bool false),.v,.v,.c true (.bool y20),.v,.v]] [.only [0,1,4,5,6,7,8,61] [4,1000,1001,1002]] 1 [] ⟨161,[(0,.hptr 1000 0),(1,iI x0),(4,.hptr 4 0),(5,iI 0),(6,.hptr 1001 (x0.toNat*5)),(7,iI y0),(8,iI y19.1),(61,.bool (!y20))],[(4,.cells 28 [.eslice,iI 0]),(1000,.cells 73 [.rslice 1001,.rslice 1002,iI x1]),(1001,.row 76 5 (x2.map aa)),(1002,.row 41 7 (x3.map al))]⟩ (aC (gR (f:=aa) (l:=x2) (n:=x0.toNat) 5 4 1 (by omega) (by decide)) (aC (sZ (f:=aa) (l:=x2) (n:=x0.toNat) (⟨⟨0,[]⟩,[],0,false⟩) 4 (by omega)) (aB c21 (aC Tryz.call45 (aF (cQ _ _ _ h29) (aT aN)))))) ?_;refine aV H53 (fun c22 H54 => ?_) (fun c23 H55 => ?_)
    ·refine aG H54 fun g10 H56 => ?_;refine pA 9 [.eqT 61 (.bool false),r0 (V 4 [.e (nI x2.length),.mk x2.length,.rwH 68 (.row 3 1 ((List.replicate x2.length (0:Int)).map ag)),.v,.b,.m,.m]),r0 [.v,.v,.v,.rl x0.toNat 2 (.dmap (((x2.getD x0.toNat (⟨⟨0,[]⟩,[],0,false⟩)).mults).map (cR ag))),.m]] [.only [0,1,4,5,6,7,10,75] [4,10,68,75,1000,1001,1002]] 8 [false] (eI x0 x1 x2 x3 y0 y19 [] (List.replicate x2.length (0:Int))) (aM c22 (aT (aC (aJ aa x2) (aC (show ((x2.length:Nat):Int)=((x2.length:Nat):Int)∧((x2.length:Nat):Int)=((x2.length:Nat):Int)∧8*x2.length≤140737488355328∧x2.length≤9223372036854775807 from ⟨rfl,rfl,by omega,by omega⟩) (aC (v7 (z:=yV Tryz.prog 3) ag (0:Int) x2.length 3 1 (by kernel_rfl)) (aC (gR (f:=aa) (l:=x2) (n:=x0.toNat) 5 2 1 (by omega) (by decide)) (aC (sZ (f:=aa) (l:=x2) (n:=x0.toNat) (⟨⟨0,[]⟩,[],0,false⟩) 2 (by omega)) aN))))))) ?_;refine pF (cc:=ag) 75 (eI x0 x1 x2 x3 y0 y19) (by kernel_rfl) H56 [.v] (fun i2 s2=>⟨by kernel_rfl,by kernel_rfl⟩) (fun i2 s2=>⟨161,[(0,.hptr 1000 0),(1,iI x0),(4,.hptr 4 0),(5,iI 0),(6,.hptr 1001 (x0.toNat*5)),(7,iI y0),(10,.hptr 10 0),(75,.hptr 75 0),(76,.tup [.bool false]),(77,.bool false)],[(4,.cells 28 [.eslice,iI 0]),(10,.cells 28 [.rslice 68,iI y19.1]),(68,.row 3 1 (s2.map ag)),(75,.iter (((x2.getD x0.toNat (⟨⟨0,[]⟩,[],0,false⟩)).mults).map (cR ag)) i2),(1000,.cells 73 [.rslice 1001,.rslice 1002,iI x1]),(1001,.row 76 5 (x2.map aa)),(1002,.row 41 7 (x3.map al))]⟩) (fun i2 s2=>by kernel_rfl) (fun i2 s2 n1 e1=>⟨161,[(0,.hptr 1000 0),(1,iI x0),(4,.hptr 4 0),(5,iI 0),(6,.hptr 1001 (x0.toNat*5)),(7,iI y0),(10,.hptr 10 0),(75,.hptr 75 0),(76,.tup [.bool true,iI e1.1,iI e1.2]),(77,.bool true)],[(4,.cells 28 [.eslice,iI 0]),(10,.cells 28 [.rslice 68,iI y19.1]),(68,.row 3 1 (s2.map ag)),(75,.iter (((x2.getD x0.toNat (⟨⟨0,[]⟩,[],0,false⟩)).mults).map (cR ag)) (i2++[n1])),(1000,.cells 73 [.rslice 1001,.rslice 1002,iI x1]),(1001,.row 76 5 (x2.map aa)),(1002,.row 41 7 (x3.map al))]⟩) (fun i2 s2 n1 e1=>by kernel_rfl) (fun i2 s2 H57 => ?_) (fun i2 s2 n1 e1 h30 q2 h31 h32 => ?_)
     ·obtain rfl:=sI H57;exact pR 6 [r0 [.v,.m,.v]] [.fz 68,.ren [(1002,0),(4,4),(1000,1000),(1001,1001)]] [0,1000,1001] aN
     ·refine aG h31 fun g11 H58 => ?_;refine aG H58 fun g12 H59 => ?_;refine aP H59 fun y21 h33 H60 => ?_;obtain rfl:=sI H60;exact pB 7 [r0 [.en n1 (.tup [iI e1.1,iI e1.2]),.v,.v,.v,.v],r0 (V 5 [.rs e1.1.toNat 0,.rwH 68 (.row 3 1 (y21.map ag))])] [.only [0,1,4,5,6,7,10,75] [4,10,68,75,1000,1001,1002]] (eI x0 x1 x2 x3 y0 y19 (i2++[n1]) y21) (aC (jt i2 n1) (aC (tX (cc:=ag) h30) (aC (show (0:Int)≤e1.1∧e1.1<((s2.map ag).length:Int) from by rw [Kp];exact g11) (aC (gR (f:=ag) (l:=s2) (n:=e1.1.toNat) 1 0 1 (by omega) (by decide)) (aC ((r7 (f:=ag) 3 1 s2 e1.1.toNat 0 e1.2 0 [iI e1.2] (by omega) rfl).trans (congrArg (fun l=>AO.row 3 1 (l.map ag)) (Kt h33))) aN)))))
    ·obtain rfl:=sI H55;exact pR 5 [.eqT 61 (.bool true),r0 [.b,.m,.v]] [.wkH 4 0 [],.ren [(1002,0),(4,4),(1000,1000),(1001,1001)]] [0,1000,1001] (aM c23 aN)
noncomputable def aU (x0:List Linear) (x1:Int):Option ((List Bind)×Int×ah×Int) :=
 (bX x0).bind fun y0 =>
 ((
  bif y0 then (
   bif decide (x1<1) then (
    some true
   ) else (
    bif decide (x1≥1000000000) then (
     some true
    ) else (
     (cm x0).bind fun y1 =>
     some (decide (y1≥x1))
    )
   )
  ) else (
   some true
  )
 ):Option Bool).bind fun v0 =>
 bif v0 then (
  some ([],0,(ah.mk [] 0),1)
 ) else (
  bif decide (((x0.length:Nat):Int)>6000) then (
   some ([],0,(ah.mk [] 0),3)
  ) else (
   (dZ (σ:=(List ab)) (ε:=(List ab)) (ρ:=Empty) (fun i0 s0 =>
    bH ((s0.length+1)*56≤140737488355328) <|
    some (.go (s0++[(ab.mk (Linear.mk ((x0.getD i0 ⟨0,[]⟩).Const) ((x0.getD i0 ⟨0,[]⟩).Terms)) (ksort (bL (((i0:Nat):Int):Int) 1 [])) 1 false)]))
   ) (fun i0 s0=>s0) (x0.length-0) 0 []).bind <| dG fun u0 =>
   (kD (σ:=(Int×(List ab)×(List Bind)×Int)) (ε:=((List ab)×(List Bind)×Int)) (ρ:=((List Bind)×Int×ah×Int)) (fun s1 =>
    bif decide (s1.1<((u0.length:Nat):Int)) then (
     (kD (σ:=((List ab)×(List Bind)×Int)) (ε:=((List ab)×(List Bind)×Int)) (ρ:=(fX (Int×(List ab)×(List Bind)×Int) ((List ab)×(List Bind)×Int) ((List Bind)×Int×ah×Int))) (fun s2 =>
      bH (0≤s1.1∧s1.1<(s2.1.length:Int)) <|
      bH (s1.1.toNat<s2.1.length) <|
      (dE (Linear.mk (((s2.1.getD s1.1.toNat (⟨⟨0,[]⟩,[],0,false⟩)).q).Const) (((s2.1.getD s1.1.toNat (⟨⟨0,[]⟩,[],0,false⟩)).q).Terms))).bind fun y2 =>
      bif y2 then (
       some (.brk (s2.1,s2.2.1,s2.2.2))
      ) else (
       (bg s1.1 s2.2.2 s2.1 s2.2.1).bind fun y3 =>
       bif (y3.1.2==0) then (
        some (.go (y3.2.2.1,y3.2.2.2,y3.2.1))
       ) else (
        some (.ret (.ret ([],0,y3.1.1,y3.1.2)))
       )
      )
     ) 4294967296 (s1.2.1,s1.2.2.1,s1.2.2.2)).bind <| aft fun u1 =>
     some (.go ((aD (s1.1+1)),u1.1,u1.2.1,u1.2.2))
    ) else (
     some (.brk (s1.2.1,s1.2.2.1,s1.2.2.2))
    )
   ) 4294967296 (0,u0,[],x1)).bind <| aft fun u2 =>
   bif decide (u2.2.2≥1000000000) then (
    some ([],0,(ah.mk [] 0),3)
   ) else (
    (bl x0).bind fun y4 =>
    (dZ (σ:=(List Bind)) (ε:=(List Bind)) (ρ:=Empty) (fun i1 s3 =>
     (fi y4 ((u2.2.1.getD i1 (⟨0,[],⟨0,[]⟩,⟨[],[]⟩,[]⟩)).Var)).bind fun y5 =>
     ((
      bif y5.2 then (
       bH ((s3.length+1)*112≤140737488355328) <|
       some (s3++[(Bind.mk ((u2.2.1.getD i1 (⟨0,[],⟨0,[]⟩,⟨[],[]⟩,[]⟩)).Kind) ((u2.2.1.getD i1 (⟨0,[],⟨0,[]⟩,⟨[],[]⟩,[]⟩)).Var) (Linear.mk (((u2.2.1.getD i1 (⟨0,[],⟨0,[]⟩,⟨[],[]⟩,[]⟩)).Dim).Const) (((u2.2.1.getD i1 (⟨0,[],⟨0,[]⟩,⟨[],[]⟩,[]⟩)).Dim).Terms)) (Shape.mk (((u2.2.1.getD i1 (⟨0,[],⟨0,[]⟩,⟨[],[]⟩,[]⟩)).Row).Row) (((u2.2.1.getD i1 (⟨0,[],⟨0,[]⟩,⟨[],[]⟩,[]⟩)).Row).Dims)) ((u2.2.1.getD i1 (⟨0,[],⟨0,[]⟩,⟨[],[]⟩,[]⟩)).Elem))])
      ) else (
       some s3
      )
     ):Option (List Bind)).bind fun v1 =>
     some (.go v1)
    ) (fun i1 s3=>s3) (u2.2.1.length-0) 0 []).bind <| dG fun u3 =>
    (iB (fun x=>x.Var) u3).bind fun y6 =>
    some (y6,u2.2.2,(ah.mk [] 0),0)
   )
  )
 )
def dC (x0:List Linear) (x1:Int) (v0:Bool):AS:=⟨133,[(0,dS ai x0),(1,iI x1),(4,.eslice),(5,iI 0),(6,.hptr 6 0),(7,iI 0),(35,.bool v0)],[(6,.cells 28 [.eslice,iI 0])]⟩
def hU (x0:List Linear) (x1:Int) (i0:Nat) (s0:List ab):AS:=⟨133,[(0,dS ai x0),(4,.eslice),(5,iI 0),(6,.hptr 6 0),(7,iI 0),(8,.hptr 43 0),(44,dS ai x0),(45,nI x0.length),(46,nI i0)],[(6,.cells 28 [.eslice,iI 0]),(43,.cells 73 [.rslice 62,.eslice,iI x1]),(62,.row 76 5 (s0.map aa))]⟩
def lK (x0:List Linear) (x1:Int) (u4:List ab):AS:=⟨133,[(0,dS ai x0),(4,.eslice),(5,iI 0),(6,.hptr 6 0),(7,iI 0),(8,.hptr 43 0)],[(6,.cells 28 [.eslice,iI 0]),(43,.cells 73 [.rslice 62,.eslice,iI x1]),(62,.row 76 5 (u4.map aa))]⟩
def gZ (x0:List Linear) (u0:List ab) (s1:Int×(List ab)×(List Bind)×Int):AS:=⟨133,[(0,dS ai x0),(4,.eslice),(5,iI 0),(6,.hptr 6 0),(7,iI 0),(8,.hptr 43 0),(70,nI u0.length),(71,iI s1.1)],[(6,.cells 28 [.eslice,iI 0]),(43,.cells 73 [.rslice 62,.rslice 900,iI s1.2.2.2]),(62,.row 76 5 (s1.2.1.map aa)),(900,.row 41 7 (s1.2.2.1.map al))]⟩
def kX (x0:List Linear) (u5:(List ab)×(List Bind)×Int):AS:=⟨133,[(0,dS ai x0),(4,.eslice),(5,iI 0),(6,.hptr 6 0),(7,iI 0),(8,.hptr 43 0)],[(6,.cells 28 [.eslice,iI 0]),(43,.cells 73 [.rslice 62,.rslice 900,iI u5.2.2]),(62,.row 76 5 (u5.1.map aa)),(900,.row 41 7 (u5.2.1.map al))]⟩
def hZ (x0:List Linear) (u0:List ab) (s1:Int×(List ab)×(List Bind)×Int) (s2:(List ab)×(List Bind)×Int):AS:=⟨133,[(0,dS ai x0),(4,.eslice),(5,iI 0),(6,.hptr 6 0),(7,iI 0),(8,.hptr 43 0),(11,iI s1.1),(70,nI u0.length),(71,iI s1.1)],[(6,.cells 28 [.eslice,iI 0]),(43,.cells 73 [.rslice 62,.rslice 901,iI s2.2.2]),(62,.row 76 5 (s2.1.map aa)),(901,.row 41 7 (s2.2.1.map al))]⟩
def lg (x0:List Linear) (u0:List ab) (s1:Int×(List ab)×(List Bind)×Int) (u6:(List ab)×(List Bind)×Int):AS:=⟨133,[(0,dS ai x0),(4,.eslice),(5,iI 0),(6,.hptr 6 0),(7,iI 0),(8,.hptr 43 0),(70,nI u0.length),(71,iI s1.1)],[(6,.cells 28 [.eslice,iI 0]),(43,.cells 73 [.rslice 62,.rslice 901,iI u6.2.2]),(62,.row 76 5 (u6.1.map aa)),(901,.row 41 7 (u6.2.1.map al))]⟩
def ik (u2:(List ab)×(List Bind)×Int) (y4:List aw) (i1:Nat) (s3:List Bind):AS:=⟨133,[(4,.rslice 123),(5,iI 0),(6,.hptr 6 0),(7,iI 0),(8,.hptr 43 0),(14,dS bn y4),(106,.rslice 900),(107,nI u2.2.1.length),(108,nI i1)],[(6,.cells 28 [.eslice,iI 0]),(43,.cells 73 [.rslice 62,.rslice 900,iI u2.2.2]),(62,.row 76 5 (u2.1.map aa)),(123,.row 41 7 (s3.map al)),(900,.row 41 7 (u2.2.1.map al))]⟩
def lE (u2:(List ab)×(List Bind)×Int) (u7:List Bind):AS:=⟨133,[(4,.rslice 123),(5,iI 0),(6,.hptr 6 0),(7,iI 0),(8,.hptr 43 0)],[(6,.cells 28 [.eslice,iI 0]),(43,.cells 73 [.rslice 62,.rslice 900,iI u2.2.2]),(62,.row 76 5 (u2.1.map aa)),(123,.row 41 7 (u7.map al)),(900,.row 41 7 (u2.2.1.map al))]⟩
def gD (u2:(List ab)×(List Bind)×Int) (y4:List aw) (i1:Nat) (v1:List Bind):AS:=⟨133,[(4,.rslice 123),(5,iI 0),(6,.hptr 6 0),(7,iI 0),(8,.hptr 43 0),(14,dS bn y4),(106,.rslice 900),(107,nI u2.2.1.length),(108,nI i1)],[(6,.cells 28 [.eslice,iI 0]),(43,.cells 73 [.rslice 62,.rslice 900,iI u2.2.2]),(62,.row 76 5 (u2.1.map aa)),(123,.row 41 7 (v1.map al)),(900,.row 41 7 (u2.2.1.map al))]⟩
theorem bS (x0:List Linear) (x1:Int) (r:(List Bind)×Int×ah×Int) (H:aU x0 x1=some r):bW Tryz.prog 9 [dS ai x0,iI x1] (.tup [dS al r.1,iI r.2.1,.agg [dS ag r.2.2.1.Mults,iI r.2.2.1.Mod],iI r.2.2.2]):=by
 unfold aU at H;refine aX Tryz.func9 133 [.tmp 4,.tmp 5,.cell 6 28,.tmp 7] ?_;refine aP H fun y0 h0 H0 => ?_;refine pA 4 [r0 [.v,.v,.m,.v]] [.only [0,1,4,5,6,7] [6]] 4 [] ⟨133,[(0,dS ai x0),(1,iI x1),(4,.eslice),(5,iI 0),(6,.hptr 6 0),(7,iI 0)],[(6,.cells 28 [.eslice,iI 0])]⟩ aN ?_;refine aP H0 fun v0 h1 H1 => ?_;refine dQ 0 (dC x0 x1 v0) (by kernel_rfl) ?_ ?_
 ·refine aV h1 (fun c0 H2 => ?_) (fun c1 H3 => ?_)
  ·refine aV H2 (fun c2 H4 => ?_) (fun c3 H5 => ?_)
   ·obtain rfl:=sI H4;exact pB 1 [r0 [.v,.c true (.bool true),.v,.v,.v,.e (.bool true),.v,.v,.s,.s,.v,.v,.s,.s,.s,.s,.v]] [.only [0,1,4,5,6,7,35] [6]] (dC x0 x1 true) (aC Tryz.call27 (aC (bW.eq (aW _ _ h0) (cB c0)) (aT (aB c2 aN))))
   ·refine aV H5 (fun c4 H6 => ?_) (fun c5 H7 => ?_)
    ·obtain rfl:=sI H6;exact pB 1 [r0 [.v,.c true (.bool true),.v,.v,.v,.e (.bool false),.v,.v,.v,.e (.bool true),.v,.v,.s,.s,.s,.s,.v]] [.only [0,1,4,5,6,7,35] [6]] (dC x0 x1 true) (aC Tryz.call27 (aC (bW.eq (aW _ _ h0) (cB c0)) (aT (aB c3 (aB c4 aN)))))
    ·refine aP H7 fun y1 h2 H8 => ?_;obtain rfl:=sI H8;exact pB 1 [r0 [.v,.c true (.bool true),.v,.v,.v,.e (.bool false),.v,.v,.v,.e (.bool false),.v,.v,.v,.c true (iI y1),.v,.v,.v]] [.only [0,1,4,5,6,7,35] [6]] (dC x0 x1 (decide (y1≥x1))) (aC Tryz.call27 (aC (bW.eq (aW _ _ h0) (cB c0)) (aT (aB c3 (aB c5 (aC Tryz.call28 (aF (jN _ _ h2) aN)))))))
  ·obtain rfl:=sI H3;exact pB 1 [r0 [.v,.c true (.bool false),.v,.v,.s,.s,.v,.v,.s,.s,.v,.v,.s,.s,.s,.s,.v]] [.only [0,1,4,5,6,7,35] [6]] (dC x0 x1 true) (aC Tryz.call27 (aC (bW.eq (aW _ _ h0) (cB c1)) (aT aN)))
 ·refine aV H1 (fun c6 H9 => ?_) (fun c7 H10 => ?_)
  ·obtain rfl:=sI H9;exact pR 5 [.eqT 35 (.bool true),r0 [.b,.v,.v,.m,.v]] [.wk 4 [],.wkH 6 0 []] [] (aB c6 aN)
  ·refine aV H10 (fun c8 H11 => ?_) (fun c9 H12 => ?_)
   ·obtain rfl:=sI H11;exact pR 11 [.eqT 35 (.bool false),r0 [.v,.e (nI x0.length),.v],.eqT 39 (.bool true),r0 [.b,.v,.v,.m,.v]] [.wk 4 [],.wkH 6 0 []] [] (aB c7 (aT (aC (aJ ai x0) (aB c8 aN))))
   ·have c9p:=Kl c9;refine pA 15 [.eqT 35 (.bool false),r0 [.v,.e (nI x0.length),.v],.eqT 39 (.bool false),r0 [.v,.b,.m,.v],r0 [.v,.e (nI x0.length),.v]] [.erH 43 0 62 76 5,.only [0,4,5,6,7,8,44,45,46] [6,43,62]] 13 [false,false] (hU x0 x1 0 []) (aB c7 (aT (aC (aJ ai x0) (aB c9 (aT (aC (aJ ai x0) aN)))))) ?_;refine aP H12 fun R0 h3 H13 => ?_;refine pJ 1 (lK x0 x1) R0 ?_ (fun u0 e0 => ?_)
    ·refine pC (hU x0 x1) h3 (fun i0 s0 h4 e1 => ?_) (fun i0 s0 h5 q0 h6 h7 => ?_)
     ·have c10:=lF i0 x0.length (by omega);subst e1;exact pB 5 [r0 [.e (.bool false)]] [.only [0,4,5,6,7,8] [6,43,62]] (lK x0 x1 s0) (aB c10 aN)
     ·have c11:=lT i0 x0.length (by omega);refine aG h6 fun g0 H14 => ?_;refine b7 0 (ps:=[(x0.map ai).length≤9223372036854775807]) (by kernel_rfl) (fun l0 => ?_);have l1:x0.length≤9223372036854775807:=by simpa only [bB,Kp] using l0
      clear l0;obtain rfl:=sI H14;exact pB 12 [r0 [.e (.bool true)],r0 [.v,.e (.dptr (ai (x0.getD i0 ⟨0,[]⟩))),.v,.m,.v,.m],.cv [.ren [(6,6),(10,10),(43,43),(62,900)]],.rg 13 (V 4 [.lt,.v,.mm,.v,.mi ((ksort (bL (((i0:Nat):Int):Int) 1 [])).map (cR ag)),.v,.b,.b,.apx ((s0++[(ab.mk (Linear.mk ((x0.getD i0 ⟨0,[]⟩).Const) ((x0.getD i0 ⟨0,[]⟩).Terms)) (ksort (bL (((i0:Nat):Int):Int) 1 [])) 1 false)]).map aa)]) [.v,.v,.m],V2] [.only [0,4,5,6,7,8,44,45,46] [6,43,62]] (hU x0 x1 (i0+1) (s0++[(ab.mk (Linear.mk ((x0.getD i0 ⟨0,[]⟩).Const) ((x0.getD i0 ⟨0,[]⟩).Terms)) (ksort (bL (((i0:Nat):Int):Int) 1 [])) 1 false)])) (aB c11 (aI a8 x0 i0 ⟨0,[]⟩ (aC (Ka jL (((i0:Nat):Int):Int) 1 []) (bF (Hw (c:=aa) rq s0 [(ab.mk (Linear.mk ((x0.getD i0 ⟨0,[]⟩).Const) ((x0.getD i0 ⟨0,[]⟩).Terms)) (ksort (bL (((i0:Nat):Int):Int) 1 [])) 1 false)] 56 (by decide) (by simpa using g0) List.map_append.symm) (aH i0 aN)))))
    ·subst e0;have H15:=bI H13;refine pA 4 [r0 (V 4 [.e (nI u0.length),.v])] [.erH 43 1 900 41 7,.only [0,4,5,6,7,8,70,71] [6,43,62,900]] 4 [] (gZ x0 u0 (0,u0,[],x1)) (aT (aC (aJ aa u0) aN)) ?_;refine aP H15 fun R1 h8 H16 => ?_;refine pJ 1 (kX x0) R1 ?_ (fun u2 e2 => ?_)
     ·refine pV (gZ x0 u0) (by kernel_rfl) h8 (fun s1 q1 h9 h10 => ?_)
      ·refine aV h9 (fun c12 H17 => ?_) (fun c13 H18 => ?_)
       ·have c12p:=Km c12;refine pA 11 [V1,.eqT 72 (.bool true),V2] [.ren [(6,6),(43,43),(62,62),(900,901)],.only [0,4,5,6,7,8,11,70,71] [6,43,62,901]] 10 [true] (hZ x0 u0 s1 (s1.2.1,s1.2.2.1,s1.2.2.2)) (aB c12 aN) ?_;refine aP H17 fun R2 h11 H19 => ?_;refine pJ 2 (lg x0 u0 s1) R2 ?_ (fun u1 e3 => ?_)
        ·refine pV (hZ x0 u0 s1) (by kernel_rfl) h11 (fun s2 q2 h12 h13 => ?_)
         ·refine aG h12 fun g1 H20 => ?_;refine aG H20 fun g2 H21 => ?_;refine aP H21 fun y2 h14 H22 => ?_;refine pA 3 [r0 (V 7 [.rl s1.1.toNat 0 (.agg (ai ((s2.1.getD s1.1.toNat (⟨⟨0,[]⟩,[],0,false⟩)).q))),.c true (.bool y2),.v])] [.only [0,4,5,6,7,8,11,70,71,83] [6,43,62,901]] 3 [] ⟨133,[(0,dS ai x0),(4,.eslice),(5,iI 0),(6,.hptr 6 0),(7,iI 0),(8,.hptr 43 0),(11,iI s1.1),(70,nI u0.length),(71,iI s1.1),(83,.bool (!y2))],[(6,.cells 28 [.eslice,iI 0]),(43,.cells 73 [.rslice 62,.rslice 901,iI s2.2.2]),(62,.row 76 5 (s2.1.map aa)),(901,.row 41 7 (s2.2.1.map al))]⟩ (aC (show (0:Int)≤s1.1∧s1.1<((s2.1.map aa).length:Int) from by rw [Kp];exact g1) (aC (gR (f:=aa) (l:=s2.1) (n:=s1.1.toNat) 5 0 2 (by omega) (by decide)) (aC (Ew (f:=aa) (l:=s2.1) (n:=s1.1.toNat) (⟨⟨0,[]⟩,[],0,false⟩) 0 2 (by omega)) (aC Tryz.call29 (aF (rP _ _ h14) (aT aN)))))) ?_;refine aV H22 (fun c14 H23 => ?_) (fun c15 H24 => ?_)
          ·obtain rfl:=sI H23;obtain rfl:=iL h13;exact pB 3 [.eqT 83 (.bool false)] [.only [0,4,5,6,7,8,70,71] [6,43,62,901]] (lg x0 u0 s1 (s2.1,s2.2.1,s2.2.2)) (aM c14 aN)
          ·refine aP H24 fun y3 h15 H25 => ?_;refine pA 8 [.eqT 83 (.bool true),r0 [.v,.v,.hM [(43,1000),(62,1001),(901,1002)] [(0,900)] (.tup [.agg [dS ag y3.1.1.Mults,iI y3.1.1.Mod],iI y3.1.2]) [(0,.row 41 7 (y3.2.2.2.map al)),(1000,.cells 73 [.rslice 1001,.rslice 0,iI y3.2.1]),(1001,.row 76 5 (y3.2.2.1.map aa))],.v,.v,.v,.m,.m,.v],V2] [.only [0,4,5,6,7,8,11,12,13,70,71,91] [6,12,43,62,900]] 7 [true] ⟨133,[(0,dS ai x0),(4,.eslice),(5,iI 0),(6,.hptr 6 0),(7,iI 0),(8,.hptr 43 0),(11,iI s1.1),(12,.hptr 12 0),(13,iI y3.1.2),(70,nI u0.length),(71,iI s1.1),(91,.bool (y3.1.2 != 0))],[(6,.cells 28 [.eslice,iI 0]),(12,.cells 28 [dS ag y3.1.1.Mults,iI y3.1.1.Mod]),(43,.cells 73 [.rslice 62,.rslice 900,iI y3.2.1]),(62,.row 76 5 (y3.2.2.1.map aa)),(900,.row 41 7 (y3.2.2.2.map al))]⟩ (aM c15 (aC Tryz.call30 (aC (nr _ _ _ _ _ h15) aN))) ?_;refine aV H25 (fun c16 H26 => ?_) (fun c17 H27 => ?_)
           ·obtain rfl:=sI H26;exact pB 3 [.eqT 91 (.bool false)] [.ren [(6,6),(43,43),(62,62),(900,901)],.only [0,4,5,6,7,8,11,70,71] [6,43,62,901]] (hZ x0 u0 s1 (y3.2.2.1,y3.2.2.2,y3.2.1)) (aM c16 aN)
           ·obtain rfl:=sI H27;obtain rfl:=aR h13;obtain rfl:=sI (aA H19);obtain rfl:=aR h10;obtain rfl:=sI (aA H16);exact pR 5 [.eqT 91 (.bool true),.rg 5 (V 4 [.m]) [.v]] [.wk 4 []] [] (aM c17 aN)
        ·subst e3;have H28:=bp H19;obtain rfl:=sI H28;exact pB 1 [r0 [.w,.v]] [.ren [(6,6),(43,43),(62,62),(901,900)],.only [0,4,5,6,7,8,70,71] [6,43,62,900]] (gZ x0 u0 ((aD (s1.1+1)),u1.1,u1.2.1,u1.2.2)) aN
       ·obtain rfl:=sI H18;obtain rfl:=iL h10;exact pB 6 [V1,.eqT 72 (.bool false)] [.only [0,4,5,6,7,8] [6,43,62,900]] (kX x0 (s1.2.1,s1.2.2.1,s1.2.2.2)) (aB c13 aN)
     ·subst e2;have H29:=bp H16;refine aV H29 (fun c18 H30 => ?_) (fun c19 H31 => ?_)
      ·obtain rfl:=sI H30;exact pR 8 [V5,.eqT 99 (.bool true),r0 [.b,.v,.v,.m,.v]] [.wk 4 [],.wkH 6 0 []] [] (aB c18 aN)
      ·have c19p:=Kl c19;refine aP H31 fun y4 h16 H32 => ?_;refine pA 12 [V5,.eqT 99 (.bool false),r0 [.v,.c true (dS bn y4),.v],r0 (V 4 [.e (nI u2.2.1.length),.v])] [.er 4 123 41 7,.only [4,5,6,7,8,14,106,107,108] [6,43,62,123,900]] 11 [false] (ik u2 y4 0 []) (aB c19 (aC Tryz.call31 (aF (cU _ _ h16) (aT (aC (aJ al u2.2.1) aN))))) ?_;refine aP H32 fun R3 h17 H33 => ?_;refine pJ 1 (lE u2) R3 ?_ (fun u3 e4 => ?_)
       ·refine pC (ik u2 y4) h17 (fun i1 s3 h18 e5 => ?_) (fun i1 s3 h19 q3 h20 h21 => ?_)
        ·have c20:=lF i1 u2.2.1.length (by omega);subst e5;exact pB 5 [r0 [.e (.bool false)]] [.only [4,5,6,7,8] [6,43,62,123,900]] (lE u2 s3) (aB c20 aN)
        ·have c21:=lT i1 u2.2.1.length (by omega);refine aP h20 fun y5 h22 H34 => ?_;refine pA 13 [r0 [.e (.bool true)],r0 [.v,.rl i1 0 (.agg (al (u2.2.1.getD i1 (⟨0,[],⟨0,[]⟩,⟨[],[]⟩,[]⟩)))),.m,.m],r0 [.v,.v,.v,.c true (.tup [iI y5.1,.bool y5.2]),.v,.v,.v,.v,.v],V1] [.only [4,5,6,7,8,14,16,106,107,108,119] [6,16,43,62,123,900]] 13 [true] ⟨133,[(4,.rslice 123),(5,iI 0),(6,.hptr 6 0),(7,iI 0),(8,.hptr 43 0),(14,dS bn y4),(16,.hptr 16 0),(106,.rslice 900),(107,nI u2.2.1.length),(108,nI i1),(119,.bool y5.2)],[(6,.cells 28 [.eslice,iI 0]),(16,.cells 41 (al (u2.2.1.getD i1 (⟨0,[],⟨0,[]⟩,⟨[],[]⟩,[]⟩)))),(43,.cells 73 [.rslice 62,.rslice 900,iI u2.2.2]),(62,.row 76 5 (u2.1.map aa)),(123,.row 41 7 (s3.map al)),(900,.row 41 7 (u2.2.1.map al))]⟩ (aB c21 (aC (show (0:Int)≤((i1:Nat):Int)∧((i1:Nat):Int)<((u2.2.1.map al).length:Int) from by rw [Kp];omega) (aC (gR (f:=al) (l:=u2.2.1) (n:=i1) 7 0 7 (by omega) (by decide)) (aC (Ew (f:=al) (l:=u2.2.1) (n:=i1) (⟨0,[],⟨0,[]⟩,⟨[],[]⟩,[]⟩) 0 7 (by omega)) (aC Tryz.call32 (aF (p7 y4 ((u2.2.1.getD i1 (⟨0,[],⟨0,[]⟩,⟨[],[]⟩,[]⟩)).Var) y5 h22) aN)))))) ?_;refine aP H34 fun v1 h23 H35 => ?_;refine dQ 1 (gD u2 y4 i1 v1) (by kernel_rfl) ?_ ?_
         ·refine aV h23 (fun c22 H36 => ?_) (fun c23 H37 => ?_)
          ·refine aG H36 fun g3 H38 => ?_;obtain rfl:=sI H38;exact pB 3 [.eqT 119 (.bool true),r0 [.v,.v,.b,.ap,.rwH 123 (.row 41 7 ((s3++[(Bind.mk ((u2.2.1.getD i1 (⟨0,[],⟨0,[]⟩,⟨[],[]⟩,[]⟩)).Kind) ((u2.2.1.getD i1 (⟨0,[],⟨0,[]⟩,⟨[],[]⟩,[]⟩)).Var) (Linear.mk (((u2.2.1.getD i1 (⟨0,[],⟨0,[]⟩,⟨[],[]⟩,[]⟩)).Dim).Const) (((u2.2.1.getD i1 (⟨0,[],⟨0,[]⟩,⟨[],[]⟩,[]⟩)).Dim).Terms)) (Shape.mk (((u2.2.1.getD i1 (⟨0,[],⟨0,[]⟩,⟨[],[]⟩,[]⟩)).Row).Row) (((u2.2.1.getD i1 (⟨0,[],⟨0,[]⟩,⟨[],[]⟩,[]⟩)).Row).Dims)) ((u2.2.1.getD i1 (⟨0,[],⟨0,[]⟩,⟨[],[]⟩,[]⟩)).Elem))]).map al)),.v]] [.only [4,5,6,7,8,14,106,107,108] [6,43,62,123,900]] (gD u2 y4 i1 (s3++[(Bind.mk ((u2.2.1.getD i1 (⟨0,[],⟨0,[]⟩,⟨[],[]⟩,[]⟩)).Kind) ((u2.2.1.getD i1 (⟨0,[],⟨0,[]⟩,⟨[],[]⟩,[]⟩)).Var) (Linear.mk (((u2.2.1.getD i1 (⟨0,[],⟨0,[]⟩,⟨[],[]⟩,[]⟩)).Dim).Const) (((u2.2.1.getD i1 (⟨0,[],⟨0,[]⟩,⟨[],[]⟩,[]⟩)).Dim).Terms)) (Shape.mk (((u2.2.1.getD i1 (⟨0,[],⟨0,[]⟩,⟨[],[]⟩,[]⟩)).Row).Row) (((u2.2.1.getD i1 (⟨0,[],⟨0,[]⟩,⟨[],[]⟩,[]⟩)).Row).Dims)) ((u2.2.1.getD i1 (⟨0,[],⟨0,[]⟩,⟨[],[]⟩,[]⟩)).Elem))])) (aB c22 (bF (wD (c:=al) AQ s3 [(Bind.mk ((u2.2.1.getD i1 (⟨0,[],⟨0,[]⟩,⟨[],[]⟩,[]⟩)).Kind) ((u2.2.1.getD i1 (⟨0,[],⟨0,[]⟩,⟨[],[]⟩,[]⟩)).Var) (Linear.mk (((u2.2.1.getD i1 (⟨0,[],⟨0,[]⟩,⟨[],[]⟩,[]⟩)).Dim).Const) (((u2.2.1.getD i1 (⟨0,[],⟨0,[]⟩,⟨[],[]⟩,[]⟩)).Dim).Terms)) (Shape.mk (((u2.2.1.getD i1 (⟨0,[],⟨0,[]⟩,⟨[],[]⟩,[]⟩)).Row).Row) (((u2.2.1.getD i1 (⟨0,[],⟨0,[]⟩,⟨[],[]⟩,[]⟩)).Row).Dims)) ((u2.2.1.getD i1 (⟨0,[],⟨0,[]⟩,⟨[],[]⟩,[]⟩)).Elem))] 112 (by decide) (by simpa using g3)) (aC (zO 41 7 al s3 [(Bind.mk ((u2.2.1.getD i1 (⟨0,[],⟨0,[]⟩,⟨[],[]⟩,[]⟩)).Kind) ((u2.2.1.getD i1 (⟨0,[],⟨0,[]⟩,⟨[],[]⟩,[]⟩)).Var) (Linear.mk (((u2.2.1.getD i1 (⟨0,[],⟨0,[]⟩,⟨[],[]⟩,[]⟩)).Dim).Const) (((u2.2.1.getD i1 (⟨0,[],⟨0,[]⟩,⟨[],[]⟩,[]⟩)).Dim).Terms)) (Shape.mk (((u2.2.1.getD i1 (⟨0,[],⟨0,[]⟩,⟨[],[]⟩,[]⟩)).Row).Row) (((u2.2.1.getD i1 (⟨0,[],⟨0,[]⟩,⟨[],[]⟩,[]⟩)).Row).Dims)) ((u2.2.1.getD i1 (⟨0,[],⟨0,[]⟩,⟨[],[]⟩,[]⟩)).Elem))]) aN)))
          ·refine cK H37 fun e6 => ?_;subst e6;exact pB 3 [.eqT 119 (.bool false)] [.only [4,5,6,7,8,14,106,107,108] [6,43,62,123,900]] (gD u2 y4 i1 s3) (aB c23 aN)
         ·refine tT 900 (n:=(u2.2.1.map al).length) (by kernel_rfl) (fun l2 => ?_);have l3:u2.2.1.length≤9223372036854775807:=by simpa only [Kp] using l2
          clear l2;obtain rfl:=sI H35;exact pB 1 [V2] [.only [4,5,6,7,8,14,106,107,108] [6,43,62,123,900]] (ik u2 y4 (i1+1) v1) (aH i1 aN)
       ·subst e4;have H39:=bI H33;refine aP H39 fun y6 h24 H40 => ?_;obtain rfl:=sI H40;exact pR 5 [r0 [.v,.hR [(123,1000)] 126 (.tup []) [(1000,.row 41 7 (y6.map al))]],.rg 8 (V 5 [.b,.v,.v]) [.m,.v]] [.fz 123,.wkH 6 0 []] [] (aC Tryz.call33 (aC (Aj al (fun x=>x.Var) _ _ _ _ _ _ (fun _=>rfl) (fun _=>rfl) u3 y6 h24) aN))
def pD (x0:aw):Option Linear :=
 some (Linear.mk 0 [(ak.mk x0 1)])
theorem zY (x0:aw) (r:Linear) (H:pD x0=some r):bW Tryz.prog 22 [.str x0] (.agg [iI r.Const,dS aj r.Terms]):=by unfold pD at H;refine aX Tryz.func22 7 [.cell 2 34] ?_;obtain rfl:=sI H;exact pR 5 [r0 [.m],r0 [.v,.b,.b,.b,.m]] [] [] aN
def cZ (x0 x1:Linear) (x2:Int):Option Linear :=
 bH ((0+x0.Terms.length)*24≤140737488355328) <|
 (dZ (σ:=(Int×(List ak))) (ε:=(Int×(List ak))) (ρ:=Empty) (fun i0 s0 =>
  (fV (Linear.mk s0.1 s0.2) ((x1.Terms.getD i0 ⟨[],0⟩).Var) (aD (x2*((x1.Terms.getD i0 ⟨[],0⟩).C)))).bind fun y0 =>
  some (.go (y0.Const,y0.Terms))
 ) (fun i0 s0=>(s0.1,s0.2)) (x1.Terms.length-0) 0 ((aD (x0.Const+(aD (x2*x1.Const)))),x0.Terms)).bind <| dG fun u0 =>
 some (Linear.mk u0.1 u0.2)
def lP (x1:Linear) (x2:Int) (i0:Nat) (s0:Int×(List ak)):AS:=⟨45,[(2,iI x2),(4,.hptr 4 0),(6,.hptr 6 0),(7,.hptr 7 0),(8,nI i0)],[(4,.cells 34 [iI x1.Const,dS aj x1.Terms]),(6,.cells 34 [iI 0,.eslice]),(7,.cells 34 [iI s0.1,dS aj s0.2])]⟩
def pc (u1:Int×(List ak)):AS:=⟨45,[(6,.hptr 6 0),(7,.hptr 7 0)],[(6,.cells 34 [iI 0,.eslice]),(7,.cells 34 [iI u1.1,dS aj u1.2])]⟩
theorem jG (x0 x1:Linear) (x2:Int) (r:Linear) (H:cZ x0 x1 x2=some r):bW Tryz.prog 16 [.agg [iI x0.Const,dS aj x0.Terms],.agg [iI x1.Const,dS aj x1.Terms],iI x2] (.agg [iI r.Const,dS aj r.Terms]):=by
 unfold cZ at H;refine aX Tryz.func16 45 [.cell 6 34] ?_;refine aG H fun g0 H0 => ?_;refine pA 8 [r0 [.m,.m,.m],.rg 13 (V 5 [.w,.w,.b,.v,.v,.apx (x0.Terms.map aj),.b,.m]) [.m],V1] [.fz 19,.only [2,4,6,7,8] [4,6,7]] 8 [] (lP x1 x2 0 ((aD (x0.Const+(aD (x2*x1.Const)))),x0.Terms)) (bF (Hw (c:=aj) gO [] x0.Terms 24 (by decide) (by simpa using g0) rfl) aN) ?_;refine aP H0 fun R0 h0 H1 => ?_;refine pJ 1 (pc) R0 ?_ (fun u0 e0 => ?_)
 ·refine pC (lP x1 x2) h0 (fun i0 s0 h1 e1 => ?_) (fun i0 s0 h2 q0 h3 h4 => ?_)
  ·have c0:=lF i0 x1.Terms.length (by omega);subst e1;exact pB 5 [r0 [.v,.v,.v,.e (nI x1.Terms.length),.e (.bool false)]] [.only [6,7] [6,7]] (pc (s0.1,s0.2)) (aT (aC (aJ aj x1.Terms) (aB c0 aN)))
  ·have c1:=lT i0 x1.Terms.length (by omega);refine aP h3 fun y0 h5 H2 => ?_;refine lZ 4 1 (ps:=[(x1.Terms.map aj).length≤9223372036854775807]) (by kernel_rfl) (fun l0 => ?_);have l1:x1.Terms.length≤9223372036854775807:=by simpa only [bB,Kp] using l0
   clear l0;obtain rfl:=sI H2;exact pB 9 [r0 [.v,.v,.v,.e (nI x1.Terms.length),.e (.bool true)],.rg 15 (V 4 [.e (.dptr (aj (x1.Terms.getD i0 ⟨[],0⟩))),.v,.v,.v,.v,.v,.v,.e (.dptr (aj (x1.Terms.getD i0 ⟨[],0⟩))),.v,.v,.w]) [.c true (.agg [iI y0.Const,dS aj y0.Terms]),.m],V3] [.only [2,4,6,7,8] [4,6,7]] (lP x1 x2 (i0+1) (y0.Const,y0.Terms)) (aT (aC (aJ aj x1.Terms) (aB c1 (aI bf x1.Terms i0 ⟨[],0⟩ (aI bf x1.Terms i0 ⟨[],0⟩ (aC Tryz.call17 (aF (kz _ _ _ _ h5) (aH i0 aN))))))))
 ·subst e0;have H3:=bI H1;obtain rfl:=sI H3;exact pR 3 [r0 [.v,.m]] [] [] aN
noncomputable def fC (x0 x1:List Linear):Option ((List Bind)×Int) :=
 (bX x0).bind fun y0 =>
 bif y0 then (
  (bX x1).bind fun y1 =>
  bif y1 then (
   bif decide (((x0.length:Nat):Int)>6000) then (
    some ([],1)
   ) else (
    bif decide (((x1.length:Nat):Int)>6000) then (
     some ([],1)
    ) else (
     bif (((x0.length:Nat):Int)==((x1.length:Nat):Int)) then (
      (cm x0).bind fun y2 =>
      bif decide ((aD (y2+1))≥1000000000) then (
       some ([],3)
      ) else (
       (bl x0).bind fun y3 =>
       bH (112*y3.length≤140737488355328) <|
       (dZ (σ:=(List Bind)) (ε:=(List Bind)) (ρ:=Empty) (fun i0 s0 =>
        bH (i0<s0.length) <|
        some (.go (s0.set i0 (Bind.mk 1 (y3.getD i0 []) (Linear.mk 0 []) (Shape.mk [] []) [])))
       ) (fun i0 s0=>s0) (y3.length-0) 0 (List.replicate y3.length (⟨0,[],⟨0,[]⟩,⟨[],[]⟩,[]⟩))).bind <| dG fun u0 =>
       (bl x1).bind fun y4 =>
       bH ((([[]]:List aw).length+y4.length)*16≤140737488355328) <|
       (dZ (σ:=(List Bind)) (ε:=(List Bind)) (ρ:=((List Bind)×Int)) (fun i1 s1 =>
        (dZ (σ:=(List Linear)) (ε:=(List Linear)) (ρ:=(fX (List Bind) (List Bind) ((List Bind)×Int))) (fun i2 s2 =>
         bH (i2<x1.length) <|
         ((
          bif decide (((i1:Nat):Int)>0) then (
           (cS (Linear.mk ((x1.getD i2 ⟨0,[]⟩).Const) ((x1.getD i2 ⟨0,[]⟩).Terms)) ((([[]]:List aw)++y4).getD i1 [])).bind fun y5 =>
           some (aD (0-y5))
          ) else (
           some (aD (((x0.getD i2 ⟨0,[]⟩).Const)-((x1.getD i2 ⟨0,[]⟩).Const)))
          )
         ):Option Int).bind fun v0 =>
         (bV (Linear.mk v0 ((x0.getD i2 ⟨0,[]⟩).Terms))).bind fun y6 =>
         bif y6 then (
          bH ((s2.length+1)*32≤140737488355328) <|
          some (.go (s2++[(Linear.mk v0 ((x0.getD i2 ⟨0,[]⟩).Terms))]))
         ) else (
          some (.ret (.ret ([],3)))
         )
        ) (fun i2 s2=>s2) (x0.length-0) 0 []).bind <| aft fun u1 =>
        (aU u1 (aD (y2+1))).bind fun y7 =>
        bif (y7.2.2.2==0) then (
         (dZ (σ:=(List Bind)) (ε:=(List Bind)) (ρ:=Empty) (fun i3 s3 =>
          (fi y3 ((y7.1.getD i3 (⟨0,[],⟨0,[]⟩,⟨[],[]⟩,[]⟩)).Var)).bind fun y8 =>
          ((
           bif (((i1:Nat):Int)==0) then (
            bH (0≤y8.1∧y8.1<(s3.length:Int)) <|
            bH (y8.1.toNat<s3.length) <|
            some (s3.set y8.1.toNat (Bind.mk ((s3.getD y8.1.toNat (⟨0,[],⟨0,[]⟩,⟨[],[]⟩,[]⟩)).Kind) ((s3.getD y8.1.toNat (⟨0,[],⟨0,[]⟩,⟨[],[]⟩,[]⟩)).Var) (Linear.mk (((y7.1.getD i3 (⟨0,[],⟨0,[]⟩,⟨[],[]⟩,[]⟩)).Dim).Const) (((s3.getD y8.1.toNat (⟨0,[],⟨0,[]⟩,⟨[],[]⟩,[]⟩)).Dim).Terms)) (Shape.mk (((s3.getD y8.1.toNat (⟨0,[],⟨0,[]⟩,⟨[],[]⟩,[]⟩)).Row).Row) (((s3.getD y8.1.toNat (⟨0,[],⟨0,[]⟩,⟨[],[]⟩,[]⟩)).Row).Dims)) ((s3.getD y8.1.toNat (⟨0,[],⟨0,[]⟩,⟨[],[]⟩,[]⟩)).Elem)))
           ) else (
            bif ((((y7.1.getD i3 (⟨0,[],⟨0,[]⟩,⟨[],[]⟩,[]⟩)).Dim).Const)==0) then (
             some s3
            ) else (
             bH (0≤y8.1∧y8.1<(s3.length:Int)) <|
             bH (y8.1.toNat<s3.length) <|
             bH ((((s3.getD y8.1.toNat (⟨0,[],⟨0,[]⟩,⟨[],[]⟩,[]⟩)).Dim).Terms)=[]) <|
             some (s3.set y8.1.toNat (Bind.mk ((s3.getD y8.1.toNat (⟨0,[],⟨0,[]⟩,⟨[],[]⟩,[]⟩)).Kind) ((s3.getD y8.1.toNat (⟨0,[],⟨0,[]⟩,⟨[],[]⟩,[]⟩)).Var) (Linear.mk (((s3.getD y8.1.toNat (⟨0,[],⟨0,[]⟩,⟨[],[]⟩,[]⟩)).Dim).Const) [(ak.mk ((([[]]:List aw)++y4).getD i1 []) (((y7.1.getD i3 (⟨0,[],⟨0,[]⟩,⟨[],[]⟩,[]⟩)).Dim).Const))]) (Shape.mk (((s3.getD y8.1.toNat (⟨0,[],⟨0,[]⟩,⟨[],[]⟩,[]⟩)).Row).Row) (((s3.getD y8.1.toNat (⟨0,[],⟨0,[]⟩,⟨[],[]⟩,[]⟩)).Row).Dims)) ((s3.getD y8.1.toNat (⟨0,[],⟨0,[]⟩,⟨[],[]⟩,[]⟩)).Elem)))
            )
           )
          ):Option (List Bind)).bind fun v1 =>
          some (.go v1)
         ) (fun i3 s3=>s3) (y7.1.length-0) 0 s1).bind <| dG fun u2 =>
         some (.go u2)
        ) else (
         some (.ret ([],y7.2.2.2))
        )
       ) (fun i1 s1=>s1) ((([[]]:List aw)++y4).length-0) 0 u0).bind <| aft fun u3 =>
       (dZ (σ:=Unit) (ε:=Unit) (ρ:=((List Bind)×Int)) (fun i4 s4 =>
        (bV (Linear.mk (((u3.getD i4 (⟨0,[],⟨0,[]⟩,⟨[],[]⟩,[]⟩)).Dim).Const) (((u3.getD i4 (⟨0,[],⟨0,[]⟩,⟨[],[]⟩,[]⟩)).Dim).Terms))).bind fun y9 =>
        bif y9 then (
         some (.go ())
        ) else (
         some (.ret ([],3))
        )
       ) (fun i4 s4=>()) (u3.length-0) 0 ()).bind <| aft fun u4 =>
       bif (((u3.length:Nat):Int)==0) then (
        some ([],0)
       ) else (
        some (u3,0)
       )
      )
     ) else (
      some ([],14)
     )
    )
   )
  ) else (
   some ([],1)
  )
 ) else (
  some ([],1)
 )
def hF (x0 x1:List Linear) (y2:Int) (y3:List aw) (i0:Nat) (s0:List Bind):AS:=⟨196,[(0,dS ai x0),(1,dS ai x1),(4,.eslice),(5,iI 0),(6,iI (aD (y2+1))),(7,dS bn y3),(8,.rslice 63),(64,dS bn y3),(65,nI y3.length),(66,nI i0)],[(63,.row 41 7 (s0.map cn))]⟩
def kT (x0 x1:List Linear) (y2:Int) (y3:List aw) (u5:List Bind):AS:=⟨196,[(0,dS ai x0),(1,dS ai x1),(4,.eslice),(5,iI 0),(6,iI (aD (y2+1))),(7,dS bn y3),(8,.rslice 63)],[(63,.row 41 7 (u5.map cn))]⟩
def gW (x0 x1:List Linear) (y2:Int) (y3 y4:List aw) (i1:Nat) (s1:List Bind):AS:=⟨196,[(0,dS ai x0),(1,dS ai x1),(4,.eslice),(5,iI 0),(6,iI (aD (y2+1))),(7,dS bn y3),(8,.rslice 63),(81,.rslice 80),(82,iI (((([[]]:List aw)++y4).length:Nat):Int)),(83,nI i1)],[(63,.row 41 7 (s1.map cn)),(80,.row 9 1 ((([[]]:List aw)++y4).map bn))]⟩
def lL (u6:List Bind):AS:=⟨196,[(4,.eslice),(5,iI 0),(8,.rslice 63)],[(63,.row 41 7 (u6.map cn))]⟩
def gX (x0 x1:List Linear) (y2:Int) (y3 y4:List aw) (i1:Nat) (s1:List Bind) (i2:Nat) (s2:List Linear):AS:=⟨196,[(0,dS ai x0),(1,dS ai x1),(4,.eslice),(5,iI 0),(6,iI (aD (y2+1))),(7,dS bn y3),(8,.rslice 63),(12,nI i1),(13,.str ((([[]]:List aw)++y4).getD i1 [])),(14,.rslice 122),(81,.rslice 80),(82,iI (((([[]]:List aw)++y4).length:Nat):Int)),(83,nI i1),(88,dS ai x0),(89,nI x0.length),(90,nI i2)],[(63,.row 41 7 (s1.map cn)),(80,.row 9 1 ((([[]]:List aw)++y4).map bn)),(122,.row 34 2 (s2.map ai))]⟩
def lG (x0 x1:List Linear) (y2:Int) (y3 y4:List aw) (i1:Nat) (s1:List Bind) (u7:List Linear):AS:=⟨196,[(0,dS ai x0),(1,dS ai x1),(4,.eslice),(5,iI 0),(6,iI (aD (y2+1))),(7,dS bn y3),(8,.rslice 63),(12,nI i1),(13,.str ((([[]]:List aw)++y4).getD i1 [])),(14,.rslice 122),(81,.rslice 80),(82,iI (((([[]]:List aw)++y4).length:Nat):Int)),(83,nI i1)],[(63,.row 41 7 (s1.map cn)),(80,.row 9 1 ((([[]]:List aw)++y4).map bn)),(122,.row 34 2 (u7.map ai))]⟩
def ib (x0 x1:List Linear) (y2:Int) (y3 y4:List aw) (i1:Nat) (s1:List Bind) (i2:Nat) (s2:List Linear) (v0:Int):AS:=⟨196,[(0,dS ai x0),(1,dS ai x1),(4,.eslice),(5,iI 0),(6,iI (aD (y2+1))),(7,dS bn y3),(8,.rslice 63),(12,nI i1),(13,.str ((([[]]:List aw)++y4).getD i1 [])),(14,.rslice 122),(17,.hptr 17 0),(81,.rslice 80),(82,iI (((([[]]:List aw)++y4).length:Nat):Int)),(83,nI i1),(88,dS ai x0),(89,nI x0.length),(90,nI i2)],[(17,.cells 34 [iI v0,.dslice (((x0.getD i2 ⟨0,[]⟩).Terms).map aj)]),(63,.row 41 7 (s1.map cn)),(80,.row 9 1 ((([[]]:List aw)++y4).map bn)),(122,.row 34 2 (s2.map ai))]⟩
def ic (x0 x1:List Linear) (y2:Int) (y3 y4:List aw) (i1:Nat) (y7:(List Bind)×Int×ah×Int) (i3:Nat) (s3:List Bind):AS:=⟨196,[(0,dS ai x0),(1,dS ai x1),(4,.eslice),(5,iI 0),(6,iI (aD (y2+1))),(7,dS bn y3),(8,.rslice 63),(12,nI i1),(13,.str ((([[]]:List aw)++y4).getD i1 [])),(81,.rslice 80),(82,iI (((([[]]:List aw)++y4).length:Nat):Int)),(83,nI i1),(135,dS al y7.1),(136,nI y7.1.length),(137,nI i3)],[(63,.row 41 7 (s3.map cn)),(80,.row 9 1 ((([[]]:List aw)++y4).map bn))]⟩
def kN (x0 x1:List Linear) (y2:Int) (y3 y4:List aw) (i1:Nat) (u8:List Bind):AS:=⟨196,[(0,dS ai x0),(1,dS ai x1),(4,.eslice),(5,iI 0),(6,iI (aD (y2+1))),(7,dS bn y3),(8,.rslice 63),(81,.rslice 80),(82,iI (((([[]]:List aw)++y4).length:Nat):Int)),(83,nI i1)],[(63,.row 41 7 (u8.map cn)),(80,.row 9 1 ((([[]]:List aw)++y4).map bn))]⟩
def eQ (x0 x1:List Linear) (y2:Int) (y3 y4:List aw) (i1:Nat) (y7:(List Bind)×Int×ah×Int) (i3:Nat) (v1:List Bind):AS:=⟨196,[(0,dS ai x0),(1,dS ai x1),(4,.eslice),(5,iI 0),(6,iI (aD (y2+1))),(7,dS bn y3),(8,.rslice 63),(12,nI i1),(13,.str ((([[]]:List aw)++y4).getD i1 [])),(81,.rslice 80),(82,iI (((([[]]:List aw)++y4).length:Nat):Int)),(83,nI i1),(135,dS al y7.1),(136,nI y7.1.length),(137,nI i3)],[(63,.row 41 7 (v1.map cn)),(80,.row 9 1 ((([[]]:List aw)++y4).map bn))]⟩
def gA (u3:List Bind) (i4:Nat) (s4:Unit):AS:=⟨196,[(4,.eslice),(5,iI 0),(8,.rslice 63),(181,.rslice 63),(182,nI u3.length),(183,nI i4)],[(63,.row 41 7 (u3.map al))]⟩
def kr (u3:List Bind) (u9:Unit):AS:=⟨196,[(4,.eslice),(5,iI 0),(8,.rslice 63)],[(63,.row 41 7 (u3.map al))]⟩
theorem q9 (x0 x1:List Linear) (r:(List Bind)×Int) (H:fC x0 x1=some r):bW Tryz.prog 23 [dS ai x0,dS ai x1] (.tup [dS al r.1,iI r.2]):=by
 unfold fC at H;refine aX Tryz.func23 196 [.tmp 4,.tmp 5] ?_;refine aP H fun y0 h0 H0 => ?_;refine aV H0 (fun c0 H1 => ?_) (fun c1 H2 => ?_)
 ·refine aP H1 fun y1 h1 H3 => ?_;refine aV H3 (fun c2 H4 => ?_) (fun c3 H5 => ?_)
  ·refine aV H4 (fun c4 H6 => ?_) (fun c5 H7 => ?_)
   ·obtain rfl:=sI H6;exact pR 10 [V2,r0 [.v,.c true (.bool true),.v,.v,.v,.c true (.bool true),.v,.v,.v,.v,.e (nI x0.length),.e (.bool true),.v,.v,.s,.s,.s,.v,.v],V2] [.wk 4 []] [] (aC Tryz.call27 (aC (bW.eq (aW _ _ h0) (cB c0)) (aT (aC Tryz.call27 (aC (bW.eq (aW _ _ h1) (cB c2)) (aT (aT (aC (aJ ai x0) (aB c4 aN)))))))))
   ·have c5p:=Kl c5;refine pA 6 [V2,r0 [.v,.c true (.bool true),.v,.v,.v,.c true (.bool true),.v,.v,.v,.v,.e (nI x0.length),.e (.bool false),.v,.v,.v,.e (nI x1.length),.v,.v,.v]] [.only [0,1,4,5,29] []] 6 [] ⟨196,[(0,dS ai x0),(1,dS ai x1),(4,.eslice),(5,iI 0),(29,.bool (decide (((x1.length:Nat):Int)>6000)))],[]⟩ (aC Tryz.call27 (aC (bW.eq (aW _ _ h0) (cB c0)) (aT (aC Tryz.call27 (aC (bW.eq (aW _ _ h1) (cB c2)) (aT (aT (aC (aJ ai x0) (aB c5 (aT (aC (aJ ai x1) aN))))))))))) ?_;refine aV H7 (fun c6 H8 => ?_) (fun c7 H9 => ?_)
    ·obtain rfl:=sI H8;exact pR 5 [.eqT 29 (.bool true),V2] [.wk 4 []] [] (aB c6 aN)
    ·have c7p:=Kl c7;refine aV H9 (fun c8 H10 => ?_) (fun c9 H11 => ?_)
     ·refine aP H10 fun y2 h2 H12 => ?_;refine pA 12 [.eqT 29 (.bool false),r0 [.v,.e (nI x0.length),.v,.e (nI x1.length),.v,.v],.eqT 48 (.bool false),r0 [.v,.c true (iI y2),.w,.v],V2] [.only [0,1,4,5,6,58] []] 10 [false,false] ⟨196,[(0,dS ai x0),(1,dS ai x1),(4,.eslice),(5,iI 0),(6,iI (aD (y2+1))),(58,.bool (decide ((aD (y2+1))≥1000000000)))],[]⟩ (aB c7 (aT (aC (aJ ai x0) (aT (aC (aJ ai x1) (aM c8 (aC Tryz.call28 (aF (jN _ _ h2) aN)))))))) ?_;refine aV H12 (fun c10 H13 => ?_) (fun c11 H14 => ?_)
      ·obtain rfl:=sI H13;exact pR 5 [.eqT 58 (.bool true),V2] [.wk 4 []] [] (aB c10 aN)
      ·have c11p:=Kl c11;refine aP H14 fun y3 h3 H15 => ?_;refine aG H15 fun g0 H16 => ?_;refine pA 11 [.eqT 58 (.bool false),r0 [.v,.c true (dS bn y3),.v],r0 [.v,.e (nI y3.length),.mk y3.length,.rwH 63 (.row 41 7 ((List.replicate y3.length (⟨0,[],⟨0,[]⟩,⟨[],[]⟩,[]⟩)).map cn)),.v],r0 [.v,.e (nI y3.length),.v]] [.only [0,1,4,5,6,7,8,64,65,66] [63]] 10 [false] (hF x0 x1 y2 y3 0 (List.replicate y3.length (⟨0,[],⟨0,[]⟩,⟨[],[]⟩,[]⟩))) (aB c11 (aC Tryz.call31 (aF (cU _ _ h3) (aT (aC (aJ bn y3) (aC (show ((y3.length:Nat):Int)=((y3.length:Nat):Int)∧((y3.length:Nat):Int)=((y3.length:Nat):Int)∧112*y3.length≤140737488355328∧y3.length≤9223372036854775807 from ⟨rfl,rfl,by omega,by omega⟩) (aC (v7 (z:=yV Tryz.prog 41) cn (⟨0,[],⟨0,[]⟩,⟨[],[]⟩,[]⟩) y3.length 41 7 (by kernel_rfl)) (aT (aC (aJ bn y3) aN))))))))) ?_;refine aP H16 fun R0 h4 H17 => ?_;refine pJ 1 (kT x0 x1 y2 y3) R0 ?_ (fun u0 e0 => ?_)
       ·refine pC (hF x0 x1 y2 y3) h4 (fun i0 s0 h5 e1 => ?_) (fun i0 s0 h6 q0 h7 h8 => ?_)
        ·have c12:=lF i0 y3.length (by omega);subst e1;exact pB 5 [r0 [.e (.bool false)]] [.only [0,1,4,5,6,7,8] [63]] (kT x0 x1 y2 y3 s0) (aB c12 aN)
        ·have c13:=lT i0 y3.length (by omega);refine aG h7 fun g1 H18 => ?_;refine b7 7 (ps:=[(y3.map bn).length≤9223372036854775807]) (by kernel_rfl) (fun l0 => ?_);have l1:y3.length≤9223372036854775807:=by simpa only [bB,Kp] using l0
         clear l0;obtain rfl:=sI H18;exact pB 11 [r0 [.e (.bool true)],r0 [.v,.e (.dptr [.str (y3.getD i0 [])]),.v,.v,.v],r0 [.v,.v,.v,.b,.v,.rs i0 0,.rwH 63 (.row 41 7 ((s0.set i0 (Bind.mk 1 (y3.getD i0 []) (Linear.mk 0 []) (Shape.mk [] []) [])).map cn))],V2] [.only [0,1,4,5,6,7,8,64,65,66] [63]] (hF x0 x1 y2 y3 (i0+1) (s0.set i0 (Bind.mk 1 (y3.getD i0 []) (Linear.mk 0 []) (Shape.mk [] []) []))) (aB c13 (aI pr y3 i0 [] (aC (show (0:Int)≤((i0:Nat):Int)∧((i0:Nat):Int)<((s0.map cn).length:Int) from by rw [Kp];omega) (aC (gR (f:=cn) (l:=s0) (n:=i0) 7 0 7 (by omega) (by decide)) (aC (r7 (f:=cn) 41 7 s0 i0 (⟨0,[],⟨0,[]⟩,⟨[],[]⟩,[]⟩) (Bind.mk 1 (y3.getD i0 []) (Linear.mk 0 []) (Shape.mk [] []) []) 0 [iI 1,.str (y3.getD i0 []),iI 0,.eslice,.str [],.eslice,.str []] (by omega) rfl) (aH i0 aN))))))
       ·subst e0;have H19:=bI H17;refine aP H19 fun y4 h9 H20 => ?_;refine aG H20 fun g2 H21 => ?_;refine pA 6 [r0 [.ap,.rwH 77 (.row 9 1 (([[]]:List aw).map bn)),.v,.c true (dS bn y4),.ap,.rwH 80 (.row 9 1 ((([[]]:List aw)++y4).map bn)),.v],r0 [.v,.e (iI (((([[]]:List aw)++y4).length:Nat):Int)),.v]] [.only [0,1,4,5,6,7,8,81,82,83] [63,80]] 6 [] (gW x0 x1 y2 y3 y4 0 u0) (aC (Eq.refl (AO.row 9 1 (([[]]:List aw).map bn))) (aC Tryz.call31 (aF (cU _ _ h9) (bF (wD (c:=bn) rF ([[]]:List aw) y4 16 (by decide) (by simpa using g2)) (aC (zO 9 1 bn ([[]]:List aw) y4) (aT (aC (aJ bn (([[]]:List aw)++y4)) aN))))))) ?_;refine aP H21 fun R1 h10 H22 => ?_;refine pJ 1 (lL) R1 ?_ (fun u3 e2 => ?_)
        ·refine pC (gW x0 x1 y2 y3 y4) h10 (fun i1 s1 h11 e3 => ?_) (fun i1 s1 h12 q1 h13 h14 => ?_)
         ·have c14:=lF i1 ((([[]]:List aw)++y4).length) (by omega);subst e3;exact pB 5 [r0 [.e (.bool false)]] [.only [4,5,8] [63]] (lL s1) (aB c14 aN)
         ·have c15:=lT i1 ((([[]]:List aw)++y4).length) (by omega);refine pA 15 [r0 [.e (.bool true)],r0 [.v,.v,.rl i1 0 (.str ((([[]]:List aw)++y4).getD i1 [])),.v,.v],V1,r0 [.v,.e (nI x0.length),.v]] [.er 14 122 34 2,.only [0,1,4,5,6,7,8,12,13,14,81,82,83,88,89,90] [63,80,122]] 15 [true] (gX x0 x1 y2 y3 y4 i1 s1 0 []) (aB c15 (aC (show (0:Int)≤((i1:Nat):Int)∧((i1:Nat):Int)<(((([[]]:List aw)++y4).map bn).length:Int) from by rw [Kp];omega) (aC (gR (f:=bn) (l:=(([[]]:List aw)++y4)) (n:=i1) 1 0 1 (by omega) (by decide)) (aC (sZ (f:=bn) (l:=(([[]]:List aw)++y4)) (n:=i1) [] 0 (by omega)) (aT (aC (aJ ai x0) aN)))))) ?_;refine aP h13 fun R2 h15 H23 => ?_;refine pJ 1 (lG x0 x1 y2 y3 y4 i1 s1) R2 ?_ (fun u1 e4 => ?_)
          ·refine pC (gX x0 x1 y2 y3 y4 i1 s1) h15 (fun i2 s2 h16 e5 => ?_) (fun i2 s2 h17 q2 h18 h19 => ?_)
           ·have c16:=lF i2 x0.length (by omega);subst e5;exact pB 5 [r0 [.e (.bool false)]] [.only [0,1,4,5,6,7,8,12,13,14,81,82,83] [63,80,122]] (lG x0 x1 y2 y3 y4 i1 s1 s2) (aB c16 aN)
           ·have c17:=lT i2 x0.length (by omega);refine aG h18 fun g3 H24 => ?_;refine pA 14 [r0 [.e (.bool true)],r0 [.v,.e (.dptr (ai (x0.getD i2 ⟨0,[]⟩))),.v,.m,.v,.m],.rg 12 (V 6 [.e (.dptr (ai (x1.getD i2 ⟨0,[]⟩))),.v,.v,.w,.b,.m]) [.m],V2] [.only [0,1,4,5,6,7,8,12,13,14,15,17,81,82,83,88,89,90,107] [17,63,80,122]] 14 [true] ⟨196,[(0,dS ai x0),(1,dS ai x1),(4,.eslice),(5,iI 0),(6,iI (aD (y2+1))),(7,dS bn y3),(8,.rslice 63),(12,nI i1),(13,.str ((([[]]:List aw)++y4).getD i1 [])),(14,.rslice 122),(15,nI i2),(17,.hptr 17 0),(81,.rslice 80),(82,iI (((([[]]:List aw)++y4).length:Nat):Int)),(83,nI i1),(88,dS ai x0),(89,nI x0.length),(90,nI i2),(107,.bool (decide (((i1:Nat):Int)>0)))],[(17,.cells 34 [iI (aD (((x0.getD i2 ⟨0,[]⟩).Const)-((x1.getD i2 ⟨0,[]⟩).Const))),.dslice (((x0.getD i2 ⟨0,[]⟩).Terms).map aj)]),(63,.row 41 7 (s1.map cn)),(80,.row 9 1 ((([[]]:List aw)++y4).map bn)),(122,.row 34 2 (s2.map ai))]⟩ (aB c17 (aI a8 x0 i2 ⟨0,[]⟩ (aI a8 x1 i2 ⟨0,[]⟩ aN))) ?_;refine aP H24 fun v0 h20 H25 => ?_;refine dQ 0 (ib x0 x1 y2 y3 y4 i1 s1 i2 s2 v0) (by kernel_rfl) ?_ ?_
            ·refine aV h20 (fun c18 H26 => ?_) (fun c19 H27 => ?_)
             ·have c18p:=Km c18;refine aP H26 fun y5 h21 H28 => ?_;obtain rfl:=sI H28;exact pB 3 [.eqT 107 (.bool true),r0 [.v,.v,.e (.dptr (ai (x1.getD i2 ⟨0,[]⟩))),.v,.v,.c true (iI y5),.w,.v,.m]] [.only [0,1,4,5,6,7,8,12,13,14,17,81,82,83,88,89,90] [17,63,80,122]] (ib x0 x1 y2 y3 y4 i1 s1 i2 s2 (aD (0-y5))) (aB c18 (aI a8 x1 i2 ⟨0,[]⟩ (aC Tryz.call46 (aF (gG _ _ _ h21) aN))))
             ·obtain rfl:=sI H27;exact pB 3 [.eqT 107 (.bool false)] [.only [0,1,4,5,6,7,8,12,13,14,17,81,82,83,88,89,90] [17,63,80,122]] (ib x0 x1 y2 y3 y4 i1 s1 i2 s2 (aD (((x0.getD i2 ⟨0,[]⟩).Const)-((x1.getD i2 ⟨0,[]⟩).Const)))) (aB c19 aN)
            ·refine aP H25 fun y6 h22 H29 => ?_;refine aV H29 (fun c20 H30 => ?_) (fun c21 H31 => ?_)
             ·refine aG H30 fun g4 H32 => ?_;refine b7 0 (ps:=[(x0.map ai).length≤9223372036854775807]) (by kernel_rfl) (fun l2 => ?_);have l3:x0.length≤9223372036854775807:=by simpa only [bB,Kp] using l2
              clear l2;obtain rfl:=sI H32;exact pB 8 [r0 [.v,.c true (.bool y6),.v],.eqT 118 (.bool false),r0 [.v,.v,.b,.ap,.rwH 122 (.row 34 2 ((s2++[(Linear.mk v0 ((x0.getD i2 ⟨0,[]⟩).Terms))]).map ai)),.v],V2] [.only [0,1,4,5,6,7,8,12,13,14,81,82,83,88,89,90] [63,80,122]] (gX x0 x1 y2 y3 y4 i1 s1 (i2+1) (s2++[(Linear.mk v0 ((x0.getD i2 ⟨0,[]⟩).Terms))])) (aC Tryz.call50 (aF (bO _ _ h22) (aT (aM c20 (bF (wD (c:=ai) nR s2 [(Linear.mk v0 ((x0.getD i2 ⟨0,[]⟩).Terms))] 32 (by decide) (by simpa using g4)) (aC (zO 34 2 ai s2 [(Linear.mk v0 ((x0.getD i2 ⟨0,[]⟩).Terms))]) (aH i2 aN)))))))
             ·obtain rfl:=sI H31;obtain rfl:=aR h19;obtain rfl:=sI (aA H23);obtain rfl:=aR h14;obtain rfl:=sI (aA H22);exact pR 8 [r0 [.v,.c true (.bool y6),.v],.eqT 118 (.bool true),V2] [.wk 4 []] [] (aC Tryz.call50 (aF (bO _ _ h22) (aT (aM c21 aN))))
          ·subst e4;have H33:=bp H23;refine aP H33 fun y7 h23 H34 => ?_;refine aV H34 (fun c22 H35 => ?_) (fun c23 H36 => ?_)
           ·refine pA 11 [.rg 0 [] [.v,.v,.fz 122,.c true (.tup [.dslice (y7.1.map al),.int .i64 y7.2.1,.agg [.dslice (y7.2.2.1.Mults.map ag),.int .i64 y7.2.2.1.Mod],.int .i64 y7.2.2.2]),.v,.v,.v,.v,.v,.m,.v,.v,.m,.v],.rg 0 [] [.v,.v],.eqT 133 (.bool false),.rg 0 [] [.v,.e (.int .i64 ((y7.1.length:Nat):Int)),.v]] [.only [0,1,4,5,6,7,8,12,13,81,82,83,135,136,137] [63,80]] 10 [false] (ic x0 x1 y2 y3 y4 i1 y7 0 s1) (aC Tryz.call9 (aF (bS _ _ _ h23) (aM c22 (aT (aC (aJ al y7.1) aN))))) ?_;refine aP H35 fun R3 h24 H37 => ?_;refine pJ 2 (kN x0 x1 y2 y3 y4 i1) R3 ?_ (fun u2 e6 => ?_)
            ·refine pC (ic x0 x1 y2 y3 y4 i1 y7) h24 (fun i3 s3 h25 e7 => ?_) (fun i3 s3 h26 q3 h27 h28 => ?_)
             ·have c24:=lF i3 y7.1.length (by omega);subst e7;exact pB 5 [r0 [.e (.bool false)]] [.only [0,1,4,5,6,7,8,81,82,83] [63,80]] (kN x0 x1 y2 y3 y4 i1 s3) (aB c24 aN)
             ·have c25:=lT i3 y7.1.length (by omega);refine aP h27 fun y8 h29 H38 => ?_;refine pA 16 [r0 [.e (.bool true)],r0 [.e (.dptr (al (y7.1.getD i3 (⟨0,[],⟨0,[]⟩,⟨[],[]⟩,[]⟩)))),.v,.m,.m],r0 [.v,.v,.v,.c true (.tup [iI y8.1,.bool y8.2]),.v,.v,.v,.v,.v],V4,V3] [.only [0,1,4,5,6,7,8,12,13,24,26,81,82,83,135,136,137,151] [63,80]] 16 [true] ⟨196,[(0,dS ai x0),(1,dS ai x1),(4,.eslice),(5,iI 0),(6,iI (aD (y2+1))),(7,dS bn y3),(8,.rslice 63),(12,nI i1),(13,.str ((([[]]:List aw)++y4).getD i1 [])),(24,iI y8.1),(26,iI (((y7.1.getD i3 (⟨0,[],⟨0,[]⟩,⟨[],[]⟩,[]⟩)).Dim).Const)),(81,.rslice 80),(82,iI (((([[]]:List aw)++y4).length:Nat):Int)),(83,nI i1),(135,dS al y7.1),(136,nI y7.1.length),(137,nI i3),(151,.bool (((i1:Nat):Int)==0))],[(63,.row 41 7 (s3.map cn)),(80,.row 9 1 ((([[]]:List aw)++y4).map bn))]⟩ (aB c25 (aI aQ y7.1 i3 (⟨0,[],⟨0,[]⟩,⟨[],[]⟩,[]⟩) (aC Tryz.call32 (aF (p7 y3 ((y7.1.getD i3 (⟨0,[],⟨0,[]⟩,⟨[],[]⟩,[]⟩)).Var) y8 h29) aN)))) ?_;refine aP H38 fun v1 h30 H39 => ?_;refine dQ 2 (eQ x0 x1 y2 y3 y4 i1 y7 i3 v1) (by kernel_rfl) ?_ ?_
              ·refine aV h30 (fun c26 H40 => ?_) (fun c27 H41 => ?_)
               ·refine aG H40 fun g5 H42 => ?_;refine aG H42 fun g6 H43 => ?_;obtain rfl:=sI H43;exact pB 3 [.eqT 151 (.bool true),r0 (V 6 [.rs y8.1.toNat 2,.rwH 63 (.row 41 7 ((s3.set y8.1.toNat (Bind.mk ((s3.getD y8.1.toNat (⟨0,[],⟨0,[]⟩,⟨[],[]⟩,[]⟩)).Kind) ((s3.getD y8.1.toNat (⟨0,[],⟨0,[]⟩,⟨[],[]⟩,[]⟩)).Var) (Linear.mk (((y7.1.getD i3 (⟨0,[],⟨0,[]⟩,⟨[],[]⟩,[]⟩)).Dim).Const) (((s3.getD y8.1.toNat (⟨0,[],⟨0,[]⟩,⟨[],[]⟩,[]⟩)).Dim).Terms)) (Shape.mk (((s3.getD y8.1.toNat (⟨0,[],⟨0,[]⟩,⟨[],[]⟩,[]⟩)).Row).Row) (((s3.getD y8.1.toNat (⟨0,[],⟨0,[]⟩,⟨[],[]⟩,[]⟩)).Row).Dims)) ((s3.getD y8.1.toNat (⟨0,[],⟨0,[]⟩,⟨[],[]⟩,[]⟩)).Elem))).map cn))])] [.only [0,1,4,5,6,7,8,12,13,81,82,83,135,136,137] [63,80]] (eQ x0 x1 y2 y3 y4 i1 y7 i3 (s3.set y8.1.toNat (Bind.mk ((s3.getD y8.1.toNat (⟨0,[],⟨0,[]⟩,⟨[],[]⟩,[]⟩)).Kind) ((s3.getD y8.1.toNat (⟨0,[],⟨0,[]⟩,⟨[],[]⟩,[]⟩)).Var) (Linear.mk (((y7.1.getD i3 (⟨0,[],⟨0,[]⟩,⟨[],[]⟩,[]⟩)).Dim).Const) (((s3.getD y8.1.toNat (⟨0,[],⟨0,[]⟩,⟨[],[]⟩,[]⟩)).Dim).Terms)) (Shape.mk (((s3.getD y8.1.toNat (⟨0,[],⟨0,[]⟩,⟨[],[]⟩,[]⟩)).Row).Row) (((s3.getD y8.1.toNat (⟨0,[],⟨0,[]⟩,⟨[],[]⟩,[]⟩)).Row).Dims)) ((s3.getD y8.1.toNat (⟨0,[],⟨0,[]⟩,⟨[],[]⟩,[]⟩)).Elem)))) (aB c26 (aC (show (0:Int)≤y8.1∧y8.1<((s3.map cn).length:Int) from by rw [Kp];exact g5) (aC (gR (f:=cn) (l:=s3) (n:=y8.1.toNat) 7 2 1 (by omega) (by decide)) (aC (r7 (f:=cn) 41 7 s3 y8.1.toNat (⟨0,[],⟨0,[]⟩,⟨[],[]⟩,[]⟩) (Bind.mk ((s3.getD y8.1.toNat (⟨0,[],⟨0,[]⟩,⟨[],[]⟩,[]⟩)).Kind) ((s3.getD y8.1.toNat (⟨0,[],⟨0,[]⟩,⟨[],[]⟩,[]⟩)).Var) (Linear.mk (((y7.1.getD i3 (⟨0,[],⟨0,[]⟩,⟨[],[]⟩,[]⟩)).Dim).Const) (((s3.getD y8.1.toNat (⟨0,[],⟨0,[]⟩,⟨[],[]⟩,[]⟩)).Dim).Terms)) (Shape.mk (((s3.getD y8.1.toNat (⟨0,[],⟨0,[]⟩,⟨[],[]⟩,[]⟩)).Row).Row) (((s3.getD y8.1.toNat (⟨0,[],⟨0,[]⟩,⟨[],[]⟩,[]⟩)).Row).Dims)) ((s3.getD y8.1.toNat (⟨0,[],⟨0,[]⟩,⟨[],[]⟩,[]⟩)).Elem)) 2 [iI (((y7.1.getD i3 (⟨0,[],⟨0,[]⟩,⟨[],[]⟩,[]⟩)).Dim).Const)] (by omega) rfl) aN))))
               ·refine aV H41 (fun c28 H44 => ?_) (fun c29 H45 => ?_)
                ·refine cK H44 fun e8 => ?_;subst e8;exact pB 7 [.eqT 151 (.bool false),V3,.eqT 160 (.bool false)] [.only [0,1,4,5,6,7,8,12,13,81,82,83,135,136,137] [63,80]] (eQ x0 x1 y2 y3 y4 i1 y7 i3 s3) (aB c27 (aM c28 aN))
                ·refine aG H45 fun g7 H46 => ?_;refine aG H46 fun g8 H47 => ?_;refine aG H47 fun g9 H48 => ?_;obtain rfl:=sI H48;exact pB 7 [.eqT 151 (.bool false),V3,.eqT 160 (.bool true),r0 (V 7 [.rl y8.1.toNat 3 (Jh aj (((s3.getD y8.1.toNat (⟨0,[],⟨0,[]⟩,⟨[],[]⟩,[]⟩)).Dim).Terms)),.v,.v,.b,.b,.rwT 170 .eslice,.er 170 175 88 2,.ap,.rwH 175 (.row 88 2 ([(ak.mk ((([[]]:List aw)++y4).getD i1 []) (((y7.1.getD i3 (⟨0,[],⟨0,[]⟩,⟨[],[]⟩,[]⟩)).Dim).Const))].map aj)),.v,.v,.v,.fz 175,.rs y8.1.toNat 3,.rwH 63 (.row 41 7 ((s3.set y8.1.toNat (Bind.mk ((s3.getD y8.1.toNat (⟨0,[],⟨0,[]⟩,⟨[],[]⟩,[]⟩)).Kind) ((s3.getD y8.1.toNat (⟨0,[],⟨0,[]⟩,⟨[],[]⟩,[]⟩)).Var) (Linear.mk (((s3.getD y8.1.toNat (⟨0,[],⟨0,[]⟩,⟨[],[]⟩,[]⟩)).Dim).Const) [(ak.mk ((([[]]:List aw)++y4).getD i1 []) (((y7.1.getD i3 (⟨0,[],⟨0,[]⟩,⟨[],[]⟩,[]⟩)).Dim).Const))]) (Shape.mk (((s3.getD y8.1.toNat (⟨0,[],⟨0,[]⟩,⟨[],[]⟩,[]⟩)).Row).Row) (((s3.getD y8.1.toNat (⟨0,[],⟨0,[]⟩,⟨[],[]⟩,[]⟩)).Row).Dims)) ((s3.getD y8.1.toNat (⟨0,[],⟨0,[]⟩,⟨[],[]⟩,[]⟩)).Elem))).map cn))])] [.only [0,1,4,5,6,7,8,12,13,81,82,83,135,136,137] [63,80]] (eQ x0 x1 y2 y3 y4 i1 y7 i3 (s3.set y8.1.toNat (Bind.mk ((s3.getD y8.1.toNat (⟨0,[],⟨0,[]⟩,⟨[],[]⟩,[]⟩)).Kind) ((s3.getD y8.1.toNat (⟨0,[],⟨0,[]⟩,⟨[],[]⟩,[]⟩)).Var) (Linear.mk (((s3.getD y8.1.toNat (⟨0,[],⟨0,[]⟩,⟨[],[]⟩,[]⟩)).Dim).Const) [(ak.mk ((([[]]:List aw)++y4).getD i1 []) (((y7.1.getD i3 (⟨0,[],⟨0,[]⟩,⟨[],[]⟩,[]⟩)).Dim).Const))]) (Shape.mk (((s3.getD y8.1.toNat (⟨0,[],⟨0,[]⟩,⟨[],[]⟩,[]⟩)).Row).Row) (((s3.getD y8.1.toNat (⟨0,[],⟨0,[]⟩,⟨[],[]⟩,[]⟩)).Row).Dims)) ((s3.getD y8.1.toNat (⟨0,[],⟨0,[]⟩,⟨[],[]⟩,[]⟩)).Elem)))) (aB c27 (aM c29 (aC (show (0:Int)≤y8.1∧y8.1<((s3.map cn).length:Int) from by rw [Kp];exact g7) (aC (gR (f:=cn) (l:=s3) (n:=y8.1.toNat) 7 3 1 (by omega) (by decide)) (aC (sZ (f:=cn) (l:=s3) (n:=y8.1.toNat) (⟨0,[],⟨0,[]⟩,⟨[],[]⟩,[]⟩) 3 (by omega)) (aC (congrArg (Jh aj) g9) (bF (wD (c:=aj) gO [] [(ak.mk ((([[]]:List aw)++y4).getD i1 []) (((y7.1.getD i3 (⟨0,[],⟨0,[]⟩,⟨[],[]⟩,[]⟩)).Dim).Const))] 24 (by decide) (by simp)) (aC (IE 88 2 aj [(ak.mk ((([[]]:List aw)++y4).getD i1 []) (((y7.1.getD i3 (⟨0,[],⟨0,[]⟩,⟨[],[]⟩,[]⟩)).Dim).Const))]) (aC (show (0:Int)≤y8.1∧y8.1<((s3.map cn).length:Int) from by rw [Kp];exact g7) (aC (gR (f:=cn) (l:=s3) (n:=y8.1.toNat) 7 3 1 (by omega) (by decide)) (aC (r7 (f:=cn) 41 7 s3 y8.1.toNat (⟨0,[],⟨0,[]⟩,⟨[],[]⟩,[]⟩) (Bind.mk ((s3.getD y8.1.toNat (⟨0,[],⟨0,[]⟩,⟨[],[]⟩,[]⟩)).Kind) ((s3.getD y8.1.toNat (⟨0,[],⟨0,[]⟩,⟨[],[]⟩,[]⟩)).Var) (Linear.mk (((s3.getD y8.1.toNat (⟨0,[],⟨0,[]⟩,⟨[],[]⟩,[]⟩)).Dim).Const) [(ak.mk ((([[]]:List aw)++y4).getD i1 []) (((y7.1.getD i3 (⟨0,[],⟨0,[]⟩,⟨[],[]⟩,[]⟩)).Dim).Const))]) (Shape.mk (((s3.getD y8.1.toNat (⟨0,[],⟨0,[]⟩,⟨[],[]⟩,[]⟩)).Row).Row) (((s3.getD y8.1.toNat (⟨0,[],⟨0,[]⟩,⟨[],[]⟩,[]⟩)).Row).Dims)) ((s3.getD y8.1.toNat (⟨0,[],⟨0,[]⟩,⟨[],[]⟩,[]⟩)).Elem)) 3 [.dslice ([(ak.mk ((([[]]:List aw)++y4).getD i1 []) (((y7.1.getD i3 (⟨0,[],⟨0,[]⟩,⟨[],[]⟩,[]⟩)).Dim).Const))].map aj)] (by omega) rfl) aN)))))))))))
              ·refine b7 135 (ps:=[(y7.1.map al).length≤9223372036854775807]) (by kernel_rfl) (fun l4 => ?_);have l5:y7.1.length≤9223372036854775807:=by simpa only [bB,Kp] using l4
               clear l4;obtain rfl:=sI H39;exact pB 1 [V2] [.only [0,1,4,5,6,7,8,12,13,81,82,83,135,136,137] [63,80]] (ic x0 x1 y2 y3 y4 i1 y7 (i3+1) v1) (aH i3 aN)
            ·subst e6;have H49:=bI H37;refine tT 80 (n:=((([[]]:List aw)++y4).map bn).length) (by kernel_rfl) (fun l6 => ?_);have l7:(([[]]:List aw)++y4).length≤9223372036854775807:=by simpa only [Kp] using l6
             clear l6;obtain rfl:=sI H49;exact pB 1 [V2] [.only [0,1,4,5,6,7,8,81,82,83] [63,80]] (gW x0 x1 y2 y3 y4 (i1+1) u2) (aH i1 aN)
           ·obtain rfl:=sI H36;obtain rfl:=aR h14;obtain rfl:=sI (aA H22);exact pR 10 [r0 [.v,.v,.fz 122,.c true (.tup [dS al y7.1,iI y7.2.1,.agg [dS ag y7.2.2.1.Mults,iI y7.2.2.1.Mod],iI y7.2.2.2]),.v,.v,.v,.v,.v,.m,.v,.v,.m,.v],V2,.eqT 133 (.bool true),V3] [.wk 4 []] [] (aC Tryz.call9 (aF (bS _ _ _ h23) (aM c23 aN)))
        ·subst e2;have H50:=bp H22;refine pA 4 [r0 [.ezr 63,.rwH 63 (.row 41 7 (u3.map al)),.v,.e (nI u3.length),.v]] [.only [4,5,8,181,182,183] [63]] 4 [] (gA u3 0 ()) (aC (Il 41 7 Ed u3) (aT (aC (aJ al u3) aN))) ?_;refine aP H50 fun R4 h31 H51 => ?_;refine pJ 1 (kr u3) R4 ?_ (fun u4 e9 => ?_)
         ·refine pC (gA u3) h31 (fun i4 s4 h32 e10 => ?_) (fun i4 s4 h33 q4 h34 h35 => ?_)
          ·have c30:=lF i4 u3.length (by omega);subst e10;exact pB 5 [r0 [.e (.bool false)]] [.only [4,5,8] [63]] (kr u3 ()) (aB c30 aN)
          ·have c31:=lT i4 u3.length (by omega);refine aP h34 fun y9 h36 H52 => ?_;refine pA 11 [r0 [.e (.bool true)],r0 [.v,.rl i4 0 (.agg (al (u3.getD i4 (⟨0,[],⟨0,[]⟩,⟨[],[]⟩,[]⟩)))),.m,.m],r0 [.v,.v,.c true (.bool y9),.v]] [.only [4,5,8,181,182,183,190] [63]] 11 [true] ⟨196,[(4,.eslice),(5,iI 0),(8,.rslice 63),(181,.rslice 63),(182,nI u3.length),(183,nI i4),(190,.bool (!y9))],[(63,.row 41 7 (u3.map al))]⟩ (aB c31 (aC (show (0:Int)≤((i4:Nat):Int)∧((i4:Nat):Int)<((u3.map al).length:Int) from by rw [Kp];omega) (aC (gR (f:=al) (l:=u3) (n:=i4) 7 0 7 (by omega) (by decide)) (aC (Ew (f:=al) (l:=u3) (n:=i4) (⟨0,[],⟨0,[]⟩,⟨[],[]⟩,[]⟩) 0 7 (by omega)) (aC Tryz.call50 (aF (bO _ _ h36) (aT aN))))))) ?_;refine aV H52 (fun c32 H53 => ?_) (fun c33 H54 => ?_)
           ·refine tT 63 (n:=(u3.map al).length) (by kernel_rfl) (fun l8 => ?_);have l9:u3.length≤9223372036854775807:=by simpa only [Kp] using l8
            clear l8;obtain rfl:=sI H53;exact pB 4 [.eqT 190 (.bool false),V2] [.only [4,5,8,181,182,183] [63]] (gA u3 (i4+1) ()) (aM c32 (aH i4 aN))
           ·obtain rfl:=sI H54;obtain rfl:=aR h35;obtain rfl:=sI (aA H51);exact pR 5 [.eqT 190 (.bool true),V2] [.wk 4 []] [] (aM c33 aN)
         ·subst e9;have H55:=bp H51;refine aV H55 (fun c34 H56 => ?_) (fun c35 H57 => ?_)
          ·obtain rfl:=sI H56;exact pR 8 [r0 [.v,.e (nI u3.length),.v],.eqT 194 (.bool true),V2] [.wk 4 []] [] (aT (aC (aJ al u3) (aB c34 aN)))
          ·obtain rfl:=sI H57;exact pR 9 [r0 [.v,.e (nI u3.length),.v],.eqT 194 (.bool false),V3] [.fz 63] [] (aT (aC (aJ al u3) (aB c35 aN)))
     ·obtain rfl:=sI H11;exact pR 9 [.eqT 29 (.bool false),r0 [.v,.e (nI x0.length),.v,.e (nI x1.length),.v,.v],.eqT 48 (.bool true),V2] [.wk 4 []] [] (aB c7 (aT (aC (aJ ai x0) (aT (aC (aJ ai x1) (aM c9 aN))))))
  ·obtain rfl:=sI H5;exact pR 10 [V2,r0 [.v,.c true (.bool true),.v,.v,.v,.c true (.bool false),.v,.v,.v,.s,.s,.s,.v,.v,.s,.s,.s,.v,.v],V2] [.wk 4 []] [] (aC Tryz.call27 (aC (bW.eq (aW _ _ h0) (cB c0)) (aT (aC Tryz.call27 (aC (bW.eq (aW _ _ h1) (cB c3)) (aT aN))))))
 ·obtain rfl:=sI H2;exact pR 10 [V2,r0 [.v,.c true (.bool false),.v,.v,.s,.s,.s,.v,.v,.s,.s,.s,.v,.v,.s,.s,.s,.v,.v],V2] [.wk 4 []] [] (aC Tryz.call27 (aC (bW.eq (aW _ _ h0) (cB c1)) (aT aN)))
def iw (x0:Int):Option Bool :=
 bif decide (x0≥(-1000000)) then (
  some (decide (x0≤1000000))
 ) else (
  some false
 )
theorem fG (x0:Int) (r:Bool) (H:iw x0=some r):bW Tryz.prog 69 [iI x0] (.bool r):=by
 unfold iw at H;refine aX Tryz.func69 9 [.tmp 2] ?_;refine aV H (fun c0 H0 => ?_) (fun c1 H1 => ?_)
 ·obtain rfl:=sI H0;exact pR 5 [V1,r0 [.v,.e (.bool true),.v,.v,.v,.v,.v]] [] [] (aB c0 aN)
 ·obtain rfl:=sI H1;exact pR 5 [V1,r0 [.v,.e (.bool false),.v,.s,.s,.v,.v]] [] [] (aB c1 aN)
def iv (x0:UInt8):Option Bool :=
 bif decide (((x0).toNat:Int)≥48) then (
  some (decide (((x0).toNat:Int)≤57))
 ) else (
  some false
 )
theorem mA (x0:UInt8) (r:Bool) (H:iv x0=some r):bW Tryz.prog 114 [.int .u8 ((x0).toNat:Int)] (.bool r):=by
 unfold iv at H;refine aX Tryz.func114 9 [.tmp 2] ?_;refine aV H (fun c0 H0 => ?_) (fun c1 H1 => ?_)
 ·obtain rfl:=sI H0;exact pR 5 [V1,r0 [.v,.e (.bool true),.v,.v,.v,.v,.v]] [] [] (aB c0 aN)
 ·obtain rfl:=sI H1;exact pR 5 [V1,r0 [.v,.e (.bool false),.v,.s,.s,.v,.v]] [] [] (aB c1 aN)
def iW (x0:UInt8):Option Bool :=
 bif decide (((x0).toNat:Int)≥97) then (
  some (decide (((x0).toNat:Int)≤122))
 ) else (
  some false
 )
theorem kG (x0:UInt8) (r:Bool) (H:iW x0=some r):bW Tryz.prog 115 [.int .u8 ((x0).toNat:Int)] (.bool r):=by
 unfold iW at H;refine aX Tryz.func115 9 [.tmp 2] ?_;refine aV H (fun c0 H0 => ?_) (fun c1 H1 => ?_)
 ·obtain rfl:=sI H0;exact pR 5 [V1,r0 [.v,.e (.bool true),.v,.v,.v,.v,.v]] [] [] (aB c0 aN)
 ·obtain rfl:=sI H1;exact pR 5 [V1,r0 [.v,.e (.bool false),.v,.s,.s,.v,.v]] [] [] (aB c1 aN)
def kS (x0:aw):Option Bool :=
 bif (((x0.length:Nat):Int)==0) then (
  some false
 ) else (
  bif decide (((x0.length:Nat):Int)>30) then (
   some false
  ) else (
   bH (0<x0.length) <|
   bif (((x0.getD 0 0).toNat:Int)==95) then (
    bif decide (((x0.length:Nat):Int)<2) then (
     some false
    ) else (
     bif decide (((x0.length:Nat):Int)>10) then (
      some false
     ) else (
      bH (1<x0.length) <|
      bif (((x0.getD 1 0).toNat:Int)==48) then (
       some false
      ) else (
       (dZ (σ:=Unit) (ε:=Unit) (ρ:=Bool) (fun i0 s0 =>
        (iv (x0.getD i0 0)).bind fun y0 =>
        bif y0 then (
         some (.go ())
        ) else (
         some (.ret false)
        )
       ) (fun i0 s0=>()) (x0.length-1) 1 ()).bind <| aft fun u0 =>
       some true
      )
     )
    )
   ) else (
    (dZ (σ:=Unit) (ε:=Unit) (ρ:=Bool) (fun i1 s1 =>
     (iW (x0.getD i1 0)).bind fun y1 =>
     ((
      bif y1 then (
       some (.brk ())
      ) else (
       bif (((i1:Nat):Int)==0) then (
        some (.ret (.ret false))
       ) else (
        (iv (x0.getD i1 0)).bind fun y2 =>
        bif y2 then (
         some (.brk ())
        ) else (
         some (.ret (.ret false))
        )
       )
      )
     ):Option (Out Unit (fX Unit Unit Bool))).bind (aft fun u1 =>
      some (.go ())
     )
    ) (fun i1 s1=>()) (x0.length-0) 0 ()).bind <| aft fun u2 =>
    some true
   )
  )
 )
def mC (x0:aw) (i0:Nat) (s0:Unit):AS:=⟨62,[(0,.str x0),(2,.bool false),(3,nI i0)],[]⟩
def p9 (x0:aw) (u3:Unit):AS:=⟨62,[(0,.str x0),(2,.bool false)],[]⟩
def mr (x0:aw) (i1:Nat) (s1:Unit):AS:=⟨62,[(0,.str x0),(2,.bool false),(4,nI i1)],[]⟩
def qh (u4:Unit):AS:=⟨62,[(2,.bool false)],[]⟩
def mz (x0:aw) (i1:Nat) (u1:Unit):AS:=⟨62,[(0,.str x0),(2,.bool false),(4,nI i1)],[]⟩
theorem je (x0:aw) (r:Bool) (H:kS x0=some r):bW Tryz.prog 70 [.str x0] (.bool r):=by
 unfold kS at H;refine aX Tryz.func70 62 [.tmp 2] ?_;refine aV H (fun c0 H0 => ?_) (fun c1 H1 => ?_)
 ·obtain rfl:=sI H0;exact pR 9 [V1,r0 [.v,.v,.e (.bool true),.v,.s,.s,.s,.v],V1] [] [] (aT (aB c0 aN))
 ·refine aV H1 (fun c2 H2 => ?_) (fun c3 H3 => ?_)
  ·obtain rfl:=sI H2;exact pR 10 [V1,r0 [.v,.v,.e (.bool false),.v,.v,.v,.v,.v],.eqT 12 (.bool true),V1] [] [] (aT (aB c1 (aT (aB c2 aN))))
  ·have c3p:=Kl c3;refine aG H3 fun g0 H4 => ?_;refine aV H4 (fun c4 H5 => ?_) (fun c5 H6 => ?_)
   ·refine aV H5 (fun c6 H7 => ?_) (fun c7 H8 => ?_)
    ·have c6p:=Km c6;obtain rfl:=sI H7;exact pR 20 [V1,r0 [.v,.v,.e (.bool false),.v,.v,.v,.v,.v],.eqT 12 (.bool false),V3,.eqT 15 (.bool true),r0 [.v,.v,.e (.bool true),.v,.s,.s,.s,.v,.v,.s,.s,.s,.v],V1] [] [] (aT (aB c1 (aT (aB c3 (aC (show (0:Int)≤0∧0<(x0.length:Int) from by omega) (aB c4 (aT (aB c6 aN))))))))
    ·have c7p:=Kl c7;refine aV H8 (fun c8 H9 => ?_) (fun c9 H10 => ?_)
     ·have c8p:=Km c8;obtain rfl:=sI H9;exact pR 20 [V1,r0 [.v,.v,.e (.bool false),.v,.v,.v,.v,.v],.eqT 12 (.bool false),V3,.eqT 15 (.bool true),r0 [.v,.v,.e (.bool false),.v,.v,.v,.e (.bool true),.v,.v,.s,.s,.s,.v],V1] [] [] (aT (aB c1 (aT (aB c3 (aC (show (0:Int)≤0∧0<(x0.length:Int) from by omega) (aB c4 (aT (aB c7 (aT (aB c8 aN))))))))))
     ·have c9p:=Kl c9;refine aG H10 fun g1 H11 => ?_;refine pA 16 [V1,r0 [.v,.v,.e (.bool false),.v,.v,.v,.v,.v],.eqT 12 (.bool false),V3,.eqT 15 (.bool true),r0 [.v,.v,.e (.bool false),.v,.v,.v,.e (.bool false),.v,.v,.v,.v,.v,.v]] [.only [0,2,28] []] 14 [false,true] ⟨62,[(0,.str x0),(2,.bool false),(28,.bool (((x0.getD 1 0).toNat:Int)==48))],[]⟩ (aT (aB c1 (aT (aB c3 (aC (show (0:Int)≤0∧0<(x0.length:Int) from by omega) (aB c4 (aT (aB c7 (aT (aB c9 (aC (show (0:Int)≤1∧1<(x0.length:Int) from by omega) aN))))))))))) ?_;refine aV H11 (fun c10 H12 => ?_) (fun c11 H13 => ?_)
      ·obtain rfl:=sI H12;exact pR 5 [.eqT 28 (.bool true),V1] [] [] (aB c10 aN)
      ·refine pA 7 [.eqT 28 (.bool false),.rg 0 [] [.v]] [.only [0,2,3] []] 6 [false] (mC x0 1 ()) (aB c11 aN) ?_;refine aP H13 fun R0 h0 H14 => ?_;refine pJ 1 (p9 x0) R0 ?_ (fun u0 e0 => ?_)
       ·refine pC (mC x0) h0 (fun i0 s0 h1 e1 => ?_) (fun i0 s0 h2 q0 h3 h4 => ?_)
        ·have c12:=lF i0 x0.length (by omega);subst e1;exact pB 5 [r0 [.v,.v,.v,.e (.bool false)]] [.only [0,2] []] (p9 x0 ()) (aT (aB c12 aN))
        ·have c13:=lT i0 x0.length (by omega);refine aP h3 fun y0 h5 H15 => ?_;refine aV H15 (fun c14 H16 => ?_) (fun c15 H17 => ?_)
         ·refine b7 0 (ps:=[x0.length≤9223372036854775807]) (by kernel_rfl) (fun l0 => ?_);have l1:x0.length≤9223372036854775807:=by simpa only [bB,Kp] using l0
          clear l0;obtain rfl:=sI H16;exact pB 13 [r0 [.v,.v,.v,.e (.bool true)],r0 [.v,.v,.v,.c true (.bool y0),.v],.eqT 39 (.bool false),V3] [.only [0,2,3] []] (mC x0 (i0+1) ()) (aT (aB c13 (aC (show (0:Int)≤((i0:Nat):Int)∧((i0:Nat):Int)<(x0.length:Int) from by omega) (aC Tryz.call114 (aF (mA _ _ h5) (aT (aM c14 (aH i0 aN))))))))
         ·obtain rfl:=sI H17;obtain rfl:=aR h4;obtain rfl:=sI (aA H14);exact pR 14 [r0 [.v,.v,.v,.e (.bool true)],r0 [.v,.v,.v,.c true (.bool y0),.v],.eqT 39 (.bool true),V1] [] [] (aT (aB c13 (aC (show (0:Int)≤((i0:Nat):Int)∧((i0:Nat):Int)<(x0.length:Int) from by omega) (aC Tryz.call114 (aF (mA _ _ h5) (aT (aM c15 aN)))))))
       ·subst e0;have H18:=bp H14;obtain rfl:=sI H18;exact pR 3 [V1] [] [] aN
   ·refine pA 18 [.rg 0 [] [.v],.rg 0 [] [.v,.v,.e (.bool false),.v,.v,.v,.v,.v],.eqT 12 (.bool false),.rg 0 [] [.v,.v,.v],.eqT 15 (.bool false),.rg 0 [] [.v]] [.only [0,2,4] []] 16 [false,false] (mr x0 0 ()) (aT (aB c1 (aT (aB c3 (aC (show (0:Int)≤0∧0<(x0.length:Int) from by omega) (aB c5 aN)))))) ?_;refine aP H6 fun R1 h6 H19 => ?_;refine pJ 1 (qh) R1 ?_ (fun u2 e2 => ?_)
    ·refine pC (mr x0) h6 (fun i1 s1 h7 e3 => ?_) (fun i1 s1 h8 q1 h9 h10 => ?_)
     ·have c16:=lF i1 x0.length (by omega);subst e3;exact pB 5 [r0 [.v,.v,.v,.e (.bool false)]] [.only [2] []] (qh ()) (aT (aB c16 aN))
     ·have c17:=lT i1 x0.length (by omega);refine aP h9 fun y1 h11 H20 => ?_;refine pA 8 [r0 [.v,.v,.v,.e (.bool true)]] [.only [0,2,4] []] 8 [true] ⟨62,[(0,.str x0),(2,.bool false),(4,nI i1)],[]⟩ (aT (aB c17 aN)) ?_;refine aP H20 fun v0 h12 H21 => ?_;refine pJ 2 (mz x0 i1) v0 ?_ (fun u1 e4 => ?_)
      ·refine aV h12 (fun c18 H22 => ?_) (fun c19 H23 => ?_)
       ·obtain rfl:=sI H22;exact pB 3 [r0 [.v,.v,.v,.c true (.bool true),.v,.v,.s,.s,.s,.s,.s,.s,.s,.s,.s,.v]] [.only [0,2,4] []] (mz x0 i1 ()) (aC (show (0:Int)≤((i1:Nat):Int)∧((i1:Nat):Int)<(x0.length:Int) from by omega) (aC Tryz.call115 (aC (bW.eq (kG _ _ h11) (cB c18)) (aT aN))))
       ·refine aV H23 (fun c20 H24 => ?_) (fun c21 H25 => ?_)
        ·obtain rfl:=sI H24;obtain rfl:=sI (aA H21);obtain rfl:=aR h10;obtain rfl:=sI (aA H19);exact pR 5 [r0 [.v,.v,.v,.c true (.bool false),.v,.v,.v,.e (.bool true),.v,.s,.s,.s,.s,.s,.v,.v],V1] [] [] (aC (show (0:Int)≤((i1:Nat):Int)∧((i1:Nat):Int)<(x0.length:Int) from by omega) (aC Tryz.call115 (aC (bW.eq (kG _ _ h11) (cB c19)) (aT (aB c20 aN)))))
        ·refine aP H25 fun y2 h13 H26 => ?_;refine pA 1 [r0 [.v,.v,.v,.c true (.bool false),.v,.v,.v,.e (.bool false),.v,.v,.v,.v,.c true (.bool y2),.v,.v,.v]] [.only [0,2,4,61] []] 1 [] ⟨62,[(0,.str x0),(2,.bool false),(4,nI i1),(61,.bool (!y2))],[]⟩ (aC (show (0:Int)≤((i1:Nat):Int)∧((i1:Nat):Int)<(x0.length:Int) from by omega) (aC Tryz.call115 (aC (bW.eq (kG _ _ h11) (cB c19)) (aT (aB c21 (aC (show (0:Int)≤((i1:Nat):Int)∧((i1:Nat):Int)<(x0.length:Int) from by omega) (aC Tryz.call114 (aF (mA _ _ h13) (aT aN))))))))) ?_;refine aV H26 (fun c22 H27 => ?_) (fun c23 H28 => ?_)
         ·obtain rfl:=sI H27;exact pB 3 [.eqT 61 (.bool false)] [.only [0,2,4] []] (mz x0 i1 ()) (aM c22 aN)
         ·obtain rfl:=sI H28;obtain rfl:=sI (aA H21);obtain rfl:=aR h10;obtain rfl:=sI (aA H19);exact pR 5 [.eqT 61 (.bool true),V1] [] [] (aM c23 aN)
      ·subst e4;have H29:=bp H21;refine b7 0 (ps:=[x0.length≤9223372036854775807]) (by kernel_rfl) (fun l2 => ?_);have l3:x0.length≤9223372036854775807:=by simpa only [bB,Kp] using l2
       clear l2;obtain rfl:=sI H29;exact pB 1 [V3] [.only [0,2,4] []] (mr x0 (i1+1) ()) (aH i1 aN)
    ·subst e2;have H30:=bp H19;obtain rfl:=sI H30;exact pR 3 [V1] [] [] aN
def iy (x0:Linear):Option Bool :=
 (iw x0.Const).bind fun y0 =>
 bif y0 then (
  bif decide (((x0.Terms.length:Nat):Int)>12) then (
   some false
  ) else (
   (dZ (σ:=Unit) (ε:=Unit) (ρ:=Bool) (fun i0 s0 =>
    (kS ((x0.Terms.getD i0 ⟨[],0⟩).Var)).bind fun y1 =>
    ((
     bif y1 then (
      bif (((x0.Terms.getD i0 ⟨[],0⟩).C)==0) then (
       some (.ret (.ret false))
      ) else (
       (iw ((x0.Terms.getD i0 ⟨[],0⟩).C)).bind fun y2 =>
       bif y2 then (
        bif decide (((i0:Nat):Int)>0) then (
         bH (0≤(aD (((i0:Nat):Int)-1))∧(aD (((i0:Nat):Int)-1))<(x0.Terms.length:Int)) <|
         bif (Op.bytesLess ((x0.Terms.getD (aD (((i0:Nat):Int)-1)).toNat ⟨[],0⟩).Var) ((x0.Terms.getD i0 ⟨[],0⟩).Var)) then (
          some (.brk ())
         ) else (
          some (.ret (.ret false))
         )
        ) else (
         some (.brk ())
        )
       ) else (
        some (.ret (.ret false))
       )
      )
     ) else (
      some (.ret (.ret false))
     )
    ):Option (Out Unit (fX Unit Unit Bool))).bind (aft fun u0 =>
     some (.go ())
    )
   ) (fun i0 s0=>()) (x0.Terms.length-0) 0 ()).bind <| aft fun u1 =>
   some true
  )
 ) else (
  some false
 )
def kH (x0:Linear) (i0:Nat) (s0:Unit):AS:=⟨58,[(1,.hptr 1 0),(2,.bool false),(3,nI i0)],[(1,.cells 34 [iI x0.Const,dS aj x0.Terms])]⟩
def o9 (u2:Unit):AS:=⟨58,[(2,.bool false)],[]⟩
def lz (x0:Linear) (i0:Nat) (u0:Unit):AS:=⟨58,[(1,.hptr 1 0),(2,.bool false),(3,nI i0)],[(1,.cells 34 [iI x0.Const,dS aj x0.Terms])]⟩
theorem mB (x0:Linear) (r:Bool) (H:iy x0=some r):bW Tryz.prog 36 [.agg [iI x0.Const,dS aj x0.Terms]] (.bool r):=by
 unfold iy at H;refine aX Tryz.func36 58 [.tmp 2] ?_;refine aP H fun y0 h0 H0 => ?_;refine aV H0 (fun c0 H1 => ?_) (fun c1 H2 => ?_)
 ·refine aV H1 (fun c2 H3 => ?_) (fun c3 H4 => ?_)
  ·obtain rfl:=sI H3;exact pR 10 [r0 [.m,.v],r0 [.v,.v,.c true (.bool true),.v,.v,.v,.v,.e (nI x0.Terms.length),.v,.v],.eqT 14 (.bool true),V1] [] [] (aC Tryz.call69 (aC (bW.eq (fG _ _ h0) (cB c0)) (aT (aT (aC (aJ aj x0.Terms) (aB c2 aN))))))
  ·have c3p:=Kl c3;refine pA 12 [r0 [.m,.v],r0 [.v,.v,.c true (.bool true),.v,.v,.v,.v,.e (nI x0.Terms.length),.v,.v],.eqT 14 (.bool false),V1] [.only [1,2,3] [1]] 11 [false] (kH x0 0 ()) (aC Tryz.call69 (aC (bW.eq (fG _ _ h0) (cB c0)) (aT (aT (aC (aJ aj x0.Terms) (aB c3 aN)))))) ?_;refine aP H4 fun R0 h1 H5 => ?_;refine pJ 1 (o9) R0 ?_ (fun u1 e0 => ?_)
   ·refine pC (kH x0) h1 (fun i0 s0 h2 e1 => ?_) (fun i0 s0 h3 q0 h4 h5 => ?_)
    ·have c4:=lF i0 x0.Terms.length (by omega);subst e1;exact pB 5 [r0 [.v,.v,.v,.e (nI x0.Terms.length),.e (.bool false)]] [.only [2] []] (o9 ()) (aT (aC (aJ aj x0.Terms) (aB c4 aN)))
    ·have c5:=lT i0 x0.Terms.length (by omega);refine aP h4 fun y1 h6 H6 => ?_;refine pA 10 [r0 [.v,.v,.v,.e (nI x0.Terms.length),.e (.bool true)],r0 [.v,.v,.v,.e (.dptr (aj (x0.Terms.getD i0 ⟨[],0⟩))),.v,.m,.m]] [.only [1,2,3,4] [1,4]] 10 [true] ⟨58,[(1,.hptr 1 0),(2,.bool false),(3,nI i0),(4,.hptr 4 0)],[(1,.cells 34 [iI x0.Const,dS aj x0.Terms]),(4,.cells 88 (aj (x0.Terms.getD i0 ⟨[],0⟩)))]⟩ (aT (aC (aJ aj x0.Terms) (aB c5 (aI bf x0.Terms i0 ⟨[],0⟩ aN)))) ?_;refine aP H6 fun v0 h7 H7 => ?_;refine pJ 2 (lz x0 i0) v0 ?_ (fun u0 e2 => ?_)
     ·refine aV h7 (fun c6 H8 => ?_) (fun c7 H9 => ?_)
      ·refine aV H8 (fun c8 H10 => ?_) (fun c9 H11 => ?_)
       ·obtain rfl:=sI H10;obtain rfl:=sI (aA H7);obtain rfl:=aR h5;obtain rfl:=sI (aA H5);exact pR 5 [.rg 28 [.v,.v,.c true (.bool true),.v,.v,.v,.v,.e (.bool true),.v,.v,.s,.s,.s,.s,.v,.v,.s,.s,.s,.s,.s,.s,.s,.s,.s,.s,.s,.s] [.s,.s,.v],V1] [] [] (aC Tryz.call70 (aC (bW.eq (je _ _ h6) (cB c6)) (aT (aB c8 aN))))
       ·refine aP H11 fun y2 h8 H12 => ?_;refine aV H12 (fun c10 H13 => ?_) (fun c11 H14 => ?_)
        ·refine aV H13 (fun c12 H15 => ?_) (fun c13 H16 => ?_)
         ·refine aG H15 fun g0 H17 => ?_;refine pA 1 [.rg 28 [.v,.v,.c true (.bool true),.v,.v,.v,.v,.e (.bool false),.v,.v,.v,.v,.c true (.bool true),.v,.v,.v,.v,.e (.bool true),.v,.v,.v,.v,.w,.e (.dptr (aj (x0.Terms.getD (aD (((i0:Nat):Int)-1)).toNat ⟨[],0⟩))),.v,.v,.v,.v] [.v,.v,.v]] [.only [1,2,3,57] [1]] 1 [] ⟨58,[(1,.hptr 1 0),(2,.bool false),(3,nI i0),(57,.bool (!(Op.bytesLess ((x0.Terms.getD (aD (((i0:Nat):Int)-1)).toNat ⟨[],0⟩).Var) ((x0.Terms.getD i0 ⟨[],0⟩).Var))))],[(1,.cells 34 [iI x0.Const,dS aj x0.Terms])]⟩ (aC Tryz.call70 (aC (bW.eq (je _ _ h6) (cB c6)) (aT (aB c9 (aC Tryz.call69 (aC (bW.eq (fG _ _ h8) (cB c10)) (aT (aB c12 (bF (GI (f:=aj) (l:=x0.Terms) (n:=(aD (((i0:Nat):Int)-1))) ⟨[],0⟩ bf (by decide) (by exact g0)) aN))))))))) ?_;refine aV H17 (fun c14 H18 => ?_) (fun c15 H19 => ?_)
          ·obtain rfl:=sI H18;exact pB 3 [.eqT 57 (.bool false)] [.only [1,2,3] [1]] (lz x0 i0 ()) (aM c14 aN)
          ·obtain rfl:=sI H19;obtain rfl:=sI (aA H7);obtain rfl:=aR h5;obtain rfl:=sI (aA H5);exact pR 5 [.eqT 57 (.bool true),V1] [] [] (aM c15 aN)
         ·obtain rfl:=sI H16;exact pB 3 [.rg 28 [.v,.v,.c true (.bool true),.v,.v,.v,.v,.e (.bool false),.v,.v,.v,.v,.c true (.bool true),.v,.v,.v,.v,.e (.bool false),.v,.s,.s,.s,.s,.s,.s,.s,.s,.s] [.s,.v,.v]] [.only [1,2,3] [1]] (lz x0 i0 ()) (aC Tryz.call70 (aC (bW.eq (je _ _ h6) (cB c6)) (aT (aB c9 (aC Tryz.call69 (aC (bW.eq (fG _ _ h8) (cB c10)) (aT (aB c13 aN))))))))
        ·obtain rfl:=sI H14;obtain rfl:=sI (aA H7);obtain rfl:=aR h5;obtain rfl:=sI (aA H5);exact pR 5 [.rg 28 [.v,.v,.c true (.bool true),.v,.v,.v,.v,.e (.bool false),.v,.v,.v,.v,.c true (.bool false),.v,.v,.v,.s,.s,.s,.s,.s,.s,.s,.s,.s,.s,.s,.s] [.s,.s,.v],V1] [] [] (aC Tryz.call70 (aC (bW.eq (je _ _ h6) (cB c6)) (aT (aB c9 (aC Tryz.call69 (aC (bW.eq (fG _ _ h8) (cB c11)) (aT aN)))))))
      ·obtain rfl:=sI H9;obtain rfl:=sI (aA H7);obtain rfl:=aR h5;obtain rfl:=sI (aA H5);exact pR 5 [.rg 28 [.v,.v,.c true (.bool false),.v,.v,.s,.s,.s,.v,.v,.s,.s,.s,.s,.v,.v,.s,.s,.s,.s,.s,.s,.s,.s,.s,.s,.s,.s] [.s,.s,.v],V1] [] [] (aC Tryz.call70 (aC (bW.eq (je _ _ h6) (cB c7)) (aT aN)))
     ·subst e2;have H20:=bp H7;refine lZ 1 1 (ps:=[(x0.Terms.map aj).length≤9223372036854775807]) (by kernel_rfl) (fun l0 => ?_);have l1:x0.Terms.length≤9223372036854775807:=by simpa only [bB,Kp] using l0
      clear l0;obtain rfl:=sI H20;exact pB 1 [V3] [.only [1,2,3] [1]] (kH x0 (i0+1) ()) (aH i0 aN)
   ·subst e0;have H21:=bp H5;obtain rfl:=sI H21;exact pR 3 [V1] [] [] aN
 ·obtain rfl:=sI H2;exact pR 9 [r0 [.m,.v],r0 [.v,.v,.c true (.bool false),.v,.v,.s,.s,.s,.s,.v],V1] [] [] (aC Tryz.call69 (aC (bW.eq (fG _ _ h0) (cB c1)) (aT aN)))
def nW (self:Int→Option aw) (x0:Int):Option aw :=
 bif decide (x0<0) then (
  (self (aD (0-x0))).bind fun y0 =>
  bH ([45].length+y0.length≤9223372036854775807) <|
  some ([45]++y0)
 ) else (
  bif decide (x0<10) then (
   bH (0≤x0∧x0≤(aD (x0+1))∧(aD (x0+1))≤([48,49,50,51,52,53,54,55,56,57].length:Int)) <|
   some (([48,49,50,51,52,53,54,55,56,57].drop x0.toNat).take ((aD (x0+1)).toNat-x0.toNat))
  ) else (
   (self (aD (x0.tdiv 10))).bind fun y1 =>
   (self (x0.tmod 10)).bind fun y2 =>
   bH (y1.length+y2.length≤9223372036854775807) <|
   some (y1++y2)
  )
 )
def jo  : Nat→Int→Option aw
 | 0,_=>none
 | fu+1,x0=>nW (jo fu) x0
theorem nX (fuel:Nat):∀ (x0:Int) (r:aw) (H:jo fuel x0=some r),bW Tryz.prog 51 [iI x0] (.str r):=by
 induction fuel with
 | zero=>intros;contradiction
 | succ fu ih =>
 intro x0 r H;have H:nW (jo fu) x0=some r:=H;unfold nW at H;refine aX Tryz.func51 22 [.tmp 2] ?_;refine aV H (fun c0 H0 => ?_) (fun c1 H1 => ?_)
 ·refine aP H0 fun y0 h0 H2 => ?_;refine aG H2 fun g0 H3 => ?_;obtain rfl:=sI H3;exact pR 10 [V1,V2,.eqT 4 (.bool true),r0 [.v,.w,.c true (.str y0),.v,.v]] [] [] (aB c0 (aC Tryz.call51 (aF (ih (aD (0-x0)) y0 h0) (aC (show [45].length+y0.length≤9223372036854775807 from g0) aN))))
 ·have c1p:=Kl c1;refine aV H1 (fun c2 H4 => ?_) (fun c3 H5 => ?_)
  ·have c2p:=Km c2;refine aG H4 fun g1 H6 => ?_;obtain rfl:=sI H6;exact pR 16 [V1,V2,.eqT 4 (.bool false),V2,.eqT 10 (.bool true),r0 [.v,.v,.w,.v,.v]] [] [] (aB c1 (aB c2 (aC (show (0:Int)≤x0∧x0≤(aD (x0+1))∧(aD (x0+1))≤([48,49,50,51,52,53,54,55,56,57].length:Int) from by omega) aN)))
  ·refine aP H5 fun y1 h1 H7 => ?_;refine aP H7 fun y2 h2 H8 => ?_;refine aG H8 fun g2 H9 => ?_;obtain rfl:=sI H9;exact pR 17 [V1,V2,.eqT 4 (.bool false),V2,.eqT 10 (.bool false),r0 [.v,.w,.c true (.str y1),.v,.v,.c true (.str y2),.v,.v]] [] [] (aB c1 (aB c3 (aC (show (10:Int)≠0 from (by decide)) (aC Tryz.call51 (aF (ih (aD (x0.tdiv 10)) y1 h1) (aC (show (10:Int)≠0 from (by decide)) (aC Tryz.call51 (aF (ih (x0.tmod 10) y2 h2) (aC (show y1.length+y2.length≤9223372036854775807 from g2) aN)))))))))
def dw (x0:Linear):Option aw :=
 (iy x0).bind fun y0 =>
 bif y0 then (
  (dZ (σ:=aw) (ε:=aw) (ρ:=Empty) (fun i0 s0 =>
   ((
    bif decide (((x0.Terms.getD i0 ⟨[],0⟩).C)<0) then (
     bH (s0.length+[45].length≤9223372036854775807) <|
     some ((s0++[45]),(aD (0-((x0.Terms.getD i0 ⟨[],0⟩).C))))
    ) else (
     bif decide (((i0:Nat):Int)>0) then (
      bH (s0.length+[43].length≤9223372036854775807) <|
      some ((s0++[43]),((x0.Terms.getD i0 ⟨[],0⟩).C))
     ) else (
      some (s0,((x0.Terms.getD i0 ⟨[],0⟩).C))
     )
    )
   ):Option (aw×Int)).bind fun v0 =>
   ((
    bif decide (v0.2>1) then (
     (jo 64 v0.2).bind fun y1 =>
     bH (v0.1.length+y1.length≤9223372036854775807) <|
     some (v0.1++y1)
    ) else (
     some v0.1
    )
   ):Option aw).bind fun v1 =>
   bH (v1.length+((x0.Terms.getD i0 ⟨[],0⟩).Var).length≤9223372036854775807) <|
   some (.go (v1++((x0.Terms.getD i0 ⟨[],0⟩).Var)))
  ) (fun i0 s0=>s0) (x0.Terms.length-0) 0 []).bind <| dG fun u0 =>
  bif (((x0.Terms.length:Nat):Int)==0) then (
   (jo 64 x0.Const).bind fun y2 =>
   some y2
  ) else (
   ((
    bif decide (x0.Const>0) then (
     bH (u0.length+[43].length≤9223372036854775807) <|
     some (u0++[43])
    ) else (
     some u0
    )
   ):Option aw).bind fun v2 =>
   bif (x0.Const==0) then (
    some v2
   ) else (
    (jo 64 x0.Const).bind fun y3 =>
    bH (v2.length+y3.length≤9223372036854775807) <|
    some (v2++y3)
   )
  )
 ) else (
  some []
 )
def lD (x0:Linear) (i0:Nat) (s0:aw):AS:=⟨69,[(1,.hptr 1 0),(2,.str []),(3,.str s0),(4,nI i0)],[(1,.cells 34 [iI x0.Const,dS aj x0.Terms])]⟩
def oL (x0:Linear) (u1:aw):AS:=⟨69,[(1,.hptr 1 0),(2,.str []),(3,.str u1)],[(1,.cells 34 [iI x0.Const,dS aj x0.Terms])]⟩
def ja (x0:Linear) (i0:Nat) (v0:aw×Int):AS:=⟨69,[(1,.hptr 1 0),(2,.str []),(3,.str v0.1),(4,nI i0),(5,.hptr 5 0)],[(1,.cells 34 [iI x0.Const,dS aj x0.Terms]),(5,.cells 88 [.str ((x0.Terms.getD i0 ⟨[],0⟩).Var),iI v0.2])]⟩
def k9 (x0:Linear) (i0:Nat) (v0:aw×Int) (v1:aw):AS:=⟨69,[(1,.hptr 1 0),(2,.str []),(3,.str v1),(4,nI i0),(5,.hptr 5 0)],[(1,.cells 34 [iI x0.Const,dS aj x0.Terms]),(5,.cells 88 [.str ((x0.Terms.getD i0 ⟨[],0⟩).Var),iI v0.2])]⟩
def lq (x0:Linear) (v2:aw):AS:=⟨69,[(1,.hptr 1 0),(2,.str []),(3,.str v2)],[(1,.cells 34 [iI x0.Const,dS aj x0.Terms])]⟩
theorem bt (x0:Linear) (r:aw) (H:dw x0=some r):bW Tryz.prog 24 [.agg [iI x0.Const,dS aj x0.Terms]] (.str r):=by
 unfold dw at H;refine aX Tryz.func24 69 [.tmp 2] ?_;refine aP H fun y0 h0 H0 => ?_;refine aV H0 (fun c0 H1 => ?_) (fun c1 H2 => ?_)
 ·refine pA 14 [.rg 0 [] [.m,.v],.rg 0 [] [.v,.c true (.bool y0),.v],.eqT 8 (.bool false),.rg 0 [] [.v],.rg 0 [] [.v]] [.only [1,2,3,4] [1]] 13 [false] (lD x0 0 []) (aC Tryz.call36 (aF (mB _ _ h0) (aT (aM c0 aN)))) ?_;refine aP H1 fun R0 h1 H3 => ?_;refine pJ 1 (oL x0) R0 ?_ (fun u0 e0 => ?_)
  ·refine pC (lD x0) h1 (fun i0 s0 h2 e1 => ?_) (fun i0 s0 h3 q0 h4 h5 => ?_)
   ·have c2:=lF i0 x0.Terms.length (by omega);subst e1;exact pB 5 [r0 [.v,.v,.v,.e (nI x0.Terms.length),.e (.bool false)]] [.only [1,2,3] [1]] (oL x0 s0) (aT (aC (aJ aj x0.Terms) (aB c2 aN)))
   ·have c3:=lT i0 x0.Terms.length (by omega);refine pA 13 [r0 [.v,.v,.v,.e (nI x0.Terms.length),.e (.bool true)],r0 [.v,.v,.v,.e (.dptr (aj (x0.Terms.getD i0 ⟨[],0⟩))),.v,.m,.m],V4] [.only [1,2,3,4,5,21] [1,5]] 13 [true] ⟨69,[(1,.hptr 1 0),(2,.str []),(3,.str s0),(4,nI i0),(5,.hptr 5 0),(21,.bool (decide (((x0.Terms.getD i0 ⟨[],0⟩).C)<0)))],[(1,.cells 34 [iI x0.Const,dS aj x0.Terms]),(5,.cells 88 (aj (x0.Terms.getD i0 ⟨[],0⟩)))]⟩ (aT (aC (aJ aj x0.Terms) (aB c3 (aI bf x0.Terms i0 ⟨[],0⟩ aN)))) ?_;refine aP h4 fun v0 h6 H4 => ?_;refine dQ 1 (ja x0 i0 v0) (by kernel_rfl) ?_ ?_
    ·refine aV h6 (fun c4 H5 => ?_) (fun c5 H6 => ?_)
     ·refine aG H5 fun g0 H7 => ?_;obtain rfl:=sI H7;exact pB 5 [.eqT 21 (.bool true),V3,r0 [.v,.v,.w,.v,.m]] [.only [1,2,3,4,5] [1,5]] (ja x0 i0 ((s0++[45]),(aD (0-((x0.Terms.getD i0 ⟨[],0⟩).C))))) (aB c4 (aC (show s0.length+[45].length≤9223372036854775807 from g0) aN))
     ·refine aV H6 (fun c6 H8 => ?_) (fun c7 H9 => ?_)
      ·refine aG H8 fun g1 H10 => ?_;obtain rfl:=sI H10;exact pB 7 [.eqT 21 (.bool false),V3,.eqT 31 (.bool true),V3] [.only [1,2,3,4,5] [1,5]] (ja x0 i0 ((s0++[43]),((x0.Terms.getD i0 ⟨[],0⟩).C))) (aB c5 (aB c6 (aC (show s0.length+[43].length≤9223372036854775807 from g1) aN)))
      ·obtain rfl:=sI H9;exact pB 7 [.eqT 21 (.bool false),V3,.eqT 31 (.bool false)] [.only [1,2,3,4,5] [1,5]] (ja x0 i0 (s0,((x0.Terms.getD i0 ⟨[],0⟩).C))) (aB c5 (aB c7 aN))
    ·refine pA 3 [.rg 0 [] [.v,.v,.v]] [.only [1,2,3,4,5,38] [1,5]] 3 [] ⟨69,[(1,.hptr 1 0),(2,.str []),(3,.str v0.1),(4,.int .i64 ((i0:Nat):Int)),(5,.hptr 5 0),(38,.bool (decide (v0.2>1)))],[(1,.cells 34 [.int .i64 x0.Const,.dslice (x0.Terms.map aj)]),(5,.cells 88 [.str ((x0.Terms.getD i0 ⟨[],0⟩).Var),.int .i64 v0.2])]⟩ aN ?_;refine aP H4 fun v1 h7 H11 => ?_;refine dQ 0 (k9 x0 i0 v0 v1) (by kernel_rfl) ?_ ?_
     ·refine aV h7 (fun c8 H12 => ?_) (fun c9 H13 => ?_)
      ·refine aP H12 fun y1 h8 H14 => ?_;refine aG H14 fun g2 H15 => ?_;obtain rfl:=sI H15;exact pB 3 [.eqT 38 (.bool true),r0 [.v,.v,.v,.c true (.str y1),.v,.v]] [.only [1,2,3,4,5] [1,5]] (k9 x0 i0 v0 (v0.1++y1)) (aB c8 (aC Tryz.call51 (aF (nX _ _ _ h8) (aC (show v0.1.length+y1.length≤9223372036854775807 from g2) aN))))
      ·obtain rfl:=sI H13;exact pB 3 [.eqT 38 (.bool false)] [.only [1,2,3,4,5] [1,5]] (k9 x0 i0 v0 v0.1) (aB c9 aN)
     ·refine aG H11 fun g3 H16 => ?_;refine lZ 1 1 (ps:=[(x0.Terms.map aj).length≤9223372036854775807]) (by kernel_rfl) (fun l0 => ?_);have l1:x0.Terms.length≤9223372036854775807:=by simpa only [bB,Kp] using l0
      clear l0;obtain rfl:=sI H16;exact pB 2 [V5,V3] [.only [1,2,3,4] [1]] (lD x0 (i0+1) (v1++((x0.Terms.getD i0 ⟨[],0⟩).Var))) (aC (show v1.length+((x0.Terms.getD i0 ⟨[],0⟩).Var).length≤9223372036854775807 from g3) (aH i0 aN))
  ·subst e0;have H17:=bI H3;refine aV H17 (fun c10 H18 => ?_) (fun c11 H19 => ?_)
   ·refine aP H18 fun y2 h9 H20 => ?_;refine cK H20 fun e2 => ?_;subst e2;exact pR 8 [r0 [.v,.v,.e (nI x0.Terms.length),.v],.eqT 51 (.bool true),r0 [.v,.v,.c true (.str y2),.v]] [] [] (aT (aC (aJ aj x0.Terms) (aB c10 (aC Tryz.call51 (aF (nX _ _ _ h9) aN)))))
   ·refine pA 9 [.rg 0 [] [.v,.v,.e (.int .i64 ((x0.Terms.length:Nat):Int)),.v],.eqT 51 (.bool false),.rg 0 [] [.v,.v,.v]] [.only [1,2,3,57] [1]] 8 [false] ⟨69,[(1,.hptr 1 0),(2,.str []),(3,.str u0),(57,.bool (decide (x0.Const>0)))],[(1,.cells 34 [.int .i64 x0.Const,.dslice (x0.Terms.map aj)])]⟩ (aT (aC (aJ aj x0.Terms) (aB c11 aN))) ?_;refine aP H19 fun v2 h10 H21 => ?_;refine dQ 0 (lq x0 v2) (by kernel_rfl) ?_ ?_
    ·refine aV h10 (fun c12 H22 => ?_) (fun c13 H23 => ?_)
     ·refine aG H22 fun g4 H24 => ?_;obtain rfl:=sI H24;exact pB 3 [.eqT 57 (.bool true),V3] [.only [1,2,3] [1]] (lq x0 (u0++[43])) (aB c12 (aC (show u0.length+[43].length≤9223372036854775807 from g4) aN))
     ·refine cK H23 fun e3 => ?_;subst e3;exact pB 3 [.eqT 57 (.bool false)] [.only [1,2,3] [1]] (lq x0 u0) (aB c13 aN)
    ·refine aV H21 (fun c14 H25 => ?_) (fun c15 H26 => ?_)
     ·refine cK H25 fun e4 => ?_;subst e4;exact pR 9 [V3,.eqT 62 (.bool false),V2] [] [] (aM c14 aN)
     ·refine aP H26 fun y3 h11 H27 => ?_;refine aG H27 fun g5 H28 => ?_;obtain rfl:=sI H28;exact pR 9 [V3,.eqT 62 (.bool true),r0 [.v,.v,.v,.c true (.str y3),.v,.v],V2] [] [] (aM c15 (aC Tryz.call51 (aF (nX _ _ _ h11) (aC (show v2.length+y3.length≤9223372036854775807 from g5) aN))))
 ·obtain rfl:=sI H2;exact pR 10 [r0 [.m,.v],r0 [.v,.c true (.bool y0),.v],.eqT 8 (.bool true),V1] [] [] (aC Tryz.call36 (aF (mB _ _ h0) (aT (aM c1 aN))))
def iz (x0:List Linear):Option Bool :=
 (dZ (σ:=Unit) (ε:=Unit) (ρ:=Bool) (fun i0 s0 =>
  (iy (Linear.mk ((x0.getD i0 ⟨0,[]⟩).Const) ((x0.getD i0 ⟨0,[]⟩).Terms))).bind fun y0 =>
  bif y0 then (
   some (.go ())
  ) else (
   some (.ret false)
  )
 ) (fun i0 s0=>()) (x0.length-0) 0 ()).bind <| aft fun u0 =>
 some true
def kW (x0:List Linear) (i0:Nat) (s0:Unit):AS:=⟨16,[(0,dS ai x0),(2,.bool false),(3,nI i0)],[]⟩
def oJ (u1:Unit):AS:=⟨16,[(2,.bool false)],[]⟩
theorem dx (x0:List Linear) (r:Bool) (H:iz x0=some r):bW Tryz.prog 13 [dS ai x0] (.bool r):=by
 unfold iz at H;refine aX Tryz.func13 16 [.tmp 2] ?_;refine pA 6 [V1,V1] [.only [0,2,3] []] 6 [] (kW x0 0 ()) aN ?_;refine aP H fun R0 h0 H0 => ?_;refine pJ 1 (oJ) R0 ?_ (fun u0 e0 => ?_)
 ·refine pC (kW x0) h0 (fun i0 s0 h1 e1 => ?_) (fun i0 s0 h2 q0 h3 h4 => ?_)
  ·have c0:=lF i0 x0.length (by omega);subst e1;exact pB 5 [r0 [.v,.v,.e (nI x0.length),.e (.bool false)]] [.only [2] []] (oJ ()) (aT (aC (aJ ai x0) (aB c0 aN)))
  ·have c1:=lT i0 x0.length (by omega);refine aP h3 fun y0 h5 H1 => ?_;refine pA 9 [r0 [.v,.v,.e (nI x0.length),.e (.bool true)],r0 [.v,.v,.e (.dptr (ai (x0.getD i0 ⟨0,[]⟩))),.v,.c true (.bool y0),.v]] [.only [0,2,3,15] []] 9 [true] ⟨16,[(0,dS ai x0),(2,.bool false),(3,nI i0),(15,.bool (!y0))],[]⟩ (aT (aC (aJ ai x0) (aB c1 (aI a8 x0 i0 ⟨0,[]⟩ (aC Tryz.call36 (aF (mB _ _ h5) (aT aN))))))) ?_;refine aV H1 (fun c2 H2 => ?_) (fun c3 H3 => ?_)
   ·refine b7 0 (ps:=[(x0.map ai).length≤9223372036854775807]) (by kernel_rfl) (fun l0 => ?_);have l1:x0.length≤9223372036854775807:=by simpa only [bB,Kp] using l0
    clear l0;obtain rfl:=sI H2;exact pB 4 [.eqT 15 (.bool false),V3] [.only [0,2,3] []] (kW x0 (i0+1) ()) (aM c2 (aH i0 aN))
   ·obtain rfl:=sI H3;obtain rfl:=aR h4;obtain rfl:=sI (aA H0);exact pR 5 [.eqT 15 (.bool true),V1] [] [] (aM c3 aN)
 ·subst e0;have H4:=bp H0;obtain rfl:=sI H4;exact pR 3 [V1] [] [] aN
def nP (x0:Linear) (x1:aw):Option Int :=
 (dZ (σ:=Unit) (ε:=Unit) (ρ:=Int) (fun i0 s0 =>
  bif (((x0.Terms.getD i0 ⟨[],0⟩).Var)==x1) then (
   some (.ret ((x0.Terms.getD i0 ⟨[],0⟩).C))
  ) else (
   some (.go ())
  )
 ) (fun i0 s0=>()) (x0.Terms.length-0) 0 ()).bind <| aft fun u0 =>
 some 0
def mG (x0:Linear) (x1:aw) (i0:Nat) (s0:Unit):AS:=⟨27,[(1,.str x1),(2,.hptr 2 0),(4,iI 0),(5,nI i0)],[(2,.cells 34 [iI x0.Const,dS aj x0.Terms])]⟩
def pZ (u1:Unit):AS:=⟨27,[(4,iI 0)],[]⟩
theorem ri (x0:Linear) (x1:aw) (r:Int) (H:nP x0 x1=some r):bW Tryz.prog 12 [.agg [iI x0.Const,dS aj x0.Terms],.str x1] (iI r):=by
 unfold nP at H;refine aX Tryz.func12 27 [.tmp 4] ?_;refine pA 6 [r0 [.m,.v],V1] [.only [1,2,4,5] [2]] 6 [] (mG x0 x1 0 ()) aN ?_;refine aP H fun R0 h0 H0 => ?_;refine pJ 1 (pZ) R0 ?_ (fun u0 e0 => ?_)
 ·refine pC (mG x0 x1) h0 (fun i0 s0 h1 e1 => ?_) (fun i0 s0 h2 q0 h3 h4 => ?_)
  ·have c0:=lF i0 x0.Terms.length (by omega);subst e1;exact pB 5 [r0 [.v,.v,.v,.e (nI x0.Terms.length),.e (.bool false)]] [.only [4] []] (pZ ()) (aT (aC (aJ aj x0.Terms) (aB c0 aN)))
  ·have c1:=lT i0 x0.Terms.length (by omega);refine pA 9 [r0 [.v,.v,.v,.e (nI x0.Terms.length),.e (.bool true)],r0 [.v,.v,.v,.e (.dptr (aj (x0.Terms.getD i0 ⟨[],0⟩))),.v,.v,.v,.v]] [.only [1,2,4,5,20] [2]] 9 [true] ⟨27,[(1,.str x1),(2,.hptr 2 0),(4,iI 0),(5,nI i0),(20,.bool (((x0.Terms.getD i0 ⟨[],0⟩).Var)==x1))],[(2,.cells 34 [iI x0.Const,dS aj x0.Terms])]⟩ (aT (aC (aJ aj x0.Terms) (aB c1 (aI bf x0.Terms i0 ⟨[],0⟩ aN)))) ?_;refine aV h3 (fun c2 H1 => ?_) (fun c3 H2 => ?_)
   ·obtain rfl:=sI H1;obtain rfl:=aR h4;obtain rfl:=sI (aA H0);exact pR 5 [.eqT 20 (.bool true),r0 [.v,.v,.v,.e (.dptr (aj (x0.Terms.getD i0 ⟨[],0⟩))),.v,.v,.v]] [] [] (aB c2 (aI bf x0.Terms i0 ⟨[],0⟩ aN))
   ·refine lZ 2 1 (ps:=[(x0.Terms.map aj).length≤9223372036854775807]) (by kernel_rfl) (fun l0 => ?_);have l1:x0.Terms.length≤9223372036854775807:=by simpa only [bB,Kp] using l0
    clear l0;obtain rfl:=sI H2;exact pB 4 [.eqT 20 (.bool false),V3] [.only [1,2,4,5] [2]] (mG x0 x1 (i0+1) ()) (aB c3 (aH i0 aN))
 ·subst e0;have H3:=bp H0;obtain rfl:=sI H3;exact pR 3 [V1] [] [] aN
def qE (x0:Linear):Option (List aw) :=
 (dZ (σ:=(List aw)) (ε:=(List aw)) (ρ:=Empty) (fun i0 s0 =>
  bH ((s0.length+1)*16≤140737488355328) <|
  some (.go (s0++[((x0.Terms.getD i0 ⟨[],0⟩).Var)]))
 ) (fun i0 s0=>s0) (x0.Terms.length-0) 0 []).bind <| dG fun u0 =>
 some u0
def mP (x0:Linear) (i0:Nat) (s0:List aw):AS:=⟨22,[(1,.hptr 1 0),(2,.eslice),(3,.rslice 20),(4,nI i0)],[(1,.cells 34 [iI x0.Const,dS aj x0.Terms]),(20,.row 9 1 (s0.map bn))]⟩
def pY (u1:List aw):AS:=⟨22,[(2,.eslice),(3,.rslice 20)],[(20,.row 9 1 (u1.map bn))]⟩
theorem xU (x0:Linear) (r:List aw) (H:qE x0=some r):bW Tryz.prog 79 [.agg [iI x0.Const,dS aj x0.Terms]] (dS bn r):=by
 unfold qE at H;refine aX Tryz.func79 22 [.tmp 2] ?_;refine pA 8 [r0 [.m,.v],V1,V1] [.er 3 20 9 1,.only [1,2,3,4] [1,20]] 8 [] (mP x0 0 []) aN ?_;refine aP H fun R0 h0 H0 => ?_;refine pJ 1 (pY) R0 ?_ (fun u0 e0 => ?_)
 ·refine pC (mP x0) h0 (fun i0 s0 h1 e1 => ?_) (fun i0 s0 h2 q0 h3 h4 => ?_)
  ·have c0:=lF i0 x0.Terms.length (by omega);subst e1;exact pB 5 [r0 [.v,.v,.v,.e (nI x0.Terms.length),.e (.bool false)]] [.only [2,3] [20]] (pY s0) (aT (aC (aJ aj x0.Terms) (aB c0 aN)))
  ·have c1:=lT i0 x0.Terms.length (by omega);refine aG h3 fun g0 H1 => ?_;refine lZ 1 1 (ps:=[(x0.Terms.map aj).length≤9223372036854775807]) (by kernel_rfl) (fun l0 => ?_);have l1:x0.Terms.length≤9223372036854775807:=by simpa only [bB,Kp] using l0
   clear l0;obtain rfl:=sI H1;exact pB 9 [r0 [.v,.v,.v,.e (nI x0.Terms.length),.e (.bool true)],r0 (V 4 [.e (.dptr (aj (x0.Terms.getD i0 ⟨[],0⟩))),.v,.v,.b,.ap,.rwH 20 (.row 9 1 ((s0++[((x0.Terms.getD i0 ⟨[],0⟩).Var)]).map bn)),.v]),V3] [.only [1,2,3,4] [1,20]] (mP x0 (i0+1) (s0++[((x0.Terms.getD i0 ⟨[],0⟩).Var)])) (aT (aC (aJ aj x0.Terms) (aB c1 (aI bf x0.Terms i0 ⟨[],0⟩ (bF (wD (c:=bn) rF s0 [((x0.Terms.getD i0 ⟨[],0⟩).Var)] 16 (by decide) (by simpa using g0)) (aC (zO 9 1 bn s0 [((x0.Terms.getD i0 ⟨[],0⟩).Var)]) (aH i0 aN)))))))
 ·subst e0;have H2:=bI H0;refine cK H2 fun e2 => ?_;subst e2;exact pR 3 [V2] [.fz 20] [] aN
def qx (x0:List Linear):Option (List aw) :=
 (dZ (σ:=(Int×(List ak))) (ε:=(Int×(List ak))) (ρ:=Empty) (fun i0 s0 =>
  (kD (σ:=(Int×Int×(List ak))) (ε:=(Int×(List ak))) (ρ:=Empty) (fun s1 =>
   bif decide (s1.1<((((x0.getD i0 ⟨0,[]⟩).Terms).length:Nat):Int)) then (
    bH (0≤s1.1∧s1.1<(((x0.getD i0 ⟨0,[]⟩).Terms).length:Int)) <|
    (nP (Linear.mk s1.2.1 s1.2.2) ((((x0.getD i0 ⟨0,[]⟩).Terms).getD s1.1.toNat ⟨[],0⟩).Var)).bind fun y0 =>
    ((
     bif (y0==0) then (
      (fV (Linear.mk s1.2.1 s1.2.2) ((((x0.getD i0 ⟨0,[]⟩).Terms).getD s1.1.toNat ⟨[],0⟩).Var) 1).bind fun y1 =>
      some (y1.Const,y1.Terms)
     ) else (
      some (s1.2.1,s1.2.2)
     )
    ):Option (Int×(List ak))).bind fun v0 =>
    some (.go ((aD (s1.1+1)),v0.1,v0.2))
   ) else (
    some (.brk (s1.2.1,s1.2.2))
   )
  ) 4294967296 (0,s0.1,s0.2)).bind <| dG fun u0 =>
  some (.go (u0.1,u0.2))
 ) (fun i0 s0=>(s0.1,s0.2)) (x0.length-0) 0 (0,[])).bind <| dG fun u1 =>
 (qE (Linear.mk u1.1 u1.2)).bind fun y2 =>
 some y2
def mK (x0:List Linear) (i0:Nat) (s0:Int×(List ak)):AS:=⟨41,[(0,dS ai x0),(2,.eslice),(3,.hptr 3 0),(4,nI i0)],[(3,.cells 34 [iI s0.1,dS aj s0.2])]⟩
def pU (u2:Int×(List ak)):AS:=⟨41,[(2,.eslice),(3,.hptr 3 0)],[(3,.cells 34 [iI u2.1,dS aj u2.2])]⟩
def mE (x0:List Linear) (i0:Nat) (s1:Int×Int×(List ak)):AS:=⟨41,[(0,dS ai x0),(2,.eslice),(3,.hptr 3 0),(4,nI i0),(5,iI s1.1)],[(3,.cells 34 [iI s1.2.1,dS aj s1.2.2])]⟩
def qe (x0:List Linear) (i0:Nat) (u3:Int×(List ak)):AS:=⟨41,[(0,dS ai x0),(2,.eslice),(3,.hptr 3 0),(4,nI i0)],[(3,.cells 34 [iI u3.1,dS aj u3.2])]⟩
def mS (x0:List Linear) (i0:Nat) (s1:Int×Int×(List ak)) (v0:Int×(List ak)):AS:=⟨41,[(0,dS ai x0),(2,.eslice),(3,.hptr 3 0),(4,nI i0),(5,iI s1.1)],[(3,.cells 34 [iI v0.1,dS aj v0.2])]⟩
theorem yx (x0:List Linear) (r:List aw) (H:qx x0=some r):bW Tryz.prog 44 [dS ai x0] (dS bn r):=by
 unfold qx at H;refine aX Tryz.func44 41 [.tmp 2] ?_;refine pA 8 [V1,r0 [.m],V1] [.wkH 3 1 [],.only [0,2,3,4] [3]] 8 [] (mK x0 0 (0,[])) aN ?_;refine aP H fun R0 h0 H0 => ?_;refine pJ 1 (pU) R0 ?_ (fun u1 e0 => ?_)
 ·refine pC (mK x0) h0 (fun i0 s0 h1 e1 => ?_) (fun i0 s0 h2 q0 h3 h4 => ?_)
  ·have c0:=lF i0 x0.length (by omega);subst e1;exact pB 5 [r0 [.v,.v,.e (nI x0.length),.e (.bool false)]] [.only [2,3] [3]] (pU (s0.1,s0.2)) (aT (aC (aJ ai x0) (aB c0 aN)))
  ·have c1:=lT i0 x0.length (by omega);refine pA 10 [r0 [.v,.v,.e (nI x0.length),.e (.bool true)],V1] [.only [0,2,3,4,5] [3]] 10 [true] (mE x0 i0 (0,s0.1,s0.2)) (aT (aC (aJ ai x0) (aB c1 aN))) ?_;refine aP h3 fun R1 h5 H1 => ?_;refine pJ 2 (qe x0 i0) R1 ?_ (fun u0 e2 => ?_)
   ·refine pV (mE x0 i0) (by kernel_rfl) h5 (fun s1 q1 h6 h7 => ?_)
    ·refine aV h6 (fun c2 H2 => ?_) (fun c3 H3 => ?_)
     ·have c2p:=Km c2;refine aG H2 fun g0 H4 => ?_;refine aP H4 fun y0 h8 H5 => ?_;refine pA 12 [r0 [.v,.v,.v,.e (.dptr (ai (x0.getD i0 ⟨0,[]⟩))),.v,.v,.e (iI ((((x0.getD i0 ⟨0,[]⟩).Terms).length:Nat):Int)),.v],.eqT 20 (.bool true),r0 [.v,.v,.e (.dptr (ai (x0.getD i0 ⟨0,[]⟩))),.v,.v,.v,.e (.dptr (aj (((x0.getD i0 ⟨0,[]⟩).Terms).getD s1.1.toNat ⟨[],0⟩))),.v,.v,.v],r0 [.v,.v,.c true (iI y0),.v]] [.only [0,2,3,4,5,6,35] [3]] 11 [true] ⟨41,[(0,dS ai x0),(2,.eslice),(3,.hptr 3 0),(4,nI i0),(5,iI s1.1),(6,.str ((((x0.getD i0 ⟨0,[]⟩).Terms).getD s1.1.toNat ⟨[],0⟩).Var)),(35,.bool (y0==0))],[(3,.cells 34 [iI s1.2.1,dS aj s1.2.2])]⟩ (aI a8 x0 i0 ⟨0,[]⟩ (aT (aC (aJ aj ((x0.getD i0 ⟨0,[]⟩).Terms)) (aB c2 (aI a8 x0 i0 ⟨0,[]⟩ (bF (GI (f:=aj) (l:=((x0.getD i0 ⟨0,[]⟩).Terms)) (n:=s1.1) ⟨[],0⟩ bf (by decide) (by exact g0)) (aC Tryz.call12 (aF (ri _ _ _ h8) aN)))))))) ?_;refine aP H5 fun v0 h9 H6 => ?_;refine dQ 1 (mS x0 i0 s1 v0) (by kernel_rfl) ?_ ?_
      ·refine aV h9 (fun c4 H7 => ?_) (fun c5 H8 => ?_)
       ·refine aP H7 fun y1 h10 H9 => ?_;obtain rfl:=sI H9;exact pB 3 [.eqT 35 (.bool true),r0 [.v,.v,.c true (.agg [iI y1.Const,dS aj y1.Terms]),.m]] [.only [0,2,3,4,5] [3]] (mS x0 i0 s1 (y1.Const,y1.Terms)) (aB c4 (aC Tryz.call17 (aF (kz _ _ _ _ h10) aN)))
       ·obtain rfl:=sI H8;exact pB 3 [.eqT 35 (.bool false)] [.only [0,2,3,4,5] [3]] (mS x0 i0 s1 (s1.2.1,s1.2.2)) (aB c5 aN)
      ·obtain rfl:=sI H6;exact pB 1 [r0 [.v,.w,.v]] [.only [0,2,3,4,5] [3]] (mE x0 i0 ((aD (s1.1+1)),v0.1,v0.2)) aN
     ·have c3p:=Kl c3;obtain rfl:=sI H3;obtain rfl:=iL h7;exact pB 6 [r0 [.v,.v,.v,.e (.dptr (ai (x0.getD i0 ⟨0,[]⟩))),.v,.v,.e (iI ((((x0.getD i0 ⟨0,[]⟩).Terms).length:Nat):Int)),.v],.eqT 20 (.bool false)] [.only [0,2,3,4] [3]] (qe x0 i0 (s1.2.1,s1.2.2)) (aI a8 x0 i0 ⟨0,[]⟩ (aT (aC (aJ aj ((x0.getD i0 ⟨0,[]⟩).Terms)) (aB c3 aN))))
   ·subst e2;have H10:=bI H1;refine b7 0 (ps:=[(x0.map ai).length≤9223372036854775807]) (by kernel_rfl) (fun l0 => ?_);have l1:x0.length≤9223372036854775807:=by simpa only [bB,Kp] using l0
    clear l0;obtain rfl:=sI H10;exact pB 1 [V3] [.only [0,2,3,4] [3]] (mK x0 (i0+1) (u0.1,u0.2)) (aH i0 aN)
 ·subst e0;have H11:=bI H0;refine aP H11 fun y2 h11 H12 => ?_;refine cK H12 fun e3 => ?_;subst e3;exact pR 3 [r0 [.v,.c true (dS bn y2),.v]] [] [] (aC Tryz.call79 (aF (xU _ _ h11) aN))
def kV (x0:Int):Option Bool :=
 bif decide (x0≥(-4611686018427387904)) then (
  some (decide (x0≤4611686018427387904))
 ) else (
  some false
 )
theorem dN (x0:Int) (r:Bool) (H:kV x0=some r):bW Tryz.prog 85 [iI x0] (.bool r):=by
 unfold kV at H;refine aX Tryz.func85 9 [.tmp 2] ?_;refine aV H (fun c0 H0 => ?_) (fun c1 H1 => ?_)
 ·obtain rfl:=sI H0;exact pR 5 [V1,r0 [.v,.e (.bool true),.v,.v,.v,.v,.v]] [] [] (aB c0 aN)
 ·obtain rfl:=sI H1;exact pR 5 [V1,r0 [.v,.e (.bool false),.v,.s,.s,.v,.v]] [] [] (aB c1 aN)
def ky (x0:Int):Option (Int×Int×Int) :=
 some ((x0.tmod 2097152),((aD (x0.tdiv 2097152)).tmod 2097152),(aD ((aD (x0.tdiv 2097152)).tdiv 2097152)))
theorem oU (x0:Int) (r:Int×Int×Int) (H:ky x0=some r):bW Tryz.prog 86 [iI x0] (.agg [iI r.1,iI r.2.1,iI r.2.2]):=by unfold ky at H;refine aX Tryz.func86 12 [.cell 2 60] ?_;obtain rfl:=sI H;exact pR 5 [r0 [.m],r0 [.v,.v,.v,.w,.v,.v,.w,.w,.b,.m]] [] [] (aC (show (2097152:Int)≠0 from (by decide)) (aC (show (2097152:Int)≠0 from (by decide)) (aC (show (2097152:Int)≠0 from (by decide)) (aC (show (2097152:Int)≠0 from (by decide)) (aC (show (2097152:Int)≠0 from (by decide)) aN)))))
def gj (x0 x1:Int):Option (Int×Int) :=
 (kV x0).bind fun y0 =>
 bif y0 then (
  (kV x1).bind fun y1 =>
  bif y1 then (
   bif (x1==0) then (
    some (0,1)
   ) else (
    bH ((x1:Int)≠0) <|
    ((
     bif ((x0.tmod x1)==0) then (
      some false
     ) else (
      some (!(decide (x0<0)==decide (x1<0)))
     )
    ):Option Bool).bind fun v0 =>
    bif v0 then (
     some ((aD ((aD (x0.tdiv x1))-1)),0)
    ) else (
     some ((aD (x0.tdiv x1)),0)
    )
   )
  ) else (
   some (0,2)
  )
 ) else (
  some (0,2)
 )
def nJ (x0 x1:Int) (v0:Bool):AS:=⟨34,[(4,iI 0),(5,iI 0),(6,iI (aD (x0.tdiv x1))),(30,.bool v0)],[]⟩
theorem fW (x0 x1:Int) (r:Int×Int) (H:gj x0 x1=some r):bW Tryz.prog 78 [iI x0,iI x1] (.tup [iI r.1,iI r.2]):=by
 unfold gj at H;refine aX Tryz.func78 34 [.tmp 4,.tmp 5] ?_;refine aP H fun y0 h0 H0 => ?_;refine aV H0 (fun c0 H1 => ?_) (fun c1 H2 => ?_)
 ·refine aP H1 fun y1 h1 H3 => ?_;refine aV H3 (fun c2 H4 => ?_) (fun c3 H5 => ?_)
  ·refine aV H4 (fun c4 H6 => ?_) (fun c5 H7 => ?_)
   ·obtain rfl:=sI H6;exact pR 16 [V2,r0 [.v,.c true (.bool true),.v,.v,.v,.c true (.bool y1),.v,.v],.eqT 14 (.bool false),V2,.eqT 16 (.bool true),V2] [] [] (aC Tryz.call85 (aC (bW.eq (dN _ _ h0) (cB c0)) (aT (aC Tryz.call85 (aF (dN _ _ h1) (aT (aM c2 (aB c4 aN))))))))
   ·refine aG H7 fun g0 H8 => ?_;refine pA 18 [V2,r0 [.v,.c true (.bool true),.v,.v,.v,.c true (.bool y1),.v,.v],.eqT 14 (.bool false),V2,.eqT 16 (.bool false),r0 [.v,.v,.w,.v]] [.only [0,1,4,5,6] []] 16 [false,false] ⟨34,[(0,iI x0),(1,iI x1),(4,iI 0),(5,iI 0),(6,iI (aD (x0.tdiv x1)))],[]⟩ (aC Tryz.call85 (aC (bW.eq (dN _ _ h0) (cB c0)) (aT (aC Tryz.call85 (aF (dN _ _ h1) (aT (aM c2 (aB c5 (aC (show (x1:Int)≠0 from g0) aN))))))))) ?_;refine aP H8 fun v0 h2 H9 => ?_;refine dQ 0 (nJ x0 x1 v0) (by kernel_rfl) ?_ ?_
    ·refine aV h2 (fun c6 H10 => ?_) (fun c7 H11 => ?_)
     ·obtain rfl:=sI H10;exact pB 1 [r0 [.v,.v,.v,.e (.bool false),.v,.s,.s,.s,.s,.s,.v]] [.only [4,5,6,30] []] (nJ x0 x1 false) (aC (show (x1:Int)≠0 from g0) (aM c6 aN))
     ·obtain rfl:=sI H11;exact pB 1 [r0 [.v,.v,.v,.e (.bool true),.v,.v,.v,.v,.v,.v,.v]] [.only [4,5,6,30] []] (nJ x0 x1 (!(decide (x0<0)==decide (x1<0)))) (aC (show (x1:Int)≠0 from g0) (aM c7 aN))
    ·refine aV H9 (fun c8 H12 => ?_) (fun c9 H13 => ?_)
     ·obtain rfl:=sI H12;exact pR 6 [.eqT 30 (.bool true),r0 [.v,.w,.v],V3] [] [] (aB c8 aN)
     ·obtain rfl:=sI H13;exact pR 6 [.eqT 30 (.bool false),V3] [] [] (aB c9 aN)
  ·obtain rfl:=sI H5;exact pR 10 [V2,r0 [.v,.c true (.bool true),.v,.v,.v,.c true (.bool y1),.v,.v],.eqT 14 (.bool true),V2] [] [] (aC Tryz.call85 (aC (bW.eq (dN _ _ h0) (cB c0)) (aT (aC Tryz.call85 (aF (dN _ _ h1) (aT (aM c3 aN)))))))
 ·obtain rfl:=sI H2;exact pR 9 [V2,r0 [.v,.c true (.bool false),.v,.v,.s,.s,.s,.v],V2] [] [] (aC Tryz.call85 (aC (bW.eq (dN _ _ h0) (cB c1)) (aT aN)))
end Go.Proofs.YtlhcekghjfjajaaGreatDoor
