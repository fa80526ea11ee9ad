/- What functions of the program compute, walked: each as a plain function, with the theorem that the code computes it wherever that answers. Printed by a program, part 2. -/
import Derived.Test.YtoebmibmmlcfiaaGreatDoorWkaUnifyApply
set_option linter.unusedSimpArgs false
set_option linter.unusedVariables false
namespace Go.Proofs.YtoebmibmmlcfiaaGreatDoor
open Go.RowKit Go.Ab Go.Sh
noncomputable def ll (x0 x1:Linear) (x2:Int):Option (Linear×Int) :=
 (bw x0).bind fun y0 =>
 bif y0 then (
  (bw x1).bind fun y1 =>
  bif y1 then (
   (dt x0 1 0 []).bind fun y2 =>
   (dt x1 x2 y2.1 y2.2).bind fun y3 =>
   (cu y3.1 y3.2).bind fun y4 =>
   some (y4.1,y4.2)
  ) else (
   none
  )
 ) else (
  none
 )
theorem sW (x0 x1:Linear) (x2:Int) (r:Linear×Int) (H:ll x0 x1 x2=some r):aW Tryz.prog 87 [.agg [iI x0.Const,dS ai x0.Terms],.agg [iI x1.Const,dS ai x1.Terms],iI x2] (.tup [.agg [iI r.1.Const,dS ai r.1.Terms],iI r.2]):=by
 unfold ll at H;refine aX Tryz.func87 28 [.cell 6 29,.tmp 7] ?_;refine aD H fun y0 h0 H0 => ?_;refine aK H0 (fun c0 H1 => ?_) (fun c1 H2 => ?_)
 ·refine aD H1 fun y1 h1 H3 => ?_;refine aK H3 (fun c2 H4 => ?_) (fun c3 H5 => ?_)
  ·refine aD H4 fun y2 h2 H6 => ?_;refine aD H6 fun y3 h3 H7 => ?_;refine aD H7 fun y4 h4 H8 => ?_;obtain rfl:=sI H8;exact pR 17 [r0 [.m,.m,.m,.v],r0 [.v,.c true bT,.v,.v,.v,.c true (.bool y1),.v,.v],.eqT 16 bF,r0 [.m,.b,.m,.m],r0 [.v,.hR [(8,1000),(18,1001)] 21 (.tup []) [(1000,.cells 158 [iI y2.1,.amap 1001]),(1001,.smap 0 3 (y2.2.map (aJ au)))]],r0 [.v,.v,.hR [(8,1000),(18,1001)] 24 (.tup []) [(1000,.cells 158 [iI y3.1,.amap 1001]),(1001,.smap 0 3 (y3.2.map (aJ au)))]],r0 [.hR [(8,1000),(18,1001)] 25 (.tup [.agg [iI y4.1.Const,dS ai y4.1.Terms],iI y4.2]) [],.v,.v,.m,.v]] [] [] (aC Tryz.call90 (aC (aW.eq (bj _ _ h0) (cB c0)) (aT (aC Tryz.call90 (aF (bj _ _ h1) (aT (aM c2 (aC Tryz.call109 (aC (je _ _ _ _ _ h2) (aC Tryz.call109 (aC (je _ _ _ _ _ h3) (aC Tryz.call110 (aC (iQ _ _ _ h4) aN)))))))))))))
  ·cases H5
 ·cases H2
noncomputable def rv (x0 x1:Linear):Option (Linear×Int) :=
 (ll x0 x1 (-1)).bind fun y0 =>
 some (y0.1,y0.2)
theorem ym (x0 x1:Linear) (r:Linear×Int) (H:rv x0 x1=some r):aW Tryz.prog 44 [.agg [iI x0.Const,dS ai x0.Terms],.agg [iI x1.Const,dS ai x1.Terms]] (.tup [.agg [iI r.1.Const,dS ai r.1.Terms],iI r.2]):=by unfold rv at H;refine aX Tryz.func44 11 [.cell 4 29,.tmp 5] ?_;refine aD H fun y0 h0 H0 => ?_;obtain rfl:=sI H0;exact pR 5 [r0 [.m,.m,.m,.v],r0 [.v,.v,.c true (.tup [.agg [iI y0.1.Const,dS ai y0.1.Terms],iI y0.2]),.v,.v,.m,.v]] [] [] (aC Tryz.call87 (aF (sW _ _ _ _ h0) aN))
noncomputable def dZ (x0:List (Linear×Linear)) (x1:List (aq×aq)) (x2:List (aq×Shape)):Option ((List Linear)×Int) :=
 (dF (σ:=(List Linear)) (ε:=(List Linear)) (ρ:=Empty) (fun i0 s0 =>
  (rv (Linear.mk (((x0.getD i0 (ax,ax)).1).Const) (((x0.getD i0 (ax,ax)).1).Terms)) (Linear.mk (((x0.getD i0 (ax,ax)).2).Const) (((x0.getD i0 (ax,ax)).2).Terms))).bind fun y0 =>
  bif (y0.2==0) then (
   cb ((s0.length+1)*32≤140737488355328) <|
   some (.go (s0++[y0.1]))
  ) else (
   none
  )
 ) (fun i0 s0=>s0) (x0.length-0) 0 []).bind <| dq fun u0 =>
 some (u0,0)
def dc (x0:List (Linear×Linear)) (x1:List (aq×aq)) (x2:List (aq×Shape)) (i0:Nat) (s0:List Linear):AS:=⟨35,[(2,.eslice),(3,iI 0),(4,.rslice 32),(12,dS az x0),(13,nI x0.length),(14,nI i0)],[(32,.row 29 2 (s0.map ae)),(1000,.cells 95 [.amap 1001,.amap 1002,dS az x0]),(1001,.smap 0 9 (x1.map (aJ aZ))),(1002,.smap 0 34 (x2.map (aJ (iM aY))))]⟩
def fB (x0:List (Linear×Linear)) (x1:List (aq×aq)) (x2:List (aq×Shape)) (u1:List Linear):AS:=⟨35,[(2,.eslice),(3,iI 0),(4,.rslice 32)],[(32,.row 29 2 (u1.map ae)),(1000,.cells 95 [.amap 1001,.amap 1002,dS az x0]),(1001,.smap 0 9 (x1.map (aJ aZ))),(1002,.smap 0 34 (x2.map (aJ (iM aY))))]⟩
theorem mf (x0:List (Linear×Linear)) (x1:List (aq×aq)) (x2:List (aq×Shape)) (r:(List Linear)×Int) (H:dZ x0 x1 x2=some r):bn Tryz.prog 21 [.hptr 1000 0] [(1000,.cells 95 [.amap 1001,.amap 1002,dS az x0]),(1001,.smap 0 9 (x1.map (aJ aZ))),(1002,.smap 0 34 (x2.map (aJ (iM aY))))] (fun r2 h0=>r2=(.tup [dS ae r.1,iI r.2])∧h0=[(1000,.cells 95 [.amap 1001,.amap 1002,dS az x0]),(1001,.smap 0 9 (x1.map (aJ aZ))),(1002,.smap 0 34 (x2.map (aJ (iM aY))))]):=by
 unfold dZ at H;refine aX Tryz.func21 35 [.tmp 2,.tmp 3] ?_;refine pA 8 [V2,V1,r0 (V 4 [.e (nI x0.length),.v])] [.er 4 32 29 2,.only [2,3,4,12,13,14] [32,1000,1001,1002]] 8 [] (dc x0 x1 x2 0 []) (aT (aC (aG az x0) aN)) ?_;refine aD H fun R0 h1 H0 => ?_;refine pJ 1 (fB x0 x1 x2) R0 ?_ (fun u0 e0 => ?_)
 ·refine pC (dc x0 x1 x2) h1 (fun i0 s0 h2 e1 => ?_) (fun i0 s0 h3 q0 h4 h5 => ?_)
  ·have c0:=lF i0 x0.length (by omega);subst e1;exact pB 5 [r0 [.e bF]] [.only [2,3,4] [32,1000,1001,1002]] (fB x0 x1 x2 s0) (aB c0 aN)
  ·have c1:=lT i0 x0.length (by omega);refine aD h4 fun y0 h6 H1 => ?_;refine pD 14 [r0 [.e bT],r0 [.e (.dptr [iI (((x0.getD i0 (ax,ax)).1).Const),.dslice ((((x0.getD i0 (ax,ax)).1).Terms).map ai),iI (((x0.getD i0 (ax,ax)).2).Const),.dslice ((((x0.getD i0 (ax,ax)).2).Terms).map ai)]),.v,.m,.m],r0 (V 4 [.c true (.tup [.agg [iI y0.1.Const,dS ai y0.1.Terms],iI y0.2]),.v,.v,.v,.m,.m,.v]),V2] [.only [2,3,4,7,8,12,13,14,27] [7,32,1000,1001,1002]] 14 [true] (aB c1 (aI tV x0 i0 (ax,ax) (aT (aT (aC Tryz.call44 (aF (ym _ _ _ h6) aN)))))) ?_;refine aK H1 (fun c2 H2 => ?_) (fun c3 H3 => ?_)
   ·refine aP H2 fun g0 H4 => ?_;refine bt 12 (ps:=[(x0.map az).length≤9223372036854775807]) (by kernel_rfl) (fun l0 => ?_);have l1:x0.length≤9223372036854775807:=by simpa only [bI,Hp] using l0
    clear l0;obtain rfl:=sI H4;exact pB 5 [.eqT 27 bF,r0 [.v,.v,.b,.ap,.rwH 32 (.row 29 2 ((s0++[y0.1]).map ae)),.v],V2] [.only [2,3,4,12,13,14] [32,1000,1001,1002]] (dc x0 x1 x2 (i0+1) (s0++[y0.1])) (aM c2 (a8 (qB (c:=ae) fF s0 [y0.1] 32 (by decide) (by first | (simp;done) | simpa using g0)) (aC (tI 29 2 ae s0 [y0.1]) (aH i0 aN))))
   ·cases H3
 ·subst e0;have H5:=a7 H0;obtain rfl:=sI H5;exact pR 3 [V3] [.fz 32] [1000,1001,1002] aN
def iy (x0:Linear):Option Bool :=
 (bw x0).bind fun y0 =>
 some (!y0)
theorem qx (x0:Linear) (r:Bool) (H:iy x0=some r):aW Tryz.prog 89 [.agg [iI x0.Const,dS ai x0.Terms]] (.bool r):=by unfold iy at H;refine aX Tryz.func89 6 [.tmp 2] ?_;refine aD H fun y0 h0 H0 => ?_;obtain rfl:=sI H0;exact pR 5 [r0 [.m,.v],r0 [.v,.c true (.bool y0),.v,.v]] [] [] (aC Tryz.call90 (aF (bj _ _ h0) (aT aN)))
def cT (x0:List Linear):Option Int :=
 (dF (σ:=Unit) (ε:=Unit) (ρ:=Int) (fun i0 s0 =>
  (iy (Linear.mk ((x0.getD i0 ax).Const) ((x0.getD i0 ax).Terms))).bind fun y0 =>
  bif y0 then (
   some (.ret ((i0:Nat):Int))
  ) else (
   some (.go ())
  )
 ) (fun i0 s0=>()) (x0.length-0) 0 ()).bind <| aft fun u0 =>
 some (-1)
def cr (x0:List Linear) (i0:Nat) (s0:Unit):AS:=⟨19,[(0,dS ae x0),(1,.fn 89 []),(4,iI 0),(7,nI x0.length),(8,nI i0)],[]⟩
def dO (u1:Unit):AS:=⟨19,[(4,iI 0)],[]⟩
theorem iO (x0:List Linear) (r:Int) (H:cT x0=some r):aW Tryz.prog 142 [dS ae x0,.fn 89 []] (iI r):=by
 unfold cT at H;refine aX Tryz.func142 19 [.tmp 4] ?_;refine pA 6 [V1,r0 [.v,.e (nI x0.length),.v]] [.only [0,1,4,7,8] []] 6 [] (cr x0 0 ()) (aT (aC (aG ae x0) aN)) ?_;refine aD H fun R0 h0 H0 => ?_;refine pJ 1 (dO) R0 ?_ (fun u0 e0 => ?_)
 ·refine pC (cr x0) h0 (fun i0 s0 h1 e1 => ?_) (fun i0 s0 h2 q0 h3 h4 => ?_)
  ·have c0:=lF i0 x0.length (by omega);subst e1;exact pB 5 [r0 [.e bF]] [.only [4] []] (dO ()) (aB c0 aN)
  ·have c1:=lT i0 x0.length (by omega);refine aD h3 fun y0 h5 H1 => ?_;refine pD 11 [r0 [.e bT],V2,r0 [.v,.v,.v,.e (.dptr (ae (x0.getD i0 ax))),.v,.c true (.bool y0)]] [.only [0,1,4,5,7,8,16] []] 11 [true] (aB c1 (aI bA x0 i0 ax (aC Tryz.call89 (aF (qx _ _ h5) aN)))) ?_;refine aK H1 (fun c2 H2 => ?_) (fun c3 H3 => ?_)
   ·obtain rfl:=sI H2;obtain rfl:=aR h4;obtain rfl:=sI (aA H0);exact pR 5 [.eqT 16 bT,V2] [] [] (aB c2 aN)
   ·refine bt 0 (ps:=[(x0.map ae).length≤9223372036854775807]) (by kernel_rfl) (fun l0 => ?_);have l1:x0.length≤9223372036854775807:=by simpa only [bI,Hp] using l0
    clear l0;obtain rfl:=sI H3;exact pB 4 [.eqT 16 bF,V2] [.only [0,1,4,7,8] []] (cr x0 (i0+1) ()) (aB c3 (aH i0 aN))
 ·subst e0;have H4:=bl H0;obtain rfl:=sI H4;exact pR 3 [V1] [] [] aN
def cq (x0:List Linear):Option Bool :=
 (cT x0).bind fun y0 =>
 some (decide (y0≥0))
theorem gE (x0:List Linear) (r:Bool) (H:cq x0=some r):aW Tryz.prog 88 [dS ae x0,.fn 89 []] (.bool r):=by unfold cq at H;refine aX Tryz.func88 9 [.tmp 4] ?_;refine aD H fun y0 h0 H0 => ?_;obtain rfl:=sI H0;exact pR 5 [V1,r0 [.v,.v,.c true (iI y0),.v,.v]] [] [] (aC Tryz.call142 (aF (iO _ _ h0) aN))
def jV (x0:List Linear):Option Bool :=
 (cq x0).bind fun y0 =>
 some (!y0)
theorem rM (x0:List Linear) (r:Bool) (H:jV x0=some r):aW Tryz.prog 45 [dS ae x0] (.bool r):=by unfold jV at H;refine aX Tryz.func45 6 [.tmp 2] ?_;refine aD H fun y0 h0 H0 => ?_;obtain rfl:=sI H0;exact pR 5 [V1,r0 [.v,.c true (.bool y0),.v,.v]] [] [] (aC Tryz.call88 (aF (gE _ _ h0) (aT aN)))
noncomputable def ep (x0:List Linear):Option (List aq) :=
 (dF (σ:=(List (aq×Bool))) (ε:=(List (aq×Bool))) (ρ:=Empty) (fun i0 s0 =>
  (mF (Linear.mk ((x0.getD i0 ax).Const) ((x0.getD i0 ax).Terms))).bind fun y0 =>
  (dF (σ:=(List (aq×Bool))) (ε:=(List (aq×Bool))) (ρ:=Empty) (fun i1 s1 =>
   some (.go (dE (y0.getD i1 []) true s1))
  ) (fun i1 s1=>s1) (y0.length-0) 0 s0).bind <| dq fun u0 =>
  some (.go u0)
 ) (fun i0 s0=>s0) (x0.length-0) 0 []).bind <| dq fun u1 =>
 qX (σ:=(List aq)) (ε:=Empty) (β:=(List aq)) u1 (fun e0 s2 =>
  cb ((s2.length+1)*16≤140737488355328) <|
  some (.go (s2++[e0.1]))
 ) [] (fun s2 =>
  (jO s2).bind fun y1 =>
  some y1
 )
def eW (x0:List Linear) (i0:Nat) (s0:List (aq×Bool)):AS:=⟨41,[(2,.eslice),(3,.amap 10),(11,dS ae x0),(12,nI x0.length),(13,nI i0)],[(10,.smap 0 4 (s0.map (aJ mC)))]⟩
def iK (u2:List (aq×Bool)):AS:=⟨41,[(2,.eslice),(3,.amap 10)],[(10,.smap 0 4 (u2.map (aJ mC)))]⟩
def eU (x0:List Linear) (i0:Nat) (y0:List aq) (i1:Nat) (s1:List (aq×Bool)):AS:=⟨41,[(2,.eslice),(3,.amap 10),(11,dS ae x0),(12,nI x0.length),(13,nI i0),(18,dS aZ y0),(19,nI y0.length),(20,nI i1)],[(10,.smap 0 4 (s1.map (aJ mC)))]⟩
def iz (x0:List Linear) (i0:Nat) (u3:List (aq×Bool)):AS:=⟨41,[(2,.eslice),(3,.amap 10),(11,dS ae x0),(12,nI x0.length),(13,nI i0)],[(10,.smap 0 4 (u3.map (aJ mC)))]⟩
def eS (u1:List (aq×Bool)) (i2:List Nat) (s2:List aq):AS:=⟨41,[(2,.eslice),(8,.rslice 37),(29,.hptr 29 0)],[(29,.iter (u1.map (aJ mC)) i2),(37,.row 9 1 (s2.map aZ))]⟩
theorem iS (x0:List Linear) (r:List aq) (H:ep x0=some r):aW Tryz.prog 49 [dS ae x0] (dS aZ r):=by
 unfold ep at H;refine aX Tryz.func49 41 [.tmp 2] ?_;refine pA 8 [V1,r0 [.m,.v],r0 [.v,.e (nI x0.length),.v]] [.only [2,3,11,12,13] [10]] 8 [] (eW x0 0 []) (aT (aC (aG ae x0) aN)) ?_;refine aD H fun R0 h0 H0 => ?_;refine pJ 1 (iK) R0 ?_ (fun u1 e1 => ?_)
 ·refine pC (eW x0) h0 (fun i0 s0 h1 e2 => ?_) (fun i0 s0 h2 q0 h3 h4 => ?_)
  ·have c0:=lF i0 x0.length (by omega);subst e2;exact pB 5 [r0 [.e bF]] [.only [2,3] [10]] (iK s0) (aB c0 aN)
  ·have c1:=lT i0 x0.length (by omega);refine aD h3 fun y0 h5 H1 => ?_;refine pA 12 [r0 [.e bT],r0 [.e (.dptr (ae (x0.getD i0 ax))),.v,.m,.m],r0 [.v,.c true (dS aZ y0),.e (nI y0.length),.v]] [.only [2,3,11,12,13,18,19,20] [10]] 12 [true] (eU x0 i0 y0 0 s0) (aB c1 (aI bA x0 i0 ax (aC Tryz.call98 (aF (qN _ _ h5) (aT (aC (aG aZ y0) aN)))))) ?_;refine aD H1 fun R1 h6 H2 => ?_;refine pJ 2 (iz x0 i0) R1 ?_ (fun u0 e3 => ?_)
   ·refine pC (eU x0 i0 y0) h6 (fun i1 s1 h7 e4 => ?_) (fun i1 s1 h8 q1 h9 h10 => ?_)
    ·have c2:=lF i1 y0.length (by omega);subst e4;exact pB 5 [r0 [.e bF]] [.only [2,3,11,12,13] [10]] (iz x0 i0 s1) (aB c2 aN)
    ·have c3:=lT i1 y0.length (by omega);refine bt 18 (ps:=[(y0.map aZ).length≤9223372036854775807]) (by kernel_rfl) (fun l0 => ?_);have l1:y0.length≤9223372036854775807:=by simpa only [bI,Hp] using l0
     clear l0;obtain rfl:=sI h9;exact pB 11 [r0 [.e bT],r0 [.e (.dptr [.str (y0.getD i1 [])]),.v,.v],r0 [.v,.v,.m,.rwH 10 (.smap 0 4 ((dE (y0.getD i1 []) true s1).map (aJ mC)))],V2] [.only [2,3,11,12,13,18,19,20] [10]] (eU x0 i0 y0 (i1+1) (dE (y0.getD i1 []) true s1)) (aB c3 (aI rR y0 i1 [] (aC (congrArg (AO.smap 0 4) (fV (c:=mC) (y0.getD i1 []) true s1)) (aH i1 aN))))
   ·subst e3;have H3:=a7 H2;refine bt 11 (ps:=[(x0.map ae).length≤9223372036854775807]) (by kernel_rfl) (fun l2 => ?_);have l3:x0.length≤9223372036854775807:=by simpa only [bI,Hp] using l2
    clear l2;obtain rfl:=sI H3;exact pB 1 [V2] [.only [2,3,11,12,13] [10]] (eW x0 (i0+1) u0) (aH i0 aN)
 ·subst e1;have H4:=a7 H0;refine pA 6 [V1,r0 [.v,.fm 10,.m]] [.er 8 37 9 1,.only [2,8,29] [29,37]] 6 [] (eS u1 [] []) (aC (sy Ek u1) aN) ?_;refine sl (cc:=mC) 29 (eS u1) (by kernel_rfl) H4 [.v] (fun i2 s2=>⟨by kernel_rfl,by kernel_rfl⟩) (fun i2 s2=>⟨41,[(2,.eslice),(8,.rslice 37),(29,.hptr 29 0),(30,.tup [.bool false]),(31,.bool false)],[(29,.iter (u1.map (aJ mC)) i2),(37,.row 9 1 (s2.map aZ))]⟩) (fun i2 s2=>by kernel_rfl) (fun i2 s2 n0 e0=>⟨41,[(2,.eslice),(8,.rslice 37),(29,.hptr 29 0),(30,.tup [.bool true,.str e0.1,.bool e0.2]),(31,.bool true)],[(29,.iter (u1.map (aJ mC)) (i2++[n0])),(37,.row 9 1 (s2.map aZ))]⟩) (fun i2 s2 n0 e0=>by kernel_rfl) (fun i2 s2 H5 => ?_) (fun i2 s2 n0 e0 h11 q2 h12 h13 => ?_)
  ·refine aD H5 fun y1 h14 H6 => ?_;refine bc H6 fun e5 => ?_;subst e5;exact pR 8 [r0 [.v,.hR [(37,1000)] 39 (.tup []) [(1000,.row 9 1 (y1.map aZ))]],V2] [.fz 37] [] (aC Tryz.call99 (aC (re s2 y1 h14) aN))
  ·refine aP h12 fun g0 H7 => ?_;obtain rfl:=sI H7;exact pB 7 [r0 [.en n0 (.tup [.str e0.1,.bool e0.2]),.v,.v],r0 [.v,.v,.b,.ap,.rwH 37 (.row 9 1 ((s2++[e0.1]).map aZ)),.v]] [.only [2,8,29] [29,37]] (eS u1 (i2++[n0]) (s2++[e0.1])) (aC (jk i2 n0) (aC (uB (cc:=mC) h11) (a8 (qB (c:=aZ) oo s2 [e0.1] 16 (by decide) (by first | (simp;done) | simpa using g0)) (aC (tI 9 1 aZ s2 [e0.1]) aN))))
def kc (x0:aq):Option Int :=
 (strings_HasPrefix x0 [95]).bind fun y0 =>
 bif y0 then (
  none
 ) else (
  some 0
 )
theorem rZ (x0:aq) (r:Int) (H:kc x0=some r):aW Tryz.prog 91 [.str x0] (iI r):=by
 unfold kc at H;refine aX Tryz.func91 15 [.tmp 2] ?_;refine aD H fun y0 h0 H0 => ?_;refine aK H0 (fun c0 H1 => ?_) (fun c1 H2 => ?_)
 ·cases H1
 ·obtain rfl:=sI H2;exact pR 10 [V1,r0 [.v,.c true (.bool y0),.v],.eqT 7 bT,V1] [] [] (aC Tryz.call144 (aF (da _ _ _ h0) (aT (aM c1 aN))))
noncomputable def gP (x0:List Linear):Option Int :=
 (ep x0).bind fun y0 =>
 (dF (σ:=Int) (ε:=Int) (ρ:=Empty) (fun i0 s0 =>
  (kc (y0.getD i0 [])).bind fun y1 =>
  some (.go (if y1>s0 then y1 else s0))
 ) (fun i0 s0=>s0) (y0.length-0) 0 0).bind <| dq fun u0 =>
 some u0
def ff (y0:List aq) (i0:Nat) (s0:Int):AS:=⟨19,[(2,iI 0),(3,iI s0),(7,dS aZ y0),(8,nI y0.length),(9,nI i0)],[]⟩
def iT (u1:Int):AS:=⟨19,[(2,iI 0),(3,iI u1)],[]⟩
theorem pt (x0:List Linear) (r:Int) (H:gP x0=some r):aW Tryz.prog 46 [dS ae x0] (iI r):=by
 unfold gP at H;refine aX Tryz.func46 19 [.tmp 2] ?_;refine aD H fun y0 h0 H0 => ?_;refine pA 8 [V1,V1,r0 [.v,.c true (dS aZ y0),.e (nI y0.length),.v]] [.only [2,3,7,8,9] []] 8 [] (ff y0 0 0) (aC Tryz.call49 (aF (iS _ _ h0) (aT (aC (aG aZ y0) aN)))) ?_;refine aD H0 fun R0 h1 H1 => ?_;refine pJ 1 (iT) R0 ?_ (fun u0 e0 => ?_)
 ·refine pC (ff y0) h1 (fun i0 s0 h2 e1 => ?_) (fun i0 s0 h3 q0 h4 h5 => ?_)
  ·have c0:=lF i0 y0.length (by omega);subst e1;exact pB 5 [r0 [.e bF]] [.only [2,3] []] (iT s0) (aB c0 aN)
  ·have c1:=lT i0 y0.length (by omega);refine aD h4 fun y1 h6 H2 => ?_;refine bt 7 (ps:=[(y0.map aZ).length≤9223372036854775807]) (by kernel_rfl) (fun l0 => ?_);have l1:y0.length≤9223372036854775807:=by simpa only [bI,Hp] using l0
   clear l0;obtain rfl:=sI H2;exact pB 11 [r0 [.e bT],r0 [.e (.dptr [.str (y0.getD i0 [])]),.v,.v],r0 [.v,.v,.c true (iI y1),.v,.v],V2] [.only [2,3,7,8,9] []] (ff y0 (i0+1) (if y1>s0 then y1 else s0)) (aB c1 (aI rR y0 i0 [] (aC Tryz.call91 (aF (rZ _ _ h6) (aT (aH i0 aN))))))
 ·subst e0;have H3:=a7 H1;refine bc H3 fun e2 => ?_;subst e2;exact pR 3 [V2] [] [] aN
def lL (x0:Linear):Option Bool :=
 bif (((x0.Terms.length:Nat):Int)==0) then (
  some (x0.Const==0)
 ) else (
  some false
 )
theorem sF (x0:Linear) (r:Bool) (H:lL x0=some r):aW Tryz.prog 47 [.agg [iI x0.Const,dS ai x0.Terms]] (.bool r):=by
 unfold lL at H;refine aX Tryz.func47 12 [.tmp 2] ?_;refine aK H (fun c0 H0 => ?_) (fun c1 H1 => ?_)
 ·obtain rfl:=sI H0;exact pR 5 [r0 [.m,.v],r0 [.v,.v,.e (nI x0.Terms.length),.e bT,.v,.v,.v,.v,.v,.v]] [] [] (aT (aC (aG ai x0.Terms) (aB c0 aN)))
 ·obtain rfl:=sI H1;exact pR 5 [r0 [.m,.v],r0 [.v,.v,.e (nI x0.Terms.length),.e bF,.v,.s,.s,.s,.v,.v]] [] [] (aT (aC (aG ai x0.Terms) (aB c1 aN)))
def kZ (x0:Linear):Option Int :=
 (bw x0).bind fun y0 =>
 bif y0 then (
  (dF (σ:=Int) (ε:=Int) (ρ:=Empty) (fun i0 s0 =>
   (xv (σ:=(Int×Int)) (ε:=Int) (ρ:=Empty) (fun s1 =>
    bif (s1.2==0) then (
     some (.brk s1.1)
    ) else (
     cb ((s1.2:Int)≠0) <|
     some (.go (s1.2,(s1.1.tmod s1.2)))
    )
   ) 4294967296 (s0,(if (bg (0-((x0.Terms.getD i0 aw).C)))>((x0.Terms.getD i0 aw).C) then (bg (0-((x0.Terms.getD i0 aw).C))) else ((x0.Terms.getD i0 aw).C)))).bind <| dq fun u0 =>
   some (.go u0)
  ) (fun i0 s0=>s0) (x0.Terms.length-0) 0 0).bind <| dq fun u1 =>
  some u1
 ) else (
  none
 )
def iH (x0:Linear) (i0:Nat) (s0:Int):AS:=⟨34,[(2,iI 0),(3,iI s0),(12,dS ai x0.Terms),(13,nI x0.Terms.length),(14,nI i0)],[]⟩
def mv (u2:Int):AS:=⟨34,[(2,iI 0),(3,iI u2)],[]⟩
def im (x0:Linear) (i0:Nat) (s0:Int) (s1:Int×Int):AS:=⟨34,[(2,iI 0),(3,iI s0),(6,iI s1.1),(7,iI s1.2),(12,dS ai x0.Terms),(13,nI x0.Terms.length),(14,nI i0)],[]⟩
def mz (x0:Linear) (i0:Nat) (s0 u3:Int):AS:=⟨34,[(2,iI 0),(3,iI s0),(6,iI u3),(12,dS ai x0.Terms),(13,nI x0.Terms.length),(14,nI i0)],[]⟩
theorem sO (x0:Linear) (r:Int) (H:kZ x0=some r):aW Tryz.prog 92 [.agg [iI x0.Const,dS ai x0.Terms]] (iI r):=by
 unfold kZ at H;refine aX Tryz.func92 34 [.tmp 2] ?_;refine aD H fun y0 h0 H0 => ?_;refine aK H0 (fun c0 H1 => ?_) (fun c1 H2 => ?_)
 ·refine pA 14 [.rg 0 [] [.m,.v],.rg 0 [] [.v],.rg 0 [] [.v,.c true (.bool y0),.v],.eqT 10 bF,.rg 0 [] [.v,.v,.e (.int .i64 ((x0.Terms.length:Nat):Int)),.v]] [.only [2,3,12,13,14] []] 13 [false] (iH x0 0 0) (aC Tryz.call90 (aF (bj _ _ h0) (aT (aM c0 (aT (aC (aG ai x0.Terms) aN)))))) ?_;refine aD H1 fun R0 h1 H3 => ?_;refine pJ 1 (mv) R0 ?_ (fun u1 e0 => ?_)
  ·refine pC (iH x0) h1 (fun i0 s0 h2 e1 => ?_) (fun i0 s0 h3 q0 h4 h5 => ?_)
   ·have c2:=lF i0 x0.Terms.length (by omega);subst e1;exact pB 5 [r0 [.e bF]] [.only [2,3] []] (mv s0) (aB c2 aN)
   ·have c3:=lT i0 x0.Terms.length (by omega);refine pA 13 [r0 [.e bT],r0 [.e (.dptr (ai (x0.Terms.getD i0 aw))),.v,.m,.m],.rg 8 (V 5 [.w,.v,.v]) [.v]] [.only [2,3,6,7,12,13,14] []] 13 [true] (im x0 i0 s0 (s0,(if (bg (0-((x0.Terms.getD i0 aw).C)))>((x0.Terms.getD i0 aw).C) then (bg (0-((x0.Terms.getD i0 aw).C))) else ((x0.Terms.getD i0 aw).C)))) (aB c3 (aI bE x0.Terms i0 aw (aT aN))) ?_;refine aD h4 fun R1 h6 H4 => ?_;refine pJ 1 (mz x0 i0 s0) R1 ?_ (fun u0 e2 => ?_)
    ·refine nG (im x0 i0 s0) (by kernel_rfl) h6 (fun s1 q1 h7 h8 => ?_)
     ·refine aK h7 (fun c4 H5 => ?_) (fun c5 H6 => ?_)
      ·obtain rfl:=sI H5;obtain rfl:=fy h8;exact pB 6 [V2,.eqT 26 bF] [.only [2,3,6,12,13,14] []] (mz x0 i0 s0 s1.1) (aM c4 aN)
      ·refine aP H6 fun g0 H7 => ?_;obtain rfl:=sI H7;exact pB 8 [V2,.eqT 26 bT,.rg 5 (V 5 []) [.v]] [.only [2,3,6,7,12,13,14] []] (im x0 i0 s0 (s1.2,(s1.1.tmod s1.2))) (aM c5 (aC (show (s1.2:Int)≠0 from g0) aN))
    ·subst e2;have H8:=a7 H4;refine bt 12 (ps:=[(x0.Terms.map ai).length≤9223372036854775807]) (by kernel_rfl) (fun l0 => ?_);have l1:x0.Terms.length≤9223372036854775807:=by simpa only [bI,Hp] using l0
     clear l0;obtain rfl:=sI H8;exact pB 2 [V2,V2] [.only [2,3,12,13,14] []] (iH x0 (i0+1) u0) (aH i0 aN)
  ·subst e0;have H9:=a7 H3;refine bc H9 fun e3 => ?_;subst e3;exact pR 3 [V2] [] [] aN
 ·cases H2
def rf (x0:List Int):Option Bool :=
 (dF (σ:=Unit) (ε:=Unit) (ρ:=Empty) (fun i0 s0 =>
  bif decide ((x0.getD i0 0)<(-4611686018427387904)) then (
   none
  ) else (
   bif decide ((x0.getD i0 0)>4611686018427387904) then (
    none
   ) else (
    some (.go ())
   )
  )
 ) (fun i0 s0=>()) (x0.length-0) 0 ()).bind <| dq fun u0 =>
 some true
def mV (x0:List Int) (i0:Nat) (s0:Unit):AS:=⟨18,[(2,.bool false),(5,dS au x0),(6,nI x0.length),(7,nI i0)],[]⟩
def qU (u1:Unit):AS:=⟨18,[(2,.bool false)],[]⟩
theorem xC (x0:List Int) (r:Bool) (H:rf x0=some r):aW Tryz.prog 146 [dS au x0] (.bool r):=by
 unfold rf at H;refine aX Tryz.func146 18 [.tmp 2] ?_;refine pA 6 [V1,r0 [.v,.e (nI x0.length),.v]] [.only [2,5,6,7] []] 6 [] (mV x0 0 ()) (aT (aC (aG au x0) aN)) ?_;refine aD H fun R0 h0 H0 => ?_;refine pJ 1 (qU) R0 ?_ (fun u0 e0 => ?_)
 ·refine pC (mV x0) h0 (fun i0 s0 h1 e1 => ?_) (fun i0 s0 h2 q0 h3 h4 => ?_)
  ·have c0:=lF i0 x0.length (by omega);subst e1;exact pB 5 [r0 [.e bF]] [.only [2] []] (qU ()) (aB c0 aN)
  ·have c1:=lT i0 x0.length (by omega);refine aK h3 (fun c2 H1 => ?_) (fun c3 H2 => ?_)
   ·cases H1
   ·have c3p:=Hl c3;refine aK H2 (fun c4 H3 => ?_) (fun c5 H4 => ?_)
    ·cases H3
    ·have c5p:=Hl c5;refine bt 5 (ps:=[(x0.map au).length≤9223372036854775807]) (by kernel_rfl) (fun l0 => ?_);have l1:x0.length≤9223372036854775807:=by simpa only [bI,Hp] using l0
     clear l0;obtain rfl:=sI H4;exact pB 15 [r0 [.e bT],r0 [.e (.dptr [iI (x0.getD i0 0)]),.v,.v],r0 [.v,.e bF,.v,.v,.v,.v],.eqT 16 bF,V2] [.only [2,5,6,7] []] (mV x0 (i0+1) ()) (aB c1 (aI yg x0 i0 0 (aB c3 (aB c5 (aH i0 aN)))))
 ·subst e0;have H5:=a7 H0;obtain rfl:=sI H5;exact pR 3 [V1] [] [] aN
def mE (x0:Int):Option Int :=
 bif decide (x0<0) then (
  none
 ) else (
  some x0
 )
theorem qQ (x0 r:Int) (H:mE x0=some r):aW Tryz.prog 148 [iI x0] (iI r):=by
 unfold mE at H;refine aX Tryz.func148 8 [.tmp 2] ?_;refine aK H (fun c0 H0 => ?_) (fun c1 H1 => ?_)
 ·cases H0
 ·refine bc H1 fun e0 => ?_;subst e0;exact pR 11 [V1,V2,.eqT 4 bF,V2] [] [] (aB c1 aN)
def pX (x0 x1:Int):Option (Int×Int) :=
 (rf [x0,x1]).bind fun y0 =>
 bif y0 then (
  (mE x0).bind fun y1 =>
  (mE x1).bind fun y2 =>
  (w9 (IntKind.wrap .u64 y1) (IntKind.wrap .u64 y2)).bind fun y3 =>
  bif decide (y3.1>0) then (
   none
  ) else (
   bif decide (y3.2>4611686018427387904) then (
    none
   ) else (
    bif (decide (x0<0)==decide (x1<0)) then (
     some ((IntKind.wrap .i64 y3.2),0)
    ) else (
     none
    )
   )
  )
 ) else (
  none
 )
theorem wz (x0 x1:Int) (r:Int×Int) (H:pX x0 x1=some r):aW Tryz.prog 93 [iI x0,iI x1] (.tup [iI r.1,iI r.2]):=by
 unfold pX at H;refine aX Tryz.func93 39 [.tmp 4,.tmp 5] ?_;refine aD H fun y0 h0 H0 => ?_;refine aK H0 (fun c0 H1 => ?_) (fun c1 H2 => ?_)
 ·refine aD H1 fun y1 h1 H3 => ?_;refine aD H3 fun y2 h2 H4 => ?_;refine aD H4 fun y3 h3 H5 => ?_;refine pD 12 [V2,r0 [.v,.v,.b,.c true (.bool y0),.v],.eqT 12 bF,r0 [.v,.c true (iI y1),.v,.v,.c true (iI y2),.v,.c true (.tup [.int .u64 y3.1,.int .u64 y3.2]),.v,.v,.v,.v,.v]] [.only [0,1,4,5,6,7] []] 11 [false] (aC Tryz.call146 (aF (xC _ _ h0) (aT (aM c0 (aC Tryz.call148 (aF (qQ _ _ h1) (aT (aC Tryz.call148 (aF (qQ _ _ h2) (aT (aC Tryz.call147 (aF (zO (IntKind.wrap .u64 y1) (IntKind.wrap .u64 y2) y3 h3) aN)))))))))))) ?_;refine aK H5 (fun c2 H6 => ?_) (fun c3 H7 => ?_)
  ·cases H6
  ·refine aK H7 (fun c4 H8 => ?_) (fun c5 H9 => ?_)
   ·cases H8
   ·refine aK H9 (fun c6 H10 => ?_) (fun c7 H11 => ?_)
    ·obtain rfl:=sI H10;exact pR 13 [r0 [.v,.e bF,.v,.v,.v,.v],.eqT 28 bF,V5,.eqT 33 bF,V4] [] [] (aB c3 (aB c5 (aM c6 (aT aN))))
    ·cases H11
 ·cases H2
def j5 (x0 x1:Int):Option Bool :=
 bif (x1==0) then (
  bif decide (x0≥(-1099511627776)) then (
   some (decide (x0≤1099511627776))
  ) else (
   none
  )
 ) else (
  none
 )
theorem rN (x0 x1:Int) (r:Bool) (H:j5 x0 x1=some r):aW Tryz.prog 94 [iI x0,iI x1] (.bool r):=by
 unfold j5 at H;refine aX Tryz.func94 15 [.tmp 4] ?_;refine aK H (fun c0 H0 => ?_) (fun c1 H1 => ?_)
 ·refine aK H0 (fun c2 H2 => ?_) (fun c3 H3 => ?_)
  ·obtain rfl:=sI H2;exact pR 5 [V1,r0 [.v,.e bT,.v,.v,.e bT,.v,.v,.v,.v,.v,.v]] [] [] (aB c0 (aB c2 aN))
  ·cases H3
 ·cases H1
def eI (x0:List ay):Option ay :=
 bif decide (((x0.length:Nat):Int)<1) then (
  none
 ) else (
  cb (0<x0.length) <|
  (xv (σ:=Unit) (ε:=Unit) (ρ:=Empty) (fun s0 =>
   bif decide (1<((x0.length:Nat):Int)) then (
    none
   ) else (
    some (.brk ())
   )
  ) 4294967296 ()).bind <| dq fun u0 =>
  some (ay.mk ((x0.getD 0 aw).Var) ((x0.getD 0 aw).C))
 )
def fM (x0:List ay) (s0:Unit):AS:=⟨33,[(0,dS ai x0),(1,.fn 150 []),(4,.hptr 4 0),(5,.hptr 5 0),(6,iI 1)],[(4,.cells 31 [.str [],iI 0]),(5,.cells 31 [.str ((x0.getD 0 aw).Var),iI ((x0.getD 0 aw).C)])]⟩
def fO (x0:List ay) (u1:Unit):AS:=⟨33,[(4,.hptr 4 0),(5,.hptr 5 0)],[(4,.cells 31 [.str [],iI 0]),(5,.cells 31 [.str ((x0.getD 0 aw).Var),iI ((x0.getD 0 aw).C)])]⟩
theorem mr (x0:List ay) (r:ay) (H:eI x0=some r):aW Tryz.prog 149 [dS ai x0,.fn 150 []] (.agg [.str r.Var,iI r.C]):=by
 unfold eI at H;refine aX Tryz.func149 33 [.cell 4 31] ?_;refine aK H (fun c0 H0 => ?_) (fun c1 H1 => ?_)
 ·cases H0
 ·have c1p:=Hl c1;refine aP H1 fun g0 H2 => ?_;refine pA 14 [r0 [.m],r0 [.v,.e (nI x0.length),.v],.eqT 9 bF,r0 [.v,.e (.dptr (ai (x0.getD 0 aw))),.v,.m,.m],V1] [.only [0,1,4,5,6] [4,5]] 13 [false] (fM x0 ()) (aT (aC (aG ai x0) (aB c1 (aI bE x0 0 aw aN)))) ?_;refine aD H2 fun R0 h0 H3 => ?_;refine pJ 1 (fO x0) R0 ?_ (fun u0 e0 => ?_)
  ·refine nG (fM x0) (by kernel_rfl) h0 (fun s0 q0 h1 h2 => ?_)
   ·refine aK h1 (fun c2 H4 => ?_) (fun c3 H5 => ?_)
    ·cases H4
    ·obtain rfl:=sI H5;obtain rfl:=fy h2;exact pB 6 [r0 [.v,.v,.e (nI x0.length),.v],.eqT 17 bF] [.only [4,5] [4,5]] (fO x0 ()) (aT (aC (aG ai x0) (aB c3 aN)))
  ·subst e0;have H6:=a7 H3;obtain rfl:=sI H6;exact pR 3 [r0 [.v,.m]] [] [] aN
def l6 (x0:Linear):Option ay :=
 (eI x0.Terms).bind fun y0 =>
 some y0
theorem te (x0:Linear) (r:ay) (H:l6 x0=some r):aW Tryz.prog 95 [.agg [iI x0.Const,dS ai x0.Terms]] (.agg [.str r.Var,iI r.C]):=by unfold l6 at H;refine aX Tryz.func95 6 [.cell 2 31] ?_;refine aD H fun y0 h0 H0 => ?_;refine bc H0 fun e0 => ?_;subst e0;exact pR 5 [r0 [.m,.m],r0 [.v,.v,.c true (.agg [.str y0.Var,iI y0.C]),.m]] [] [] (aC Tryz.call149 (aF (mr _ _ h0) aN))
def qj (x0:Linear) (x1:aq):Option Int :=
 (xv (σ:=Unit) (ε:=Unit) (ρ:=Int) (fun s0 =>
  bif decide (0<((x0.Terms.length:Nat):Int)) then (
   bif (((x0.Terms.getD 0 aw).Var)==x1) then (
    some (.ret ((x0.Terms.getD 0 aw).C))
   ) else (
    none
   )
  ) else (
   some (.brk ())
  )
 ) 4294967296 ()).bind <| aft fun u0 =>
 some 0
def qc (x0:Linear) (x1:aq) (s0:Unit):AS:=⟨21,[(1,.str x1),(4,iI 0),(8,dS ai x0.Terms),(9,nI x0.Terms.length),(10,iI 0)],[]⟩
def pK (u1:Unit):AS:=⟨21,[(4,iI 0)],[]⟩
theorem wG (x0:Linear) (x1:aq) (r:Int) (H:qj x0 x1=some r):aW Tryz.prog 157 [.agg [iI x0.Const,dS ai x0.Terms],.str x1] (iI r):=by
 unfold qj at H;refine aX Tryz.func157 21 [.tmp 4] ?_;refine pA 6 [r0 [.m,.v],r0 [.v,.v,.e (nI x0.Terms.length),.v]] [.only [1,4,8,9,10] []] 6 [] (qc x0 x1 ()) (aT (aC (aG ai x0.Terms) aN)) ?_;refine aD H fun R0 h0 H0 => ?_;refine pJ 1 (pK) R0 ?_ (fun u0 e0 => ?_)
 ·refine nG (qc x0 x1) (by kernel_rfl) h0 (fun s0 q0 h1 h2 => ?_)
  ·refine aK h1 (fun c0 H1 => ?_) (fun c1 H2 => ?_)
   ·have c0p:=Hm c0;refine aK H1 (fun c2 H3 => ?_) (fun c3 H4 => ?_)
    ·obtain rfl:=sI H3;obtain rfl:=aR h2;obtain rfl:=sI (aA H0);exact pR 17 [V1,.eqT 11 bT,r0 [.e (.dptr (ai (x0.Terms.getD 0 aw))),.v,.m,.m],V4,.eqT 17 bT,V3] [] [] (aB c0 (aI bE x0.Terms 0 aw (aB c2 aN)))
    ·cases H4
   ·obtain rfl:=sI H2;obtain rfl:=fy h2;exact pB 6 [V1,.eqT 11 bF] [.only [4] []] (pK ()) (aB c1 aN)
 ·subst e0;have H5:=bl H0;obtain rfl:=sI H5;exact pR 3 [V1] [] [] aN
def iu (x0:Bind) (x1:ay):Option Bool :=
 bif (x0.Kind==1) then (
  some (x0.Var==x1.Var)
 ) else (
  some false
 )
theorem sS (x0:Bind) (x1:ay) (r:Bool) (H:iu x0 x1=some r):aW Tryz.prog 108 [.agg [iI x0.Kind,.str x0.Var,iI x0.Dim.Const,dS ai x0.Dim.Terms,.str x0.Row.Row,dS ae x0.Row.Dims,.str x0.Elem],.dptr [.str x1.Var,iI x1.C]] (.bool r):=by
 unfold iu at H;refine aX Tryz.func108 14 [.tmp 3] ?_;refine aK H (fun c0 H0 => ?_) (fun c1 H1 => ?_)
 ·obtain rfl:=sI H0;exact pR 5 [r0 [.m,.v],r0 [.v,.v,.e bT,.v,.v,.v,.v,.v,.v,.v,.v]] [] [] (aB c0 aN)
 ·obtain rfl:=sI H1;exact pR 5 [r0 [.m,.v],r0 [.v,.v,.e bF,.v,.s,.s,.s,.s,.s,.v,.v]] [] [] (aB c1 aN)
def bL (x0:List Bind) (x1:aq) (x2:Int):Option Int :=
 (dF (σ:=Unit) (ε:=Unit) (ρ:=Int) (fun i0 s0 =>
  (iu (Bind.mk ((x0.getD i0 ak).Kind) ((x0.getD i0 ak).Var) (Linear.mk (((x0.getD i0 ak).Dim).Const) (((x0.getD i0 ak).Dim).Terms)) (Shape.mk (((x0.getD i0 ak).Row).Row) (((x0.getD i0 ak).Row).Dims)) ((x0.getD i0 ak).Elem)) (ay.mk x1 x2)).bind fun y0 =>
  bif y0 then (
   some (.ret ((i0:Nat):Int))
  ) else (
   some (.go ())
  )
 ) (fun i0 s0=>()) (x0.length-0) 0 ()).bind <| aft fun u0 =>
 some (-1)
def cQ (x0:List Bind) (x1:aq) (x2:Int) (i0:Nat) (s0:Unit):AS:=⟨19,[(0,dS al x0),(1,.fn 108 [.hptr 1000 0]),(4,iI 0),(7,nI x0.length),(8,nI i0)],[(1000,.cells 31 [.str x1,iI x2])]⟩
def eA (x1:aq) (x2:Int) (u1:Unit):AS:=⟨19,[(4,iI 0)],[(1000,.cells 31 [.str x1,iI x2])]⟩
theorem jJ (x0:List Bind) (x1:aq) (x2 r:Int) (H:bL x0 x1 x2=some r):bn Tryz.prog 105 [dS al x0,.fn 108 [.hptr 1000 0]] [(1000,.cells 31 [.str x1,iI x2])] (fun r2 h0=>r2=(iI r)∧h0=[(1000,.cells 31 [.str x1,iI x2])]):=by
 unfold bL at H;refine aX Tryz.func105 19 [.tmp 4] ?_;refine pA 6 [V1,r0 [.v,.e (nI x0.length),.v]] [.only [0,1,4,7,8] [1000]] 6 [] (cQ x0 x1 x2 0 ()) (aT (aC (aG al x0) aN)) ?_;refine aD H fun R0 h1 H0 => ?_;refine pJ 1 (eA x1 x2) R0 ?_ (fun u0 e0 => ?_)
 ·refine pC (cQ x0 x1 x2) h1 (fun i0 s0 h2 e1 => ?_) (fun i0 s0 h3 q0 h4 h5 => ?_)
  ·have c0:=lF i0 x0.length (by omega);subst e1;exact pB 5 [r0 [.e bF]] [.only [4] [1000]] (eA x1 x2 ()) (aB c0 aN)
  ·have c1:=lT i0 x0.length (by omega);refine aD h4 fun y0 h6 H1 => ?_;refine pD 11 [r0 [.e bT],V2,r0 [.v,.v,.v,.e (.dptr (al (x0.getD i0 ak))),.v,.c false (.bool y0)]] [.only [0,1,4,5,7,8,16] [1000]] 11 [true] (aB c1 (aI aQ x0 i0 ak (aC Tryz.call108 (aF (sS _ _ _ h6) aN)))) ?_;refine aK H1 (fun c2 H2 => ?_) (fun c3 H3 => ?_)
   ·obtain rfl:=sI H2;obtain rfl:=aR h5;obtain rfl:=sI (aA H0);exact pR 5 [.eqT 16 bT,V2] [] [1000] (aB c2 aN)
   ·refine bt 0 (ps:=[(x0.map al).length≤9223372036854775807]) (by kernel_rfl) (fun l0 => ?_);have l1:x0.length≤9223372036854775807:=by simpa only [bI,Hp] using l0
    clear l0;obtain rfl:=sI H3;exact pB 4 [.eqT 16 bF,V2] [.only [0,1,4,7,8] [1000]] (cQ x0 x1 x2 (i0+1) ()) (aB c3 (aH i0 aN))
 ·subst e0;have H4:=bl H0;obtain rfl:=sI H4;exact pR 3 [V1] [] [1000] aN
noncomputable def fU (x0:Linear) (x1:List Bind):Option (Linear×Int) :=
 (bw x0).bind fun y0 =>
 bif y0 then (
  (dF (σ:=(Int×(List (aq×Int)))) (ε:=(Int×(List (aq×Int)))) (ρ:=(Linear×Int)) (fun i0 s0 =>
   (bL x1 ((x0.Terms.getD i0 aw).Var) ((x0.Terms.getD i0 aw).C)).bind fun y1 =>
   ((
    bif decide (y1<0) then (
     some (.brk (s0.1,(dE ((x0.Terms.getD i0 aw).Var) (bg ((bC 0 ((x0.Terms.getD i0 aw).Var) s0.2)+((x0.Terms.getD i0 aw).C))) s0.2)))
    ) else (
     cb (0≤y1∧y1<(x1.length:Int)) <|
     (bw (Linear.mk (((x1.getD y1.toNat ak).Dim).Const) (((x1.getD y1.toNat ak).Dim).Terms))).bind fun y2 =>
     bif y2 then (
      (dt (Linear.mk (((x1.getD y1.toNat ak).Dim).Const) (((x1.getD y1.toNat ak).Dim).Terms)) ((x0.Terms.getD i0 aw).C) s0.1 s0.2).bind fun y3 =>
      some (.brk (y3.1,y3.2))
     ) else (
      some (.ret (.ret ((Linear.mk 0 []),1)))
     )
    )
   ):Option (Out (Int×(List (aq×Int))) (kg (Int×(List (aq×Int))) (Int×(List (aq×Int))) (Linear×Int)))).bind (aft fun u0 =>
    some (.go (u0.1,u0.2))
   )
  ) (fun i0 s0=>(s0.1,s0.2)) (x0.Terms.length-0) 0 (x0.Const,[])).bind <| aft fun u1 =>
  (cu u1.1 u1.2).bind fun y4 =>
  some (y4.1,y4.2)
 ) else (
  some ((Linear.mk 0 []),1)
 )
def jX (x0:Linear) (x1:List Bind) (i0:Nat) (s0:Int×(List (aq×Int))):AS:=⟨60,[(1,dS al x1),(4,.hptr 4 0),(5,iI 0),(6,.hptr 6 0),(19,dS ai x0.Terms),(20,nI x0.Terms.length),(21,nI i0)],[(4,.cells 29 [iI 0,.eslice]),(6,.cells 158 [iI s0.1,.amap 16]),(16,.smap 0 3 (s0.2.map (aJ au)))]⟩
def oS (u2:Int×(List (aq×Int))):AS:=⟨60,[(4,.hptr 4 0),(5,iI 0),(6,.hptr 6 0)],[(4,.cells 29 [iI 0,.eslice]),(6,.cells 158 [iI u2.1,.amap 16]),(16,.smap 0 3 (u2.2.map (aJ au)))]⟩
def jZ (x0:Linear) (x1:List Bind) (i0:Nat) (u0:Int×(List (aq×Int))):AS:=⟨60,[(1,dS al x1),(4,.hptr 4 0),(5,iI 0),(6,.hptr 6 0),(19,dS ai x0.Terms),(20,nI x0.Terms.length),(21,nI i0)],[(4,.cells 29 [iI 0,.eslice]),(6,.cells 158 [iI u0.1,.amap 16]),(16,.smap 0 3 (u0.2.map (aJ au)))]⟩
theorem pW (x0:Linear) (x1:List Bind) (r:Linear×Int) (H:fU x0 x1=some r):aW Tryz.prog 56 [.agg [iI x0.Const,dS ai x0.Terms],dS al x1] (.tup [.agg [iI r.1.Const,dS ai r.1.Terms],iI r.2]):=by
 unfold fU at H;refine aX Tryz.func56 60 [.cell 4 29,.tmp 5] ?_;refine aD H fun y0 h0 H0 => ?_;refine aK H0 (fun c0 H1 => ?_) (fun c1 H2 => ?_)
 ·refine pA 14 [.rg 0 [] [.m,.m,.v],.rg 0 [] [.v,.c true (.bool y0),.v],.eqT 12 bF,.rg 0 [] [.v,.v,.m,.b,.m,.m],.rg 0 [] [.v,.v,.e (.int .i64 ((x0.Terms.length:Nat):Int)),.v]] [.only [1,4,5,6,19,20,21] [4,6,16]] 13 [false] (jX x0 x1 0 (x0.Const,[])) (aC Tryz.call90 (aF (bj _ _ h0) (aT (aM c0 (aT (aC (aG ai x0.Terms) aN)))))) ?_;refine aD H1 fun R0 h1 H3 => ?_;refine pJ 1 (oS) R0 ?_ (fun u1 e0 => ?_)
  ·refine pC (jX x0 x1) h1 (fun i0 s0 h2 e1 => ?_) (fun i0 s0 h3 q0 h4 h5 => ?_)
   ·have c2:=lF i0 x0.Terms.length (by omega);subst e1;exact pB 5 [r0 [.e bF]] [.only [4,5,6] [4,6,16]] (oS (s0.1,s0.2)) (aB c2 aN)
   ·have c3:=lT i0 x0.Terms.length (by omega);refine aD h4 fun y1 h6 H4 => ?_;refine pD 14 [r0 [.e bT],r0 [.e (.dptr (ai (x0.Terms.getD i0 aw))),.v,.m,.m],r0 [.v,.v,.hR [(8,1000)] 27 (iI y1) [(1000,.cells 31 (ai (x0.Terms.getD i0 aw)))],.v],V3] [.only [1,4,5,6,8,9,19,20,21,36] [4,6,8,16]] 14 [true] (aB c3 (aI bE x0.Terms i0 aw (aC Tryz.call105 (aC (jJ _ _ _ _ h6) aN)))) ?_;refine aD H4 fun v0 h7 H5 => ?_;refine pJ 2 (jZ x0 x1 i0) v0 ?_ (fun u0 e2 => ?_)
    ·refine aK h7 (fun c4 H6 => ?_) (fun c5 H7 => ?_)
     ·obtain rfl:=sI H6;exact pB 3 [.eqT 36 bT,r0 (V 4 [.l (iI (bC 0 ((x0.Terms.getD i0 aw).Var) s0.2)),.v,.v,.w,.m,.rwH 16 (.smap 0 3 ((dE ((x0.Terms.getD i0 aw).Var) (bg ((bC 0 ((x0.Terms.getD i0 aw).Var) s0.2)+((x0.Terms.getD i0 aw).C))) s0.2).map (aJ au)))])] [.only [1,4,5,6,19,20,21] [4,6,16]] (jZ x0 x1 i0 (s0.1,(dE ((x0.Terms.getD i0 aw).Var) (bg ((bC 0 ((x0.Terms.getD i0 aw).Var) s0.2)+((x0.Terms.getD i0 aw).C))) s0.2))) (aB c4 (aC (jm (c:=au) ((x0.Terms.getD i0 aw).Var) 0 s0.2) (aC (congrArg (AO.smap 0 3) (fV (c:=au) ((x0.Terms.getD i0 aw).Var) (bg ((bC 0 ((x0.Terms.getD i0 aw).Var) s0.2)+((x0.Terms.getD i0 aw).C))) s0.2)) aN)))
     ·refine aP H7 fun g0 H8 => ?_;refine aD H8 fun y2 h8 H9 => ?_;refine pD 4 [.eqT 36 bF,r0 [.v,.v,.e (.dptr (al (x1.getD y1.toNat ak))),.v,.v,.c true (.bool y2),.v,.v]] [.only [1,4,5,6,8,9,19,20,21,47] [4,6,8,16]] 3 [false] (aB c5 (a8 (Dc (f:=al) (l:=x1) (n:=y1) ak aQ (by decide) (by exact g0)) (aC Tryz.call90 (aF (bj _ _ h8) (aT aN))))) ?_;refine aK H9 (fun c6 H10 => ?_) (fun c7 H11 => ?_)
      ·refine aD H10 fun y3 h9 H12 => ?_;obtain rfl:=sI H12;exact pB 3 [.eqT 47 bF,.rg 7 [.v,.v,.e (.dptr (al (x1.getD y1.toNat ak))),.v,.v,.v,.v] [.hR [(6,1000),(16,1001)] 35 (.tup []) [(1000,.cells 158 [iI y3.1,.amap 1001]),(1001,.smap 0 3 (y3.2.map (aJ au)))]]] [.only [1,4,5,6,19,20,21] [4,6,16]] (jZ x0 x1 i0 (y3.1,y3.2)) (aM c6 (a8 (Dc (f:=al) (l:=x1) (n:=y1) ak aQ (by decide) (by exact g0)) (aC Tryz.call109 (aC (je _ _ _ _ _ h9) aN))))
      ·obtain rfl:=sI H11;obtain rfl:=sI (aA H5);obtain rfl:=aR h5;obtain rfl:=sI (aA H3);exact pR 5 [.eqT 47 bT,r0 [.b,.m,.v]] [.wkH 4 1 []] [] (aM c7 aN)
    ·subst e2;have H13:=bl H5;refine bt 19 (ps:=[(x0.Terms.map ai).length≤9223372036854775807]) (by kernel_rfl) (fun l0 => ?_);have l1:x0.Terms.length≤9223372036854775807:=by simpa only [bI,Hp] using l0
     clear l0;obtain rfl:=sI H13;exact pB 1 [V2] [.only [1,4,5,6,19,20,21] [4,6,16]] (jX x0 x1 (i0+1) (u0.1,u0.2)) (aH i0 aN)
  ·subst e0;have H14:=bl H3;refine aD H14 fun y4 h10 H15 => ?_;obtain rfl:=sI H15;exact pR 3 [r0 [.hR [(6,1000),(16,1001)] 57 (.tup [.agg [iI y4.1.Const,dS ai y4.1.Terms],iI y4.2]) [],.v,.v,.m,.v]] [] [] (aC Tryz.call110 (aC (iQ _ _ _ h10) aN))
 ·obtain rfl:=sI H2;exact pR 10 [r0 [.m,.m,.v],r0 [.v,.c true (.bool y0),.v],.eqT 12 bT,r0 [.b,.m,.v]] [.wkH 4 1 []] [] (aC Tryz.call90 (aF (bj _ _ h0) (aT (aM c1 aN))))
noncomputable def dW (x0:Nat) (x1:List ao) (x2:aq) (x3:List Bind):Option (Bool×(List ao)) :=
 cb (x0<x1.length) <|
 (qj (Linear.mk (((x1.getD x0 ab).q).Const) (((x1.getD x0 ab).q).Terms)) x2).bind fun y0 =>
 bif (y0==0) then (
  none
 ) else (
  (fU (Linear.mk (((x1.getD x0 ab).q).Const) (((x1.getD x0 ab).q).Terms)) x3).bind fun y1 =>
  some ((y1.2==0),(x1.set x0 (ao.mk y1.1 ((x1.getD x0 ab).mults) ((x1.getD x0 ab).scale) ((x1.getD x0 ab).lost))))
 )
theorem l8 (x0:Nat) (x1:List ao) (x2:aq) (x3:List Bind) (r:Bool×(List ao)) (H:dW x0 x1 x2 x3=some r):bn Tryz.prog 195 [.hptr 1000 (x0*5),.hptr 1001 0,.hptr 1002 0] [(1000,.row 109 5 (x1.map aj)),(1001,.cells 9 [.str x2]),(1002,.cells 45 [dS al x3])] (fun r2 h0=>r2=(.bool r.1)∧h0=[(1000,.row 109 5 (r.2.map aj)),(1001,.cells 9 [.str x2]),(1002,.cells 45 [dS al x3])]):=by
 unfold dW at H;refine aX Tryz.func195 26 [.tmp 4] ?_;refine aP H fun g0 H0 => ?_;refine aD H0 fun y0 h1 H1 => ?_;refine pD 5 [V1,.rg 4 [.v,.v,.rl x0 0 (.agg (ae ((x1.getD x0 ab).q))),.v] [.c true (iI y0),.v]] [.only [0,2,4,12] [1000,1001,1002]] 5 [] (aC (yC (f:=aj) (l:=x1) (n:=x0) 5 0 2 (by omega) (by decide)) (aC (F0 (f:=aj) (l:=x1) (n:=x0) ab 0 2 (by omega)) (aC Tryz.call157 (aF (wG _ _ _ h1) aN)))) ?_;refine aK H1 (fun c0 H2 => ?_) (fun c1 H3 => ?_)
 ·cases H2
 ·refine aD H3 fun y1 h2 H4 => ?_;obtain rfl:=sI H4;exact pR 10 [.eqT 12 bF,.rg 10 [.v,.v,.rl x0 0 (.agg (ae ((x1.getD x0 ab).q))),.v,.c true (.tup [.agg [iI y1.1.Const,dS ai y1.1.Terms],iI y1.2]),.v,.v,.v,.m,.m] [.v],r0 [.v,.v,.v,.rs x0 0,.rwH 1000 (.row 109 5 ((x1.set x0 (ao.mk y1.1 ((x1.getD x0 ab).mults) ((x1.getD x0 ab).scale) ((x1.getD x0 ab).lost))).map aj))],V3] [] [1000,1001,1002] (aB c1 (aC (yC (f:=aj) (l:=x1) (n:=x0) 5 0 2 (by omega) (by decide)) (aC (F0 (f:=aj) (l:=x1) (n:=x0) ab 0 2 (by omega)) (aC Tryz.call56 (aF (pW _ _ _ h2) (aC (yC (f:=aj) (l:=x1) (n:=x0) 5 0 2 (by omega) (by decide)) (aC (G0 (f:=aj) 109 5 x1 x0 ab (ao.mk y1.1 ((x1.getD x0 ab).mults) ((x1.getD x0 ab).scale) ((x1.getD x0 ab).lost)) 0 [iI y1.1.Const,dS ai y1.1.Terms] (by omega) rfl) aN)))))))
noncomputable def fK (x0:aq) (x1:Linear) (x2 x3:Int) (x4:List ao) (x5:List Bind):Option (Int×(List ao)×(List Bind)) :=
 (bw x1).bind fun y0 =>
 bif y0 then (
  (xv (σ:=Unit) (ε:=Unit) (ρ:=Empty) (fun s0 =>
   bif decide (0<((x5.length:Nat):Int)) then (
    none
   ) else (
    some (.brk ())
   )
  ) 4294967296 ()).bind <| dq fun u0 =>
  (xv (σ:=(Int×(List ao))) (ε:=(List ao)) (ρ:=Empty) (fun s1 =>
   bif decide (s1.1<((s1.2.length:Nat):Int)) then (
    cb (0≤s1.1∧s1.1<(s1.2.length:Int)) <|
    (dW s1.1.toNat s1.2 x0 [(Bind.mk 1 x0 x1 (Shape.mk [] []) [])]).bind fun y1 =>
    bif y1.1 then (
     some (.go ((bg (s1.1+1)),y1.2))
    ) else (
     none
    )
   ) else (
    some (.brk s1.2)
   )
  ) 4294967296 (x2,x4)).bind <| dq fun u1 =>
  cb (0<[(Bind.mk 1 x0 x1 (Shape.mk [] []) [])].length) <|
  cb ((x5.length+1)*112≤140737488355328) <|
  some (0,u1,(x5++[(Bind.mk (([(Bind.mk 1 x0 x1 (Shape.mk [] []) [])].getD 0 ak).Kind) (([(Bind.mk 1 x0 x1 (Shape.mk [] []) [])].getD 0 ak).Var) (Linear.mk ((([(Bind.mk 1 x0 x1 (Shape.mk [] []) [])].getD 0 ak).Dim).Const) ((([(Bind.mk 1 x0 x1 (Shape.mk [] []) [])].getD 0 ak).Dim).Terms)) (Shape.mk ((([(Bind.mk 1 x0 x1 (Shape.mk [] []) [])].getD 0 ak).Row).Row) ((([(Bind.mk 1 x0 x1 (Shape.mk [] []) [])].getD 0 ak).Row).Dims)) (([(Bind.mk 1 x0 x1 (Shape.mk [] []) [])].getD 0 ak).Elem))]))
 ) else (
  none
 )
def gT (x0:aq) (x1:Linear) (x2 x3:Int) (x4:List ao) (x5:List Bind) (s0:Unit):AS:=⟨72,[(0,.hptr 1000 0),(3,iI x2),(8,iI 0),(9,.hptr 9 0),(10,.fn 195 [.hptr 5 0,.hptr 9 0]),(25,nI x5.length),(26,iI 0)],[(5,.cells 9 [.str x0]),(9,.cells 45 [.dslice ([(Bind.mk 1 x0 x1 (Shape.mk [] []) [])].map al)]),(1000,.cells 106 [.rslice 1001,.rslice 1002,iI x3]),(1001,.row 109 5 (x4.map aj)),(1002,.row 62 7 (x5.map al))]⟩
def hP (x0:aq) (x1:Linear) (x2 x3:Int) (x4:List ao) (x5:List Bind) (u2:Unit):AS:=⟨72,[(0,.hptr 1000 0),(3,iI x2),(8,iI 0),(9,.hptr 9 0),(10,.fn 195 [.hptr 5 0,.hptr 9 0])],[(5,.cells 9 [.str x0]),(9,.cells 45 [.dslice ([(Bind.mk 1 x0 x1 (Shape.mk [] []) [])].map al)]),(1000,.cells 106 [.rslice 1001,.rslice 1002,iI x3]),(1001,.row 109 5 (x4.map aj)),(1002,.row 62 7 (x5.map al))]⟩
def eL (x0:aq) (x1:Linear) (x3:Int) (x5:List Bind) (s1:Int×(List ao)):AS:=⟨72,[(0,.hptr 1000 0),(8,iI 0),(9,.hptr 9 0),(10,.fn 195 [.hptr 5 0,.hptr 9 0]),(12,iI s1.1)],[(5,.cells 9 [.str x0]),(9,.cells 45 [.dslice ([(Bind.mk 1 x0 x1 (Shape.mk [] []) [])].map al)]),(1000,.cells 106 [.rslice 1001,.rslice 1002,iI x3]),(1001,.row 109 5 (s1.2.map aj)),(1002,.row 62 7 (x5.map al))]⟩
def gY (x0:aq) (x1:Linear) (x3:Int) (x5:List Bind) (u3:List ao):AS:=⟨72,[(0,.hptr 1000 0),(8,iI 0),(9,.hptr 9 0)],[(9,.cells 45 [.dslice ([(Bind.mk 1 x0 x1 (Shape.mk [] []) [])].map al)]),(1000,.cells 106 [.rslice 1001,.rslice 1002,iI x3]),(1001,.row 109 5 (u3.map aj)),(1002,.row 62 7 (x5.map al))]⟩
theorem om (x0:aq) (x1:Linear) (x2 x3:Int) (x4:List ao) (x5:List Bind) (r:Int×(List ao)×(List Bind)) (H:fK x0 x1 x2 x3 x4 x5=some r):bn Tryz.prog 156 [.hptr 1000 0,.str x0,.agg [iI x1.Const,dS ai x1.Terms],iI x2] [(1000,.cells 106 [.rslice 1001,.rslice 1002,iI x3]),(1001,.row 109 5 (x4.map aj)),(1002,.row 62 7 (x5.map al))] (fun r2 h0=>r2=(iI r.1)∧h0=[(0,.row 62 7 (r.2.2.map al)),(1000,.cells 106 [.rslice 1001,.rslice 0,iI x3]),(1001,.row 109 5 (r.2.1.map aj))]):=by
 unfold fK at H;refine aX Tryz.func156 72 [.tmp 8] ?_;refine aD H fun y0 h1 H0 => ?_;refine aK H0 (fun c0 H1 => ?_) (fun c1 H2 => ?_)
 ·refine pA 16 [.rg 0 [] [.m,.m,.v],.rg 0 [] [.v,.c true (.bool y0),.v],.eqT 15 bF,.rg 0 [] [.v,.v,.b,.b,.wk 19 [(0,5)],.m,.m],.rg 0 [] [.v,.v],.rg 0 [] (V 4 [.e (.int .i64 ((x5.length:Nat):Int)),.v])] [.only [0,3,8,9,10,25,26] [5,9,1000,1001,1002]] 15 [false] (gT x0 x1 x2 x3 x4 x5 ()) (aC Tryz.call90 (aF (bj _ _ h1) (aT (aM c0 (aT (aC (aG al x5) aN)))))) ?_;refine aD H1 fun R0 h2 H3 => ?_;refine pJ 1 (hP x0 x1 x2 x3 x4 x5) R0 ?_ (fun u0 e0 => ?_)
  ·refine nG (gT x0 x1 x2 x3 x4 x5) (by kernel_rfl) h2 (fun s0 q0 h3 h4 => ?_)
   ·refine aK h3 (fun c2 H4 => ?_) (fun c3 H5 => ?_)
    ·cases H4
    ·obtain rfl:=sI H5;obtain rfl:=fy h4;exact pB 6 [V1,.eqT 27 bF] [.only [0,3,8,9,10] [5,9,1000,1001,1002]] (hP x0 x1 x2 x3 x4 x5 ()) (aB c3 aN)
  ·subst e0;have H6:=a7 H3;refine pA 4 [V2] [.only [0,8,9,10,12] [5,9,1000,1001,1002]] 4 [] (eL x0 x1 x3 x5 (x2,x4)) aN ?_;refine aD H6 fun R1 h5 H7 => ?_;refine pJ 1 (gY x0 x1 x3 x5) R1 ?_ (fun u1 e1 => ?_)
   ·refine nG (eL x0 x1 x3 x5) (by kernel_rfl) h5 (fun s1 q1 h6 h7 => ?_)
    ·refine aK h6 (fun c4 H8 => ?_) (fun c5 H9 => ?_)
     ·refine aP H8 fun g0 H10 => ?_;refine aD H10 fun y1 h8 H11 => ?_;refine pD 10 [r0 (V 5 [.e (nI s1.2.length),.v]),.eqT 47 bT,r0 (V 8 [.hM [(1001,1000),(5,1001),(9,1002)] [] (.bool y1.1) [(1000,.row 109 5 (y1.2.map aj)),(1001,.cells 9 [.str x0]),(1002,.cells 45 [.dslice ([(Bind.mk 1 x0 x1 (Shape.mk [] []) [])].map al)])],.v])] [.only [0,8,9,10,12,59] [5,9,1000,1001,1002]] 9 [true] (aT (aC (aG aj s1.2) (aB c4 (aC (show (0:Int)≤s1.1∧s1.1<((s1.2.map aj).length:Int) from by rw [Hp];exact g0) (aC Tryz.call195 (aC (l8 _ _ _ _ _ h8) (aT aN))))))) ?_;refine aK H11 (fun c6 H12 => ?_) (fun c7 H13 => ?_)
      ·obtain rfl:=sI H12;exact pB 4 [.eqT 59 bF,r0 [.v,.w,.v]] [.only [0,8,9,10,12] [5,9,1000,1001,1002]] (eL x0 x1 x3 x5 ((bg (s1.1+1)),y1.2)) (aM c6 aN)
      ·cases H13
     ·obtain rfl:=sI H9;obtain rfl:=fy h7;exact pB 6 [r0 (V 5 [.e (nI s1.2.length),.v]),.eqT 47 bF] [.only [0,8,9] [9,1000,1001,1002]] (gY x0 x1 x3 x5 s1.2) (aT (aC (aG aj s1.2) (aB c5 aN)))
   ·subst e1;have H14:=a7 H7;refine aP H14 fun g1 H15 => ?_;refine aP H15 fun g2 H16 => ?_;obtain rfl:=sI H16;exact pR 5 [.rg 10 (V 4 [.lt,.v,.e (.dptr (al ([(Bind.mk 1 x0 x1 (Shape.mk [] []) [])].getD 0 ak))),.v,.b,.apx ((x5++[(Bind.mk (([(Bind.mk 1 x0 x1 (Shape.mk [] []) [])].getD 0 ak).Kind) (([(Bind.mk 1 x0 x1 (Shape.mk [] []) [])].getD 0 ak).Var) (Linear.mk ((([(Bind.mk 1 x0 x1 (Shape.mk [] []) [])].getD 0 ak).Dim).Const) ((([(Bind.mk 1 x0 x1 (Shape.mk [] []) [])].getD 0 ak).Dim).Terms)) (Shape.mk ((([(Bind.mk 1 x0 x1 (Shape.mk [] []) [])].getD 0 ak).Row).Row) ((([(Bind.mk 1 x0 x1 (Shape.mk [] []) [])].getD 0 ak).Row).Dims)) (([(Bind.mk 1 x0 x1 (Shape.mk [] []) [])].getD 0 ak).Elem))]).map al)]) [.v,.v,.m],V1] [.ren [(69,0),(1000,1000),(1001,1001)]] [0,1000,1001] (aI aQ ([(Bind.mk 1 x0 x1 (Shape.mk [] []) [])]) 0 ak (a8 (ET (c:=al) gw x5 [(Bind.mk (([(Bind.mk 1 x0 x1 (Shape.mk [] []) [])].getD 0 ak).Kind) (([(Bind.mk 1 x0 x1 (Shape.mk [] []) [])].getD 0 ak).Var) (Linear.mk ((([(Bind.mk 1 x0 x1 (Shape.mk [] []) [])].getD 0 ak).Dim).Const) ((([(Bind.mk 1 x0 x1 (Shape.mk [] []) [])].getD 0 ak).Dim).Terms)) (Shape.mk ((([(Bind.mk 1 x0 x1 (Shape.mk [] []) [])].getD 0 ak).Row).Row) ((([(Bind.mk 1 x0 x1 (Shape.mk [] []) [])].getD 0 ak).Row).Dims)) (([(Bind.mk 1 x0 x1 (Shape.mk [] []) [])].getD 0 ak).Elem))] 112 (by decide) (by first | (simp;done) | simpa using g2) List.map_append.symm) aN))
 ·cases H2
noncomputable def fh (x0:Int) (x1:ay) (x2:Int) (x3:List ao) (x4:List Bind):Option (Int×(List ao)×(List Bind)) :=
 cb (0≤x0∧x0<(x3.length:Int)) <|
 cb (x0.toNat<x3.length) <|
 (dF (σ:=(List ay)) (ε:=(List ay)) (ρ:=Empty) (fun i0 s0 =>
  ((
   bif ((((((x3.getD x0.toNat ab).q).Terms).getD i0 aw).Var)==x1.Var) then (
    some s0
   ) else (
    cb ((s0.length+1)*24≤140737488355328) <|
    some (s0++[(ay.mk (((((x3.getD x0.toNat ab).q).Terms).getD i0 aw).Var) (bg ((bg (0-x1.C))*(((((x3.getD x0.toNat ab).q).Terms).getD i0 aw).C))))])
   )
  ):Option (List ay)).bind fun v0 =>
  some (.go v0)
 ) (fun i0 s0=>s0) ((((x3.getD x0.toNat ab).q).Terms).length-0) 0 []).bind <| dq fun u0 =>
 (xv (σ:=Unit) (ε:=Unit) (ρ:=Empty) (fun s1 =>
  bif decide ((bg (x0+1))<((x3.length:Nat):Int)) then (
   none
  ) else (
   some (.brk ())
  )
 ) 4294967296 ()).bind <| dq fun u1 =>
 (fK x1.Var (Linear.mk (bg ((bg (0-x1.C))*(((x3.getD x0.toNat ab).q).Const))) u0) x0 x2 x3 x4).bind fun y0 =>
 some (y0.1,y0.2.1,y0.2.2)
def eb (x0:Int) (x1:ay) (x2:Int) (x3:List ao) (x4:List Bind) (i0:Nat) (s0:List ay):AS:=⟨98,[(0,.hptr 1000 0),(1,iI x0),(5,.hptr 5 0),(6,iI 0),(7,.hptr 7 0),(8,.hptr 8 0),(30,.dslice ((((x3.getD x0.toNat ab).q).Terms).map ai)),(31,iI (((((x3.getD x0.toNat ab).q).Terms).length:Nat):Int)),(32,nI i0)],[(5,.cells 31 [.str x1.Var,iI x1.C]),(7,.cells 109 [iI (((x3.getD x0.toNat ab).q).Const),.dslice ((((x3.getD x0.toNat ab).q).Terms).map ai),.dmap (((x3.getD x0.toNat ab).mults).map (r7 au)),iI ((x3.getD x0.toNat ab).scale),.bool ((x3.getD x0.toNat ab).lost)]),(8,.cells 29 [iI (bg ((bg (0-x1.C))*(((x3.getD x0.toNat ab).q).Const))),.rslice 53]),(53,.row 31 2 (s0.map ai)),(1000,.cells 106 [.rslice 1001,.rslice 1002,iI x2]),(1001,.row 109 5 (x3.map aj)),(1002,.row 62 7 (x4.map al))]⟩
def gj (x0:Int) (x1:ay) (x2:Int) (x3:List ao) (x4:List Bind) (u2:List ay):AS:=⟨98,[(0,.hptr 1000 0),(1,iI x0),(5,.hptr 5 0),(6,iI 0),(7,.hptr 7 0),(8,.hptr 8 0)],[(5,.cells 31 [.str x1.Var,iI x1.C]),(7,.cells 109 [iI (((x3.getD x0.toNat ab).q).Const),.dslice ((((x3.getD x0.toNat ab).q).Terms).map ai),.dmap (((x3.getD x0.toNat ab).mults).map (r7 au)),iI ((x3.getD x0.toNat ab).scale),.bool ((x3.getD x0.toNat ab).lost)]),(8,.cells 29 [iI (bg ((bg (0-x1.C))*(((x3.getD x0.toNat ab).q).Const))),.rslice 53]),(53,.row 31 2 (u2.map ai)),(1000,.cells 106 [.rslice 1001,.rslice 1002,iI x2]),(1001,.row 109 5 (x3.map aj)),(1002,.row 62 7 (x4.map al))]⟩
def dY (x0:Int) (x1:ay) (x2:Int) (x3:List ao) (x4:List Bind) (i0:Nat) (v0:List ay):AS:=⟨98,[(0,.hptr 1000 0),(1,iI x0),(5,.hptr 5 0),(6,iI 0),(7,.hptr 7 0),(8,.hptr 8 0),(30,.dslice ((((x3.getD x0.toNat ab).q).Terms).map ai)),(31,iI (((((x3.getD x0.toNat ab).q).Terms).length:Nat):Int)),(32,nI i0)],[(5,.cells 31 [.str x1.Var,iI x1.C]),(7,.cells 109 [iI (((x3.getD x0.toNat ab).q).Const),.dslice ((((x3.getD x0.toNat ab).q).Terms).map ai),.dmap (((x3.getD x0.toNat ab).mults).map (r7 au)),iI ((x3.getD x0.toNat ab).scale),.bool ((x3.getD x0.toNat ab).lost)]),(8,.cells 29 [iI (bg ((bg (0-x1.C))*(((x3.getD x0.toNat ab).q).Const))),.rslice 53]),(53,.row 31 2 (v0.map ai)),(1000,.cells 106 [.rslice 1001,.rslice 1002,iI x2]),(1001,.row 109 5 (x3.map aj)),(1002,.row 62 7 (x4.map al))]⟩
def gi (x0:Int) (x1:ay) (x2:Int) (x3:List ao) (x4:List Bind) (u0:List ay) (s1:Unit):AS:=⟨98,[(0,.hptr 1000 0),(1,iI x0),(5,.hptr 5 0),(6,iI 0),(7,.hptr 7 0),(8,.hptr 8 0),(11,iI (bg (x0+1)))],[(5,.cells 31 [.str x1.Var,iI x1.C]),(7,.cells 109 [iI (((x3.getD x0.toNat ab).q).Const),.dslice ((((x3.getD x0.toNat ab).q).Terms).map ai),.dmap (((x3.getD x0.toNat ab).mults).map (r7 au)),iI ((x3.getD x0.toNat ab).scale),.bool ((x3.getD x0.toNat ab).lost)]),(8,.cells 29 [iI (bg ((bg (0-x1.C))*(((x3.getD x0.toNat ab).q).Const))),.rslice 53]),(53,.row 31 2 (u0.map ai)),(1000,.cells 106 [.rslice 1001,.rslice 1002,iI x2]),(1001,.row 109 5 (x3.map aj)),(1002,.row 62 7 (x4.map al))]⟩
def gq (x0:Int) (x1:ay) (x2:Int) (x3:List ao) (x4:List Bind) (u0:List ay) (u3:Unit):AS:=⟨98,[(0,.hptr 1000 0),(1,iI x0),(5,.hptr 5 0),(6,iI 0),(8,.hptr 8 0)],[(5,.cells 31 [.str x1.Var,iI x1.C]),(8,.cells 29 [iI (bg ((bg (0-x1.C))*(((x3.getD x0.toNat ab).q).Const))),.rslice 53]),(53,.row 31 2 (u0.map ai)),(1000,.cells 106 [.rslice 1001,.rslice 1002,iI x2]),(1001,.row 109 5 (x3.map aj)),(1002,.row 62 7 (x4.map al))]⟩
theorem nT (x0:Int) (x1:ay) (x2:Int) (x3:List ao) (x4:List Bind) (r:Int×(List ao)×(List Bind)) (H:fh x0 x1 x2 x3 x4=some r):bn Tryz.prog 97 [.hptr 1000 0,iI x0,.agg [.str x1.Var,iI x1.C]] [(1000,.cells 106 [.rslice 1001,.rslice 1002,iI x2]),(1001,.row 109 5 (x3.map aj)),(1002,.row 62 7 (x4.map al))] (fun r2 h0=>r2=(iI r.1)∧h0=[(0,.row 62 7 (r.2.2.map al)),(1000,.cells 106 [.rslice 1001,.rslice 0,iI x2]),(1001,.row 109 5 (r.2.1.map aj))]):=by
 unfold fh at H;refine aX Tryz.func97 98 [.tmp 6] ?_;refine aP H fun g0 H0 => ?_;refine aP H0 fun g1 H1 => ?_;refine pA 10 [r0 [.m,.v],r0 (V 6 [.rl x0.toNat 0 (.agg [iI (((x3.getD x0.toNat ab).q).Const),.dslice ((((x3.getD x0.toNat ab).q).Terms).map ai),.dmap (((x3.getD x0.toNat ab).mults).map (r7 au)),iI ((x3.getD x0.toNat ab).scale),.bool ((x3.getD x0.toNat ab).lost)]),.m,.m]),r0 [.v,.v,.w,.v,.v,.v,.w,.b,.m,.m],r0 [.v,.v,.v,.e (iI (((((x3.getD x0.toNat ab).q).Terms).length:Nat):Int)),.v]] [.erH 8 1 53 31 2,.only [0,1,5,6,7,8,30,31,32] [5,7,8,53,1000,1001,1002]] 10 [] (eb x0 x1 x2 x3 x4 0 []) (aC (show (0:Int)≤x0∧x0<((x3.map aj).length:Int) from by rw [Hp];exact g0) (aC (yC (f:=aj) (l:=x3) (n:=x0.toNat) 5 0 5 (by omega) (by decide)) (aC (F0 (f:=aj) (l:=x3) (n:=x0.toNat) ab 0 5 (by omega)) (aT (aC (aG ai (((x3.getD x0.toNat ab).q).Terms)) aN))))) ?_;refine aD H1 fun R0 h1 H2 => ?_;refine pJ 1 (gj x0 x1 x2 x3 x4) R0 ?_ (fun u0 e0 => ?_)
 ·refine pC (eb x0 x1 x2 x3 x4) h1 (fun i0 s0 h2 e1 => ?_) (fun i0 s0 h3 q0 h4 h5 => ?_)
  ·have c0:=lF i0 ((((x3.getD x0.toNat ab).q).Terms).length) (by omega);subst e1;exact pB 5 [r0 [.e bF]] [.only [0,1,5,6,7,8] [5,7,8,53,1000,1001,1002]] (gj x0 x1 x2 x3 x4 s0) (aB c0 aN)
  ·have c1:=lT i0 ((((x3.getD x0.toNat ab).q).Terms).length) (by omega);refine pD 11 [r0 [.e bT],r0 [.e (.dptr (ai ((((x3.getD x0.toNat ab).q).Terms).getD i0 aw))),.v,.m,.m],V5] [.only [0,1,5,6,7,8,10,30,31,32,40] [5,7,8,10,53,1000,1001,1002]] 11 [true] (aB c1 (aI bE ((((x3.getD x0.toNat ab).q).Terms)) i0 aw aN)) ?_;refine aD h4 fun v0 h6 H3 => ?_;refine cS 1 (dY x0 x1 x2 x3 x4 i0 v0) (by kernel_rfl) ?_ ?_
   ·refine aK h6 (fun c2 H4 => ?_) (fun c3 H5 => ?_)
    ·refine bc H4 fun e2 => ?_;subst e2;exact pB 3 [.eqT 40 bF] [.only [0,1,5,6,7,8,30,31,32] [5,7,8,53,1000,1001,1002]] (dY x0 x1 x2 x3 x4 i0 s0) (aM c2 aN)
    ·refine aP H5 fun g2 H6 => ?_;obtain rfl:=sI H6;exact pB 3 [.eqT 40 bT,r0 (V 6 [.w,.v,.v,.w,.b,.b,.ap,.rwH 53 (.row 31 2 ((s0++[(ay.mk (((((x3.getD x0.toNat ab).q).Terms).getD i0 aw).Var) (bg ((bg (0-x1.C))*(((((x3.getD x0.toNat ab).q).Terms).getD i0 aw).C))))]).map ai)),.v,.m])] [.only [0,1,5,6,7,8,30,31,32] [5,7,8,53,1000,1001,1002]] (dY x0 x1 x2 x3 x4 i0 (s0++[(ay.mk (((((x3.getD x0.toNat ab).q).Terms).getD i0 aw).Var) (bg ((bg (0-x1.C))*(((((x3.getD x0.toNat ab).q).Terms).getD i0 aw).C))))])) (aM c3 (a8 (qB (c:=ai) iG s0 [(ay.mk (((((x3.getD x0.toNat ab).q).Terms).getD i0 aw).Var) (bg ((bg (0-x1.C))*(((((x3.getD x0.toNat ab).q).Terms).getD i0 aw).C))))] 24 (by decide) (by first | (simp;done) | simpa using g2)) (aC (tI 31 2 ai s0 [(ay.mk (((((x3.getD x0.toNat ab).q).Terms).getD i0 aw).Var) (bg ((bg (0-x1.C))*(((((x3.getD x0.toNat ab).q).Terms).getD i0 aw).C))))]) aN)))
   ·refine bt 30 (ps:=[((((x3.getD x0.toNat ab).q).Terms).map ai).length≤9223372036854775807]) (by kernel_rfl) (fun l0 => ?_);have l1:(((x3.getD x0.toNat ab).q).Terms).length≤9223372036854775807:=by simpa only [bI,Hp] using l0
    clear l0;obtain rfl:=sI H3;exact pB 1 [V2] [.only [0,1,5,6,7,8,30,31,32] [5,7,8,53,1000,1001,1002]] (eb x0 x1 x2 x3 x4 (i0+1) v0) (aH i0 aN)
 ·subst e0;have H7:=a7 H2;refine pA 4 [r0 [.v,.w,.v]] [.only [0,1,5,6,7,8,11] [5,7,8,53,1000,1001,1002]] 4 [] (gi x0 x1 x2 x3 x4 u0 ()) aN ?_;refine aD H7 fun R1 h7 H8 => ?_;refine pJ 1 (gq x0 x1 x2 x3 x4 u0) R1 ?_ (fun u1 e3 => ?_)
  ·refine nG (gi x0 x1 x2 x3 x4 u0) (by kernel_rfl) h7 (fun s1 q1 h8 h9 => ?_)
   ·refine aK h8 (fun c4 H9 => ?_) (fun c5 H10 => ?_)
    ·cases H9
    ·obtain rfl:=sI H10;obtain rfl:=fy h9;exact pB 6 [r0 (V 5 [.e (nI x3.length),.v]),.eqT 64 bF] [.only [0,1,5,6,8] [5,8,53,1000,1001,1002]] (gq x0 x1 x2 x3 x4 u0 ()) (aT (aC (aG aj x3) (aB c5 aN)))
  ·subst e3;have H11:=a7 H8;refine aD H11 fun y0 h10 H12 => ?_;obtain rfl:=sI H12;exact pR 3 [r0 (V 5 [.fz 53,.hM [(1000,1000),(1001,1001),(1002,1002)] [(0,900)] (iI y0.1) [(0,.row 62 7 (y0.2.2.map al)),(1000,.cells 106 [.rslice 1001,.rslice 0,iI x2]),(1001,.row 109 5 (y0.2.1.map aj))],.v])] [.ren [(900,0),(1000,1000),(1001,1001)]] [0,1000,1001] (aC Tryz.call156 (aC (om _ _ _ _ _ _ _ h10) aN))
noncomputable def fe (x0 x1:Int) (x2:List ao) (x3:List Bind):Option ((aV×Int)×(List ao)×(List Bind)) :=
 cb (0≤x0∧x0<(x2.length:Int)) <|
 cb (x0.toNat<x2.length) <|
 (kZ (Linear.mk (((x2.getD x0.toNat ab).q).Const) (((x2.getD x0.toNat ab).q).Terms))).bind fun y0 =>
 bif (y0==0) then (
  none
 ) else (
  cb ((y0:Int)≠0) <|
  bif (((((x2.getD x0.toNat ab).q).Const).tmod y0)==0) then (
   (dF (σ:=(List ay)) (ε:=(List ay)) (ρ:=Empty) (fun i0 s0 =>
    cb ((s0.length+1)*24≤140737488355328) <|
    some (.go (s0++[(ay.mk (((((x2.getD x0.toNat ab).q).Terms).getD i0 aw).Var) (bg ((((((x2.getD x0.toNat ab).q).Terms).getD i0 aw).C).tdiv y0)))]))
   ) (fun i0 s0=>s0) ((((x2.getD x0.toNat ab).q).Terms).length-0) 0 []).bind <| dq fun u0 =>
   (pX ((x2.getD x0.toNat ab).scale) y0).bind fun y1 =>
   (j5 y1.1 y1.2).bind fun y2 =>
   bif y2 then (
    (some (x2.set x0.toNat (ao.mk (Linear.mk (bg ((((x2.getD x0.toNat ab).q).Const).tdiv y0)) u0) ((x2.getD x0.toNat ab).mults) ((x2.getD x0.toNat ab).scale) ((x2.getD x0.toNat ab).lost)))).bind fun y3 =>
    cb (x0.toNat<y3.length) <|
    (some (y3.set x0.toNat (ao.mk (Linear.mk (((y3.getD x0.toNat ab).q).Const) (((y3.getD x0.toNat ab).q).Terms)) ((y3.getD x0.toNat ab).mults) y1.1 ((y3.getD x0.toNat ab).lost)))).bind fun y4 =>
    (l6 (Linear.mk (bg ((((x2.getD x0.toNat ab).q).Const).tdiv y0)) u0)).bind fun y5 =>
    bif (y5.C==1) then (
     (fh x0 y5 x1 y4 x3).bind fun y6 =>
     some (((aV.mk [] 0),y6.1),y6.2.1,y6.2.2)
    ) else (
     none
    )
   ) else (
    none
   )
  ) else (
   none
  )
 )
def ed (x0 x1:Int) (x2:List ao) (x3:List Bind) (y0:Int) (i0:Nat) (s0:List ay):AS:=⟨161,[(0,.hptr 1000 0),(1,iI x0),(4,.hptr 4 0),(5,iI 0),(6,.hptr 1001 (x0.toNat*5)),(7,iI y0),(13,.hptr 13 0),(99,.dslice ((((x2.getD x0.toNat ab).q).Terms).map ai)),(100,iI (((((x2.getD x0.toNat ab).q).Terms).length:Nat):Int)),(101,nI i0)],[(4,.cells 72 [.eslice,iI 0]),(13,.cells 29 [iI (bg ((((x2.getD x0.toNat ab).q).Const).tdiv y0)),.rslice 115]),(115,.row 31 2 (s0.map ai)),(1000,.cells 106 [.rslice 1001,.rslice 1002,iI x1]),(1001,.row 109 5 (x2.map aj)),(1002,.row 62 7 (x3.map al))]⟩
def gm (x0 x1:Int) (x2:List ao) (x3:List Bind) (y0:Int) (u1:List ay):AS:=⟨161,[(0,.hptr 1000 0),(1,iI x0),(4,.hptr 4 0),(5,iI 0),(6,.hptr 1001 (x0.toNat*5)),(7,iI y0),(13,.hptr 13 0)],[(4,.cells 72 [.eslice,iI 0]),(13,.cells 29 [iI (bg ((((x2.getD x0.toNat ab).q).Const).tdiv y0)),.rslice 115]),(115,.row 31 2 (u1.map ai)),(1000,.cells 106 [.rslice 1001,.rslice 1002,iI x1]),(1001,.row 109 5 (x2.map aj)),(1002,.row 62 7 (x3.map al))]⟩
theorem nL (x0 x1:Int) (x2:List ao) (x3:List Bind) (r:(aV×Int)×(List ao)×(List Bind)) (H:fe x0 x1 x2 x3=some r):bn Tryz.prog 48 [.hptr 1000 0,iI x0] [(1000,.cells 106 [.rslice 1001,.rslice 1002,iI x1]),(1001,.row 109 5 (x2.map aj)),(1002,.row 62 7 (x3.map al))] (fun r2 h0=>r2=(.tup [.agg [dS au r.1.1.Mults,iI r.1.1.Mod],iI r.1.2])∧h0=[(0,.row 62 7 (r.2.2.map al)),(1000,.cells 106 [.rslice 1001,.rslice 0,iI x1]),(1001,.row 109 5 (r.2.1.map aj))]):=by
 unfold fe at H;refine aX Tryz.func48 161 [.cell 4 72,.tmp 5] ?_;refine aP H fun g0 H0 => ?_;refine aP H0 fun g1 H1 => ?_;refine aD H1 fun y0 h1 H2 => ?_;refine pD 8 [r0 [.m,.v],r0 (V 7 []),r0 [.v,.v,.v,.rl x0.toNat 0 (.agg (ae ((x2.getD x0.toNat ab).q))),.c true (iI y0),.v]] [.only [0,1,4,5,6,7] [4,1000,1001,1002]] 8 [] (aC (show (0:Int)≤x0∧x0<((x2.map aj).length:Int) from by rw [Hp];exact g0) (aC (yC (f:=aj) (l:=x2) (n:=x0.toNat) 5 0 2 (by omega) (by decide)) (aC (F0 (f:=aj) (l:=x2) (n:=x0.toNat) ab 0 2 (by omega)) (aC Tryz.call92 (aF (sO _ _ h1) aN))))) ?_;refine aK H2 (fun c0 H3 => ?_) (fun c1 H4 => ?_)
 ·cases H3
 ·refine aP H4 fun g2 H5 => ?_;refine pD 1 [r0 [.v,.e bF,.v,.v,.v,.v,.v,.rl x0.toNat 0 (iI (((x2.getD x0.toNat ab).q).Const)),.v,.v,.v,.v]] [.only [0,1,4,5,6,7,42] [4,1000,1001,1002]] 1 [] (aB c1 (aC (yC (f:=aj) (l:=x2) (n:=x0.toNat) 5 0 1 (by omega) (by decide)) (aC (FP (f:=aj) (l:=x2) (n:=x0.toNat) ab 0 (by omega)) (aC (show (y0:Int)≠0 from g2) aN)))) ?_;refine aK H5 (fun c2 H6 => ?_) (fun c3 H7 => ?_)
  ·refine pA 9 [.eqT 42 bF,.rg 0 [] (V 4 [.rl x0.toNat 0 (.int .i64 (((x2.getD x0.toNat ab).q).Const)),.v,.w,.b,.m,.m]),.rg 0 [] (V 4 [.rl x0.toNat 1 (.dslice ((((x2.getD x0.toNat ab).q).Terms).map ai)),.e (.int .i64 (((((x2.getD x0.toNat ab).q).Terms).length:Nat):Int)),.v])] [.erH 13 1 115 31 2,.only [0,1,4,5,6,7,13,99,100,101] [4,13,115,1000,1001,1002]] 8 [false] (ed x0 x1 x2 x3 y0 0 []) (aM c2 (aC (yC (f:=aj) (l:=x2) (n:=x0.toNat) 5 0 1 (by omega) (by decide)) (aC (FP (f:=aj) (l:=x2) (n:=x0.toNat) ab 0 (by omega)) (aC (show (y0:Int)≠0 from g2) (aC (yC (f:=aj) (l:=x2) (n:=x0.toNat) 5 1 1 (by omega) (by decide)) (aC (FP (f:=aj) (l:=x2) (n:=x0.toNat) ab 1 (by omega)) (aT (aC (aG ai (((x2.getD x0.toNat ab).q).Terms)) aN)))))))) ?_;refine aD H6 fun R0 h2 H8 => ?_;refine pJ 1 (gm x0 x1 x2 x3 y0) R0 ?_ (fun u0 e0 => ?_)
   ·refine pC (ed x0 x1 x2 x3 y0) h2 (fun i0 s0 h3 e1 => ?_) (fun i0 s0 h4 q0 h5 h6 => ?_)
    ·have c4:=lF i0 ((((x2.getD x0.toNat ab).q).Terms).length) (by omega);subst e1;exact pB 5 [r0 [.e bF]] [.only [0,1,4,5,6,7,13] [4,13,115,1000,1001,1002]] (gm x0 x1 x2 x3 y0 s0) (aB c4 aN)
    ·have c5:=lT i0 ((((x2.getD x0.toNat ab).q).Terms).length) (by omega);refine aP h5 fun g3 H9 => ?_;refine bt 99 (ps:=[((((x2.getD x0.toNat ab).q).Terms).map ai).length≤9223372036854775807]) (by kernel_rfl) (fun l0 => ?_);have l1:(((x2.getD x0.toNat ab).q).Terms).length≤9223372036854775807:=by simpa only [bI,Hp] using l0
     clear l0;obtain rfl:=sI H9;exact pB 11 [r0 [.e bT],r0 [.e (.dptr (ai ((((x2.getD x0.toNat ab).q).Terms).getD i0 aw))),.v,.m,.m],.rg 10 (V 7 [.w,.b,.b]) [.ap,.rwH 115 (.row 31 2 ((s0++[(ay.mk (((((x2.getD x0.toNat ab).q).Terms).getD i0 aw).Var) (bg ((((((x2.getD x0.toNat ab).q).Terms).getD i0 aw).C).tdiv y0)))]).map ai)),.v,.m],V2] [.only [0,1,4,5,6,7,13,99,100,101] [4,13,115,1000,1001,1002]] (ed x0 x1 x2 x3 y0 (i0+1) (s0++[(ay.mk (((((x2.getD x0.toNat ab).q).Terms).getD i0 aw).Var) (bg ((((((x2.getD x0.toNat ab).q).Terms).getD i0 aw).C).tdiv y0)))])) (aB c5 (aI bE ((((x2.getD x0.toNat ab).q).Terms)) i0 aw (aC (show (y0:Int)≠0 from g2) (a8 (qB (c:=ai) iG s0 [(ay.mk (((((x2.getD x0.toNat ab).q).Terms).getD i0 aw).Var) (bg ((((((x2.getD x0.toNat ab).q).Terms).getD i0 aw).C).tdiv y0)))] 24 (by decide) (by first | (simp;done) | simpa using g3)) (aC (tI 31 2 ai s0 [(ay.mk (((((x2.getD x0.toNat ab).q).Terms).getD i0 aw).Var) (bg ((((((x2.getD x0.toNat ab).q).Terms).getD i0 aw).C).tdiv y0)))]) (aH i0 aN))))))
   ·subst e0;have H10:=a7 H8;refine aD H10 fun y1 h7 H11 => ?_;refine aD H11 fun y2 h8 H12 => ?_;refine pD 5 [r0 [.v,.v,.v,.rl x0.toNat 3 (iI ((x2.getD x0.toNat ab).scale)),.v,.c true (.tup [iI y1.1,iI y1.2]),.v,.v,.v,.v,.v],r0 [.v,.v,.c true (.bool y2),.v]] [.only [0,1,4,5,6,13,16,130] [4,13,115,1000,1001,1002]] 5 [] (aC (yC (f:=aj) (l:=x2) (n:=x0.toNat) 5 3 1 (by omega) (by decide)) (aC (FP (f:=aj) (l:=x2) (n:=x0.toNat) ab 3 (by omega)) (aC Tryz.call93 (aF (wz _ _ _ h7) (aC Tryz.call94 (aF (rN _ _ _ h8) (aT aN))))))) ?_;refine aK H12 (fun c6 H13 => ?_) (fun c7 H14 => ?_)
    ·refine aD H13 fun y3 h9 H15 => ?_;refine aP H15 fun g4 H16 => ?_;refine aD H16 fun y4 h10 H17 => ?_;refine aD H17 fun y5 h11 H18 => ?_;refine pD 11 [.eqT 130 bF,r0 (V 6 [.fz 115,.rs x0.toNat 0,.rwH 1001 (.row 109 5 (y3.map aj)),.v,.v,.rs x0.toNat 3,.rwH 1001 (.row 109 5 (y4.map aj))]),r0 [.v,.c true (.agg [.str y5.Var,iI y5.C]),.m,.m],V3] [.only [0,1,4,5,18,19] [4,18,1000,1001,1002]] 10 [false] (aM c6 (aC (yC (f:=aj) (l:=x2) (n:=x0.toNat) 5 0 2 (by omega) (by decide)) (aC ((G0 (f:=aj) 109 5 x2 x0.toNat ab (ao.mk (Linear.mk (bg ((((x2.getD x0.toNat ab).q).Const).tdiv y0)) u0) ((x2.getD x0.toNat ab).mults) ((x2.getD x0.toNat ab).scale) ((x2.getD x0.toNat ab).lost)) 0 [iI (bg ((((x2.getD x0.toNat ab).q).Const).tdiv y0)),dS ai u0] (by omega) rfl).trans (congrArg (fun l=>AO.row 109 5 (l.map aj)) (Ht h9))) (aC (yC (f:=aj) (l:=y3) (n:=x0.toNat) 5 3 1 (by omega) (by decide)) (aC ((G0 (f:=aj) 109 5 y3 x0.toNat ab (ao.mk (Linear.mk (((y3.getD x0.toNat ab).q).Const) (((y3.getD x0.toNat ab).q).Terms)) ((y3.getD x0.toNat ab).mults) y1.1 ((y3.getD x0.toNat ab).lost)) 3 [iI y1.1] (by omega) rfl).trans (congrArg (fun l=>AO.row 109 5 (l.map aj)) (Ht h10))) (aC Tryz.call95 (aF (te _ _ h11) aN))))))) ?_;refine aK H18 (fun c8 H19 => ?_) (fun c9 H20 => ?_)
     ·refine aD H19 fun y6 h12 H21 => ?_;obtain rfl:=sI H21;exact pR 6 [r0 [.v,.v,.e bT,.v,.s,.s,.s,.v],V3,r0 [.b,.v,.v,.v,.hM [(1000,1000),(1001,1001),(1002,1002)] [(0,900)] (iI y6.1) [(0,.row 62 7 (y6.2.2.map al)),(1000,.cells 106 [.rslice 1001,.rslice 0,iI x1]),(1001,.row 109 5 (y6.2.1.map aj))],.m,.v]] [.wkH 4 0 [],.ren [(900,0),(4,4),(1000,1000),(1001,1001)]] [0,1000,1001] (aB c8 (aC Tryz.call97 (aC (nT _ _ _ _ _ _ h12) aN)))
     ·cases H20
    ·cases H14
  ·cases H7
noncomputable def j7 (x0:List Linear) (x1:Int):Option ((List Bind)×Int×aV×Int) :=
 (jV x0).bind fun y0 =>
 bif y0 then (
  bif decide (x1<1) then (
   none
  ) else (
   bif decide (x1≥1000000000) then (
    none
   ) else (
    (gP x0).bind fun y1 =>
    bif decide (y1≥x1) then (
     some ([],0,(aV.mk [] 0),1)
    ) else (
     bif decide (((x0.length:Nat):Int)>6000) then (
      none
     ) else (
      (dF (σ:=(List ao)) (ε:=(List ao)) (ρ:=Empty) (fun i0 s0 =>
       cb ((s0.length+1)*56≤140737488355328) <|
       some (.go (s0++[(ao.mk (Linear.mk ((x0.getD i0 ax).Const) ((x0.getD i0 ax).Terms)) (qP (dE (((i0:Nat):Int):Int) 1 [])) 1 false)]))
      ) (fun i0 s0=>s0) (x0.length-0) 0 []).bind <| dq fun u0 =>
      (xv (σ:=(Int×(List ao)×(List Bind))) (ε:=((List ao)×(List Bind))) (ρ:=Empty) (fun s1 =>
       bif decide (s1.1<((u0.length:Nat):Int)) then (
        (xv (σ:=((List ao)×(List Bind))) (ε:=((List ao)×(List Bind))) (ρ:=Empty) (fun s2 =>
         cb (0≤s1.1∧s1.1<(s2.1.length:Int)) <|
         cb (s1.1.toNat<s2.1.length) <|
         (lL (Linear.mk (((s2.1.getD s1.1.toNat ab).q).Const) (((s2.1.getD s1.1.toNat ab).q).Terms))).bind fun y2 =>
         bif y2 then (
          some (.brk (s2.1,s2.2))
         ) else (
          (fe s1.1 x1 s2.1 s2.2).bind fun y3 =>
          bif (y3.1.2==0) then (
           some (.go (y3.2.1,y3.2.2))
          ) else (
           none
          )
         )
        ) 4294967296 (s1.2.1,s1.2.2)).bind <| dq fun u1 =>
        some (.go ((bg (s1.1+1)),u1.1,u1.2))
       ) else (
        some (.brk (s1.2.1,s1.2.2))
       )
      ) 4294967296 (0,u0,[])).bind <| dq fun u2 =>
      (ep x0).bind fun y4 =>
      (dF (σ:=(List Bind)) (ε:=(List Bind)) (ρ:=Empty) (fun i1 s3 =>
       (qb y4 ((u2.2.getD i1 ak).Var)).bind fun y5 =>
       bif y5.2 then (
        cb ((s3.length+1)*112≤140737488355328) <|
        some (.go (s3++[(Bind.mk ((u2.2.getD i1 ak).Kind) ((u2.2.getD i1 ak).Var) (Linear.mk (((u2.2.getD i1 ak).Dim).Const) (((u2.2.getD i1 ak).Dim).Terms)) (Shape.mk (((u2.2.getD i1 ak).Row).Row) (((u2.2.getD i1 ak).Row).Dims)) ((u2.2.getD i1 ak).Elem))]))
       ) else (
        none
       )
      ) (fun i1 s3=>s3) (u2.2.length-0) 0 []).bind <| dq fun u3 =>
      (sD (fun x=>x.Var) u3).bind fun y6 =>
      some (y6,x1,(aV.mk [] 0),0)
     )
    )
   )
  )
 ) else (
  none
 )
def gJ (x0:List Linear) (x1:Int) (i0:Nat) (s0:List ao):AS:=⟨133,[(0,dS ae x0),(4,.eslice),(5,iI 0),(6,.hptr 6 0),(7,iI 0),(8,.hptr 43 0),(44,dS ae x0),(45,nI x0.length),(46,nI i0)],[(6,.cells 72 [.eslice,iI 0]),(43,.cells 106 [.rslice 62,.eslice,iI x1]),(62,.row 109 5 (s0.map aj))]⟩
def kI (x0:List Linear) (x1:Int) (u4:List ao):AS:=⟨133,[(0,dS ae x0),(4,.eslice),(5,iI 0),(6,.hptr 6 0),(7,iI 0),(8,.hptr 43 0)],[(6,.cells 72 [.eslice,iI 0]),(43,.cells 106 [.rslice 62,.eslice,iI x1]),(62,.row 109 5 (u4.map aj))]⟩
def gG (x0:List Linear) (x1:Int) (u0:List ao) (s1:Int×(List ao)×(List Bind)):AS:=⟨133,[(0,dS ae x0),(4,.eslice),(5,iI 0),(6,.hptr 6 0),(7,iI 0),(8,.hptr 43 0),(70,nI u0.length),(71,iI s1.1)],[(6,.cells 72 [.eslice,iI 0]),(43,.cells 106 [.rslice 62,.rslice 900,iI x1]),(62,.row 109 5 (s1.2.1.map aj)),(900,.row 62 7 (s1.2.2.map al))]⟩
def lR (x0:List Linear) (x1:Int) (u5:(List ao)×(List Bind)):AS:=⟨133,[(0,dS ae x0),(4,.eslice),(5,iI 0),(6,.hptr 6 0),(7,iI 0),(8,.hptr 43 0)],[(6,.cells 72 [.eslice,iI 0]),(43,.cells 106 [.rslice 62,.rslice 900,iI x1]),(62,.row 109 5 (u5.1.map aj)),(900,.row 62 7 (u5.2.map al))]⟩
def gF (x0:List Linear) (x1:Int) (u0:List ao) (s1:Int×(List ao)×(List Bind)) (s2:(List ao)×(List Bind)):AS:=⟨133,[(0,dS ae x0),(4,.eslice),(5,iI 0),(6,.hptr 6 0),(7,iI 0),(8,.hptr 43 0),(11,iI s1.1),(70,nI u0.length),(71,iI s1.1)],[(6,.cells 72 [.eslice,iI 0]),(43,.cells 106 [.rslice 62,.rslice 901,iI x1]),(62,.row 109 5 (s2.1.map aj)),(901,.row 62 7 (s2.2.map al))]⟩
def kO (x0:List Linear) (x1:Int) (u0:List ao) (s1:Int×(List ao)×(List Bind)) (u6:(List ao)×(List Bind)):AS:=⟨133,[(0,dS ae x0),(4,.eslice),(5,iI 0),(6,.hptr 6 0),(7,iI 0),(8,.hptr 43 0),(70,nI u0.length),(71,iI s1.1)],[(6,.cells 72 [.eslice,iI 0]),(43,.cells 106 [.rslice 62,.rslice 901,iI x1]),(62,.row 109 5 (u6.1.map aj)),(901,.row 62 7 (u6.2.map al))]⟩
def gL (x1:Int) (u2:(List ao)×(List Bind)) (y4:List aq) (i1:Nat) (s3:List Bind):AS:=⟨133,[(4,.rslice 123),(5,iI 0),(6,.hptr 6 0),(7,iI 0),(8,.hptr 43 0),(14,dS aZ y4),(106,.rslice 900),(107,nI u2.2.length),(108,nI i1)],[(6,.cells 72 [.eslice,iI 0]),(43,.cells 106 [.rslice 62,.rslice 900,iI x1]),(62,.row 109 5 (u2.1.map aj)),(123,.row 62 7 (s3.map al)),(900,.row 62 7 (u2.2.map al))]⟩
def lI (x1:Int) (u2:(List ao)×(List Bind)) (u7:List Bind):AS:=⟨133,[(4,.rslice 123),(5,iI 0),(6,.hptr 6 0),(7,iI 0),(8,.hptr 43 0)],[(6,.cells 72 [.eslice,iI 0]),(43,.cells 106 [.rslice 62,.rslice 900,iI x1]),(62,.row 109 5 (u2.1.map aj)),(123,.row 62 7 (u7.map al)),(900,.row 62 7 (u2.2.map al))]⟩
theorem rY (x0:List Linear) (x1:Int) (r:(List Bind)×Int×aV×Int) (H:j7 x0 x1=some r):aW Tryz.prog 22 [dS ae x0,iI x1] (.tup [dS al r.1,iI r.2.1,.agg [dS au r.2.2.1.Mults,iI r.2.2.1.Mod],iI r.2.2.2]):=by
 unfold j7 at H;refine aX Tryz.func22 133 [.tmp 4,.tmp 5,.cell 6 72,.tmp 7] ?_;refine aD H fun y0 h0 H0 => ?_;refine aK H0 (fun c0 H1 => ?_) (fun c1 H2 => ?_)
 ·refine aK H1 (fun c2 H3 => ?_) (fun c3 H4 => ?_)
  ·cases H3
  ·have c3p:=Hl c3;refine aK H4 (fun c4 H5 => ?_) (fun c5 H6 => ?_)
   ·cases H5
   ·have c5p:=Hl c5;refine aD H6 fun y1 h1 H7 => ?_;refine pD 5 [r0 [.v,.v,.m,.v],r0 [.v,.c true bT,.v,.v,.v,.e bF,.v,.v,.v,.e bF,.v,.v,.v,.c true (iI y1),.v,.v,.v]] [.only [0,1,4,5,6,7,35] [6]] 5 [] (aC Tryz.call45 (aC (aW.eq (rM _ _ h0) (cB c0)) (aT (aB c3 (aB c5 (aC Tryz.call46 (aF (pt _ _ h1) aN))))))) ?_;refine aK H7 (fun c6 H8 => ?_) (fun c7 H9 => ?_)
    ·obtain rfl:=sI H8;exact pR 5 [.eqT 35 bT,r0 [.b,.v,.v,.m,.v]] [.wk 4 [],.wkH 6 0 []] [] (aB c6 aN)
    ·have c7p:=Hl c7;refine aK H9 (fun c8 H10 => ?_) (fun c9 H11 => ?_)
     ·cases H10
     ·have c9p:=Hl c9;refine pA 15 [.eqT 35 bF,r0 [.v,.e (nI x0.length),.v],.eqT 39 bF,r0 [.v,.b,.m,.v],r0 [.v,.e (nI x0.length),.v]] [.erH 43 0 62 109 5,.only [0,4,5,6,7,8,44,45,46] [6,43,62]] 13 [false,false] (gJ x0 x1 0 []) (aB c7 (aT (aC (aG ae x0) (aB c9 (aT (aC (aG ae x0) aN)))))) ?_;refine aD H11 fun R0 h2 H12 => ?_;refine pJ 1 (kI x0 x1) R0 ?_ (fun u0 e0 => ?_)
      ·refine pC (gJ x0 x1) h2 (fun i0 s0 h3 e1 => ?_) (fun i0 s0 h4 q0 h5 h6 => ?_)
       ·have c10:=lF i0 x0.length (by omega);subst e1;exact pB 5 [r0 [.e bF]] [.only [0,4,5,6,7,8] [6,43,62]] (kI x0 x1 s0) (aB c10 aN)
       ·have c11:=lT i0 x0.length (by omega);refine aP h5 fun g0 H13 => ?_;refine bt 0 (ps:=[(x0.map ae).length≤9223372036854775807]) (by kernel_rfl) (fun l0 => ?_);have l1:x0.length≤9223372036854775807:=by simpa only [bI,Hp] using l0
        clear l0;obtain rfl:=sI H13;exact pB 12 [r0 [.e bT],r0 [.v,.e (.dptr (ae (x0.getD i0 ax))),.v,.m,.v,.m],.cv [.ren [(6,6),(10,10),(43,43),(62,900)]],.rg 13 (V 4 [.lt,.v,.mm,.v,.mi ((qP (dE (((i0:Nat):Int):Int) 1 [])).map (r7 au)),.v,.b,.b,.apx ((s0++[(ao.mk (Linear.mk ((x0.getD i0 ax).Const) ((x0.getD i0 ax).Terms)) (qP (dE (((i0:Nat):Int):Int) 1 [])) 1 false)]).map aj)]) [.v,.v,.m],V2] [.only [0,4,5,6,7,8,44,45,46] [6,43,62]] (gJ x0 x1 (i0+1) (s0++[(ao.mk (Linear.mk ((x0.getD i0 ax).Const) ((x0.getD i0 ax).Terms)) (qP (dE (((i0:Nat):Int):Int) 1 [])) 1 false)])) (aB c11 (aI bA x0 i0 ax (aC (G5 qh (((i0:Nat):Int):Int) 1 []) (a8 (ET (c:=aj) rK s0 [(ao.mk (Linear.mk ((x0.getD i0 ax).Const) ((x0.getD i0 ax).Terms)) (qP (dE (((i0:Nat):Int):Int) 1 [])) 1 false)] 56 (by decide) (by first | (simp;done) | simpa using g0) List.map_append.symm) (aH i0 aN)))))
      ·subst e0;have H14:=a7 H12;refine pA 4 [r0 (V 4 [.e (nI u0.length),.v])] [.erH 43 1 900 62 7,.only [0,4,5,6,7,8,70,71] [6,43,62,900]] 4 [] (gG x0 x1 u0 (0,u0,[])) (aT (aC (aG aj u0) aN)) ?_;refine aD H14 fun R1 h7 H15 => ?_;refine pJ 1 (lR x0 x1) R1 ?_ (fun u2 e2 => ?_)
       ·refine nG (gG x0 x1 u0) (by kernel_rfl) h7 (fun s1 q1 h8 h9 => ?_)
        ·refine aK h8 (fun c12 H16 => ?_) (fun c13 H17 => ?_)
         ·have c12p:=Hm c12;refine pA 11 [V1,.eqT 72 bT,V2] [.ren [(6,6),(43,43),(62,62),(900,901)],.only [0,4,5,6,7,8,11,70,71] [6,43,62,901]] 10 [true] (gF x0 x1 u0 s1 (s1.2.1,s1.2.2)) (aB c12 aN) ?_;refine aD H16 fun R2 h10 H18 => ?_;refine pJ 2 (kO x0 x1 u0 s1) R2 ?_ (fun u1 e3 => ?_)
          ·refine nG (gF x0 x1 u0 s1) (by kernel_rfl) h10 (fun s2 q2 h11 h12 => ?_)
           ·refine aP h11 fun g1 H19 => ?_;refine aP H19 fun g2 H20 => ?_;refine aD H20 fun y2 h13 H21 => ?_;refine pD 3 [r0 (V 7 [.rl s1.1.toNat 0 (.agg (ae ((s2.1.getD s1.1.toNat ab).q))),.c true (.bool y2),.v])] [.only [0,4,5,6,7,8,11,70,71,83] [6,43,62,901]] 3 [] (aC (show (0:Int)≤s1.1∧s1.1<((s2.1.map aj).length:Int) from by rw [Hp];exact g1) (aC (yC (f:=aj) (l:=s2.1) (n:=s1.1.toNat) 5 0 2 (by omega) (by decide)) (aC (F0 (f:=aj) (l:=s2.1) (n:=s1.1.toNat) ab 0 2 (by omega)) (aC Tryz.call47 (aF (sF _ _ h13) (aT aN)))))) ?_;refine aK H21 (fun c14 H22 => ?_) (fun c15 H23 => ?_)
            ·obtain rfl:=sI H22;obtain rfl:=fy h12;exact pB 3 [.eqT 83 bF] [.only [0,4,5,6,7,8,70,71] [6,43,62,901]] (kO x0 x1 u0 s1 (s2.1,s2.2)) (aM c14 aN)
            ·refine aD H23 fun y3 h14 H24 => ?_;refine pD 8 [.eqT 83 bT,r0 [.v,.v,.hM [(43,1000),(62,1001),(901,1002)] [(0,900)] (.tup [.agg [dS au y3.1.1.Mults,iI y3.1.1.Mod],iI y3.1.2]) [(0,.row 62 7 (y3.2.2.map al)),(1000,.cells 106 [.rslice 1001,.rslice 0,iI x1]),(1001,.row 109 5 (y3.2.1.map aj))],.v,.v,.v,.m,.m,.v],V2] [.only [0,4,5,6,7,8,11,12,13,70,71,91] [6,12,43,62,900]] 7 [true] (aM c15 (aC Tryz.call48 (aC (nL _ _ _ _ _ h14) aN))) ?_;refine aK H24 (fun c16 H25 => ?_) (fun c17 H26 => ?_)
             ·obtain rfl:=sI H25;exact pB 3 [.eqT 91 bF] [.ren [(6,6),(43,43),(62,62),(900,901)],.only [0,4,5,6,7,8,11,70,71] [6,43,62,901]] (gF x0 x1 u0 s1 (y3.2.1,y3.2.2)) (aM c16 aN)
             ·cases H26
          ·subst e3;have H27:=a7 H18;obtain rfl:=sI H27;exact pB 1 [r0 [.w,.v]] [.ren [(6,6),(43,43),(62,62),(901,900)],.only [0,4,5,6,7,8,70,71] [6,43,62,900]] (gG x0 x1 u0 ((bg (s1.1+1)),u1.1,u1.2)) aN
         ·obtain rfl:=sI H17;obtain rfl:=fy h9;exact pB 6 [V1,.eqT 72 bF] [.only [0,4,5,6,7,8] [6,43,62,900]] (lR x0 x1 (s1.2.1,s1.2.2)) (aB c13 aN)
       ·subst e2;have H28:=a7 H15;refine aD H28 fun y4 h15 H29 => ?_;refine pA 11 [r0 (V 4 [.e bF]),r0 [.v,.c true (dS aZ y4),.v],r0 (V 4 [.e (nI u2.2.length),.v])] [.er 4 123 62 7,.only [4,5,6,7,8,14,106,107,108] [6,43,62,123,900]] 11 [false] (gL x1 u2 y4 0 []) (aB c5 (aC Tryz.call49 (aF (iS _ _ h15) (aT (aC (aG al u2.2) aN))))) ?_;refine aD H29 fun R3 h16 H30 => ?_;refine pJ 1 (lI x1 u2) R3 ?_ (fun u3 e4 => ?_)
        ·refine pC (gL x1 u2 y4) h16 (fun i1 s3 h17 e5 => ?_) (fun i1 s3 h18 q3 h19 h20 => ?_)
         ·have c18:=lF i1 u2.2.length (by omega);subst e5;exact pB 5 [r0 [.e bF]] [.only [4,5,6,7,8] [6,43,62,123,900]] (lI x1 u2 s3) (aB c18 aN)
         ·have c19:=lT i1 u2.2.length (by omega);refine aD h19 fun y5 h21 H31 => ?_;refine pD 13 [r0 [.e bT],r0 [.v,.rl i1 0 (.agg (al (u2.2.getD i1 ak))),.m,.m],r0 [.v,.v,.v,.c true (.tup [iI y5.1,.bool y5.2]),.v,.v,.v,.v,.v],V1] [.only [4,5,6,7,8,14,16,106,107,108,119] [6,16,43,62,123,900]] 13 [true] (aB c19 (aC (show (0:Int)≤((i1:Nat):Int)∧((i1:Nat):Int)<((u2.2.map al).length:Int) from by rw [Hp];omega) (aC (yC (f:=al) (l:=u2.2) (n:=i1) 7 0 7 (by omega) (by decide)) (aC (F0 (f:=al) (l:=u2.2) (n:=i1) ak 0 7 (by omega)) (aC Tryz.call50 (aF (wI y4 ((u2.2.getD i1 ak).Var) y5 h21) aN)))))) ?_;refine aK H31 (fun c20 H32 => ?_) (fun c21 H33 => ?_)
          ·refine aP H32 fun g3 H34 => ?_;refine ya 900 (n:=(u2.2.map al).length) (by kernel_rfl) (fun l2 => ?_);have l3:u2.2.length≤9223372036854775807:=by simpa only [Hp] using l2
           clear l2;obtain rfl:=sI H34;exact pB 4 [.eqT 119 bT,r0 [.v,.v,.b,.ap,.rwH 123 (.row 62 7 ((s3++[(Bind.mk ((u2.2.getD i1 ak).Kind) ((u2.2.getD i1 ak).Var) (Linear.mk (((u2.2.getD i1 ak).Dim).Const) (((u2.2.getD i1 ak).Dim).Terms)) (Shape.mk (((u2.2.getD i1 ak).Row).Row) (((u2.2.getD i1 ak).Row).Dims)) ((u2.2.getD i1 ak).Elem))]).map al)),.v],V2] [.only [4,5,6,7,8,14,106,107,108] [6,43,62,123,900]] (gL x1 u2 y4 (i1+1) (s3++[(Bind.mk ((u2.2.getD i1 ak).Kind) ((u2.2.getD i1 ak).Var) (Linear.mk (((u2.2.getD i1 ak).Dim).Const) (((u2.2.getD i1 ak).Dim).Terms)) (Shape.mk (((u2.2.getD i1 ak).Row).Row) (((u2.2.getD i1 ak).Row).Dims)) ((u2.2.getD i1 ak).Elem))])) (aB c20 (a8 (qB (c:=al) gw s3 [(Bind.mk ((u2.2.getD i1 ak).Kind) ((u2.2.getD i1 ak).Var) (Linear.mk (((u2.2.getD i1 ak).Dim).Const) (((u2.2.getD i1 ak).Dim).Terms)) (Shape.mk (((u2.2.getD i1 ak).Row).Row) (((u2.2.getD i1 ak).Row).Dims)) ((u2.2.getD i1 ak).Elem))] 112 (by decide) (by first | (simp;done) | simpa using g3)) (aC (tI 62 7 al s3 [(Bind.mk ((u2.2.getD i1 ak).Kind) ((u2.2.getD i1 ak).Var) (Linear.mk (((u2.2.getD i1 ak).Dim).Const) (((u2.2.getD i1 ak).Dim).Terms)) (Shape.mk (((u2.2.getD i1 ak).Row).Row) (((u2.2.getD i1 ak).Row).Dims)) ((u2.2.getD i1 ak).Elem))]) (aH i1 aN))))
          ·cases H33
        ·subst e4;have H35:=a7 H30;refine aD H35 fun y6 h22 H36 => ?_;obtain rfl:=sI H36;exact pR 5 [r0 [.v,.hR [(123,1000)] 126 (.tup []) [(1000,.row 62 7 (y6.map al))]],.rg 8 (V 5 [.b,.v,.v]) [.m,.v]] [.fz 123,.wkH 6 0 []] [] (aC Tryz.call26 (aC (Ak al (fun x=>x.Var) _ _ _ _ _ _ (fun _=>rfl) (fun _=>rfl) u3 y6 h22) aN))
 ·cases H2
noncomputable def fj (x0:List Bind):Option (List Bind) :=
 Cy (α:=Bind) x0 (
  some []
 ) (
  cb (x0.length*112≤140737488355328) <|
  some x0
 )
theorem nJ (x0 r:List Bind) (H:fj x0=some r):bn Tryz.prog 23 [dS al x0] [] (fun r2 h0=>r2=(.rslice 0)∧h0=[(0,.row 62 7 (r.map al))]):=by
 unfold fj at H;refine aX Tryz.func23 8 [.tmp 2] ?_;refine pD 4 [V1] [.only [0,2] []] 4 [] aN ?_;refine A9 H (fun H0 H1 => ?_);refine xZ [.v] (l:=(x0.map al)) (k:=4) (q:=true) (S:=⟨8,[(0,dS al x0),(2,.eslice),(3,dS al x0)],[]⟩) aN (by kernel_rfl) (fun b0 h1 => ?_);cases b0 with
 | true =>
  have H2:=H0 (List.map_eq_nil_iff.1 (h1 rfl));obtain rfl:=sI H2;exact pR 4 [V1] [.er 2 997 62 7,.ren [(997,0)]] [0] aN
 | false =>
  refine aP H1 fun g0 H3 => ?_;refine bc H3 fun e0 => ?_;subst e0;exact pR 5 [r0 [.b,.v,.er 5 7 62 7,.ap,.rwH 7 (.row 62 7 (x0.map al)),.v]] [.ren [(7,0)]] [0] (a8 (qB (c:=al) gw [] x0 112 (by decide) (by first | (simp;done) | simpa using g0)) (aC (CR 62 7 al x0) aN))
noncomputable def gQ (x0:List (Linear×Linear)) (x1:List (aq×aq)) (x2:List (aq×Shape)):Option (List Bind) :=
 qX (σ:=(List Bind)) (ε:=Empty) (β:=(List Bind)) x2 (fun e0 s0 =>
  cb ((s0.length+1)*112≤140737488355328) <|
  some (.go (s0++[(Bind.mk 2 e0.1 (Linear.mk 0 []) e0.2 [])]))
 ) [] (fun s0 =>
  qX (σ:=(List Bind)) (ε:=Empty) (β:=(List Bind)) x1 (fun e1 s1 =>
   cb ((s1.length+1)*112≤140737488355328) <|
   some (.go (s1++[(Bind.mk 3 e1.1 (Linear.mk 0 []) (Shape.mk [] []) e1.2)]))
  ) s0 (fun s1 =>
   (og (fun x=>x.Kind) (fun x=>x.Var) s1).bind fun y0 =>
   some y0
  )
 )
def fu (x0:List (Linear×Linear)) (x1:List (aq×aq)) (x2:List (aq×Shape)) (i0:List Nat) (s0:List Bind):AS:=⟨43,[(0,.hptr 1000 0),(2,.eslice),(3,.rslice 23),(12,.hptr 12 0)],[(12,.iter (x2.map (aJ (iM aY))) i0),(23,.row 62 7 (s0.map al)),(1000,.cells 95 [.amap 1001,.dmap (x2.map (aJ (iM aY))),dS az x0]),(1001,.smap 0 9 (x1.map (aJ aZ)))]⟩
def fi (x0:List (Linear×Linear)) (x1:List (aq×aq)) (x2:List (aq×Shape)) (i1:List Nat) (s1:List Bind):AS:=⟨43,[(2,.eslice),(3,.rslice 39),(28,.hptr 28 0)],[(28,.iter (x1.map (aJ aZ)) i1),(39,.row 62 7 (s1.map al)),(1000,.cells 95 [.dmap (x1.map (aJ aZ)),.dmap (x2.map (aJ (iM aY))),dS az x0])]⟩
theorem pF (x0:List (Linear×Linear)) (x1:List (aq×aq)) (x2:List (aq×Shape)) (r:List Bind) (H:gQ x0 x1 x2=some r):bn Tryz.prog 24 [.hptr 1000 0] [(1000,.cells 95 [.amap 1001,.amap 1002,dS az x0]),(1001,.smap 0 9 (x1.map (aJ aZ))),(1002,.smap 0 34 (x2.map (aJ (iM aY))))] (fun r2 h0=>r2=(dS al r)∧h0=[]):=by
 unfold gQ at H;refine aX Tryz.func24 43 [.tmp 2] ?_;refine pA 8 [V1,V1,r0 (V 4 [.fm 1002,.m])] [.er 3 23 62 7,.only [0,2,3,12] [12,23,1000,1001]] 8 [] (fu x0 x1 x2 [] []) (aC (DU CD x2) aN) ?_;refine sl (cc:=(iM aY)) 12 (fu x0 x1 x2) (by kernel_rfl) H [.v] (fun i0 s0=>⟨by kernel_rfl,by kernel_rfl⟩) (fun i0 s0=>⟨43,[(0,.hptr 1000 0),(2,.eslice),(3,.rslice 23),(12,.hptr 12 0),(13,.tup [.bool false]),(14,.bool false)],[(12,.iter (x2.map (aJ (iM aY))) i0),(23,.row 62 7 (s0.map al)),(1000,.cells 95 [.amap 1001,.dmap (x2.map (aJ (iM aY))),dS az x0]),(1001,.smap 0 9 (x1.map (aJ aZ)))]⟩) (fun i0 s0=>by kernel_rfl) (fun i0 s0 n0 e0=>⟨43,[(0,.hptr 1000 0),(2,.eslice),(3,.rslice 23),(12,.hptr 12 0),(13,.tup [.bool true,.str e0.1,.agg [.str e0.2.Row,dS ae e0.2.Dims]]),(14,.bool true)],[(12,.iter (x2.map (aJ (iM aY))) (i0++[n0])),(23,.row 62 7 (s0.map al)),(1000,.cells 95 [.amap 1001,.dmap (x2.map (aJ (iM aY))),dS az x0]),(1001,.smap 0 9 (x1.map (aJ aZ)))]⟩) (fun i0 s0 n0 e0=>by kernel_rfl) (fun i0 s0 H0 => ?_) (fun i0 s0 n0 e0 h1 q0 h2 h3 => ?_)
 ·refine pA 7 [.rg 0 [] (V 4 [.fm 1001,.m])] [.ren [(28,28),(23,39),(1000,1000)],.only [2,3,28] [28,39,1000]] 7 [false] (fi x0 x1 x2 [] s0) (aC (sy oo x1) aN) ?_;refine sl (cc:=aZ) 28 (fi x0 x1 x2) (by kernel_rfl) H0 [.v] (fun i1 s1=>⟨by kernel_rfl,by kernel_rfl⟩) (fun i1 s1=>⟨43,[(2,.eslice),(3,.rslice 39),(28,.hptr 28 0),(29,.tup [.bool false]),(30,.bool false)],[(28,.iter (x1.map (aJ aZ)) i1),(39,.row 62 7 (s1.map al)),(1000,.cells 95 [.dmap (x1.map (aJ aZ)),.dmap (x2.map (aJ (iM aY))),dS az x0])]⟩) (fun i1 s1=>by kernel_rfl) (fun i1 s1 n1 e1=>⟨43,[(2,.eslice),(3,.rslice 39),(28,.hptr 28 0),(29,.tup [.bool true,.str e1.1,.str e1.2]),(30,.bool true)],[(28,.iter (x1.map (aJ aZ)) (i1++[n1])),(39,.row 62 7 (s1.map al)),(1000,.cells 95 [.dmap (x1.map (aJ aZ)),.dmap (x2.map (aJ (iM aY))),dS az x0])]⟩) (fun i1 s1 n1 e1=>by kernel_rfl) (fun i1 s1 H1 => ?_) (fun i1 s1 n1 e1 h4 q1 h5 h6 => ?_)
  ·refine aD H1 fun y0 h7 H2 => ?_;refine bc H2 fun e2 => ?_;subst e2;exact pR 8 [r0 [.v,.hR [(39,1000)] 41 (.tup []) [(1000,.row 62 7 (y0.map al))]],V2] [.fz 39] [] (aC Tryz.call26 (aC (r5 al (fun x=>x.Kind) (fun x=>x.Var) _ _ _ _ _ (fun _=>rfl) (fun _=>rfl) s1 y0 h7) aN))
  ·refine aP h5 fun g0 H3 => ?_;obtain rfl:=sI H3;exact pB 7 [r0 [.en n1 (.tup [.str e1.1,.str e1.2]),.v,.v,.v,.v],r0 [.v,.v,.v,.b,.b,.wk 38 [(0,3)],.wk 38 [(0,5)],.ap,.rwH 39 (.row 62 7 ((s1++[(Bind.mk 3 e1.1 (Linear.mk 0 []) (Shape.mk [] []) e1.2)]).map al)),.v]] [.only [2,3,28] [28,39,1000]] (fi x0 x1 x2 (i1++[n1]) (s1++[(Bind.mk 3 e1.1 (Linear.mk 0 []) (Shape.mk [] []) e1.2)])) (aC (jk i1 n1) (aC (uB (cc:=aZ) h4) (a8 (qB (c:=al) gw s1 [(Bind.mk 3 e1.1 (Linear.mk 0 []) (Shape.mk [] []) e1.2)] 112 (by decide) (by first | (simp;done) | simpa using g0)) (aC (tI 62 7 al s1 [(Bind.mk 3 e1.1 (Linear.mk 0 []) (Shape.mk [] []) e1.2)]) aN))))
 ·refine aP h2 fun g1 H4 => ?_;obtain rfl:=sI H4;exact pB 7 [r0 [.en n0 (.tup [.str e0.1,.agg [.str e0.2.Row,dS ae e0.2.Dims]]),.v,.v,.m,.v,.m],r0 [.v,.v,.v,.b,.b,.wk 22 [(0,3)],.ap,.rwH 23 (.row 62 7 ((s0++[(Bind.mk 2 e0.1 (Linear.mk 0 []) e0.2 [])]).map al)),.v]] [.only [0,2,3,12] [12,23,1000,1001]] (fu x0 x1 x2 (i0++[n0]) (s0++[(Bind.mk 2 e0.1 (Linear.mk 0 []) e0.2 [])])) (aC (jk i0 n0) (aC (uB (cc:=(iM aY)) h1) (a8 (qB (c:=al) gw s0 [(Bind.mk 2 e0.1 (Linear.mk 0 []) e0.2 [])] 112 (by decide) (by first | (simp;done) | simpa using g1)) (aC (tI 62 7 al s0 [(Bind.mk 2 e0.1 (Linear.mk 0 []) e0.2 [])]) aN))))
def jD (x0:Bind):Option Bool :=
 ((
  bif (x0.Dim.Const==0) then (
   some (((x0.Dim.Terms.length:Nat):Int)==0)
  ) else (
   some false
  )
 ):Option Bool).bind fun v0 =>
 ((
  bif (x0.Row.Row==[]) then (
   some (((x0.Row.Dims.length:Nat):Int)==0)
  ) else (
   some false
  )
 ):Option Bool).bind fun v1 =>
 bif (x0.Kind==1) then (
  (dL x0.Var).bind fun y0 =>
  bif y0 then (
   (bw x0.Dim).bind fun y1 =>
   bif y1 then (
    bif v1 then (
     some (x0.Elem==[])
    ) else (
     some false
    )
   ) else (
    some false
   )
  ) else (
   some false
  )
 ) else (
  bif (x0.Kind==2) then (
   (dL x0.Var).bind fun y2 =>
   bif y2 then (
    (cz x0.Row).bind fun y3 =>
    bif y3 then (
     bif v0 then (
      some (x0.Elem==[])
     ) else (
      some false
     )
    ) else (
     some false
    )
   ) else (
    some false
   )
  ) else (
   bif (x0.Kind==3) then (
    (ca x0.Var).bind fun y4 =>
    bif y4 then (
     bif (x0.Elem==[105,110,116]) then (
      bif v0 then (
       some v1
      ) else (
       some false
      )
     ) else (
      bif (x0.Elem==[98,111,111,108]) then (
       bif v0 then (
        some v1
       ) else (
        some false
       )
      ) else (
       (ca x0.Elem).bind fun y5 =>
       bif y5 then (
        bif v0 then (
         some v1
        ) else (
         some false
        )
       ) else (
        some false
       )
      )
     )
    ) else (
     some false
    )
   ) else (
    some false
   )
  )
 )
def kV (x0:Bind) (v0:Bool):AS:=⟨91,[(1,.hptr 1 0),(2,.bool false),(3,.bool v0)],[(1,.cells 62 [iI x0.Kind,.str x0.Var,iI x0.Dim.Const,dS ai x0.Dim.Terms,.str x0.Row.Row,dS ae x0.Row.Dims,.str x0.Elem])]⟩
def lW (x0:Bind) (v0 v1:Bool):AS:=⟨91,[(1,.hptr 1 0),(2,.bool false),(3,.bool v0),(4,.bool v1)],[(1,.cells 62 [iI x0.Kind,.str x0.Var,iI x0.Dim.Const,dS ai x0.Dim.Terms,.str x0.Row.Row,dS ae x0.Row.Dims,.str x0.Elem])]⟩
theorem q8 (x0:Bind) (r:Bool) (H:jD x0=some r):aW Tryz.prog 68 [.agg [iI x0.Kind,.str x0.Var,iI x0.Dim.Const,dS ai x0.Dim.Terms,.str x0.Row.Row,dS ae x0.Row.Dims,.str x0.Elem]] (.bool r):=by
 unfold jD at H;refine aX Tryz.func68 91 [.tmp 2] ?_;refine pD 3 [r0 [.m,.v]] [.only [1,2] [1]] 3 [] aN ?_;refine aD H fun v0 h0 H0 => ?_;refine cS 0 (kV x0 v0) (by kernel_rfl) ?_ ?_
 ·refine aK h0 (fun c0 H1 => ?_) (fun c1 H2 => ?_)
  ·obtain rfl:=sI H1;exact pB 1 [r0 [.v,.v,.v,.e bT,.v,.v,.v,.v,.e (nI x0.Dim.Terms.length),.v,.v,.v]] [.only [1,2,3] [1]] (kV x0 (((x0.Dim.Terms.length:Nat):Int)==0)) (aB c0 (aT (aC (aG ai x0.Dim.Terms) aN)))
  ·obtain rfl:=sI H2;exact pB 1 [r0 [.v,.v,.v,.e bF,.v,.s,.s,.s,.s,.s,.v,.v]] [.only [1,2,3] [1]] (kV x0 false) (aB c1 aN)
 ·refine pD 1 [] [.only [1,2,3] [1]] 1 [] aN ?_;refine aD H0 fun v1 h1 H3 => ?_;refine cS 0 (lW x0 v0 v1) (by kernel_rfl) ?_ ?_
  ·refine aK h1 (fun c2 H4 => ?_) (fun c3 H5 => ?_)
   ·obtain rfl:=sI H4;exact pB 1 [r0 [.v,.v,.v,.e bT,.v,.v,.v,.v,.e (nI x0.Row.Dims.length),.v,.v,.v]] [.only [1,2,3,4] [1]] (lW x0 v0 (((x0.Row.Dims.length:Nat):Int)==0)) (aB c2 (aT (aC (aG ae x0.Row.Dims) aN)))
   ·obtain rfl:=sI H5;exact pB 1 [r0 [.v,.v,.v,.e bF,.v,.s,.s,.s,.s,.s,.v,.v]] [.only [1,2,3,4] [1]] (lW x0 v0 false) (aB c3 aN)
  ·refine aK H3 (fun c4 H6 => ?_) (fun c5 H7 => ?_)
   ·refine aD H6 fun y0 h2 H8 => ?_;refine aK H8 (fun c6 H9 => ?_) (fun c7 H10 => ?_)
    ·refine aD H9 fun y1 h3 H11 => ?_;refine aK H11 (fun c8 H12 => ?_) (fun c9 H13 => ?_)
     ·refine aK H12 (fun c10 H14 => ?_) (fun c11 H15 => ?_)
      ·obtain rfl:=sI H14;exact pR 12 [V2,V2,.eqT 29 bT,.eqT 4 bT,r0 [.v,.v,.c true bT,.v,.v,.v,.c true bT,.v,.v,.v,.v,.v,.v,.v,.v,.v,.v]] [] [] (aB c4 (aB c10 (aC Tryz.call103 (aC (aW.eq (bp _ _ h2) (cB c6)) (aC Tryz.call90 (aC (aW.eq (bj _ _ h3) (cB c8)) aN))))))
      ·obtain rfl:=sI H15;exact pR 12 [V2,V2,.eqT 29 bT,.eqT 4 bF,r0 [.v,.v,.c true bT,.v,.v,.v,.c true bT,.v,.v,.v,.v,.v,.s,.s,.s,.v,.v]] [] [] (aB c4 (aB c11 (aC Tryz.call103 (aC (aW.eq (bp _ _ h2) (cB c6)) (aC Tryz.call90 (aC (aW.eq (bj _ _ h3) (cB c8)) aN))))))
     ·obtain rfl:=sI H13;exact pR 11 [V2,V2,.eqT 29 bT,r0 [.v,.v,.c true bT,.v,.v,.v,.c true bF,.v,.v,.s,.v,.v,.s,.s,.s,.v,.v]] [] [] (aB c4 (aC Tryz.call103 (aC (aW.eq (bp _ _ h2) (cB c6)) (aC Tryz.call90 (aC (aW.eq (bj _ _ h3) (cB c9)) aN)))))
    ·obtain rfl:=sI H10;exact pR 11 [V2,V2,.eqT 29 bT,r0 [.v,.v,.c true bF,.v,.s,.s,.s,.v,.v,.s,.v,.v,.s,.s,.s,.v,.v]] [] [] (aB c4 (aC Tryz.call103 (aC (aW.eq (bp _ _ h2) (cB c7)) aN)))
   ·refine aK H7 (fun c12 H16 => ?_) (fun c13 H17 => ?_)
    ·refine aD H16 fun y2 h4 H18 => ?_;refine aK H18 (fun c14 H19 => ?_) (fun c15 H20 => ?_)
     ·refine aD H19 fun y3 h5 H21 => ?_;refine aK H21 (fun c16 H22 => ?_) (fun c17 H23 => ?_)
      ·refine aK H22 (fun c18 H24 => ?_) (fun c19 H25 => ?_)
       ·obtain rfl:=sI H24;exact pR 16 [V2,V2,.eqT 29 bF,V2,.eqT 47 bT,.eqT 3 bT,r0 [.v,.v,.c true bT,.v,.v,.v,.c true bT,.v,.v,.v,.v,.v,.v,.v,.v,.v,.v]] [] [] (aB c5 (aB c12 (aB c18 (aC Tryz.call103 (aC (aW.eq (bp _ _ h4) (cB c14)) (aC Tryz.call53 (aC (aW.eq (bN _ _ h5) (cB c16)) aN)))))))
       ·obtain rfl:=sI H25;exact pR 16 [V2,V2,.eqT 29 bF,V2,.eqT 47 bT,.eqT 3 bF,r0 [.v,.v,.c true bT,.v,.v,.v,.c true bT,.v,.v,.v,.v,.v,.s,.s,.s,.v,.v]] [] [] (aB c5 (aB c12 (aB c19 (aC Tryz.call103 (aC (aW.eq (bp _ _ h4) (cB c14)) (aC Tryz.call53 (aC (aW.eq (bN _ _ h5) (cB c16)) aN)))))))
      ·obtain rfl:=sI H23;exact pR 15 [V2,V2,.eqT 29 bF,V2,.eqT 47 bT,r0 [.v,.v,.c true bT,.v,.v,.v,.c true bF,.v,.v,.s,.v,.v,.s,.s,.s,.v,.v]] [] [] (aB c5 (aB c12 (aC Tryz.call103 (aC (aW.eq (bp _ _ h4) (cB c14)) (aC Tryz.call53 (aC (aW.eq (bN _ _ h5) (cB c17)) aN))))))
     ·obtain rfl:=sI H20;exact pR 15 [V2,V2,.eqT 29 bF,V2,.eqT 47 bT,r0 [.v,.v,.c true bF,.v,.s,.s,.s,.v,.v,.s,.v,.v,.s,.s,.s,.v,.v]] [] [] (aB c5 (aB c12 (aC Tryz.call103 (aC (aW.eq (bp _ _ h4) (cB c15)) aN))))
    ·refine aK H17 (fun c20 H26 => ?_) (fun c21 H27 => ?_)
     ·refine aD H26 fun y4 h6 H28 => ?_;refine aK H28 (fun c22 H29 => ?_) (fun c23 H30 => ?_)
      ·refine aK H29 (fun c24 H31 => ?_) (fun c25 H32 => ?_)
       ·refine aK H31 (fun c26 H33 => ?_) (fun c27 H34 => ?_)
        ·refine bc H33 fun e0 => ?_;subst e0;exact pR 20 [V2,V2,.eqT 29 bF,V2,.eqT 47 bF,V2,.eqT 65 bT,.eqT 3 bT,r0 [.v,.v,.c true bT,.v,.v,.v,.e bT,.v,.s,.s,.s,.v,.v,.s,.s,.s,.v,.v,.v,.v,.v,.v,.v,.v,.v]] [] [] (aB c5 (aB c13 (aB c20 (aB c26 (aC Tryz.call79 (aC (aW.eq (bh _ _ h6) (cB c22)) (aB c24 aN)))))))
        ·obtain rfl:=sI H34;exact pR 20 [V2,V2,.eqT 29 bF,V2,.eqT 47 bF,V2,.eqT 65 bT,.eqT 3 bF,r0 [.v,.v,.c true bT,.v,.v,.v,.e bT,.v,.s,.s,.s,.v,.v,.s,.s,.s,.v,.v,.v,.v,.v,.v,.s,.v,.v]] [] [] (aB c5 (aB c13 (aB c20 (aB c27 (aC Tryz.call79 (aC (aW.eq (bh _ _ h6) (cB c22)) (aB c24 aN)))))))
       ·refine aK H32 (fun c28 H35 => ?_) (fun c29 H36 => ?_)
        ·refine aK H35 (fun c30 H37 => ?_) (fun c31 H38 => ?_)
         ·refine bc H37 fun e1 => ?_;subst e1;exact pR 20 [V2,V2,.eqT 29 bF,V2,.eqT 47 bF,V2,.eqT 65 bT,.eqT 3 bT,r0 [.v,.v,.c true bT,.v,.v,.v,.e bF,.v,.v,.v,.e bT,.v,.v,.s,.s,.s,.v,.v,.v,.v,.v,.v,.v,.v,.v]] [] [] (aB c5 (aB c13 (aB c20 (aB c30 (aC Tryz.call79 (aC (aW.eq (bh _ _ h6) (cB c22)) (aB c25 (aB c28 aN))))))))
         ·obtain rfl:=sI H38;exact pR 20 [V2,V2,.eqT 29 bF,V2,.eqT 47 bF,V2,.eqT 65 bT,.eqT 3 bF,r0 [.v,.v,.c true bT,.v,.v,.v,.e bF,.v,.v,.v,.e bT,.v,.v,.s,.s,.s,.v,.v,.v,.v,.v,.v,.s,.v,.v]] [] [] (aB c5 (aB c13 (aB c20 (aB c31 (aC Tryz.call79 (aC (aW.eq (bh _ _ h6) (cB c22)) (aB c25 (aB c28 aN))))))))
        ·refine aD H36 fun y5 h7 H39 => ?_;refine aK H39 (fun c32 H40 => ?_) (fun c33 H41 => ?_)
         ·refine aK H40 (fun c34 H42 => ?_) (fun c35 H43 => ?_)
          ·refine bc H42 fun e2 => ?_;subst e2;exact pR 20 [V2,V2,.eqT 29 bF,V2,.eqT 47 bF,V2,.eqT 65 bT,.eqT 3 bT,r0 [.v,.v,.c true bT,.v,.v,.v,.e bF,.v,.v,.v,.e bF,.v,.v,.v,.v,.c true bT,.v,.v,.v,.v,.v,.v,.v,.v,.v]] [] [] (aB c5 (aB c13 (aB c20 (aB c34 (aC Tryz.call79 (aC (aW.eq (bh _ _ h6) (cB c22)) (aB c25 (aB c29 (aC Tryz.call79 (aC (aW.eq (bh _ _ h7) (cB c32)) aN))))))))))
          ·obtain rfl:=sI H43;exact pR 20 [V2,V2,.eqT 29 bF,V2,.eqT 47 bF,V2,.eqT 65 bT,.eqT 3 bF,r0 [.v,.v,.c true bT,.v,.v,.v,.e bF,.v,.v,.v,.e bF,.v,.v,.v,.v,.c true bT,.v,.v,.v,.v,.v,.v,.s,.v,.v]] [] [] (aB c5 (aB c13 (aB c20 (aB c35 (aC Tryz.call79 (aC (aW.eq (bh _ _ h6) (cB c22)) (aB c25 (aB c29 (aC Tryz.call79 (aC (aW.eq (bh _ _ h7) (cB c32)) aN))))))))))
         ·obtain rfl:=sI H41;exact pR 19 [V2,V2,.eqT 29 bF,V2,.eqT 47 bF,V2,.eqT 65 bT,r0 [.v,.v,.c true bT,.v,.v,.v,.e bF,.v,.v,.v,.e bF,.v,.v,.v,.v,.c true bF,.v,.v,.v,.s,.v,.v,.s,.v,.v]] [] [] (aB c5 (aB c13 (aB c20 (aC Tryz.call79 (aC (aW.eq (bh _ _ h6) (cB c22)) (aB c25 (aB c29 (aC Tryz.call79 (aC (aW.eq (bh _ _ h7) (cB c33)) aN)))))))))
      ·obtain rfl:=sI H30;exact pR 19 [V2,V2,.eqT 29 bF,V2,.eqT 47 bF,V2,.eqT 65 bT,r0 [.v,.v,.c true bF,.v,.s,.s,.s,.s,.s,.s,.s,.s,.s,.s,.s,.s,.s,.v,.v,.s,.v,.v,.s,.v,.v]] [] [] (aB c5 (aB c13 (aB c20 (aC Tryz.call79 (aC (aW.eq (bh _ _ h6) (cB c23)) aN)))))
     ·obtain rfl:=sI H27;exact pR 20 [V2,V2,.eqT 29 bF,V2,.eqT 47 bF,V2,.eqT 65 bF,V1] [] [] (aB c5 (aB c13 (aB c21 aN)))
def cH (x0:List Bind):Option Bool :=
 (dF (σ:=Unit) (ε:=Unit) (ρ:=Bool) (fun i0 s0 =>
  (jD (Bind.mk ((x0.getD i0 ak).Kind) ((x0.getD i0 ak).Var) (Linear.mk (((x0.getD i0 ak).Dim).Const) (((x0.getD i0 ak).Dim).Terms)) (Shape.mk (((x0.getD i0 ak).Row).Row) (((x0.getD i0 ak).Row).Dims)) ((x0.getD i0 ak).Elem))).bind fun y0 =>
  bif y0 then (
   (gI (x0.take i0) ((x0.getD i0 ak).Kind) ((x0.getD i0 ak).Var)).bind fun y1 =>
   bif decide (y1≥0) then (
    some (.ret false)
   ) else (
    some (.go ())
   )
  ) else (
   some (.ret false)
  )
 ) (fun i0 s0=>()) (x0.length-0) 0 ()).bind <| aft fun u0 =>
 some true
def gf (x0:List Bind) (i0:Nat) (s0:Unit):AS:=⟨27,[(0,dS al x0),(2,.bool false),(5,dS al x0),(6,nI x0.length),(7,nI i0)],[]⟩
def ki (u1:Unit):AS:=⟨27,[(2,.bool false)],[]⟩
theorem cL (x0:List Bind) (r:Bool) (H:cH x0=some r):aW Tryz.prog 33 [dS al x0] (.bool r):=by
 unfold cH at H;refine aX Tryz.func33 27 [.tmp 2] ?_;refine pA 6 [V1,r0 [.v,.e (nI x0.length),.v]] [.only [0,2,5,6,7] []] 6 [] (gf x0 0 ()) (aT (aC (aG al x0) aN)) ?_;refine aD H fun R0 h0 H0 => ?_;refine pJ 1 (ki) R0 ?_ (fun u0 e0 => ?_)
 ·refine pC (gf x0) h0 (fun i0 s0 h1 e1 => ?_) (fun i0 s0 h2 q0 h3 h4 => ?_)
  ·have c0:=lF i0 x0.length (by omega);subst e1;exact pB 5 [r0 [.e bF]] [.only [2] []] (ki ()) (aB c0 aN)
  ·have c1:=lT i0 x0.length (by omega);refine aD h3 fun y0 h5 H1 => ?_;refine pD 10 [r0 [.e bT],r0 [.v,.e (.dptr (al (x0.getD i0 ak))),.v,.m,.v,.m]] [.only [0,2,3,4,5,6,7] [4]] 10 [true] (aB c1 (aI aQ x0 i0 ak aN)) ?_;refine aK H1 (fun c2 H2 => ?_) (fun c3 H3 => ?_)
   ·refine aD H2 fun y1 h6 H4 => ?_;refine pD 1 [.rg 11 [.v,.c true bT,.v,.v,.v,.v,.e (.dslice ((x0.take i0).map al)),.v,.v,.v,.v] [.c true (iI y1),.v,.v]] [.only [0,2,5,6,7,25] []] 1 [] (aC Tryz.call68 (aC (aW.eq (q8 _ _ h5) (cB c2)) (aT (aC (show ((0:Int)≤0∧0≤((i0:Nat):Int)∧((i0:Nat):Int)≤((x0.map al).length:Int))∧UL 7 (x0.map al) from ⟨by first | omega | (simp only [Hp];omega),UL.map aQ _⟩) (aC (p8 al x0 i0) (aC Tryz.call54 (aF (od _ _ _ _ h6) aN))))))) ?_;refine aK H4 (fun c4 H5 => ?_) (fun c5 H6 => ?_)
    ·obtain rfl:=sI H5;obtain rfl:=aR h4;obtain rfl:=sI (aA H0);exact pR 5 [.eqT 25 bT,V1] [] [] (aB c4 aN)
    ·have c5p:=Hl c5;refine bt 0 (ps:=[(x0.map al).length≤9223372036854775807]) (by kernel_rfl) (fun l0 => ?_);have l1:x0.length≤9223372036854775807:=by simpa only [bI,Hp] using l0
     clear l0;obtain rfl:=sI H6;exact pB 4 [.eqT 25 bF,V2] [.only [0,2,5,6,7] []] (gf x0 (i0+1) ()) (aB c5 (aH i0 aN))
   ·obtain rfl:=sI H3;obtain rfl:=aR h4;obtain rfl:=sI (aA H0);exact pR 5 [.rg 11 [.v,.c true bF,.v,.v,.s,.s,.s,.s,.s,.s,.s] [.s,.s,.v],V1] [] [] (aC Tryz.call68 (aC (aW.eq (q8 _ _ h5) (cB c3)) (aT aN)))
 ·subst e0;have H7:=bl H0;obtain rfl:=sI H7;exact pR 3 [V1] [] [] aN
noncomputable def cE (x0:List ay):Option (List ay) :=
 Cy (α:=ay) x0 (
  some []
 ) (
  cb (x0.length*24≤140737488355328) <|
  some x0
 )
theorem nR (x0 r:List ay) (H:cE x0=some r):aW Tryz.prog 107 [dS ai x0] (dS ai r):=by
 unfold cE at H;refine aX Tryz.func107 8 [.tmp 2] ?_;refine pD 4 [V1] [.only [0,2] []] 4 [] aN ?_;refine A9 H (fun H0 H1 => ?_);refine xZ [.v] (l:=(x0.map ai)) (k:=4) (q:=true) (S:=⟨8,[(0,dS ai x0),(2,.eslice),(3,dS ai x0)],[]⟩) aN (by kernel_rfl) (fun b0 h0 => ?_);cases b0 with
 | true =>
  have H2:=H0 (List.map_eq_nil_iff.1 (h0 rfl));obtain rfl:=sI H2;exact pR 4 [V1] [.wk 2 []] [] aN
 | false =>
  refine aP H1 fun g0 H3 => ?_;refine bc H3 fun e0 => ?_;subst e0;exact pR 5 [r0 [.b,.v,.er 5 7 31 2,.ap,.rwH 7 (.row 31 2 (x0.map ai)),.v]] [.fz 7] [] (a8 (qB (c:=ai) iG [] x0 24 (by decide) (by first | (simp;done) | simpa using g0)) (aC (CR 31 2 ai x0) aN))
noncomputable def dT (x0:List Linear):Option (List Linear) :=
 (dF (σ:=(List Linear)) (ε:=(List Linear)) (ρ:=Empty) (fun i0 s0 =>
  (cE ((x0.getD i0 ax).Terms)).bind fun y0 =>
  cb ((s0.length+1)*32≤140737488355328) <|
  some (.go (s0++[(Linear.mk ((x0.getD i0 ax).Const) y0)]))
 ) (fun i0 s0=>s0) (x0.length-0) 0 []).bind <| dq fun u0 =>
 some u0
def ka (x0:List Linear) (i0:Nat) (s0:List Linear):AS:=⟨23,[(2,.eslice),(3,.rslice 20),(6,dS ae x0),(7,nI x0.length),(8,nI i0)],[(20,.row 29 2 (s0.map ae))]⟩
def oT (u1:List Linear):AS:=⟨23,[(2,.eslice),(3,.rslice 20)],[(20,.row 29 2 (u1.map ae))]⟩
theorem pn (x0 r:List Linear) (H:dT x0=some r):bn Tryz.prog 55 [dS ae x0] [] (fun r2 h0=>r2=(.rslice 0)∧h0=[(0,.row 29 2 (r.map ae))]):=by
 unfold dT at H;refine aX Tryz.func55 23 [.tmp 2] ?_;refine pA 8 [V1,V1,r0 [.v,.e (nI x0.length),.v]] [.er 3 20 29 2,.only [2,3,6,7,8] [20]] 8 [] (ka x0 0 []) (aT (aC (aG ae x0) aN)) ?_;refine aD H fun R0 h1 H0 => ?_;refine pJ 1 (oT) R0 ?_ (fun u0 e0 => ?_)
 ·refine pC (ka x0) h1 (fun i0 s0 h2 e1 => ?_) (fun i0 s0 h3 q0 h4 h5 => ?_)
  ·have c0:=lF i0 x0.length (by omega);subst e1;exact pB 5 [r0 [.e bF]] [.only [2,3] [20]] (oT s0) (aB c0 aN)
  ·have c1:=lT i0 x0.length (by omega);refine aD h4 fun y0 h6 H1 => ?_;refine aP H1 fun g0 H2 => ?_;refine bt 6 (ps:=[(x0.map ae).length≤9223372036854775807]) (by kernel_rfl) (fun l0 => ?_);have l1:x0.length≤9223372036854775807:=by simpa only [bI,Hp] using l0
   clear l0;obtain rfl:=sI H2;exact pB 11 [r0 [.e bT],r0 [.e (.dptr (ae (x0.getD i0 ax))),.v,.m,.m],.rg 8 (V 5 [.c true (dS ai y0),.b,.b]) [.ap,.rwH 20 (.row 29 2 ((s0++[(Linear.mk ((x0.getD i0 ax).Const) y0)]).map ae)),.v],V2] [.only [2,3,6,7,8] [20]] (ka x0 (i0+1) (s0++[(Linear.mk ((x0.getD i0 ax).Const) y0)])) (aB c1 (aI bA x0 i0 ax (aC Tryz.call107 (aF (nR _ _ h6) (a8 (qB (c:=ae) fF s0 [(Linear.mk ((x0.getD i0 ax).Const) y0)] 32 (by decide) (by first | (simp;done) | simpa using g0)) (aC (tI 29 2 ae s0 [(Linear.mk ((x0.getD i0 ax).Const) y0)]) (aH i0 aN)))))))
 ·subst e0;have H3:=a7 H0;refine bc H3 fun e2 => ?_;subst e2;exact pR 3 [V2] [.ren [(20,0)]] [0] aN
noncomputable def jg (x0:aq) (x1:List Linear):Option (Shape×Int) :=
 bif decide (((x1.length:Nat):Int)>6) then (
  some ((Shape.mk [] []),3)
 ) else (
  (dT x1).bind fun y0 =>
  some ((Shape.mk x0 y0),0)
 )
theorem x7 (x0:aq) (x1:List Linear) (r:Shape×Int) (H:jg x0 x1=some r):aW Tryz.prog 57 [.str x0,dS ae x1] (.tup [.agg [.str r.1.Row,dS ae r.1.Dims],iI r.2]):=by
 unfold jg at H;refine aX Tryz.func57 14 [.cell 4 34,.tmp 5] ?_;refine aK H (fun c0 H0 => ?_) (fun c1 H1 => ?_)
 ·obtain rfl:=sI H0;exact pR 10 [r0 [.m,.v],r0 [.v,.e (nI x1.length),.v],.eqT 8 bT,r0 [.b,.m,.v]] [.wkH 4 1 []] [] (aT (aC (aG ae x1) (aB c0 aN)))
 ·refine aD H1 fun y0 h0 H2 => ?_;obtain rfl:=sI H2;exact pR 11 [r0 [.m,.v],r0 [.v,.e (nI x1.length),.v],.eqT 8 bF,r0 [.v,.v,.hR [] 12 (.rslice 0) [(0,.row 29 2 (y0.map ae))],.b,.m,.v]] [.fz 12] [] (aT (aC (aG ae x1) (aB c1 (aC Tryz.call55 (aC (pn _ _ h0) aN)))))
noncomputable def gW (x0:Shape) (x1:List Bind):Option (Shape×Int) :=
 (cz x0).bind fun y0 =>
 bif y0 then (
  (cH x1).bind fun y1 =>
  bif y1 then (
   (gI x1 2 x0.Row).bind fun y2 =>
   ((
    bif (x0.Row==[]) then (
     some false
    ) else (
     some (decide (y2≥0))
    )
   ):Option Bool).bind fun v0 =>
   ((
    bif v0 then (
     cb (0≤y2∧y2<(x1.length:Int)) <|
     (dT (((x1.getD y2.toNat ak).Row).Dims)).bind fun y3 =>
     some ((((x1.getD y2.toNat ak).Row).Row),y3)
    ) else (
     some (x0.Row,[])
    )
   ):Option (aq×(List Linear))).bind fun v1 =>
   (dF (σ:=(List Linear)) (ε:=(List Linear)) (ρ:=(Shape×Int)) (fun i0 s0 =>
    (fU (Linear.mk ((x0.Dims.getD i0 ax).Const) ((x0.Dims.getD i0 ax).Terms)) x1).bind fun y4 =>
    bif (y4.2==0) then (
     cb ((s0.length+1)*32≤140737488355328) <|
     some (.go (s0++[y4.1]))
    ) else (
     some (.ret ((Shape.mk [] []),y4.2))
    )
   ) (fun i0 s0=>s0) (x0.Dims.length-0) 0 v1.2).bind <| aft fun u0 =>
   (jg v1.1 u0).bind fun y5 =>
   some (y5.1,y5.2)
  ) else (
   some ((Shape.mk [] []),1)
  )
 ) else (
  some ((Shape.mk [] []),1)
 )
def la (x0:Shape) (x1:List Bind) (y2:Int) (v0:Bool):AS:=⟨75,[(1,dS al x1),(2,.hptr 2 0),(4,.hptr 4 0),(5,iI 0),(6,.str x0.Row),(7,.eslice),(8,iI y2),(34,.bool v0)],[(2,.cells 34 [.str x0.Row,dS ae x0.Dims]),(4,.cells 34 [.str [],.eslice])]⟩
def kL (x0:Shape) (x1:List Bind) (v1:aq×(List Linear)):AS:=⟨75,[(1,dS al x1),(2,.hptr 2 0),(4,.hptr 4 0),(5,iI 0),(6,.str v1.1),(7,.rslice 47)],[(2,.cells 34 [.str x0.Row,dS ae x0.Dims]),(4,.cells 34 [.str [],.eslice]),(47,.row 29 2 (v1.2.map ae))]⟩
def mj (x0:Shape) (x1:List Bind) (v1:aq×(List Linear)) (i0:Nat) (s0:List Linear):AS:=⟨75,[(1,dS al x1),(4,.hptr 4 0),(5,iI 0),(6,.str v1.1),(7,.rslice 68),(49,dS ae x0.Dims),(50,nI x0.Dims.length),(51,nI i0)],[(4,.cells 34 [.str [],.eslice]),(68,.row 29 2 (s0.map ae))]⟩
def o6 (v1:aq×(List Linear)) (u1:List Linear):AS:=⟨75,[(4,.hptr 4 0),(5,iI 0),(6,.str v1.1),(7,.rslice 68)],[(4,.cells 34 [.str [],.eslice]),(68,.row 29 2 (u1.map ae))]⟩
theorem qV (x0:Shape) (x1:List Bind) (r:Shape×Int) (H:gW x0 x1=some r):aW Tryz.prog 25 [.agg [.str x0.Row,dS ae x0.Dims],dS al x1] (.tup [.agg [.str r.1.Row,dS ae r.1.Dims],iI r.2]):=by
 unfold gW at H;refine aX Tryz.func25 75 [.cell 4 34,.tmp 5] ?_;refine aD H fun y0 h0 H0 => ?_;refine aK H0 (fun c0 H1 => ?_) (fun c1 H2 => ?_)
 ·refine aD H1 fun y1 h1 H3 => ?_;refine aK H3 (fun c2 H4 => ?_) (fun c3 H5 => ?_)
  ·refine aD H4 fun y2 h2 H6 => ?_;refine pD 16 [r0 [.m,.m,.v],r0 [.v,.c true bT,.v,.v,.v,.c true (.bool y1),.v,.v],.eqT 20 bF,V3,V1,r0 [.v,.v,.v,.c true (iI y2),.v]] [.only [1,2,4,5,6,7,8] [2,4]] 15 [false] (aC Tryz.call53 (aC (aW.eq (bN _ _ h0) (cB c0)) (aT (aC Tryz.call33 (aF (cL _ _ h1) (aT (aM c2 (aC Tryz.call54 (aF (od _ _ _ _ h2) aN))))))))) ?_;refine aD H6 fun v0 h3 H7 => ?_;refine cS 0 (la x0 x1 y2 v0) (by kernel_rfl) ?_ ?_
   ·refine aK h3 (fun c4 H8 => ?_) (fun c5 H9 => ?_)
    ·obtain rfl:=sI H8;exact pB 1 [r0 [.v,.v,.e bF,.v,.s,.s,.v]] [.only [1,2,4,5,6,7,8,34] [2,4]] (la x0 x1 y2 false) (aM c4 aN)
    ·obtain rfl:=sI H9;exact pB 1 [r0 [.v,.v,.e bT,.v,.v,.v,.v]] [.only [1,2,4,5,6,7,8,34] [2,4]] (la x0 x1 y2 (decide (y2≥0))) (aM c5 aN)
   ·refine aD H7 fun v1 h4 H10 => ?_;refine cS 0 (kL x0 x1 v1) (by kernel_rfl) ?_ ?_
    ·refine aK h4 (fun c6 H11 => ?_) (fun c7 H12 => ?_)
     ·refine aP H11 fun g0 H13 => ?_;refine aD H13 fun y3 h5 H14 => ?_;obtain rfl:=sI H14;exact pB 3 [.eqT 34 bT,.rg 13 [.v,.v,.e (.dptr (al (x1.getD y2.toNat ak))),.v,.v,.v,.v,.v,.e (.dptr (al (x1.getD y2.toNat ak))),.v,.v,.v,.hN (.rslice 0) [(0,.row 29 2 (y3.map ae))]] [.v,.v]] [.only [1,2,4,5,6,7] [2,4,47]] (kL x0 x1 ((((x1.getD y2.toNat ak).Row).Row),y3)) (aB c6 (a8 (Dc (f:=al) (l:=x1) (n:=y2) ak aQ (by decide) (by exact g0)) (a8 (Dc (f:=al) (l:=x1) (n:=y2) ak aQ (by decide) (by exact g0)) (aC Tryz.call55 (aC (pn _ _ h5) aN)))))
     ·obtain rfl:=sI H12;exact pB 3 [.eqT 34 bF] [.er 7 47 29 2,.only [1,2,4,5,6,7] [2,4,47]] (kL x0 x1 (x0.Row,[])) (aB c7 aN)
    ·refine pA 4 [.rg 0 [] [.v,.v,.e (.int .i64 ((x0.Dims.length:Nat):Int)),.v]] [.ren [(4,4),(47,68)],.only [1,4,5,6,7,49,50,51] [4,68]] 4 [] (mj x0 x1 v1 0 v1.2) (aT (aC (aG ae x0.Dims) aN)) ?_;refine aD H10 fun R0 h6 H15 => ?_;refine pJ 1 (o6 v1) R0 ?_ (fun u0 e0 => ?_)
     ·refine pC (mj x0 x1 v1) h6 (fun i0 s0 h7 e1 => ?_) (fun i0 s0 h8 q0 h9 h10 => ?_)
      ·have c8:=lF i0 x0.Dims.length (by omega);subst e1;exact pB 5 [r0 [.e bF]] [.only [4,5,6,7] [4,68]] (o6 v1 s0) (aB c8 aN)
      ·have c9:=lT i0 x0.Dims.length (by omega);refine aD h9 fun y4 h11 H16 => ?_;refine pD 14 [r0 [.e bT],r0 [.e (.dptr (ae (x0.Dims.getD i0 ax))),.v,.m,.m],r0 [.v,.v,.c true (.tup [.agg [iI y4.1.Const,dS ai y4.1.Terms],iI y4.2]),.v,.v,.v,.m,.m,.v],V2] [.only [1,4,5,6,7,11,12,49,50,51,62] [4,11,68]] 14 [true] (aB c9 (aI bA x0.Dims i0 ax (aC Tryz.call56 (aF (pW _ _ _ h11) aN)))) ?_;refine aK H16 (fun c10 H17 => ?_) (fun c11 H18 => ?_)
       ·refine aP H17 fun g1 H19 => ?_;refine bt 49 (ps:=[(x0.Dims.map ae).length≤9223372036854775807]) (by kernel_rfl) (fun l0 => ?_);have l1:x0.Dims.length≤9223372036854775807:=by simpa only [bI,Hp] using l0
        clear l0;obtain rfl:=sI H19;exact pB 5 [.eqT 62 bF,r0 [.v,.v,.b,.ap,.rwH 68 (.row 29 2 ((s0++[y4.1]).map ae)),.v],V2] [.only [1,4,5,6,7,49,50,51] [4,68]] (mj x0 x1 v1 (i0+1) (s0++[y4.1])) (aM c10 (a8 (qB (c:=ae) fF s0 [y4.1] 32 (by decide) (by first | (simp;done) | simpa using g1)) (aC (tI 29 2 ae s0 [y4.1]) (aH i0 aN))))
       ·obtain rfl:=sI H18;obtain rfl:=aR h10;obtain rfl:=sI (aA H15);exact pR 5 [.eqT 62 bT,r0 [.b,.v,.m,.v]] [.wkH 4 1 []] [] (aM c11 aN)
     ·subst e0;have H20:=bl H15;refine aD H20 fun y5 h12 H21 => ?_;obtain rfl:=sI H21;exact pR 3 [r0 [.v,.v,.fz 68,.c true (.tup [.agg [.str y5.1.Row,dS ae y5.1.Dims],iI y5.2]),.v,.v,.m,.v]] [] [] (aC Tryz.call57 (aF (x7 _ _ _ h12) aN))
  ·obtain rfl:=sI H5;exact pR 10 [r0 [.m,.m,.v],r0 [.v,.c true bT,.v,.v,.v,.c true (.bool y1),.v,.v],.eqT 20 bT,r0 [.b,.m,.v]] [.wkH 4 1 []] [] (aC Tryz.call53 (aC (aW.eq (bN _ _ h0) (cB c0)) (aT (aC Tryz.call33 (aF (cL _ _ h1) (aT (aM c3 aN)))))))
 ·obtain rfl:=sI H2;exact pR 9 [r0 [.m,.m,.v],r0 [.v,.c true bF,.v,.v,.s,.s,.s,.v],r0 [.b,.m,.v]] [.wkH 4 1 []] [] (aC Tryz.call53 (aC (aW.eq (bN _ _ h0) (cB c1)) (aT aN)))
def kr (x0:Bind) (x1:Int) (x2:aq):Option Bool :=
 bif (x0.Kind==x1) then (
  some (x0.Var==x2)
 ) else (
  some false
 )
theorem uY (x0:Bind) (x1:Int) (x2:aq) (r:Bool) (H:kr x0 x1 x2=some r):aW Tryz.prog 122 [.agg [iI x0.Kind,.str x0.Var,iI x0.Dim.Const,dS ai x0.Dim.Terms,.str x0.Row.Row,dS ae x0.Row.Dims,.str x0.Elem],.dptr [iI x1],.dptr [.str x2]] (.bool r):=by
 unfold kr at H;refine aX Tryz.func122 15 [.tmp 4] ?_;refine aK H (fun c0 H0 => ?_) (fun c1 H1 => ?_)
 ·obtain rfl:=sI H0;exact pR 5 [r0 [.m,.v],r0 [.v,.v,.v,.e bT,.v,.v,.v,.v,.v,.v,.v]] [] [] (aB c0 aN)
 ·obtain rfl:=sI H1;exact pR 5 [r0 [.m,.v],r0 [.v,.v,.v,.e bF,.v,.s,.s,.s,.s,.v,.v]] [] [] (aB c1 aN)
def b7 (x0:List Bind) (x1:Int) (x2:aq):Option Int :=
 (dF (σ:=Unit) (ε:=Unit) (ρ:=Int) (fun i0 s0 =>
  (kr (Bind.mk ((x0.getD i0 ak).Kind) ((x0.getD i0 ak).Var) (Linear.mk (((x0.getD i0 ak).Dim).Const) (((x0.getD i0 ak).Dim).Terms)) (Shape.mk (((x0.getD i0 ak).Row).Row) (((x0.getD i0 ak).Row).Dims)) ((x0.getD i0 ak).Elem)) x1 x2).bind fun y0 =>
  bif y0 then (
   some (.ret ((i0:Nat):Int))
  ) else (
   some (.go ())
  )
 ) (fun i0 s0=>()) (x0.length-0) 0 ()).bind <| aft fun u0 =>
 some (-1)
def cJ (x0:List Bind) (x1:Int) (x2:aq) (i0:Nat) (s0:Unit):AS:=⟨19,[(0,dS al x0),(1,.fn 122 [.hptr 1000 0,.hptr 1001 0]),(4,iI 0),(7,nI x0.length),(8,nI i0)],[(1000,.cells 3 [iI x1]),(1001,.cells 9 [.str x2])]⟩
def eH (x1:Int) (x2:aq) (u1:Unit):AS:=⟨19,[(4,iI 0)],[(1000,.cells 3 [iI x1]),(1001,.cells 9 [.str x2])]⟩
theorem jC (x0:List Bind) (x1:Int) (x2:aq) (r:Int) (H:b7 x0 x1 x2=some r):bn Tryz.prog 105 [dS al x0,.fn 122 [.hptr 1000 0,.hptr 1001 0]] [(1000,.cells 3 [iI x1]),(1001,.cells 9 [.str x2])] (fun r2 h0=>r2=(iI r)∧h0=[(1000,.cells 3 [iI x1]),(1001,.cells 9 [.str x2])]):=by
 unfold b7 at H;refine aX Tryz.func105 19 [.tmp 4] ?_;refine pA 6 [V1,r0 [.v,.e (nI x0.length),.v]] [.only [0,1,4,7,8] [1000,1001]] 6 [] (cJ x0 x1 x2 0 ()) (aT (aC (aG al x0) aN)) ?_;refine aD H fun R0 h1 H0 => ?_;refine pJ 1 (eH x1 x2) R0 ?_ (fun u0 e0 => ?_)
 ·refine pC (cJ x0 x1 x2) h1 (fun i0 s0 h2 e1 => ?_) (fun i0 s0 h3 q0 h4 h5 => ?_)
  ·have c0:=lF i0 x0.length (by omega);subst e1;exact pB 5 [r0 [.e bF]] [.only [4] [1000,1001]] (eH x1 x2 ()) (aB c0 aN)
  ·have c1:=lT i0 x0.length (by omega);refine aD h4 fun y0 h6 H1 => ?_;refine pD 11 [r0 [.e bT],V2,r0 [.v,.v,.v,.e (.dptr (al (x0.getD i0 ak))),.v,.c false (.bool y0)]] [.only [0,1,4,5,7,8,16] [1000,1001]] 11 [true] (aB c1 (aI aQ x0 i0 ak (aC Tryz.call122 (aF (uY _ _ _ _ h6) aN)))) ?_;refine aK H1 (fun c2 H2 => ?_) (fun c3 H3 => ?_)
   ·obtain rfl:=sI H2;obtain rfl:=aR h5;obtain rfl:=sI (aA H0);exact pR 5 [.eqT 16 bT,V2] [] [1000,1001] (aB c2 aN)
   ·refine bt 0 (ps:=[(x0.map al).length≤9223372036854775807]) (by kernel_rfl) (fun l0 => ?_);have l1:x0.length≤9223372036854775807:=by simpa only [bI,Hp] using l0
    clear l0;obtain rfl:=sI H3;exact pB 4 [.eqT 16 bF,V2] [.only [0,1,4,7,8] [1000,1001]] (cJ x0 x1 x2 (i0+1) ()) (aB c3 (aH i0 aN))
 ·subst e0;have H4:=bl H0;obtain rfl:=sI H4;exact pR 3 [V1] [] [1000,1001] aN
def lK (x0:List Bind) (x1:Int) (x2:aq):Option Int :=
 (b7 x0 x1 x2).bind fun y0 =>
 some y0
theorem yo (x0:List Bind) (x1:Int) (x2:aq) (r:Int) (H:lK x0 x1 x2=some r):aW Tryz.prog 63 [dS al x0,iI x1,.str x2] (iI r):=by unfold lK at H;refine aX Tryz.func63 10 [.tmp 6] ?_;refine aD H fun y0 h0 H0 => ?_;refine bc H0 fun e0 => ?_;subst e0;exact pR 5 [r0 [.m,.m,.v],r0 [.v,.v,.hR [(4,1000),(5,1001)] 9 (iI y0) [(1000,.cells 3 [iI x1]),(1001,.cells 9 [.str x2])],.v]] [] [] (aC Tryz.call105 (aC (jC _ _ _ _ h0) aN))
noncomputable def dN (x0:bQ) (x1:List Bind):Option (bQ×Int) :=
 (dK x0).bind fun y0 =>
 bif y0 then (
  (cH x1).bind fun y1 =>
  bif y1 then (
   (gW x0.Shape x1).bind fun y2 =>
   bif (y2.2==0) then (
    (lK x1 3 x0.Elem).bind fun y3 =>
    ((
     bif decide (y3≥0) then (
      cb (0≤y3∧y3<(x1.length:Int)) <|
      some ((x1.getD y3.toNat ak).Elem)
     ) else (
      some x0.Elem
     )
    ):Option aq).bind fun v0 =>
    some ((bQ.mk v0 y2.1),0)
   ) else (
    some ((bQ.mk [] (Shape.mk [] [])),y2.2)
   )
  ) else (
   some ((bQ.mk [] (Shape.mk [] [])),1)
  )
 ) else (
  some ((bQ.mk [] (Shape.mk [] [])),1)
 )
def ml (x0:bQ) (y2:Shape×Int) (v0:aq):AS:=⟨45,[(2,.hptr 2 0),(4,.hptr 4 0),(5,iI 0),(6,.hptr 6 0)],[(2,.cells 36 [.str v0,.str x0.Shape.Row,dS ae x0.Shape.Dims]),(4,.cells 36 [.str [],.str [],.eslice]),(6,.cells 34 [.str y2.1.Row,dS ae y2.1.Dims])]⟩
theorem gh (x0:bQ) (x1:List Bind) (r:bQ×Int) (H:dN x0 x1=some r):aW Tryz.prog 28 [.agg [.str x0.Elem,.str x0.Shape.Row,dS ae x0.Shape.Dims],dS al x1] (.tup [.agg [.str r.1.Elem,.str r.1.Shape.Row,dS ae r.1.Shape.Dims],iI r.2]):=by
 unfold dN at H;refine aX Tryz.func28 45 [.cell 4 36,.tmp 5] ?_;refine aD H fun y0 h0 H0 => ?_;refine aK H0 (fun c0 H1 => ?_) (fun c1 H2 => ?_)
 ·refine aD H1 fun y1 h1 H3 => ?_;refine aK H3 (fun c2 H4 => ?_) (fun c3 H5 => ?_)
  ·refine aD H4 fun y2 h2 H6 => ?_;refine pD 13 [r0 [.m,.m,.v],r0 [.v,.c true bT,.v,.v,.v,.c true (.bool y1),.v,.v],.eqT 16 bF,r0 [.v,.v,.v,.c true (.tup [.agg [.str y2.1.Row,dS ae y2.1.Dims],iI y2.2]),.v,.v,.v,.m,.m,.v],V2] [.only [1,2,4,5,6,7,26] [2,4,6]] 12 [false] (aC Tryz.call62 (aC (aW.eq (ea _ _ h0) (cB c0)) (aT (aC Tryz.call33 (aF (cL _ _ h1) (aT (aM c2 (aC Tryz.call25 (aF (qV _ _ _ h2) aN))))))))) ?_;refine aK H6 (fun c4 H7 => ?_) (fun c5 H8 => ?_)
   ·refine aD H7 fun y3 h3 H9 => ?_;refine pD 8 [.eqT 26 bF,r0 [.v,.v,.v,.c true (iI y3),.v],V2] [.only [1,2,4,5,6,8,34] [2,4,6]] 7 [false] (aM c4 (aC Tryz.call63 (aF (yo _ _ _ _ h3) aN))) ?_;refine aD H9 fun v0 h4 H10 => ?_;refine cS 0 (ml x0 y2 v0) (by kernel_rfl) ?_ ?_
    ·refine aK h4 (fun c6 H11 => ?_) (fun c7 H12 => ?_)
     ·refine aP H11 fun g0 H13 => ?_;obtain rfl:=sI H13;exact pB 3 [.eqT 34 bT,r0 [.v,.v,.e (.dptr (al (x1.getD y3.toNat ak))),.v,.v,.v,.m]] [.only [2,4,5,6] [2,4,6]] (ml x0 y2 ((x1.getD y3.toNat ak).Elem)) (aB c6 (a8 (Dc (f:=al) (l:=x1) (n:=y3) ak aQ (by decide) (by exact g0)) aN))
     ·obtain rfl:=sI H12;exact pB 3 [.eqT 34 bF] [.only [2,4,5,6] [2,4,6]] (ml x0 y2 x0.Elem) (aB c7 aN)
    ·obtain rfl:=sI H10;exact pR 3 [r0 [.v,.v,.v,.b,.m,.v]] [] [] aN
   ·obtain rfl:=sI H8;exact pR 5 [.eqT 26 bT,r0 [.b,.v,.m,.v]] [.wkH 4 2 []] [] (aM c5 aN)
  ·obtain rfl:=sI H5;exact pR 10 [r0 [.m,.m,.v],r0 [.v,.c true bT,.v,.v,.v,.c true (.bool y1),.v,.v],.eqT 16 bT,r0 [.b,.m,.v]] [.wkH 4 2 []] [] (aC Tryz.call62 (aC (aW.eq (ea _ _ h0) (cB c0)) (aT (aC Tryz.call33 (aF (cL _ _ h1) (aT (aM c3 aN)))))))
 ·obtain rfl:=sI H2;exact pR 9 [r0 [.m,.m,.v],r0 [.v,.c true bF,.v,.v,.s,.s,.s,.v],r0 [.b,.m,.v]] [.wkH 4 2 []] [] (aC Tryz.call62 (aC (aW.eq (ea _ _ h0) (cB c1)) (aT aN)))
noncomputable def mD (x0:List ah) (x1:Int):Option ((List Bind)×Int×Int) :=
 (py x0 x1).bind fun y0 =>
 bif y0 then (
  bif (mA x0).isSome then (
   (mA x0).bind fun y1 =>
   bif (y1.2.2.2==0) then (
    (dZ y1.2.2.1 y1.1 y1.2.1).bind fun y2 =>
    bif (y2.2==0) then (
     (j7 y2.1 x1).bind fun y3 =>
     bif (y3.2.2.2==9) then (
      none
     ) else (
      bif (y3.2.2.2==0) then (
       (fj y3.1).bind fun y4 =>
       (gQ y1.2.2.1 y1.1 y1.2.1).bind fun y5 =>
       (dF (σ:=((List Bind)×Int)) (ε:=((List Bind)×Int)) (ρ:=Empty) (fun i0 s0 =>
        bif (((y5.getD i0 ak).Kind)==2) then (
         (gW (Shape.mk (((y5.getD i0 ak).Row).Row) (((y5.getD i0 ak).Row).Dims)) y3.1).bind fun y6 =>
         bif (y6.2==0) then (
          cb ((s0.1.length+1)*112≤140737488355328) <|
          some (.go ((s0.1++[(Bind.mk ((y5.getD i0 ak).Kind) ((y5.getD i0 ak).Var) (Linear.mk (((y5.getD i0 ak).Dim).Const) (((y5.getD i0 ak).Dim).Terms)) y6.1 ((y5.getD i0 ak).Elem))]),y6.2))
         ) else (
          none
         )
        ) else (
         cb ((s0.1.length+1)*112≤140737488355328) <|
         some (.go ((s0.1++[(Bind.mk ((y5.getD i0 ak).Kind) ((y5.getD i0 ak).Var) (Linear.mk (((y5.getD i0 ak).Dim).Const) (((y5.getD i0 ak).Dim).Terms)) (Shape.mk (((y5.getD i0 ak).Row).Row) (((y5.getD i0 ak).Row).Dims)) ((y5.getD i0 ak).Elem))]),s0.2))
        )
       ) (fun i0 s0=>(s0.1,s0.2)) (y5.length-0) 0 (y4,y3.2.2.2)).bind <| dq fun u0 =>
       (og (fun x=>x.Kind) (fun x=>x.Var) u0.1).bind fun y7 =>
       (dF (σ:=(List Bind)) (ε:=(List Bind)) (ρ:=Empty) (fun i1 s1 =>
        (dN (bQ.mk (((x0.getD i1 aa).A).Elem) (Shape.mk ((((x0.getD i1 aa).A).Shape).Row) ((((x0.getD i1 aa).A).Shape).Dims))) s1).bind fun y8 =>
        (dN (bQ.mk (((x0.getD i1 aa).B).Elem) (Shape.mk ((((x0.getD i1 aa).B).Shape).Row) ((((x0.getD i1 aa).B).Shape).Dims))) s1).bind fun y9 =>
        bif (y8.2==0) then (
         bif (y9.2==0) then (
          some (.go s1)
         ) else (
          none
         )
        ) else (
         none
        )
       ) (fun i1 s1=>s1) (x0.length-0) 0 y7).bind <| dq fun u1 =>
       some (u1,y3.2.1,0)
      ) else (
       none
      )
     )
    ) else (
     none
    )
   ) else (
    none
   )
  ) else (
   (nv x0).bind fun y10 =>
   bif (y10==0) then (
    none
   ) else (
    some ([],0,y10)
   )
  )
 ) else (
  none
 )
def iE (x0:List ah) (y3:(List Bind)×Int×aV×Int) (y5:List Bind) (i0:Nat) (s0:(List Bind)×Int):AS:=⟨111,[(0,dS ag x0),(4,.rslice 78),(5,iI y3.2.1),(6,iI s0.2),(9,dS al y3.1),(55,dS al y5),(56,nI y5.length),(57,nI i0)],[(78,.row 62 7 (s0.1.map al))]⟩
def pU (x0:List ah) (y3:(List Bind)×Int×aV×Int) (u2:(List Bind)×Int):AS:=⟨111,[(0,dS ag x0),(4,.rslice 78),(5,iI y3.2.1),(6,iI u2.2)],[(78,.row 62 7 (u2.1.map al))]⟩
def kJ (x0:List ah) (y3:(List Bind)×Int×aV×Int) (u0:(List Bind)×Int) (i1:Nat) (s1:List Bind):AS:=⟨111,[(4,dS al s1),(5,iI y3.2.1),(6,iI u0.2),(82,dS ag x0),(83,nI x0.length),(84,nI i1)],[]⟩
def pQ (y3:(List Bind)×Int×aV×Int) (u0:(List Bind)×Int) (u3:List Bind):AS:=⟨111,[(4,dS al u3),(5,iI y3.2.1),(6,iI u0.2)],[]⟩
theorem qR (x0:List ah) (x1:Int) (r:(List Bind)×Int×Int) (H:mD x0 x1=some r):aW Tryz.prog 7 [dS ag x0,iI x1] (.tup [dS al r.1,iI r.2.1,iI r.2.2]):=by
 unfold mD at H;refine aX Tryz.func7 111 [.tmp 4,.tmp 5,.tmp 6] ?_;refine aD H fun y0 h0 H0 => ?_;refine aK H0 (fun c0 H1 => ?_) (fun c1 H2 => ?_)
 ·refine aK H1 (fun c2 H3 => ?_) (fun c3 H4 => ?_)
  ·refine aD H3 fun y1 h1 H5 => ?_;refine pD 13 [V3,r0 [.v,.v,.c true (.bool y0),.v],.eqT 22 bF,r0 [.v,.hM [] [(9,901),(12,900),(901,903),(902,902)] (.tup [.hptr 12 0,iI y1.2.2.2]) [(9,.smap 0 9 (y1.1.map (aJ aZ))),(12,.cells 95 [.amap 9,.amap 902,.rslice 901]),(901,.row 98 4 (y1.2.2.1.map az)),(902,.smap 0 34 (y1.2.1.map (aJ (iM aY))))],.v,.v,.v,.v,.v],V2] [.only [0,1,4,5,6,7,29] [900,901,902,903]] 12 [false] (aC Tryz.call19 (aF (qF _ _ _ h0) (aT (aM c0 (aC Tryz.call20 (aC (wF _ _ h1) aN)))))) ?_;refine aK H5 (fun c4 H6 => ?_) (fun c5 H7 => ?_)
   ·refine aD H6 fun y2 h2 H8 => ?_;refine pD 8 [.eqT 29 bF,r0 [.v,.fz 903,.hR [(900,1000),(901,1001),(902,1002)] 33 (.tup [dS ae y2.1,iI y2.2]) [(1000,.cells 95 [.amap 1001,.amap 1002,dS az y1.2.2.1]),(1001,.smap 0 9 (y1.1.map (aJ aZ))),(1002,.smap 0 34 (y1.2.1.map (aJ (iM aY))))],.v,.v,.v,.v,.v],V2] [.only [0,1,4,5,6,7,8,37] [900,901,902]] 7 [false] (aM c4 (aC Tryz.call21 (aC (mf _ _ _ _ h2) aN))) ?_;refine aK H8 (fun c6 H9 => ?_) (fun c7 H10 => ?_)
    ·refine aD H9 fun y3 h3 H11 => ?_;refine aK H11 (fun c8 H12 => ?_) (fun c9 H13 => ?_)
     ·cases H12
     ·refine pD 14 [.eqT 37 bF,.rg 0 [] [.v,.v,.c true (.tup [.dslice (y3.1.map al),.int .i64 y3.2.1,.agg [.dslice (y3.2.2.1.Mults.map au),.int .i64 y3.2.2.1.Mod],.int .i64 y3.2.2.2]),.v,.v,.v,.v,.v,.m,.v,.v,.m,.v],.rg 0 [] [.v,.v],.eqT 48 bF,.rg 0 [] [.v,.v]] [.only [0,4,5,6,7,9,50] [900,901,902]] 12 [false,false] (aM c6 (aC Tryz.call22 (aF (rY _ _ _ h3) (aB c9 aN)))) ?_;refine aK H13 (fun c10 H14 => ?_) (fun c11 H15 => ?_)
      ·refine aD H14 fun y4 h4 H16 => ?_;refine aD H16 fun y5 h5 H17 => ?_;refine pA 9 [.eqT 50 bF,r0 [.v,.hR [] 53 (.rslice 0) [(0,.row 62 7 (y4.map al))],.v],r0 [.v,.hR [(900,1000),(901,1001),(902,1002)] 55 (dS al y5) [],.e (nI y5.length),.v]] [.ren [(53,78)],.only [0,4,5,6,9,55,56,57] [78]] 8 [false] (iE x0 y3 y5 0 (y4,y3.2.2.2)) (aM c10 (aC Tryz.call23 (aC (nJ _ _ h4) (aC Tryz.call24 (aC (pF _ _ _ _ h5) (aT (aC (aG al y5) aN))))))) ?_;refine aD H17 fun R0 h6 H18 => ?_;refine pJ 1 (pU x0 y3) R0 ?_ (fun u0 e0 => ?_)
       ·refine pC (iE x0 y3 y5) h6 (fun i0 s0 h7 e1 => ?_) (fun i0 s0 h8 q0 h9 h10 => ?_)
        ·have c12:=lF i0 y5.length (by omega);subst e1;exact pB 5 [r0 [.e bF]] [.only [0,4,5,6] [78]] (pU x0 y3 (s0.1,s0.2)) (aB c12 aN)
        ·have c13:=lT i0 y5.length (by omega);refine pD 12 [r0 [.e bT],r0 [.e (.dptr (al (y5.getD i0 ak))),.v,.m,.m],V3] [.only [0,4,5,6,9,12,55,56,57,63] [12,78]] 12 [true] (aB c13 (aI aQ y5 i0 ak aN)) ?_;refine aK h9 (fun c14 H19 => ?_) (fun c15 H20 => ?_)
         ·refine aD H19 fun y6 h11 H21 => ?_;refine aK H21 (fun c16 H22 => ?_) (fun c17 H23 => ?_)
          ·refine aP H22 fun g0 H24 => ?_;refine bt 55 (ps:=[(y5.map al).length≤9223372036854775807]) (by kernel_rfl) (fun l0 => ?_);have l1:y5.length≤9223372036854775807:=by simpa only [bI,Hp] using l0
           clear l0;obtain rfl:=sI H24;exact pB 11 [.eqT 63 bT,r0 [.v,.v,.v,.c true (.tup [.agg [.str y6.1.Row,dS ae y6.1.Dims],iI y6.2]),.v,.v,.v,.v,.m,.v],V2,.eqT 73 bF,r0 [.v,.v,.b,.ap,.rwH 78 (.row 62 7 ((s0.1++[(Bind.mk ((y5.getD i0 ak).Kind) ((y5.getD i0 ak).Var) (Linear.mk (((y5.getD i0 ak).Dim).Const) (((y5.getD i0 ak).Dim).Terms)) y6.1 ((y5.getD i0 ak).Elem))]).map al)),.v],V2] [.only [0,4,5,6,9,55,56,57] [78]] (iE x0 y3 y5 (i0+1) ((s0.1++[(Bind.mk ((y5.getD i0 ak).Kind) ((y5.getD i0 ak).Var) (Linear.mk (((y5.getD i0 ak).Dim).Const) (((y5.getD i0 ak).Dim).Terms)) y6.1 ((y5.getD i0 ak).Elem))]),y6.2)) (aB c14 (aC Tryz.call25 (aF (qV _ _ _ h11) (aM c16 (a8 (qB (c:=al) gw s0.1 [(Bind.mk ((y5.getD i0 ak).Kind) ((y5.getD i0 ak).Var) (Linear.mk (((y5.getD i0 ak).Dim).Const) (((y5.getD i0 ak).Dim).Terms)) y6.1 ((y5.getD i0 ak).Elem))] 112 (by decide) (by first | (simp;done) | simpa using g0)) (aC (tI 62 7 al s0.1 [(Bind.mk ((y5.getD i0 ak).Kind) ((y5.getD i0 ak).Var) (Linear.mk (((y5.getD i0 ak).Dim).Const) (((y5.getD i0 ak).Dim).Terms)) y6.1 ((y5.getD i0 ak).Elem))]) (aH i0 aN)))))))
          ·cases H23
         ·refine aP H20 fun g1 H25 => ?_;refine bt 55 (ps:=[(y5.map al).length≤9223372036854775807]) (by kernel_rfl) (fun l2 => ?_);have l3:y5.length≤9223372036854775807:=by simpa only [bI,Hp] using l2
          clear l2;obtain rfl:=sI H25;exact pB 5 [.eqT 63 bF,r0 [.v,.v,.b,.ap,.rwH 78 (.row 62 7 ((s0.1++[(Bind.mk ((y5.getD i0 ak).Kind) ((y5.getD i0 ak).Var) (Linear.mk (((y5.getD i0 ak).Dim).Const) (((y5.getD i0 ak).Dim).Terms)) (Shape.mk (((y5.getD i0 ak).Row).Row) (((y5.getD i0 ak).Row).Dims)) ((y5.getD i0 ak).Elem))]).map al)),.v],V2] [.only [0,4,5,6,9,55,56,57] [78]] (iE x0 y3 y5 (i0+1) ((s0.1++[(Bind.mk ((y5.getD i0 ak).Kind) ((y5.getD i0 ak).Var) (Linear.mk (((y5.getD i0 ak).Dim).Const) (((y5.getD i0 ak).Dim).Terms)) (Shape.mk (((y5.getD i0 ak).Row).Row) (((y5.getD i0 ak).Row).Dims)) ((y5.getD i0 ak).Elem))]),s0.2)) (aB c15 (a8 (qB (c:=al) gw s0.1 [(Bind.mk ((y5.getD i0 ak).Kind) ((y5.getD i0 ak).Var) (Linear.mk (((y5.getD i0 ak).Dim).Const) (((y5.getD i0 ak).Dim).Terms)) (Shape.mk (((y5.getD i0 ak).Row).Row) (((y5.getD i0 ak).Row).Dims)) ((y5.getD i0 ak).Elem))] 112 (by decide) (by first | (simp;done) | simpa using g1)) (aC (tI 62 7 al s0.1 [(Bind.mk ((y5.getD i0 ak).Kind) ((y5.getD i0 ak).Var) (Linear.mk (((y5.getD i0 ak).Dim).Const) (((y5.getD i0 ak).Dim).Terms)) (Shape.mk (((y5.getD i0 ak).Row).Row) (((y5.getD i0 ak).Row).Dims)) ((y5.getD i0 ak).Elem))]) (aH i0 aN))))
       ·subst e0;have H26:=a7 H18;refine aD H26 fun y7 h12 H27 => ?_;refine pA 6 [r0 [.v,.hR [(78,1000)] 81 (.tup []) [(1000,.row 62 7 (y7.map al))]],r0 [.v,.e (nI x0.length),.v]] [.fz 78,.only [4,5,6,82,83,84] []] 6 [] (kJ x0 y3 u0 0 y7) (aC Tryz.call26 (aC (r5 al (fun x=>x.Kind) (fun x=>x.Var) _ _ _ _ _ (fun _=>rfl) (fun _=>rfl) u0.1 y7 h12) (aT (aC (aG ag x0) aN)))) ?_;refine aD H27 fun R1 h13 H28 => ?_;refine pJ 1 (pQ y3 u0) R1 ?_ (fun u1 e2 => ?_)
        ·refine pC (kJ x0 y3 u0) h13 (fun i1 s1 h14 e3 => ?_) (fun i1 s1 h15 q1 h16 h17 => ?_)
         ·have c18:=lF i1 x0.length (by omega);subst e3;exact pB 5 [r0 [.e bF]] [.only [4,5,6] []] (pQ y3 u0 s1) (aB c18 aN)
         ·have c19:=lT i1 x0.length (by omega);refine aD h16 fun y8 h18 H29 => ?_;refine aD H29 fun y9 h19 H30 => ?_;refine pD 14 [r0 [.e bT],r0 [.e (.dptr [.str (((x0.getD i1 aa).A).Elem),.str ((((x0.getD i1 aa).A).Shape).Row),.dslice (((((x0.getD i1 aa).A).Shape).Dims).map ae),.str (((x0.getD i1 aa).B).Elem),.str ((((x0.getD i1 aa).B).Shape).Row),.dslice (((((x0.getD i1 aa).B).Shape).Dims).map ae)]),.v,.m,.m],r0 [.v,.v,.v,.c true (.tup [.agg [.str y8.1.Elem,.str y8.1.Shape.Row,dS ae y8.1.Shape.Dims],iI y8.2]),.v,.v,.v,.m,.m,.v],r0 [.v,.v,.v,.c true (.tup [.agg [.str y9.1.Elem,.str y9.1.Shape.Row,dS ae y9.1.Shape.Dims],iI y9.2]),.v,.v,.v,.m,.m,.v]] [.only [4,5,6,16,18,82,83,84] []] 14 [true] (aB c19 (aI aS x0 i1 aa (aC Tryz.call28 (aF (gh _ _ _ h18) (aC Tryz.call28 (aF (gh _ _ _ h19) aN)))))) ?_;refine aK H30 (fun c20 H31 => ?_) (fun c21 H32 => ?_)
          ·refine aK H31 (fun c22 H33 => ?_) (fun c23 H34 => ?_)
           ·refine bt 82 (ps:=[(x0.map ag).length≤9223372036854775807]) (by kernel_rfl) (fun l4 => ?_);have l5:x0.length≤9223372036854775807:=by simpa only [bI,Hp] using l4
            clear l4;obtain rfl:=sI H33;exact pB 5 [r0 [.v,.e bF,.v,.v,.v,.v],.eqT 107 bF,V2] [.only [4,5,6,82,83,84] []] (kJ x0 y3 u0 (i1+1) s1) (aM c20 (aM c22 (aH i1 aN)))
           ·cases H34
          ·cases H32
        ·subst e2;have H35:=a7 H28;obtain rfl:=sI H35;exact pR 3 [V5] [] [] aN
      ·cases H15
    ·cases H10
   ·cases H7
  ·refine aD H4 fun y10 h20 H36 => ?_;refine pD 13 [V3,r0 [.v,.v,.c true (.bool y0),.v],.eqT 22 bF,r0 [.v,.c true (.tup [.lit (.pointer none),iI y10]),.v,.v,.v,.v,.v],V2] [.only [0,1,4,5,6,7,29] []] 12 [false] (aC Tryz.call19 (aF (qF _ _ _ h0) (aT (aM c0 (aC Tryz.call20 (aF (tY _ _ h20) aN)))))) ?_;refine aK H36 (fun c24 H37 => ?_) (fun c25 H38 => ?_)
   ·cases H37
   ·obtain rfl:=sI H38;exact pR 5 [.eqT 29 bT,V4] [.wk 4 []] [] (aM c25 aN)
 ·cases H2
noncomputable def eN   : Option Bool :=
 (gZ [91,114,46,46,44,32,110,93,65]).bind fun y0 =>
 (gZ [91,50,44,32,51,93,105,110,116]).bind fun y1 =>
 (mD [(ah.mk y0 y1)] 1).bind fun y2 =>
 (gZ [91,110,93,105,110,116]).bind fun y3 =>
 (gZ [105,110,116]).bind fun y4 =>
 (mD [(ah.mk y3 y4)] 1).bind fun y5 =>
 bif (y2.2.2==0) then (
  bif (y5.2.2==13) then (
   bif (((y2.1.length:Nat):Int)==3) then (
    cb (0<y2.1.length) <|
    bif (((y2.1.getD 0 ak).Var)==[110]) then (
     bif ((((y2.1.getD 0 ak).Dim).Const)==3) then (
      cb (1<y2.1.length) <|
      bif (((y2.1.getD 1 ak).Var)==[114]) then (
       bif ((((((y2.1.getD 1 ak).Row).Dims).length:Nat):Int)==1) then (
        cb (2<y2.1.length) <|
        some (((y2.1.getD 2 ak).Elem)==[105,110,116])
       ) else (
        none
       )
      ) else (
       none
      )
     ) else (
      none
     )
    ) else (
     none
    )
   ) else (
    none
   )
  ) else (
   none
  )
 ) else (
  none
 )
theorem dn   (r:Bool) (H:eN  = some r):aW Tryz.prog 5 [] (.bool r):=by
 unfold eN at H;refine aX Tryz.func5 74 [.tmp 0] ?_;refine aD H fun y0 h0 H0 => ?_;refine aD H0 fun y1 h1 H1 => ?_;refine aD H1 fun y2 h2 H2 => ?_;refine aD H2 fun y3 h3 H3 => ?_;refine aD H3 fun y4 h4 H4 => ?_;refine aD H4 fun y5 h5 H5 => ?_;refine pD 7 [V1,r0 [.c true (.agg [.str y0.Elem,.str y0.Shape.Row,dS ae y0.Shape.Dims]),.c true (.agg [.str y1.Elem,.str y1.Shape.Row,dS ae y1.Shape.Dims]),.b,.b,.c true (.tup [dS al y2.1,iI y2.2.1,iI y2.2.2]),.v,.v,.v,.v,.v,.v,.v],r0 [.c true (.agg [.str y3.Elem,.str y3.Shape.Row,dS ae y3.Shape.Dims]),.c true (.agg [.str y4.Elem,.str y4.Shape.Row,dS ae y4.Shape.Dims]),.b,.b,.c true (.tup [dS al y5.1,iI y5.2.1,iI y5.2.2]),.v,.v,.v,.v,.v,.v,.v]] [.only [0,1,3,6] []] 7 [] (aC Tryz.call17 (aF (jv _ _ h0) (aC Tryz.call17 (aF (jv _ _ h1) (aC Tryz.call7 (aF (qR _ _ _ h2) (aC Tryz.call17 (aF (jv _ _ h3) (aC Tryz.call17 (aF (jv _ _ h4) (aC Tryz.call7 (aF (qR _ _ _ h5) aN)))))))))))) ?_;refine aK H5 (fun c0 H6 => ?_) (fun c1 H7 => ?_)
 ·refine aK H6 (fun c2 H8 => ?_) (fun c3 H9 => ?_)
  ·refine aK H8 (fun c4 H10 => ?_) (fun c5 H11 => ?_)
   ·refine aP H10 fun g0 H12 => ?_;refine aK H12 (fun c6 H13 => ?_) (fun c7 H14 => ?_)
    ·refine aK H13 (fun c8 H15 => ?_) (fun c9 H16 => ?_)
     ·refine aP H15 fun g1 H17 => ?_;refine aK H17 (fun c10 H18 => ?_) (fun c11 H19 => ?_)
      ·refine aK H18 (fun c12 H20 => ?_) (fun c13 H21 => ?_)
       ·refine aP H20 fun g2 H22 => ?_;obtain rfl:=sI H22;exact pR 2 [r0 [.v,.e bT,.v,.v,.e bT,.v,.v,.v,.e (nI y2.1.length),.e bT,.v,.v,.v,.e (.dptr (al (y2.1.getD 0 ak))),.v,.v,.e bT,.v,.v,.v,.e (.dptr (al (y2.1.getD 0 ak))),.v,.v,.v,.e bT,.v,.v,.v,.e (.dptr (al (y2.1.getD 1 ak))),.v,.v,.e bT,.v,.v,.v,.e (.dptr (al (y2.1.getD 1 ak))),.v,.v,.v,.e (iI (((((y2.1.getD 1 ak).Row).Dims).length:Nat):Int)),.e bT,.v,.v,.v,.e (.dptr (al (y2.1.getD 2 ak))),.v,.v,.v,.v,.v]] [] [] (aB c0 (aB c2 (aT (aC (aG al y2.1) (aB c4 (aI aQ y2.1 0 ak (aB c6 (aI aQ y2.1 0 ak (aB c8 (aI aQ y2.1 1 ak (aB c10 (aI aQ y2.1 1 ak (aT (aC (aG ae (((y2.1.getD 1 ak).Row).Dims)) (aB c12 (aI aQ y2.1 2 ak aN))))))))))))))))
       ·cases H21
      ·cases H19
     ·cases H16
    ·cases H14
   ·cases H11
  ·cases H9
 ·cases H7
def dG (x0:Linear):Option Bool :=
 (dF (σ:=Unit) (ε:=Unit) (ρ:=Bool) (fun i0 s0 =>
  bif decide (((((x0.Terms.getD i0 aw).Var).length:Nat):Int)>35) then (
   some (.ret false)
  ) else (
   some (.go ())
  )
 ) (fun i0 s0=>()) (x0.Terms.length-0) 0 ()).bind <| aft fun u0 =>
 some (decide (((x0.Terms.length:Nat):Int)≤14))
def gD (x0:Linear) (i0:Nat) (s0:Unit):AS:=⟨23,[(1,.hptr 1 0),(2,.bool false),(3,nI i0)],[(1,.cells 29 [iI x0.Const,dS ai x0.Terms])]⟩
def mn (x0:Linear) (u1:Unit):AS:=⟨23,[(1,.hptr 1 0),(2,.bool false)],[(1,.cells 29 [iI x0.Const,dS ai x0.Terms])]⟩
theorem ig (x0:Linear) (r:Bool) (H:dG x0=some r):aW Tryz.prog 30 [.agg [iI x0.Const,dS ai x0.Terms]] (.bool r):=by
 unfold dG at H;refine aX Tryz.func30 23 [.tmp 2] ?_;refine pA 6 [r0 [.m,.v],V1] [.only [1,2,3] [1]] 6 [] (gD x0 0 ()) aN ?_;refine aD H fun R0 h0 H0 => ?_;refine pJ 1 (mn x0) R0 ?_ (fun u0 e0 => ?_)
 ·refine pC (gD x0) h0 (fun i0 s0 h1 e1 => ?_) (fun i0 s0 h2 q0 h3 h4 => ?_)
  ·have c0:=lF i0 x0.Terms.length (by omega);subst e1;exact pB 5 [r0 [.v,.v,.v,.e (nI x0.Terms.length),.e bF]] [.only [1,2] [1]] (mn x0 ()) (aT (aC (aG ai x0.Terms) (aB c0 aN)))
  ·have c1:=lT i0 x0.Terms.length (by omega);refine pD 9 [r0 [.v,.v,.v,.e (nI x0.Terms.length),.e bT],r0 [.v,.v,.v,.e (.dptr (ai (x0.Terms.getD i0 aw))),.v,.v,.v,.v]] [.only [1,2,3,18] [1]] 9 [true] (aT (aC (aG ai x0.Terms) (aB c1 (aI bE x0.Terms i0 aw (aT aN))))) ?_;refine aK h3 (fun c2 H1 => ?_) (fun c3 H2 => ?_)
   ·obtain rfl:=sI H1;obtain rfl:=aR h4;obtain rfl:=sI (aA H0);exact pR 5 [.eqT 18 bT,V1] [] [] (aB c2 aN)
   ·have c3p:=Hl c3;refine gB 1 1 (ps:=[(x0.Terms.map ai).length≤9223372036854775807]) (by kernel_rfl) (fun l0 => ?_);have l1:x0.Terms.length≤9223372036854775807:=by simpa only [bI,Hp] using l0
    clear l0;obtain rfl:=sI H2;exact pB 4 [.eqT 18 bF,V3] [.only [1,2,3] [1]] (gD x0 (i0+1) ()) (aB c3 (aH i0 aN))
 ·subst e0;have H3:=bl H0;obtain rfl:=sI H3;exact pR 3 [r0 [.v,.v,.e (nI x0.Terms.length),.v,.v]] [] [] (aT (aC (aG ai x0.Terms) aN))
def kF (x0:Shape):Option Bool :=
 (dF (σ:=Unit) (ε:=Unit) (ρ:=Bool) (fun i0 s0 =>
  (dG (Linear.mk ((x0.Dims.getD i0 ax).Const) ((x0.Dims.getD i0 ax).Terms))).bind fun y0 =>
  bif y0 then (
   some (.go ())
  ) else (
   some (.ret false)
  )
 ) (fun i0 s0=>()) (x0.Dims.length-0) 0 ()).bind <| aft fun u0 =>
 bif decide (((x0.Dims.length:Nat):Int)≤8) then (
  some (decide (((x0.Row.length:Nat):Int)≤35))
 ) else (
  some false
 )
def oG (x0:Shape) (i0:Nat) (s0:Unit):AS:=⟨28,[(1,.hptr 1 0),(2,.bool false),(3,nI i0)],[(1,.cells 34 [.str x0.Row,dS ae x0.Dims])]⟩
def rV (x0:Shape) (u1:Unit):AS:=⟨28,[(1,.hptr 1 0),(2,.bool false)],[(1,.cells 34 [.str x0.Row,dS ae x0.Dims])]⟩
theorem tw (x0:Shape) (r:Bool) (H:kF x0=some r):aW Tryz.prog 29 [.agg [.str x0.Row,dS ae x0.Dims]] (.bool r):=by
 unfold kF at H;refine aX Tryz.func29 28 [.tmp 2] ?_;refine pA 6 [r0 [.m,.v],V1] [.only [1,2,3] [1]] 6 [] (oG x0 0 ()) aN ?_;refine aD H fun R0 h0 H0 => ?_;refine pJ 1 (rV x0) R0 ?_ (fun u0 e0 => ?_)
 ·refine pC (oG x0) h0 (fun i0 s0 h1 e1 => ?_) (fun i0 s0 h2 q0 h3 h4 => ?_)
  ·have c0:=lF i0 x0.Dims.length (by omega);subst e1;exact pB 5 [r0 [.v,.v,.v,.e (nI x0.Dims.length),.e bF]] [.only [1,2] [1]] (rV x0 ()) (aT (aC (aG ae x0.Dims) (aB c0 aN)))
  ·have c1:=lT i0 x0.Dims.length (by omega);refine aD h3 fun y0 h5 H1 => ?_;refine pD 9 [r0 [.v,.v,.v,.e (nI x0.Dims.length),.e bT],r0 [.v,.v,.v,.e (.dptr (ae (x0.Dims.getD i0 ax))),.v,.c true (.bool y0),.v]] [.only [1,2,3,17] [1]] 9 [true] (aT (aC (aG ae x0.Dims) (aB c1 (aI bA x0.Dims i0 ax (aC Tryz.call30 (aF (ig _ _ h5) (aT aN))))))) ?_;refine aK H1 (fun c2 H2 => ?_) (fun c3 H3 => ?_)
   ·refine gB 1 1 (ps:=[(x0.Dims.map ae).length≤9223372036854775807]) (by kernel_rfl) (fun l0 => ?_);have l1:x0.Dims.length≤9223372036854775807:=by simpa only [bI,Hp] using l0
    clear l0;obtain rfl:=sI H2;exact pB 4 [.eqT 17 bF,V3] [.only [1,2,3] [1]] (oG x0 (i0+1) ()) (aM c2 (aH i0 aN))
   ·obtain rfl:=sI H3;obtain rfl:=aR h4;obtain rfl:=sI (aA H0);exact pR 5 [.eqT 17 bT,V1] [] [] (aM c3 aN)
 ·subst e0;have H4:=bl H0;refine aK H4 (fun c4 H5 => ?_) (fun c5 H6 => ?_)
  ·obtain rfl:=sI H5;exact pR 3 [r0 [.v,.v,.e (nI x0.Dims.length),.e bT,.v,.v,.v,.v,.v,.v,.v]] [] [] (aT (aC (aG ae x0.Dims) (aB c4 (aT aN))))
  ·obtain rfl:=sI H6;exact pR 3 [r0 [.v,.v,.e (nI x0.Dims.length),.e bF,.v,.s,.s,.s,.s,.v,.v]] [] [] (aT (aC (aG ae x0.Dims) (aB c5 aN)))
def dX (x0:bQ):Option Bool :=
 bif decide (((x0.Elem.length:Nat):Int)≤35) then (
  (kF x0.Shape).bind fun y0 =>
  some y0
 ) else (
  some false
 )
theorem dH (x0:bQ) (r:Bool) (H:dX x0=some r):aW Tryz.prog 8 [.agg [.str x0.Elem,.str x0.Shape.Row,dS ae x0.Shape.Dims]] (.bool r):=by
 unfold dX at H;refine aX Tryz.func8 12 [.tmp 2] ?_;refine aK H (fun c0 H0 => ?_) (fun c1 H1 => ?_)
 ·refine aD H0 fun y0 h0 H2 => ?_;refine bc H2 fun e0 => ?_;subst e0;exact pR 5 [r0 [.m,.v],r0 [.v,.v,.v,.e bT,.v,.v,.v,.c true (.bool y0),.v,.v]] [] [] (aT (aB c0 (aC Tryz.call29 (aF (tw _ _ h0) aN))))
 ·obtain rfl:=sI H1;exact pR 5 [r0 [.m,.v],r0 [.v,.v,.v,.e bF,.v,.s,.s,.s,.v,.v]] [] [] (aT (aB c1 aN))
def nV (x0:List ah):Option Bool :=
 (dF (σ:=Unit) (ε:=Unit) (ρ:=Bool) (fun i0 s0 =>
  (dX (bQ.mk (((x0.getD i0 aa).A).Elem) (Shape.mk ((((x0.getD i0 aa).A).Shape).Row) ((((x0.getD i0 aa).A).Shape).Dims)))).bind fun y0 =>
  bif y0 then (
   (dX (bQ.mk (((x0.getD i0 aa).B).Elem) (Shape.mk ((((x0.getD i0 aa).B).Shape).Row) ((((x0.getD i0 aa).B).Shape).Dims)))).bind fun y1 =>
   bif y1 then (
    some (.go ())
   ) else (
    some (.ret false)
   )
  ) else (
   some (.ret false)
  )
 ) (fun i0 s0=>()) (x0.length-0) 0 ()).bind <| aft fun u0 =>
 bif decide (((x0.length:Nat):Int)≤8) then (
  some true
 ) else (
  some (((x0.length:Nat):Int)==6001)
 )
def oD (x0:List ah) (i0:Nat) (s0:Unit):AS:=⟨34,[(0,dS ag x0),(2,.bool false),(3,nI i0)],[]⟩
def sf (x0:List ah) (u1:Unit):AS:=⟨34,[(0,dS ag x0),(2,.bool false)],[]⟩
theorem tK (x0:List ah) (r:Bool) (H:nV x0=some r):aW Tryz.prog 9 [dS ag x0] (.bool r):=by
 unfold nV at H;refine aX Tryz.func9 34 [.tmp 2] ?_;refine pA 6 [V1,V1] [.only [0,2,3] []] 6 [] (oD x0 0 ()) aN ?_;refine aD H fun R0 h0 H0 => ?_;refine pJ 1 (sf x0) R0 ?_ (fun u0 e0 => ?_)
 ·refine pC (oD x0) h0 (fun i0 s0 h1 e1 => ?_) (fun i0 s0 h2 q0 h3 h4 => ?_)
  ·have c0:=lF i0 x0.length (by omega);subst e1;exact pB 5 [r0 [.v,.v,.e (nI x0.length),.e bF]] [.only [0,2] []] (sf x0 ()) (aT (aC (aG ag x0) (aB c0 aN)))
  ·have c1:=lT i0 x0.length (by omega);refine aD h3 fun y0 h5 H1 => ?_;refine aK H1 (fun c2 H2 => ?_) (fun c3 H3 => ?_)
   ·refine aD H2 fun y1 h6 H4 => ?_;refine pD 9 [r0 [.v,.v,.e (nI x0.length),.e bT],r0 [.v,.v,.e (.dptr [.str (((x0.getD i0 aa).A).Elem),.str ((((x0.getD i0 aa).A).Shape).Row),.dslice (((((x0.getD i0 aa).A).Shape).Dims).map ae),.str (((x0.getD i0 aa).B).Elem),.str ((((x0.getD i0 aa).B).Shape).Row),.dslice (((((x0.getD i0 aa).B).Shape).Dims).map ae)]),.v,.v,.c true bT,.v,.v,.v,.v,.e (.dptr [.str (((x0.getD i0 aa).A).Elem),.str ((((x0.getD i0 aa).A).Shape).Row),.dslice (((((x0.getD i0 aa).A).Shape).Dims).map ae),.str (((x0.getD i0 aa).B).Elem),.str ((((x0.getD i0 aa).B).Shape).Row),.dslice (((((x0.getD i0 aa).B).Shape).Dims).map ae)]),.v,.v,.c true (.bool y1),.v,.v]] [.only [0,2,3,25] []] 9 [true] (aT (aC (aG ag x0) (aB c1 (aI aS x0 i0 aa (aC Tryz.call8 (aC (aW.eq (dH _ _ h5) (cB c2)) (aT (aI aS x0 i0 aa (aC Tryz.call8 (aF (dH _ _ h6) (aT aN))))))))))) ?_;refine aK H4 (fun c4 H5 => ?_) (fun c5 H6 => ?_)
    ·refine bt 0 (ps:=[(x0.map ag).length≤9223372036854775807]) (by kernel_rfl) (fun l0 => ?_);have l1:x0.length≤9223372036854775807:=by simpa only [bI,Hp] using l0
     clear l0;obtain rfl:=sI H5;exact pB 4 [.eqT 25 bF,V3] [.only [0,2,3] []] (oD x0 (i0+1) ()) (aM c4 (aH i0 aN))
    ·obtain rfl:=sI H6;obtain rfl:=aR h4;obtain rfl:=sI (aA H0);exact pR 5 [.eqT 25 bT,V1] [] [] (aM c5 aN)
   ·obtain rfl:=sI H3;obtain rfl:=aR h4;obtain rfl:=sI (aA H0);exact pR 13 [r0 [.v,.v,.e (nI x0.length),.e bT],r0 [.v,.v,.e (.dptr [.str (((x0.getD i0 aa).A).Elem),.str ((((x0.getD i0 aa).A).Shape).Row),.dslice (((((x0.getD i0 aa).A).Shape).Dims).map ae),.str (((x0.getD i0 aa).B).Elem),.str ((((x0.getD i0 aa).B).Shape).Row),.dslice (((((x0.getD i0 aa).B).Shape).Dims).map ae)]),.v,.v,.c true bF,.v,.v,.s,.s,.s,.s,.s,.s,.s,.v],V1] [] [] (aT (aC (aG ag x0) (aB c1 (aI aS x0 i0 aa (aC Tryz.call8 (aC (aW.eq (dH _ _ h5) (cB c3)) (aT aN)))))))
 ·subst e0;have H7:=bl H0;refine aK H7 (fun c6 H8 => ?_) (fun c7 H9 => ?_)
  ·obtain rfl:=sI H8;exact pR 3 [r0 [.v,.e (nI x0.length),.e bT,.v,.s,.s,.s,.v,.v]] [] [] (aT (aC (aG ag x0) (aB c6 aN)))
  ·obtain rfl:=sI H9;exact pR 3 [r0 [.v,.e (nI x0.length),.e bF,.v,.v,.e (nI x0.length),.v,.v,.v]] [] [] (aT (aC (aG ag x0) (aB c7 (aT (aC (aG ag x0) aN)))))
def fL (x0:List Bind):Option Bool :=
 (dF (σ:=Unit) (ε:=Unit) (ρ:=Bool) (fun i0 s0 =>
  bif decide (((((x0.getD i0 ak).Var).length:Nat):Int)>35) then (
   some (.ret false)
  ) else (
   bif decide (((((x0.getD i0 ak).Elem).length:Nat):Int)>35) then (
    some (.ret false)
   ) else (
    (dG (Linear.mk (((x0.getD i0 ak).Dim).Const) (((x0.getD i0 ak).Dim).Terms))).bind fun y0 =>
    bif y0 then (
     (kF (Shape.mk (((x0.getD i0 ak).Row).Row) (((x0.getD i0 ak).Row).Dims))).bind fun y1 =>
     bif y1 then (
      some (.go ())
     ) else (
      some (.ret false)
     )
    ) else (
     some (.ret false)
    )
   )
  )
 ) (fun i0 s0=>()) (x0.length-0) 0 ()).bind <| aft fun u0 =>
 some (decide (((x0.length:Nat):Int)≤10))
def ik (x0:List Bind) (i0:Nat) (s0:Unit):AS:=⟨47,[(0,dS al x0),(2,.bool false),(3,nI i0)],[]⟩
def mx (x0:List Bind) (u1:Unit):AS:=⟨47,[(0,dS al x0),(2,.bool false)],[]⟩
theorem sJ (x0:List Bind) (r:Bool) (H:fL x0=some r):aW Tryz.prog 10 [dS al x0] (.bool r):=by
 unfold fL at H;refine aX Tryz.func10 47 [.tmp 2] ?_;refine pA 6 [V1,V1] [.only [0,2,3] []] 6 [] (ik x0 0 ()) aN ?_;refine aD H fun R0 h0 H0 => ?_;refine pJ 1 (mx x0) R0 ?_ (fun u0 e0 => ?_)
 ·refine pC (ik x0) h0 (fun i0 s0 h1 e1 => ?_) (fun i0 s0 h2 q0 h3 h4 => ?_)
  ·have c0:=lF i0 x0.length (by omega);subst e1;exact pB 5 [r0 [.v,.v,.e (nI x0.length),.e bF]] [.only [0,2] []] (mx x0 ()) (aT (aC (aG al x0) (aB c0 aN)))
  ·have c1:=lT i0 x0.length (by omega);refine aK h3 (fun c2 H1 => ?_) (fun c3 H2 => ?_)
   ·have c2p:=Hm c2;obtain rfl:=sI H1;obtain rfl:=aR h4;obtain rfl:=sI (aA H0);exact pR 13 [r0 [.v,.v,.e (nI x0.length),.e bT],r0 [.v,.v,.e (.dptr (al (x0.getD i0 ak))),.v,.v,.v,.e bT,.v,.s,.s,.s,.s,.s,.s,.s,.v,.v,.s,.s,.s,.s,.s,.s,.s,.v,.v,.s,.s,.s,.s,.s,.s,.s,.v],V1] [] [] (aT (aC (aG al x0) (aB c1 (aI aQ x0 i0 ak (aT (aB c2 aN))))))
   ·have c3p:=Hl c3;refine aK H2 (fun c4 H3 => ?_) (fun c5 H4 => ?_)
    ·have c4p:=Hm c4;obtain rfl:=sI H3;obtain rfl:=aR h4;obtain rfl:=sI (aA H0);exact pR 13 [r0 [.v,.v,.e (nI x0.length),.e bT],r0 [.v,.v,.e (.dptr (al (x0.getD i0 ak))),.v,.v,.v,.e bF,.v,.v,.v,.e (.dptr (al (x0.getD i0 ak))),.v,.v,.v,.e bT,.v,.v,.s,.s,.s,.s,.s,.s,.s,.v,.v,.s,.s,.s,.s,.s,.s,.s,.v],V1] [] [] (aT (aC (aG al x0) (aB c1 (aI aQ x0 i0 ak (aT (aB c3 (aI aQ x0 i0 ak (aT (aB c4 aN)))))))))
    ·have c5p:=Hl c5;refine aD H4 fun y0 h5 H5 => ?_;refine aK H5 (fun c6 H6 => ?_) (fun c7 H7 => ?_)
     ·refine aD H6 fun y1 h6 H8 => ?_;refine pD 9 [r0 [.v,.v,.e (nI x0.length),.e bT],r0 [.v,.v,.e (.dptr (al (x0.getD i0 ak))),.v,.v,.v,.e bF,.v,.v,.v,.e (.dptr (al (x0.getD i0 ak))),.v,.v,.v,.e bF,.v,.v,.v,.v,.e (.dptr (al (x0.getD i0 ak))),.v,.v,.c true bT,.v,.v,.v,.v,.v,.e (.dptr (al (x0.getD i0 ak))),.v,.v,.c true (.bool y1),.v,.v]] [.only [0,2,3,43] []] 9 [true] (aT (aC (aG al x0) (aB c1 (aI aQ x0 i0 ak (aT (aB c3 (aI aQ x0 i0 ak (aT (aB c5 (aI aQ x0 i0 ak (aC Tryz.call30 (aC (aW.eq (ig _ _ h5) (cB c6)) (aT (aI aQ x0 i0 ak (aC Tryz.call29 (aF (tw _ _ h6) (aT aN))))))))))))))))) ?_;refine aK H8 (fun c8 H9 => ?_) (fun c9 H10 => ?_)
      ·refine bt 0 (ps:=[(x0.map al).length≤9223372036854775807]) (by kernel_rfl) (fun l0 => ?_);have l1:x0.length≤9223372036854775807:=by simpa only [bI,Hp] using l0
       clear l0;obtain rfl:=sI H9;exact pB 4 [.eqT 43 bF,V3] [.only [0,2,3] []] (ik x0 (i0+1) ()) (aM c8 (aH i0 aN))
      ·obtain rfl:=sI H10;obtain rfl:=aR h4;obtain rfl:=sI (aA H0);exact pR 5 [.eqT 43 bT,V1] [] [] (aM c9 aN)
     ·obtain rfl:=sI H7;obtain rfl:=aR h4;obtain rfl:=sI (aA H0);exact pR 13 [r0 [.v,.v,.e (nI x0.length),.e bT],r0 [.v,.v,.e (.dptr (al (x0.getD i0 ak))),.v,.v,.v,.e bF,.v,.v,.v,.e (.dptr (al (x0.getD i0 ak))),.v,.v,.v,.e bF,.v,.v,.v,.v,.e (.dptr (al (x0.getD i0 ak))),.v,.v,.c true bF,.v,.v,.v,.s,.s,.s,.s,.s,.s,.s,.v],V1] [] [] (aT (aC (aG al x0) (aB c1 (aI aQ x0 i0 ak (aT (aB c3 (aI aQ x0 i0 ak (aT (aB c5 (aI aQ x0 i0 ak (aC Tryz.call30 (aC (aW.eq (ig _ _ h5) (cB c7)) (aT aN)))))))))))))
 ·subst e0;have H11:=bl H0;obtain rfl:=sI H11;exact pR 3 [r0 [.v,.e (nI x0.length),.v,.v]] [] [] (aT (aC (aG al x0) aN))
noncomputable def mB (x0:bQ) (x1:List Bind):Option (bQ×Int) :=
 (dN x0 x1).bind fun y0 =>
 some (y0.1,y0.2)
theorem wS (x0:bQ) (x1:List Bind) (r:bQ×Int) (H:mB x0 x1=some r):aW Tryz.prog 11 [.agg [.str x0.Elem,.str x0.Shape.Row,dS ae x0.Shape.Dims],dS al x1] (.tup [.agg [.str r.1.Elem,.str r.1.Shape.Row,dS ae r.1.Shape.Dims],iI r.2]):=by unfold mB at H;refine aX Tryz.func11 11 [.cell 4 36,.tmp 5] ?_;refine aD H fun y0 h0 H0 => ?_;obtain rfl:=sI H0;exact pR 5 [r0 [.m,.m,.v],r0 [.v,.v,.c true (.tup [.agg [.str y0.1.Elem,.str y0.1.Shape.Row,dS ae y0.1.Shape.Dims],iI y0.2]),.v,.v,.m,.v]] [] [] (aC Tryz.call28 (aF (gh _ _ _ h0) aN))
def fb (x0:aq):Option Bool :=
 (dF (σ:=Unit) (ε:=Unit) (ρ:=Bool) (fun i0 s0 =>
  bif decide (((x0.getD i0 0).toNat:Int)<48) then (
   some (.ret false)
  ) else (
   bif decide (((x0.getD i0 0).toNat:Int)>57) then (
    some (.ret false)
   ) else (
    some (.go ())
   )
  )
 ) (fun i0 s0=>()) (x0.length-1) 1 ()).bind <| aft fun u0 =>
 bif decide (((x0.length:Nat):Int)≥1) then (
  bif decide (((x0.length:Nat):Int)≤30) then (
   cb (0<x0.length) <|
   bif decide (((x0.getD 0 0).toNat:Int)≥65) then (
    some (decide (((x0.getD 0 0).toNat:Int)≤90))
   ) else (
    some false
   )
  ) else (
   some false
  )
 ) else (
  some false
 )
def iU (x0:aq) (i0:Nat) (s0:Unit):AS:=⟨38,[(0,.str x0),(2,.bool false),(3,nI i0)],[]⟩
def nU (x0:aq) (u1:Unit):AS:=⟨38,[(0,.str x0),(2,.bool false)],[]⟩
theorem e8 (x0:aq) (r:Bool) (H:fb x0=some r):aW Tryz.prog 131 [.str x0] (.bool r):=by
 unfold fb at H;refine aX Tryz.func131 38 [.tmp 2] ?_;refine pA 6 [V1,V1] [.only [0,2,3] []] 6 [] (iU x0 1 ()) aN ?_;refine aD H fun R0 h0 H0 => ?_;refine pJ 1 (nU x0) R0 ?_ (fun u0 e0 => ?_)
 ·refine pC (iU x0) h0 (fun i0 s0 h1 e1 => ?_) (fun i0 s0 h2 q0 h3 h4 => ?_)
  ·have c0:=lF i0 x0.length (by omega);subst e1;exact pB 5 [r0 [.v,.v,.v,.e bF]] [.only [0,2] []] (nU x0 ()) (aT (aB c0 aN))
  ·have c1:=lT i0 x0.length (by omega);refine aK h3 (fun c2 H1 => ?_) (fun c3 H2 => ?_)
   ·have c2p:=Hm c2;obtain rfl:=sI H1;obtain rfl:=aR h4;obtain rfl:=sI (aA H0);exact pR 13 [r0 [.v,.v,.v,.e bT],r0 [.v,.v,.v,.e bT,.v,.s,.s,.s,.s,.v],V1] [] [] (aT (aB c1 (aC (show (0:Int)≤((i0:Nat):Int)∧((i0:Nat):Int)<(x0.length:Int) from by omega) (aB c2 aN))))
   ·have c3p:=Hl c3;refine pD 9 [r0 [.v,.v,.v,.e bT],r0 [.v,.v,.v,.e bF,.v,.v,.v,.v,.v,.v]] [.only [0,2,3,19] []] 9 [true] (aT (aB c1 (aC (show (0:Int)≤((i0:Nat):Int)∧((i0:Nat):Int)<(x0.length:Int) from by omega) (aB c3 (aC (show (0:Int)≤((i0:Nat):Int)∧((i0:Nat):Int)<(x0.length:Int) from by omega) aN))))) ?_;refine aK H2 (fun c4 H3 => ?_) (fun c5 H4 => ?_)
    ·obtain rfl:=sI H3;obtain rfl:=aR h4;obtain rfl:=sI (aA H0);exact pR 5 [.eqT 19 bT,V1] [] [] (aB c4 aN)
    ·have c5p:=Hl c5;refine bt 0 (ps:=[x0.length≤9223372036854775807]) (by kernel_rfl) (fun l0 => ?_);have l1:x0.length≤9223372036854775807:=by simpa only [bI,Hp] using l0
     clear l0;obtain rfl:=sI H4;exact pB 4 [.eqT 19 bF,V3] [.only [0,2,3] []] (iU x0 (i0+1) ()) (aB c5 (aH i0 aN))
 ·subst e0;have H5:=bl H0;refine aK H5 (fun c6 H6 => ?_) (fun c7 H7 => ?_)
  ·have c6p:=Hm c6;refine aK H6 (fun c8 H8 => ?_) (fun c9 H9 => ?_)
   ·have c8p:=Hm c8;refine aP H8 fun g0 H10 => ?_;refine aK H10 (fun c10 H11 => ?_) (fun c11 H12 => ?_)
    ·have c10p:=Hm c10;obtain rfl:=sI H11;exact pR 3 [r0 [.v,.v,.e bT,.v,.v,.v,.e bT,.v,.v,.v,.v,.e bT,.v,.v,.v,.v,.v,.v,.v]] [] [] (aT (aB c6 (aT (aB c8 (aC (show (0:Int)≤0∧0<(x0.length:Int) from by omega) (aB c10 (aC (show (0:Int)≤0∧0<(x0.length:Int) from by omega) aN)))))))
    ·have c11p:=Hl c11;obtain rfl:=sI H12;exact pR 3 [r0 [.v,.v,.e bT,.v,.v,.v,.e bT,.v,.v,.v,.v,.e bF,.v,.v,.s,.s,.s,.v,.v]] [] [] (aT (aB c6 (aT (aB c8 (aC (show (0:Int)≤0∧0<(x0.length:Int) from by omega) (aB c11 aN))))))
   ·obtain rfl:=sI H9;exact pR 3 [r0 [.v,.v,.e bT,.v,.v,.v,.e bF,.v,.v,.s,.s,.s,.v,.v,.s,.s,.s,.v,.v]] [] [] (aT (aB c6 (aT (aB c9 aN))))
  ·obtain rfl:=sI H7;exact pR 3 [r0 [.v,.v,.e bF,.v,.s,.s,.s,.v,.v,.s,.s,.s,.v,.v,.s,.s,.s,.v,.v]] [] [] (aT (aB c7 aN))
def ju (x0:aq):Option Bool :=
 bif (x0==[105,110,116]) then (
  some true
 ) else (
  bif (x0==[98,111,111,108]) then (
   some true
  ) else (
   (fb x0).bind fun y0 =>
   some y0
  )
 )
theorem iF (x0:aq) (r:Bool) (H:ju x0=some r):aW Tryz.prog 123 [.str x0] (.bool r):=by
 unfold ju at H;refine aX Tryz.func123 13 [.tmp 2] ?_;refine aK H (fun c0 H0 => ?_) (fun c1 H1 => ?_)
 ·obtain rfl:=sI H0;exact pR 5 [V1,r0 [.v,.e bT,.v,.s,.s,.v,.v,.s,.s,.v,.v]] [] [] (aB c0 aN)
 ·refine aK H1 (fun c2 H2 => ?_) (fun c3 H3 => ?_)
  ·obtain rfl:=sI H2;exact pR 5 [V1,r0 [.v,.e bF,.v,.v,.e bT,.v,.v,.s,.s,.v,.v]] [] [] (aB c1 (aB c2 aN))
  ·refine aD H3 fun y0 h0 H4 => ?_;refine bc H4 fun e0 => ?_;subst e0;exact pR 5 [V1,r0 [.v,.e bF,.v,.v,.e bF,.v,.v,.v,.c true (.bool y0),.v,.v]] [] [] (aB c1 (aB c3 (aC Tryz.call131 (aF (e8 _ _ h0) aN))))
def hJ (x0:Int):Option Bool :=
 bif decide (x0≥(-1000000)) then (
  some (decide (x0≤1000000))
 ) else (
  some false
 )
theorem fa (x0:Int) (r:Bool) (H:hJ x0=some r):aW Tryz.prog 37 [iI x0] (.bool r):=by
 unfold hJ at H;refine aX Tryz.func37 9 [.tmp 2] ?_;refine aK H (fun c0 H0 => ?_) (fun c1 H1 => ?_)
 ·obtain rfl:=sI H0;exact pR 5 [V1,r0 [.v,.e bT,.v,.v,.v,.v,.v]] [] [] (aB c0 aN)
 ·obtain rfl:=sI H1;exact pR 5 [V1,r0 [.v,.e bF,.v,.s,.s,.v,.v]] [] [] (aB c1 aN)
def gX (x0:UInt8):Option Bool :=
 bif decide (((x0).toNat:Int)≥48) then (
  some (decide (((x0).toNat:Int)≤57))
 ) else (
  some false
 )
theorem mW (x0:UInt8) (r:Bool) (H:gX x0=some r):aW Tryz.prog 74 [.int .u8 ((x0).toNat:Int)] (.bool r):=by
 unfold gX at H;refine aX Tryz.func74 9 [.tmp 2] ?_;refine aK H (fun c0 H0 => ?_) (fun c1 H1 => ?_)
 ·obtain rfl:=sI H0;exact pR 5 [V1,r0 [.v,.e bT,.v,.v,.v,.v,.v]] [] [] (aB c0 aN)
 ·obtain rfl:=sI H1;exact pR 5 [V1,r0 [.v,.e bF,.v,.s,.s,.v,.v]] [] [] (aB c1 aN)
def ij (x0:UInt8):Option Bool :=
 bif decide (((x0).toNat:Int)≥97) then (
  some (decide (((x0).toNat:Int)≤122))
 ) else (
  some false
 )
theorem lz (x0:UInt8) (r:Bool) (H:ij x0=some r):aW Tryz.prog 75 [.int .u8 ((x0).toNat:Int)] (.bool r):=by
 unfold ij at H;refine aX Tryz.func75 9 [.tmp 2] ?_;refine aK H (fun c0 H0 => ?_) (fun c1 H1 => ?_)
 ·obtain rfl:=sI H0;exact pR 5 [V1,r0 [.v,.e bT,.v,.v,.v,.v,.v]] [] [] (aB c0 aN)
 ·obtain rfl:=sI H1;exact pR 5 [V1,r0 [.v,.e bF,.v,.s,.s,.v,.v]] [] [] (aB c1 aN)
def fC (x0:aq):Option Bool :=
 bif (((x0.length:Nat):Int)==0) then (
  some false
 ) else (
  bif decide (((x0.length:Nat):Int)>30) then (
   some false
  ) else (
   cb (0<x0.length) <|
   bif (((x0.getD 0 0).toNat:Int)==95) then (
    bif decide (((x0.length:Nat):Int)<2) then (
     some false
    ) else (
     bif decide (((x0.length:Nat):Int)>10) then (
      some false
     ) else (
      cb (1<x0.length) <|
      bif (((x0.getD 1 0).toNat:Int)==48) then (
       some false
      ) else (
       (dF (σ:=Unit) (ε:=Unit) (ρ:=Bool) (fun i0 s0 =>
        (gX (x0.getD i0 0)).bind fun y0 =>
        bif y0 then (
         some (.go ())
        ) else (
         some (.ret false)
        )
       ) (fun i0 s0=>()) (x0.length-1) 1 ()).bind <| aft fun u0 =>
       some true
      )
     )
    )
   ) else (
    (dF (σ:=Unit) (ε:=Unit) (ρ:=Bool) (fun i1 s1 =>
     (ij (x0.getD i1 0)).bind fun y1 =>
     ((
      bif y1 then (
       some (.brk ())
      ) else (
       bif (((i1:Nat):Int)==0) then (
        some (.ret (.ret false))
       ) else (
        (gX (x0.getD i1 0)).bind fun y2 =>
        bif y2 then (
         some (.brk ())
        ) else (
         some (.ret (.ret false))
        )
       )
      )
     ):Option (Out Unit (kg Unit Unit Bool))).bind (aft fun u1 =>
      some (.go ())
     )
    ) (fun i1 s1=>()) (x0.length-0) 0 ()).bind <| aft fun u2 =>
    some true
   )
  )
 )
def nq (x0:aq) (i0:Nat) (s0:Unit):AS:=⟨62,[(0,.str x0),(2,.bool false),(3,nI i0)],[]⟩
def qO (x0:aq) (u3:Unit):AS:=⟨62,[(0,.str x0),(2,.bool false)],[]⟩
def nn (x0:aq) (i1:Nat) (s1:Unit):AS:=⟨62,[(0,.str x0),(2,.bool false),(4,nI i1)],[]⟩
def qS (u4:Unit):AS:=⟨62,[(2,.bool false)],[]⟩
def nw (x0:aq) (i1:Nat) (u1:Unit):AS:=⟨62,[(0,.str x0),(2,.bool false),(4,nI i1)],[]⟩
theorem bK (x0:aq) (r:Bool) (H:fC x0=some r):aW Tryz.prog 38 [.str x0] (.bool r):=by
 unfold fC at H;refine aX Tryz.func38 62 [.tmp 2] ?_;refine aK H (fun c0 H0 => ?_) (fun c1 H1 => ?_)
 ·obtain rfl:=sI H0;exact pR 9 [V1,r0 [.v,.v,.e bT,.v,.s,.s,.s,.v],V1] [] [] (aT (aB c0 aN))
 ·refine aK H1 (fun c2 H2 => ?_) (fun c3 H3 => ?_)
  ·obtain rfl:=sI H2;exact pR 10 [V1,r0 [.v,.v,.e bF,.v,.v,.v,.v,.v],.eqT 12 bT,V1] [] [] (aT (aB c1 (aT (aB c2 aN))))
  ·have c3p:=Hl c3;refine aP H3 fun g0 H4 => ?_;refine aK H4 (fun c4 H5 => ?_) (fun c5 H6 => ?_)
   ·refine aK H5 (fun c6 H7 => ?_) (fun c7 H8 => ?_)
    ·have c6p:=Hm c6;obtain rfl:=sI H7;exact pR 20 [V1,r0 [.v,.v,.e bF,.v,.v,.v,.v,.v],.eqT 12 bF,V3,.eqT 15 bT,r0 [.v,.v,.e bT,.v,.s,.s,.s,.v,.v,.s,.s,.s,.v],V1] [] [] (aT (aB c1 (aT (aB c3 (aC (show (0:Int)≤0∧0<(x0.length:Int) from by omega) (aB c4 (aT (aB c6 aN))))))))
    ·have c7p:=Hl c7;refine aK H8 (fun c8 H9 => ?_) (fun c9 H10 => ?_)
     ·have c8p:=Hm c8;obtain rfl:=sI H9;exact pR 20 [V1,r0 [.v,.v,.e bF,.v,.v,.v,.v,.v],.eqT 12 bF,V3,.eqT 15 bT,r0 [.v,.v,.e bF,.v,.v,.v,.e bT,.v,.v,.s,.s,.s,.v],V1] [] [] (aT (aB c1 (aT (aB c3 (aC (show (0:Int)≤0∧0<(x0.length:Int) from by omega) (aB c4 (aT (aB c7 (aT (aB c8 aN))))))))))
     ·have c9p:=Hl c9;refine aP H10 fun g1 H11 => ?_;refine pD 16 [V1,r0 [.v,.v,.e bF,.v,.v,.v,.v,.v],.eqT 12 bF,V3,.eqT 15 bT,r0 [.v,.v,.e bF,.v,.v,.v,.e bF,.v,.v,.v,.v,.v,.v]] [.only [0,2,28] []] 14 [false,true] (aT (aB c1 (aT (aB c3 (aC (show (0:Int)≤0∧0<(x0.length:Int) from by omega) (aB c4 (aT (aB c7 (aT (aB c9 (aC (show (0:Int)≤1∧1<(x0.length:Int) from by omega) aN))))))))))) ?_;refine aK H11 (fun c10 H12 => ?_) (fun c11 H13 => ?_)
      ·obtain rfl:=sI H12;exact pR 5 [.eqT 28 bT,V1] [] [] (aB c10 aN)
      ·refine pA 7 [.eqT 28 bF,.rg 0 [] [.v]] [.only [0,2,3] []] 6 [false] (nq x0 1 ()) (aB c11 aN) ?_;refine aD H13 fun R0 h0 H14 => ?_;refine pJ 1 (qO x0) R0 ?_ (fun u0 e0 => ?_)
       ·refine pC (nq x0) h0 (fun i0 s0 h1 e1 => ?_) (fun i0 s0 h2 q0 h3 h4 => ?_)
        ·have c12:=lF i0 x0.length (by omega);subst e1;exact pB 5 [r0 [.v,.v,.v,.e bF]] [.only [0,2] []] (qO x0 ()) (aT (aB c12 aN))
        ·have c13:=lT i0 x0.length (by omega);refine aD h3 fun y0 h5 H15 => ?_;refine aK H15 (fun c14 H16 => ?_) (fun c15 H17 => ?_)
         ·refine bt 0 (ps:=[x0.length≤9223372036854775807]) (by kernel_rfl) (fun l0 => ?_);have l1:x0.length≤9223372036854775807:=by simpa only [bI,Hp] using l0
          clear l0;obtain rfl:=sI H16;exact pB 13 [r0 [.v,.v,.v,.e bT],r0 [.v,.v,.v,.c true (.bool y0),.v],.eqT 39 bF,V3] [.only [0,2,3] []] (nq x0 (i0+1) ()) (aT (aB c13 (aC (show (0:Int)≤((i0:Nat):Int)∧((i0:Nat):Int)<(x0.length:Int) from by omega) (aC Tryz.call74 (aF (mW _ _ h5) (aT (aM c14 (aH i0 aN))))))))
         ·obtain rfl:=sI H17;obtain rfl:=aR h4;obtain rfl:=sI (aA H14);exact pR 14 [r0 [.v,.v,.v,.e bT],r0 [.v,.v,.v,.c true (.bool y0),.v],.eqT 39 bT,V1] [] [] (aT (aB c13 (aC (show (0:Int)≤((i0:Nat):Int)∧((i0:Nat):Int)<(x0.length:Int) from by omega) (aC Tryz.call74 (aF (mW _ _ h5) (aT (aM c15 aN)))))))
       ·subst e0;have H18:=bl H14;obtain rfl:=sI H18;exact pR 3 [V1] [] [] aN
   ·refine pA 18 [.rg 0 [] [.v],.rg 0 [] [.v,.v,.e bF,.v,.v,.v,.v,.v],.eqT 12 bF,.rg 0 [] [.v,.v,.v],.eqT 15 bF,.rg 0 [] [.v]] [.only [0,2,4] []] 16 [false,false] (nn x0 0 ()) (aT (aB c1 (aT (aB c3 (aC (show (0:Int)≤0∧0<(x0.length:Int) from by omega) (aB c5 aN)))))) ?_;refine aD H6 fun R1 h6 H19 => ?_;refine pJ 1 (qS) R1 ?_ (fun u2 e2 => ?_)
    ·refine pC (nn x0) h6 (fun i1 s1 h7 e3 => ?_) (fun i1 s1 h8 q1 h9 h10 => ?_)
     ·have c16:=lF i1 x0.length (by omega);subst e3;exact pB 5 [r0 [.v,.v,.v,.e bF]] [.only [2] []] (qS ()) (aT (aB c16 aN))
     ·have c17:=lT i1 x0.length (by omega);refine aD h9 fun y1 h11 H20 => ?_;refine pD 8 [r0 [.v,.v,.v,.e bT]] [.only [0,2,4] []] 8 [true] (aT (aB c17 aN)) ?_;refine aD H20 fun v0 h12 H21 => ?_;refine pJ 2 (nw x0 i1) v0 ?_ (fun u1 e4 => ?_)
      ·refine aK h12 (fun c18 H22 => ?_) (fun c19 H23 => ?_)
       ·obtain rfl:=sI H22;exact pB 3 [r0 [.v,.v,.v,.c true bT,.v,.v,.s,.s,.s,.s,.s,.s,.s,.s,.s,.v]] [.only [0,2,4] []] (nw x0 i1 ()) (aC (show (0:Int)≤((i1:Nat):Int)∧((i1:Nat):Int)<(x0.length:Int) from by omega) (aC Tryz.call75 (aC (aW.eq (lz _ _ h11) (cB c18)) (aT aN))))
       ·refine aK H23 (fun c20 H24 => ?_) (fun c21 H25 => ?_)
        ·obtain rfl:=sI H24;obtain rfl:=sI (aA H21);obtain rfl:=aR h10;obtain rfl:=sI (aA H19);exact pR 5 [r0 [.v,.v,.v,.c true bF,.v,.v,.v,.e bT,.v,.s,.s,.s,.s,.s,.v,.v],V1] [] [] (aC (show (0:Int)≤((i1:Nat):Int)∧((i1:Nat):Int)<(x0.length:Int) from by omega) (aC Tryz.call75 (aC (aW.eq (lz _ _ h11) (cB c19)) (aT (aB c20 aN)))))
        ·refine aD H25 fun y2 h13 H26 => ?_;refine pD 1 [r0 [.v,.v,.v,.c true bF,.v,.v,.v,.e bF,.v,.v,.v,.v,.c true (.bool y2),.v,.v,.v]] [.only [0,2,4,61] []] 1 [] (aC (show (0:Int)≤((i1:Nat):Int)∧((i1:Nat):Int)<(x0.length:Int) from by omega) (aC Tryz.call75 (aC (aW.eq (lz _ _ h11) (cB c19)) (aT (aB c21 (aC (show (0:Int)≤((i1:Nat):Int)∧((i1:Nat):Int)<(x0.length:Int) from by omega) (aC Tryz.call74 (aF (mW _ _ h13) (aT aN))))))))) ?_;refine aK H26 (fun c22 H27 => ?_) (fun c23 H28 => ?_)
         ·obtain rfl:=sI H27;exact pB 3 [.eqT 61 bF] [.only [0,2,4] []] (nw x0 i1 ()) (aM c22 aN)
         ·obtain rfl:=sI H28;obtain rfl:=sI (aA H21);obtain rfl:=aR h10;obtain rfl:=sI (aA H19);exact pR 5 [.eqT 61 bT,V1] [] [] (aM c23 aN)
      ·subst e4;have H29:=bl H21;refine bt 0 (ps:=[x0.length≤9223372036854775807]) (by kernel_rfl) (fun l2 => ?_);have l3:x0.length≤9223372036854775807:=by simpa only [bI,Hp] using l2
       clear l2;obtain rfl:=sI H29;exact pB 1 [V3] [.only [0,2,4] []] (nn x0 (i1+1) ()) (aH i1 aN)
    ·subst e2;have H30:=bl H19;obtain rfl:=sI H30;exact pR 3 [V1] [] [] aN
end Go.Proofs.YtoebmibmmlcfiaaGreatDoor
