/- What functions of the program compute, walked: each as a plain function, with the theorem that the code computes it wherever that answers. Printed by a program, part 2. -/
import Derived.Test.YtlhcekghjfjajaaGreatDoorWkaEquationsComplete
set_option linter.unusedSimpArgs false
set_option linter.unusedVariables false
namespace Go.Proofs.YtlhcekghjfjajaaGreatDoor
open Go.RowKit Go.Ab Go.Sh
noncomputable def b7 (x0:Int) (x1:au) (x2:Int) (x3:List aj) (x4:List Bind):Option (Int×Int×(List aj)×(List Bind)) :=
 bf (0≤x0∧x0<(x3.length:Int)) <|
 bf (x0.toNat<x3.length) <|
 (jc x2).bind fun y0 =>
 bf ([95].length+y0.length≤9223372036854775807) <|
 bif decide ((aK (x2+1))≥1000000000) then (
  some (3,(aK (x2+1)),x3,x4)
 ) else (
  (bP (((x3.getD x0.toNat aa).q).Const) x1).bind fun y1 =>
  (dn (σ:=(List au)) (ε:=(List au)) (ρ:=Empty) (fun i0 s0 =>
   (bP (((((x3.getD x0.toNat aa).q).Terms).getD i0 ay).C) x1).bind fun y2 =>
   ((
    bif ((((((x3.getD x0.toNat aa).q).Terms).getD i0 ay).Var)==x1.Var) then (
     some false
    ) else (
     some (y2 != 0)
    )
   ):Option Bool).bind fun v0 =>
   ((
    bif v0 then (
     bf ((s0.length+1)*24≤140737488355328) <|
     some (s0++[(au.mk (((((x3.getD x0.toNat aa).q).Terms).getD i0 ay).Var) y2)])
    ) else (
     some s0
    )
   ):Option (List au)).bind fun v1 =>
   some (.go v1)
  ) (fun i0 s0=>s0) ((((x3.getD x0.toNat aa).q).Terms).length-0) 0 [(au.mk ([95]++y0) 1)]).bind <| ca fun u0 =>
  (jL (fun x=>x.Var) u0).bind fun y3 =>
  (br x1.Var (Linear.mk y1 y3) x0 (aK (x2+1)) x3 x4).bind fun y4 =>
  some (y4.1,(aK (x2+1)),y4.2.1,y4.2.2)
 )
def eA (x0:Int) (x1:au) (x2:Int) (x3:List aj) (x4:List Bind) (y1:Int) (i0:Nat) (s0:List au):AS:=⟨93,[(0,.hptr 1000 0),(1,iI x0),(5,.hptr 5 0),(6,iI 0),(9,.hptr 9 0),(10,.fn 95 [.hptr 5 0]),(55,.dslice ((((x3.getD x0.toNat aa).q).Terms).map aq)),(56,iI (((((x3.getD x0.toNat aa).q).Terms).length:Nat):Int)),(57,nI i0)],[(5,.cells 88 [.str x1.Var,iI x1.C]),(9,.cells 34 [iI y1,.rslice 52]),(52,.row 88 2 (s0.map aq)),(1000,.cells 73 [.rslice 1001,.rslice 1002,iI (aK (x2+1))]),(1001,.row 76 5 (x3.map ah)),(1002,.row 41 7 (x4.map az))]⟩
def ib (x0:Int) (x1:au) (x2:Int) (x3:List aj) (x4:List Bind) (y1:Int) (u1:List au):AS:=⟨93,[(0,.hptr 1000 0),(1,iI x0),(5,.hptr 5 0),(6,iI 0),(9,.hptr 9 0)],[(5,.cells 88 [.str x1.Var,iI x1.C]),(9,.cells 34 [iI y1,.rslice 52]),(52,.row 88 2 (u1.map aq)),(1000,.cells 73 [.rslice 1001,.rslice 1002,iI (aK (x2+1))]),(1001,.row 76 5 (x3.map ah)),(1002,.row 41 7 (x4.map az))]⟩
def eJ (x0:Int) (x1:au) (x2:Int) (x3:List aj) (x4:List Bind) (y1:Int) (i0:Nat) (s0:List au) (y2:Int) (v0:Bool):AS:=⟨93,[(0,.hptr 1000 0),(1,iI x0),(5,.hptr 5 0),(6,iI 0),(9,.hptr 9 0),(10,.fn 95 [.hptr 5 0]),(12,.hptr 12 0),(13,iI y2),(55,.dslice ((((x3.getD x0.toNat aa).q).Terms).map aq)),(56,iI (((((x3.getD x0.toNat aa).q).Terms).length:Nat):Int)),(57,nI i0),(73,.bool v0)],[(5,.cells 88 [.str x1.Var,iI x1.C]),(9,.cells 34 [iI y1,.rslice 52]),(12,.cells 88 [.str (((((x3.getD x0.toNat aa).q).Terms).getD i0 ay).Var),iI (((((x3.getD x0.toNat aa).q).Terms).getD i0 ay).C)]),(52,.row 88 2 (s0.map aq)),(1000,.cells 73 [.rslice 1001,.rslice 1002,iI (aK (x2+1))]),(1001,.row 76 5 (x3.map ah)),(1002,.row 41 7 (x4.map az))]⟩
def eI (x0:Int) (x1:au) (x2:Int) (x3:List aj) (x4:List Bind) (y1:Int) (i0:Nat) (v1:List au):AS:=⟨93,[(0,.hptr 1000 0),(1,iI x0),(5,.hptr 5 0),(6,iI 0),(9,.hptr 9 0),(10,.fn 95 [.hptr 5 0]),(55,.dslice ((((x3.getD x0.toNat aa).q).Terms).map aq)),(56,iI (((((x3.getD x0.toNat aa).q).Terms).length:Nat):Int)),(57,nI i0)],[(5,.cells 88 [.str x1.Var,iI x1.C]),(9,.cells 34 [iI y1,.rslice 52]),(52,.row 88 2 (v1.map aq)),(1000,.cells 73 [.rslice 1001,.rslice 1002,iI (aK (x2+1))]),(1001,.row 76 5 (x3.map ah)),(1002,.row 41 7 (x4.map az))]⟩
theorem iH (x0:Int) (x1:au) (x2:Int) (x3:List aj) (x4:List Bind) (r:Int×Int×(List aj)×(List Bind)) (H:b7 x0 x1 x2 x3 x4=some r):cg Tryz.prog 60 [.hptr 1000 0,iI x0,.agg [.str x1.Var,iI x1.C]] [(1000,.cells 73 [.rslice 1001,.rslice 1002,iI x2]),(1001,.row 76 5 (x3.map ah)),(1002,.row 41 7 (x4.map az))] (fun r2 h0=>r2=(iI r.1)∧h0=[(0,.row 41 7 (r.2.2.2.map az)),(1000,.cells 73 [.rslice 1001,.rslice 0,iI r.2.1]),(1001,.row 76 5 (r.2.2.1.map ah))]):=by
 unfold b7 at H;refine aX Tryz.func60 93 [.tmp 6] ?_;refine aL H fun g0 H0 => ?_;refine aL H0 fun g1 H1 => ?_;refine aR H1 fun y0 h1 H2 => ?_;refine aL H2 fun g2 H3 => ?_;refine pD 11 [r0 [.m,.v],r0 (V 7 [.rl x0.toNat 0 (.agg (aw ((x3.getD x0.toNat aa).q))),.m,.m]),r0 (V 4 [.c true (.str y0),.v,.v]),r0 (V 4 [.w,.v,.v,.m]),V5] [.only [0,1,5,6,7,8,39] [5,7,1000,1001,1002]] 11 [] (aC (show (0:Int)≤x0∧x0<((x3.map ah).length:Int) from by rw [MM];exact g0) (aC (dI (f:=ah) (l:=x3) (n:=x0.toNat) 5 0 2 (by omega) (by decide)) (aC (yK (f:=ah) (l:=x3) (n:=x0.toNat) aa 0 2 (by omega)) (aC Tryz.call94 (aF (wR x2 y0 h1) (aC (show [95].length+y0.length≤9223372036854775807 from g2) aN)))))) ?_;refine aV H3 (fun c0 H4 => ?_) (fun c1 H5 => ?_)
 ·obtain rfl:=sI H4;exact pR 5 [.eqT 39 bT,V1] [.ren [(1002,0),(1000,1000),(1001,1001)]] [0,1000,1001] (aB c0 aN)
 ·have c1p:=MI c1;refine aR H5 fun y1 h2 H6 => ?_;refine pA 15 [.eqT 39 bF,r0 [.b,.m,.m],V2,r0 [.v,.v,.v,.c false (iI y1),.v,.m],r0 [.v,.v,.v,.b,.b,.er 48 52 88 2,.ap,.rwH 52 (.row 88 2 ([(au.mk ([95]++y0) 1)].map aq)),.v,.m],r0 [.v,.v,.e (iI (((((x3.getD x0.toNat aa).q).Terms).length:Nat):Int)),.v]] [.only [0,1,5,6,9,10,55,56,57] [5,9,52,1000,1001,1002]] 14 [false] (eA x0 x1 x2 x3 x4 y1 0 [(au.mk ([95]++y0) 1)]) (aB c1 (aC Tryz.call95 (aF (gW _ _ _ h2) (bp (tT (c:=aq) iw [] [(au.mk ([95]++y0) 1)] 24 (by decide) (by simp)) (aC (Ll 88 2 aq [(au.mk ([95]++y0) 1)]) (aT (aC (aQ aq (((x3.getD x0.toNat aa).q).Terms)) aN))))))) ?_;refine aR H6 fun R0 h3 H7 => ?_;refine pJ 1 (ib x0 x1 x2 x3 x4 y1) R0 ?_ (fun u0 e0 => ?_)
  ·refine pC (eA x0 x1 x2 x3 x4 y1) h3 (fun i0 s0 h4 e1 => ?_) (fun i0 s0 h5 q0 h6 h7 => ?_)
   ·have c2:=lF i0 ((((x3.getD x0.toNat aa).q).Terms).length) (by omega);subst e1;exact pB 5 [r0 [.e bF]] [.only [0,1,5,6,9] [5,9,52,1000,1001,1002]] (ib x0 x1 x2 x3 x4 y1 s0) (aB c2 aN)
   ·have c3:=lT i0 ((((x3.getD x0.toNat aa).q).Terms).length) (by omega);refine aR h6 fun y2 h8 H8 => ?_;refine pD 12 [r0 [.e bT],r0 [.e (.dptr (aq ((((x3.getD x0.toNat aa).q).Terms).getD i0 ay))),.v,.m,.m],r0 [.v,.v,.v,.c false (iI y2),.v]] [.only [0,1,5,6,9,10,12,13,55,56,57] [5,9,12,52,1000,1001,1002]] 12 [true] (aB c3 (aI aZ ((((x3.getD x0.toNat aa).q).Terms)) i0 ay (aC Tryz.call95 (aF (gW _ _ _ h8) aN)))) ?_;refine aR H8 fun v0 h9 H9 => ?_;refine bV 0 (eJ x0 x1 x2 x3 x4 y1 i0 s0 y2 v0) (by kernel_rfl) ?_ ?_
    ·refine aV h9 (fun c4 H10 => ?_) (fun c5 H11 => ?_)
     ·obtain rfl:=sI H10;exact pB 1 [r0 (V 4 [.e bF,.v,.s,.s,.v])] [.only [0,1,5,6,9,10,12,13,55,56,57,73] [5,9,12,52,1000,1001,1002]] (eJ x0 x1 x2 x3 x4 y1 i0 s0 y2 false) (aM c4 aN)
     ·obtain rfl:=sI H11;exact pB 1 [r0 (V 4 [.e bT,.v,.v,.v,.v])] [.only [0,1,5,6,9,10,12,13,55,56,57,73] [5,9,12,52,1000,1001,1002]] (eJ x0 x1 x2 x3 x4 y1 i0 s0 y2 (y2 != 0)) (aM c5 aN)
    ·refine aR H9 fun v1 h10 H12 => ?_;refine bV 1 (eI x0 x1 x2 x3 x4 y1 i0 v1) (by kernel_rfl) ?_ ?_
     ·refine aV h10 (fun c6 H13 => ?_) (fun c7 H14 => ?_)
      ·refine aL H13 fun g3 H15 => ?_;obtain rfl:=sI H15;exact pB 3 [.eqT 73 bT,r0 (V 5 [.b,.b,.ap,.rwH 81 (.row 88 2 ((s0++[(au.mk (((((x3.getD x0.toNat aa).q).Terms).getD i0 ay).Var) y2)]).map aq)),.v,.m])] [.ren [(5,5),(9,9),(81,52),(1000,1000),(1001,1001),(1002,1002)],.only [0,1,5,6,9,10,55,56,57] [5,9,52,1000,1001,1002]] (eI x0 x1 x2 x3 x4 y1 i0 (s0++[(au.mk (((((x3.getD x0.toNat aa).q).Terms).getD i0 ay).Var) y2)])) (aB c6 (bp (tT (c:=aq) iw s0 [(au.mk (((((x3.getD x0.toNat aa).q).Terms).getD i0 ay).Var) y2)] 24 (by decide) (by first | (simp;done) | simpa using g3)) (aC (wA 88 2 aq s0 [(au.mk (((((x3.getD x0.toNat aa).q).Terms).getD i0 ay).Var) y2)]) aN)))
      ·refine bZ H14 fun e2 => ?_;subst e2;exact pB 3 [.eqT 73 bF] [.only [0,1,5,6,9,10,55,56,57] [5,9,52,1000,1001,1002]] (eI x0 x1 x2 x3 x4 y1 i0 s0) (aB c7 aN)
     ·refine bO 55 (ps:=[((((x3.getD x0.toNat aa).q).Terms).map aq).length≤9223372036854775807]) (by kernel_rfl) (fun l0 => ?_);have l1:(((x3.getD x0.toNat aa).q).Terms).length≤9223372036854775807:=by simpa only [cu,MM] using l0
      clear l0;obtain rfl:=sI H12;exact pB 1 [V2] [.only [0,1,5,6,9,10,55,56,57] [5,9,52,1000,1001,1002]] (eA x0 x1 x2 x3 x4 y1 (i0+1) v1) (aH i0 aN)
  ·subst e0;have H16:=a8 H7;refine aR H16 fun y3 h11 H17 => ?_;refine aR H17 fun y4 h12 H18 => ?_;obtain rfl:=sI H18;exact pR 5 [r0 [.v,.v,.hR [(52,1000)] 86 (.tup []) [(1000,.row 88 2 (y3.map aq))]],r0 (V 5 [.fz 52,.hM [(1000,1000),(1001,1001),(1002,1002)] [(0,900)] (iI y4.1) [(0,.row 41 7 (y4.2.2.map az)),(1000,.cells 73 [.rslice 1001,.rslice 0,iI (aK (x2+1))]),(1001,.row 76 5 (y4.2.1.map ah))],.v])] [.ren [(900,0),(1000,1000),(1001,1001)]] [0,1000,1001] (aC Tryz.call97 (aC (BN aq (fun x=>x.Var) _ (fun _=>rfl) (fun _=>rfl) u0 y3 h11) (aC Tryz.call99 (aC (jS _ _ _ _ _ _ _ h12) aN))))
noncomputable def bt (x0 x1:Int) (x2:List aj) (x3:List Bind):Option ((al×Int)×Int×(List aj)×(List Bind)) :=
 bf (0≤x0∧x0<(x2.length:Int)) <|
 bf (x0.toNat<x2.length) <|
 (hZ (Linear.mk (((x2.getD x0.toNat aa).q).Const) (((x2.getD x0.toNat aa).q).Terms))).bind fun y0 =>
 bif (y0==0) then (
  (fi ((x2.getD x0.toNat aa).scale) y0).bind fun y1 =>
  bif ((x2.getD x0.toNat aa).lost) then (
   some (((al.mk [] 0),9),x1,x2,x3)
  ) else (
   (bY y1.1 y1.2).bind fun y2 =>
   bif y2 then (
    bf (8*x2.length≤140737488355328) <|
    nL (σ:=(List Int)) (ε:=Empty) (β:=((al×Int)×Int×(List aj)×(List Bind))) ((x2.getD x0.toNat aa).mults) (fun e0 s0 =>
     bf (0≤e0.1∧e0.1<(s0.length:Int)) <|
     bf (e0.1.toNat<s0.length) <|
     (some (s0.set e0.1.toNat e0.2)).bind fun y3 =>
     some (.go y3)
    ) (List.replicate x2.length (0:Int)) (fun s0 =>
     some (((al.mk s0 y1.1),9),x1,x2,x3)
    )
   ) else (
    some (((al.mk [] 0),9),x1,x2,x3)
   )
  )
 ) else (
  bf ((y0:Int)≠0) <|
  bif (((((x2.getD x0.toNat aa).q).Const).tmod y0)==0) then (
   (dn (σ:=(List au)) (ε:=(List au)) (ρ:=Empty) (fun i0 s1 =>
    bf ((s1.length+1)*24≤140737488355328) <|
    some (.go (s1++[(au.mk (((((x2.getD x0.toNat aa).q).Terms).getD i0 ay).Var) (aK ((((((x2.getD x0.toNat aa).q).Terms).getD i0 ay).C).tdiv y0)))]))
   ) (fun i0 s1=>s1) ((((x2.getD x0.toNat aa).q).Terms).length-0) 0 []).bind <| ca fun u0 =>
   (fi ((x2.getD x0.toNat aa).scale) y0).bind fun y4 =>
   (bY y4.1 y4.2).bind fun y5 =>
   bif y5 then (
    (some (x2.set x0.toNat (aj.mk (Linear.mk (aK ((((x2.getD x0.toNat aa).q).Const).tdiv y0)) u0) ((x2.getD x0.toNat aa).mults) ((x2.getD x0.toNat aa).scale) ((x2.getD x0.toNat aa).lost)))).bind fun y6 =>
    bf (x0.toNat<y6.length) <|
    (some (y6.set x0.toNat (aj.mk (Linear.mk (((y6.getD x0.toNat aa).q).Const) (((y6.getD x0.toNat aa).q).Terms)) ((y6.getD x0.toNat aa).mults) y4.1 ((y6.getD x0.toNat aa).lost)))).bind fun y7 =>
    (fO (Linear.mk (aK ((((x2.getD x0.toNat aa).q).Const).tdiv y0)) u0)).bind fun y8 =>
    bif (y8.C==1) then (
     (bL x0 y8 x1 y7 x3).bind fun y9 =>
     some (((al.mk [] 0),y9.1),x1,y9.2.1,y9.2.2)
    ) else (
     bif (y8.C==(-1)) then (
      (bL x0 y8 x1 y7 x3).bind fun y10 =>
      some (((al.mk [] 0),y10.1),x1,y10.2.1,y10.2.2)
     ) else (
      (b7 x0 y8 x1 y7 x3).bind fun y11 =>
      some (((al.mk [] 0),y11.1),y11.2.1,y11.2.2.1,y11.2.2.2)
     )
    )
   ) else (
    (some (x2.set x0.toNat (aj.mk (Linear.mk (((x2.getD x0.toNat aa).q).Const) (((x2.getD x0.toNat aa).q).Terms)) ((x2.getD x0.toNat aa).mults) ((x2.getD x0.toNat aa).scale) true))).bind fun y12 =>
    bf (x0.toNat<y12.length) <|
    (some (y12.set x0.toNat (aj.mk (Linear.mk (aK ((((x2.getD x0.toNat aa).q).Const).tdiv y0)) u0) ((y12.getD x0.toNat aa).mults) ((y12.getD x0.toNat aa).scale) ((y12.getD x0.toNat aa).lost)))).bind fun y13 =>
    bf (x0.toNat<y13.length) <|
    (some (y13.set x0.toNat (aj.mk (Linear.mk (((y13.getD x0.toNat aa).q).Const) (((y13.getD x0.toNat aa).q).Terms)) ((y13.getD x0.toNat aa).mults) 1 ((y13.getD x0.toNat aa).lost)))).bind fun y14 =>
    (fO (Linear.mk (aK ((((x2.getD x0.toNat aa).q).Const).tdiv y0)) u0)).bind fun y15 =>
    bif (y15.C==1) then (
     (bL x0 y15 x1 y14 x3).bind fun y16 =>
     some (((al.mk [] 0),y16.1),x1,y16.2.1,y16.2.2)
    ) else (
     bif (y15.C==(-1)) then (
      (bL x0 y15 x1 y14 x3).bind fun y17 =>
      some (((al.mk [] 0),y17.1),x1,y17.2.1,y17.2.2)
     ) else (
      (b7 x0 y15 x1 y14 x3).bind fun y18 =>
      some (((al.mk [] 0),y18.1),y18.2.1,y18.2.2.1,y18.2.2.2)
     )
    )
   )
  ) else (
   (fi ((x2.getD x0.toNat aa).scale) y0).bind fun y19 =>
   bif ((x2.getD x0.toNat aa).lost) then (
    some (((al.mk [] 0),9),x1,x2,x3)
   ) else (
    (bY y19.1 y19.2).bind fun y20 =>
    bif y20 then (
     bf (8*x2.length≤140737488355328) <|
     nL (σ:=(List Int)) (ε:=Empty) (β:=((al×Int)×Int×(List aj)×(List Bind))) ((x2.getD x0.toNat aa).mults) (fun e1 s2 =>
      bf (0≤e1.1∧e1.1<(s2.length:Int)) <|
      bf (e1.1.toNat<s2.length) <|
      (some (s2.set e1.1.toNat e1.2)).bind fun y21 =>
      some (.go y21)
     ) (List.replicate x2.length (0:Int)) (fun s2 =>
      some (((al.mk s2 y19.1),9),x1,x2,x3)
     )
    ) else (
     some (((al.mk [] 0),9),x1,x2,x3)
    )
   )
  )
 )
def fB (x0 x1:Int) (x2:List aj) (x3:List Bind) (y0:Int) (y1:Int×Int) (i1:List Nat) (s0:List Int):AS:=⟨161,[(0,.hptr 1000 0),(1,iI x0),(4,.hptr 4 0),(5,iI 0),(6,.hptr 1001 (x0.toNat*5)),(7,iI y0),(10,.hptr 10 0),(75,.hptr 75 0)],[(4,.cells 28 [.eslice,iI 0]),(10,.cells 28 [.rslice 68,iI y1.1]),(68,.row 3 1 (s0.map ao)),(75,.iter (((x2.getD x0.toNat aa).mults).map (dR ao)) i1),(1000,.cells 73 [.rslice 1001,.rslice 1002,iI x1]),(1001,.row 76 5 (x2.map ah)),(1002,.row 41 7 (x3.map az))]⟩
def fA (x0 x1:Int) (x2:List aj) (x3:List Bind) (y0:Int) (i0:Nat) (s1:List au):AS:=⟨161,[(0,.hptr 1000 0),(1,iI x0),(4,.hptr 4 0),(5,iI 0),(6,.hptr 1001 (x0.toNat*5)),(7,iI y0),(13,.hptr 13 0),(99,.dslice ((((x2.getD x0.toNat aa).q).Terms).map aq)),(100,iI (((((x2.getD x0.toNat aa).q).Terms).length:Nat):Int)),(101,nI i0)],[(4,.cells 28 [.eslice,iI 0]),(13,.cells 34 [iI (aK ((((x2.getD x0.toNat aa).q).Const).tdiv y0)),.rslice 115]),(115,.row 88 2 (s1.map aq)),(1000,.cells 73 [.rslice 1001,.rslice 1002,iI x1]),(1001,.row 76 5 (x2.map ah)),(1002,.row 41 7 (x3.map az))]⟩
def iW (x0 x1:Int) (x2:List aj) (x3:List Bind) (y0:Int) (u1:List au):AS:=⟨161,[(0,.hptr 1000 0),(1,iI x0),(4,.hptr 4 0),(5,iI 0),(6,.hptr 1001 (x0.toNat*5)),(7,iI y0),(13,.hptr 13 0)],[(4,.cells 28 [.eslice,iI 0]),(13,.cells 34 [iI (aK ((((x2.getD x0.toNat aa).q).Const).tdiv y0)),.rslice 115]),(115,.row 88 2 (u1.map aq)),(1000,.cells 73 [.rslice 1001,.rslice 1002,iI x1]),(1001,.row 76 5 (x2.map ah)),(1002,.row 41 7 (x3.map az))]⟩
def fD (x0 x1:Int) (x2:List aj) (x3:List Bind) (y0:Int) (y19:Int×Int) (i2:List Nat) (s2:List Int):AS:=⟨161,[(0,.hptr 1000 0),(1,iI x0),(4,.hptr 4 0),(5,iI 0),(6,.hptr 1001 (x0.toNat*5)),(7,iI y0),(10,.hptr 10 0),(75,.hptr 75 0)],[(4,.cells 28 [.eslice,iI 0]),(10,.cells 28 [.rslice 68,iI y19.1]),(68,.row 3 1 (s2.map ao)),(75,.iter (((x2.getD x0.toNat aa).mults).map (dR ao)) i2),(1000,.cells 73 [.rslice 1001,.rslice 1002,iI x1]),(1001,.row 76 5 (x2.map ah)),(1002,.row 41 7 (x3.map az))]⟩
theorem pG (x0 x1:Int) (x2:List aj) (x3:List Bind) (r:(al×Int)×Int×(List aj)×(List Bind)) (H:bt x0 x1 x2 x3=some r):cg Tryz.prog 30 [.hptr 1000 0,iI x0] [(1000,.cells 73 [.rslice 1001,.rslice 1002,iI x1]),(1001,.row 76 5 (x2.map ah)),(1002,.row 41 7 (x3.map az))] (fun r2 h0=>r2=(.tup [.agg [dS ao r.1.1.Mults,iI r.1.1.Mod],iI r.1.2])∧h0=[(0,.row 41 7 (r.2.2.2.map az)),(1000,.cells 73 [.rslice 1001,.rslice 0,iI r.2.1]),(1001,.row 76 5 (r.2.2.1.map ah))]):=by
 unfold bt at H;refine aX Tryz.func30 161 [.cell 4 28,.tmp 5] ?_;refine aL H fun g0 H0 => ?_;refine aL H0 fun g1 H1 => ?_;refine aR H1 fun y0 h1 H2 => ?_;refine pD 8 [r0 [.m,.v],r0 (V 7 []),r0 [.v,.v,.v,.rl x0.toNat 0 (.agg (aw ((x2.getD x0.toNat aa).q))),.c true (iI y0),.v]] [.only [0,1,4,5,6,7] [4,1000,1001,1002]] 8 [] (aC (show (0:Int)≤x0∧x0<((x2.map ah).length:Int) from by rw [MM];exact g0) (aC (dI (f:=ah) (l:=x2) (n:=x0.toNat) 5 0 2 (by omega) (by decide)) (aC (yK (f:=ah) (l:=x2) (n:=x0.toNat) aa 0 2 (by omega)) (aC Tryz.call57 (aF (vH _ _ h1) aN))))) ?_;refine aV H2 (fun c0 H3 => ?_) (fun c1 H4 => ?_)
 ·refine aR H3 fun y1 h2 H5 => ?_;refine pD 6 [r0 [.v,.e bT,.v,.s,.s,.s,.s,.s,.s,.s,.s,.v],r0 [.v,.v,.v,.rl x0.toNat 3 (iI ((x2.getD x0.toNat aa).scale)),.v,.c true (.tup [iI y1.1,iI y1.2]),.v,.v,.v,.v,.v]] [.only [0,1,4,5,6,7,8,9] [4,1000,1001,1002]] 6 [true] (aB c0 (aC (dI (f:=ah) (l:=x2) (n:=x0.toNat) 5 3 1 (by omega) (by decide)) (aC (ot (f:=ah) (l:=x2) (n:=x0.toNat) aa 3 (by omega)) (aC Tryz.call58 (aF (iU _ _ _ h2) aN))))) ?_;refine aV H5 (fun c2 H6 => ?_) (fun c3 H7 => ?_)
  ·obtain rfl:=sI H6;exact pR 5 [r0 [.v,.v,.v,.rl x0.toNat 4 (.bool ((x2.getD x0.toNat aa).lost)),.e bT,.s,.s,.s,.s,.v],r0 [.b,.m,.v]] [.wkH 4 0 [],.ren [(1002,0),(4,4),(1000,1000),(1001,1001)]] [0,1000,1001] (aC (dI (f:=ah) (l:=x2) (n:=x0.toNat) 5 4 1 (by omega) (by decide)) (aC (ot (f:=ah) (l:=x2) (n:=x0.toNat) aa 4 (by omega)) (aB c2 aN)))
  ·refine aR H7 fun y2 h3 H8 => ?_;refine pD 1 [r0 [.v,.v,.v,.rl x0.toNat 4 (.bool ((x2.getD x0.toNat aa).lost)),.e bF,.v,.v,.c true (.bool y2),.v,.v]] [.only [0,1,4,5,6,7,8,61] [4,1000,1001,1002]] 1 [] (aC (dI (f:=ah) (l:=x2) (n:=x0.toNat) 5 4 1 (by omega) (by decide)) (aC (ot (f:=ah) (l:=x2) (n:=x0.toNat) aa 4 (by omega)) (aB c3 (aC Tryz.call45 (aF (dc _ _ _ h3) (aT aN)))))) ?_;refine aV H8 (fun c4 H9 => ?_) (fun c5 H10 => ?_)
   ·refine aL H9 fun g2 H11 => ?_;refine pA 9 [.eqT 61 bF,r0 (V 4 [.e (nI x2.length),.mk x2.length,.rwH 68 (.row 3 1 ((List.replicate x2.length (0:Int)).map ao)),.v,.b,.m,.m]),r0 [.v,.v,.v,.rl x0.toNat 2 (.dmap (((x2.getD x0.toNat aa).mults).map (dR ao))),.m]] [.only [0,1,4,5,6,7,10,75] [4,10,68,75,1000,1001,1002]] 8 [false] (fB x0 x1 x2 x3 y0 y1 [] (List.replicate x2.length (0:Int))) (aM c4 (aT (aC (aQ ah x2) (aC (show ((x2.length:Nat):Int)=((x2.length:Nat):Int)∧((x2.length:Nat):Int)=((x2.length:Nat):Int)∧8*x2.length≤140737488355328∧x2.length≤9223372036854775807 from ⟨rfl,rfl,by omega,by omega⟩) (aC (xY (z:=zQ Tryz.prog 3) ao (0:Int) x2.length 3 1 (by kernel_rfl)) (aC (dI (f:=ah) (l:=x2) (n:=x0.toNat) 5 2 1 (by omega) (by decide)) (aC (ot (f:=ah) (l:=x2) (n:=x0.toNat) aa 2 (by omega)) aN))))))) ?_;refine sw (cc:=ao) 75 (fB x0 x1 x2 x3 y0 y1) (by kernel_rfl) H11 [.v] (fun i1 s0=>⟨by kernel_rfl,by kernel_rfl⟩) (fun i1 s0=>⟨161,[(0,.hptr 1000 0),(1,iI x0),(4,.hptr 4 0),(5,iI 0),(6,.hptr 1001 (x0.toNat*5)),(7,iI y0),(10,.hptr 10 0),(75,.hptr 75 0),(76,.tup [.bool false]),(77,.bool false)],[(4,.cells 28 [.eslice,iI 0]),(10,.cells 28 [.rslice 68,iI y1.1]),(68,.row 3 1 (s0.map ao)),(75,.iter (((x2.getD x0.toNat aa).mults).map (dR ao)) i1),(1000,.cells 73 [.rslice 1001,.rslice 1002,iI x1]),(1001,.row 76 5 (x2.map ah)),(1002,.row 41 7 (x3.map az))]⟩) (fun i1 s0=>by kernel_rfl) (fun i1 s0 n0 e0=>⟨161,[(0,.hptr 1000 0),(1,iI x0),(4,.hptr 4 0),(5,iI 0),(6,.hptr 1001 (x0.toNat*5)),(7,iI y0),(10,.hptr 10 0),(75,.hptr 75 0),(76,.tup [.bool true,iI e0.1,iI e0.2]),(77,.bool true)],[(4,.cells 28 [.eslice,iI 0]),(10,.cells 28 [.rslice 68,iI y1.1]),(68,.row 3 1 (s0.map ao)),(75,.iter (((x2.getD x0.toNat aa).mults).map (dR ao)) (i1++[n0])),(1000,.cells 73 [.rslice 1001,.rslice 1002,iI x1]),(1001,.row 76 5 (x2.map ah)),(1002,.row 41 7 (x3.map az))]⟩) (fun i1 s0 n0 e0=>by kernel_rfl) (fun i1 s0 H12 => ?_) (fun i1 s0 n0 e0 h4 q0 h5 h6 => ?_)
    ·obtain rfl:=sI H12;exact pR 6 [r0 [.v,.m,.v]] [.fz 68,.ren [(1002,0),(4,4),(1000,1000),(1001,1001)]] [0,1000,1001] aN
    ·refine aL h5 fun g3 H13 => ?_;refine aL H13 fun g4 H14 => ?_;refine aR H14 fun y3 h7 H15 => ?_;obtain rfl:=sI H15;exact pB 7 [r0 [.en n0 (.tup [iI e0.1,iI e0.2]),.v,.v,.v,.v],r0 (V 5 [.rs e0.1.toNat 0,.rwH 68 (.row 3 1 (y3.map ao))])] [.only [0,1,4,5,6,7,10,75] [4,10,68,75,1000,1001,1002]] (fB x0 x1 x2 x3 y0 y1 (i1++[n0]) y3) (aC (kH i1 n0) (aC (yk (cc:=ao) h4) (aC (show (0:Int)≤e0.1∧e0.1<((s0.map ao).length:Int) from by rw [MM];exact g3) (aC (dI (f:=ao) (l:=s0) (n:=e0.1.toNat) 1 0 1 (by omega) (by decide)) (aC ((qS (f:=ao) 3 1 s0 e0.1.toNat 0 e0.2 0 [iI e0.2] (by omega) rfl).trans (congrArg (fun l=>AO.row 3 1 (l.map ao)) (MQ h7))) aN)))))
   ·obtain rfl:=sI H10;exact pR 5 [.eqT 61 bT,r0 [.b,.m,.v]] [.wkH 4 0 [],.ren [(1002,0),(4,4),(1000,1000),(1001,1001)]] [0,1000,1001] (aM c5 aN)
 ·refine aL H4 fun g5 H16 => ?_;refine pD 1 [r0 [.v,.e bF,.v,.v,.v,.v,.v,.rl x0.toNat 0 (iI (((x2.getD x0.toNat aa).q).Const)),.v,.v,.v,.v]] [.only [0,1,4,5,6,7,42] [4,1000,1001,1002]] 1 [] (aB c1 (aC (dI (f:=ah) (l:=x2) (n:=x0.toNat) 5 0 1 (by omega) (by decide)) (aC (ot (f:=ah) (l:=x2) (n:=x0.toNat) aa 0 (by omega)) (aC (show (y0:Int)≠0 from g5) aN)))) ?_;refine aV H16 (fun c6 H17 => ?_) (fun c7 H18 => ?_)
  ·refine pA 9 [.eqT 42 bF,.rg 0 [] (V 4 [.rl x0.toNat 0 (.int .i64 (((x2.getD x0.toNat aa).q).Const)),.v,.w,.b,.m,.m]),.rg 0 [] (V 4 [.rl x0.toNat 1 (.dslice ((((x2.getD x0.toNat aa).q).Terms).map aq)),.e (.int .i64 (((((x2.getD x0.toNat aa).q).Terms).length:Nat):Int)),.v])] [.erH 13 1 115 88 2,.only [0,1,4,5,6,7,13,99,100,101] [4,13,115,1000,1001,1002]] 8 [false] (fA x0 x1 x2 x3 y0 0 []) (aM c6 (aC (dI (f:=ah) (l:=x2) (n:=x0.toNat) 5 0 1 (by omega) (by decide)) (aC (ot (f:=ah) (l:=x2) (n:=x0.toNat) aa 0 (by omega)) (aC (show (y0:Int)≠0 from g5) (aC (dI (f:=ah) (l:=x2) (n:=x0.toNat) 5 1 1 (by omega) (by decide)) (aC (ot (f:=ah) (l:=x2) (n:=x0.toNat) aa 1 (by omega)) (aT (aC (aQ aq (((x2.getD x0.toNat aa).q).Terms)) aN)))))))) ?_;refine aR H17 fun R0 h8 H19 => ?_;refine pJ 1 (iW x0 x1 x2 x3 y0) R0 ?_ (fun u0 e2 => ?_)
   ·refine pC (fA x0 x1 x2 x3 y0) h8 (fun i0 s1 h9 e3 => ?_) (fun i0 s1 h10 q1 h11 h12 => ?_)
    ·have c8:=lF i0 ((((x2.getD x0.toNat aa).q).Terms).length) (by omega);subst e3;exact pB 5 [r0 [.e bF]] [.only [0,1,4,5,6,7,13] [4,13,115,1000,1001,1002]] (iW x0 x1 x2 x3 y0 s1) (aB c8 aN)
    ·have c9:=lT i0 ((((x2.getD x0.toNat aa).q).Terms).length) (by omega);refine aL h11 fun g6 H20 => ?_;refine bO 99 (ps:=[((((x2.getD x0.toNat aa).q).Terms).map aq).length≤9223372036854775807]) (by kernel_rfl) (fun l0 => ?_);have l1:(((x2.getD x0.toNat aa).q).Terms).length≤9223372036854775807:=by simpa only [cu,MM] using l0
     clear l0;obtain rfl:=sI H20;exact pB 11 [r0 [.e bT],r0 [.e (.dptr (aq ((((x2.getD x0.toNat aa).q).Terms).getD i0 ay))),.v,.m,.m],.rg 10 (V 7 [.w,.b,.b]) [.ap,.rwH 115 (.row 88 2 ((s1++[(au.mk (((((x2.getD x0.toNat aa).q).Terms).getD i0 ay).Var) (aK ((((((x2.getD x0.toNat aa).q).Terms).getD i0 ay).C).tdiv y0)))]).map aq)),.v,.m],V2] [.only [0,1,4,5,6,7,13,99,100,101] [4,13,115,1000,1001,1002]] (fA x0 x1 x2 x3 y0 (i0+1) (s1++[(au.mk (((((x2.getD x0.toNat aa).q).Terms).getD i0 ay).Var) (aK ((((((x2.getD x0.toNat aa).q).Terms).getD i0 ay).C).tdiv y0)))])) (aB c9 (aI aZ ((((x2.getD x0.toNat aa).q).Terms)) i0 ay (aC (show (y0:Int)≠0 from g5) (bp (tT (c:=aq) iw s1 [(au.mk (((((x2.getD x0.toNat aa).q).Terms).getD i0 ay).Var) (aK ((((((x2.getD x0.toNat aa).q).Terms).getD i0 ay).C).tdiv y0)))] 24 (by decide) (by first | (simp;done) | simpa using g6)) (aC (wA 88 2 aq s1 [(au.mk (((((x2.getD x0.toNat aa).q).Terms).getD i0 ay).Var) (aK ((((((x2.getD x0.toNat aa).q).Terms).getD i0 ay).C).tdiv y0)))]) (aH i0 aN))))))
   ·subst e2;have H21:=a8 H19;refine aR H21 fun y4 h13 H22 => ?_;refine aR H22 fun y5 h14 H23 => ?_;refine pD 5 [r0 [.v,.v,.v,.rl x0.toNat 3 (iI ((x2.getD x0.toNat aa).scale)),.v,.c true (.tup [iI y4.1,iI y4.2]),.v,.v,.v,.v,.v],r0 [.v,.v,.c true (.bool y5),.v]] [.only [0,1,4,5,6,13,16,130] [4,13,115,1000,1001,1002]] 5 [] (aC (dI (f:=ah) (l:=x2) (n:=x0.toNat) 5 3 1 (by omega) (by decide)) (aC (ot (f:=ah) (l:=x2) (n:=x0.toNat) aa 3 (by omega)) (aC Tryz.call58 (aF (iU _ _ _ h13) (aC Tryz.call45 (aF (dc _ _ _ h14) (aT aN))))))) ?_;refine aV H23 (fun c10 H24 => ?_) (fun c11 H25 => ?_)
    ·refine aR H24 fun y6 h15 H26 => ?_;refine aL H26 fun g7 H27 => ?_;refine aR H27 fun y7 h16 H28 => ?_;refine aR H28 fun y8 h17 H29 => ?_;refine pD 11 [.eqT 130 bF,r0 (V 6 [.fz 115,.rs x0.toNat 0,.rwH 1001 (.row 76 5 (y6.map ah)),.v,.v,.rs x0.toNat 3,.rwH 1001 (.row 76 5 (y7.map ah))]),r0 [.v,.c true (.agg [.str y8.Var,iI y8.C]),.m,.m],V3] [.only [0,1,4,5,18,19] [4,18,1000,1001,1002]] 10 [false] (aM c10 (aC (dI (f:=ah) (l:=x2) (n:=x0.toNat) 5 0 2 (by omega) (by decide)) (aC ((qS (f:=ah) 76 5 x2 x0.toNat aa (aj.mk (Linear.mk (aK ((((x2.getD x0.toNat aa).q).Const).tdiv y0)) u0) ((x2.getD x0.toNat aa).mults) ((x2.getD x0.toNat aa).scale) ((x2.getD x0.toNat aa).lost)) 0 [iI (aK ((((x2.getD x0.toNat aa).q).Const).tdiv y0)),dS aq u0] (by omega) rfl).trans (congrArg (fun l=>AO.row 76 5 (l.map ah)) (MQ h15))) (aC (dI (f:=ah) (l:=y6) (n:=x0.toNat) 5 3 1 (by omega) (by decide)) (aC ((qS (f:=ah) 76 5 y6 x0.toNat aa (aj.mk (Linear.mk (((y6.getD x0.toNat aa).q).Const) (((y6.getD x0.toNat aa).q).Terms)) ((y6.getD x0.toNat aa).mults) y4.1 ((y6.getD x0.toNat aa).lost)) 3 [iI y4.1] (by omega) rfl).trans (congrArg (fun l=>AO.row 76 5 (l.map ah)) (MQ h16))) (aC Tryz.call59 (aF (pE _ _ h17) aN))))))) ?_;refine aV H29 (fun c12 H30 => ?_) (fun c13 H31 => ?_)
     ·refine aR H30 fun y9 h18 H32 => ?_;obtain rfl:=sI H32;exact pR 6 [r0 [.v,.v,.e bT,.v,.s,.s,.s,.v],V3,r0 [.b,.v,.v,.v,.hM [(1000,1000),(1001,1001),(1002,1002)] [(0,900)] (iI y9.1) [(0,.row 41 7 (y9.2.2.map az)),(1000,.cells 73 [.rslice 1001,.rslice 0,iI x1]),(1001,.row 76 5 (y9.2.1.map ah))],.m,.v]] [.wkH 4 0 [],.ren [(900,0),(4,4),(1000,1000),(1001,1001)]] [0,1000,1001] (aB c12 (aC Tryz.call61 (aC (dF _ _ _ _ _ _ h18) aN)))
     ·refine aV H31 (fun c14 H33 => ?_) (fun c15 H34 => ?_)
      ·refine aR H33 fun y10 h19 H35 => ?_;obtain rfl:=sI H35;exact pR 7 [r0 [.v,.v,.e bF,.v,.v,.v,.v,.v],.eqT 153 bT,V3,r0 [.b,.v,.v,.v,.hM [(1000,1000),(1001,1001),(1002,1002)] [(0,900)] (iI y10.1) [(0,.row 41 7 (y10.2.2.map az)),(1000,.cells 73 [.rslice 1001,.rslice 0,iI x1]),(1001,.row 76 5 (y10.2.1.map ah))],.m,.v]] [.wkH 4 0 [],.ren [(900,0),(4,4),(1000,1000),(1001,1001)]] [0,1000,1001] (aB c13 (aB c14 (aC Tryz.call61 (aC (dF _ _ _ _ _ _ h19) aN))))
      ·refine aR H34 fun y11 h20 H36 => ?_;obtain rfl:=sI H36;exact pR 7 [r0 [.v,.v,.e bF,.v,.v,.v,.v,.v],.eqT 153 bF,r0 [.b,.v,.v,.v,.hM [(1000,1000),(1001,1001),(1002,1002)] [(0,900)] (iI y11.1) [(0,.row 41 7 (y11.2.2.2.map az)),(1000,.cells 73 [.rslice 1001,.rslice 0,iI y11.2.1]),(1001,.row 76 5 (y11.2.2.1.map ah))],.m,.v]] [.wkH 4 0 [],.ren [(900,0),(4,4),(1000,1000),(1001,1001)]] [0,1000,1001] (aB c13 (aB c15 (aC Tryz.call60 (aC (iH _ _ _ _ _ _ h20) aN))))
    ·refine aR H25 fun y12 h21 H37 => ?_;refine aL H37 fun g8 H38 => ?_;refine aR H38 fun y13 h22 H39 => ?_;refine aL H39 fun g9 H40 => ?_;refine aR H40 fun y14 h23 H41 => ?_;refine aR H41 fun y15 h24 H42 => ?_;refine pD 13 [.eqT 130 bT,r0 [.v,.v,.v,.rs x0.toNat 4,.rwH 1001 (.row 76 5 (y12.map ah))],V1,r0 (V 6 [.fz 115,.rs x0.toNat 0,.rwH 1001 (.row 76 5 (y13.map ah)),.v,.v,.rs x0.toNat 3,.rwH 1001 (.row 76 5 (y14.map ah))]),r0 [.v,.c true (.agg [.str y15.Var,iI y15.C]),.m,.m],V3] [.only [0,1,4,5,18,19] [4,18,1000,1001,1002]] 12 [true] (aM c11 (aC (dI (f:=ah) (l:=x2) (n:=x0.toNat) 5 4 1 (by omega) (by decide)) (aC ((qS (f:=ah) 76 5 x2 x0.toNat aa (aj.mk (Linear.mk (((x2.getD x0.toNat aa).q).Const) (((x2.getD x0.toNat aa).q).Terms)) ((x2.getD x0.toNat aa).mults) ((x2.getD x0.toNat aa).scale) true) 4 [.bool true] (by omega) rfl).trans (congrArg (fun l=>AO.row 76 5 (l.map ah)) (MQ h21))) (aC (dI (f:=ah) (l:=y12) (n:=x0.toNat) 5 0 2 (by omega) (by decide)) (aC ((qS (f:=ah) 76 5 y12 x0.toNat aa (aj.mk (Linear.mk (aK ((((x2.getD x0.toNat aa).q).Const).tdiv y0)) u0) ((y12.getD x0.toNat aa).mults) ((y12.getD x0.toNat aa).scale) ((y12.getD x0.toNat aa).lost)) 0 [iI (aK ((((x2.getD x0.toNat aa).q).Const).tdiv y0)),dS aq u0] (by omega) rfl).trans (congrArg (fun l=>AO.row 76 5 (l.map ah)) (MQ h22))) (aC (dI (f:=ah) (l:=y13) (n:=x0.toNat) 5 3 1 (by omega) (by decide)) (aC ((qS (f:=ah) 76 5 y13 x0.toNat aa (aj.mk (Linear.mk (((y13.getD x0.toNat aa).q).Const) (((y13.getD x0.toNat aa).q).Terms)) ((y13.getD x0.toNat aa).mults) 1 ((y13.getD x0.toNat aa).lost)) 3 [iI 1] (by omega) rfl).trans (congrArg (fun l=>AO.row 76 5 (l.map ah)) (MQ h23))) (aC Tryz.call59 (aF (pE _ _ h24) aN))))))))) ?_;refine aV H42 (fun c16 H43 => ?_) (fun c17 H44 => ?_)
     ·refine aR H43 fun y16 h25 H45 => ?_;obtain rfl:=sI H45;exact pR 6 [r0 [.v,.v,.e bT,.v,.s,.s,.s,.v],V3,r0 [.b,.v,.v,.v,.hM [(1000,1000),(1001,1001),(1002,1002)] [(0,900)] (iI y16.1) [(0,.row 41 7 (y16.2.2.map az)),(1000,.cells 73 [.rslice 1001,.rslice 0,iI x1]),(1001,.row 76 5 (y16.2.1.map ah))],.m,.v]] [.wkH 4 0 [],.ren [(900,0),(4,4),(1000,1000),(1001,1001)]] [0,1000,1001] (aB c16 (aC Tryz.call61 (aC (dF _ _ _ _ _ _ h25) aN)))
     ·refine aV H44 (fun c18 H46 => ?_) (fun c19 H47 => ?_)
      ·refine aR H46 fun y17 h26 H48 => ?_;obtain rfl:=sI H48;exact pR 7 [r0 [.v,.v,.e bF,.v,.v,.v,.v,.v],.eqT 153 bT,V3,r0 [.b,.v,.v,.v,.hM [(1000,1000),(1001,1001),(1002,1002)] [(0,900)] (iI y17.1) [(0,.row 41 7 (y17.2.2.map az)),(1000,.cells 73 [.rslice 1001,.rslice 0,iI x1]),(1001,.row 76 5 (y17.2.1.map ah))],.m,.v]] [.wkH 4 0 [],.ren [(900,0),(4,4),(1000,1000),(1001,1001)]] [0,1000,1001] (aB c17 (aB c18 (aC Tryz.call61 (aC (dF _ _ _ _ _ _ h26) aN))))
      ·refine aR H47 fun y18 h27 H49 => ?_;obtain rfl:=sI H49;exact pR 7 [r0 [.v,.v,.e bF,.v,.v,.v,.v,.v],.eqT 153 bF,r0 [.b,.v,.v,.v,.hM [(1000,1000),(1001,1001),(1002,1002)] [(0,900)] (iI y18.1) [(0,.row 41 7 (y18.2.2.2.map az)),(1000,.cells 73 [.rslice 1001,.rslice 0,iI y18.2.1]),(1001,.row 76 5 (y18.2.2.1.map ah))],.m,.v]] [.wkH 4 0 [],.ren [(900,0),(4,4),(1000,1000),(1001,1001)]] [0,1000,1001] (aB c17 (aB c19 (aC Tryz.call60 (aC (iH _ _ _ _ _ _ h27) aN))))
  ·refine aR H18 fun y19 h28 H50 => ?_;refine pD 6 [.eqT 42 bT,r0 [.v,.v,.v,.rl x0.toNat 3 (iI ((x2.getD x0.toNat aa).scale)),.v,.c true (.tup [iI y19.1,iI y19.2]),.v,.v,.v,.v,.v]] [.only [0,1,4,5,6,7,8,9] [4,1000,1001,1002]] 5 [true] (aM c7 (aC (dI (f:=ah) (l:=x2) (n:=x0.toNat) 5 3 1 (by omega) (by decide)) (aC (ot (f:=ah) (l:=x2) (n:=x0.toNat) aa 3 (by omega)) (aC Tryz.call58 (aF (iU _ _ _ h28) aN))))) ?_;refine aV H50 (fun c20 H51 => ?_) (fun c21 H52 => ?_)
   ·obtain rfl:=sI H51;exact pR 5 [r0 [.v,.v,.v,.rl x0.toNat 4 (.bool ((x2.getD x0.toNat aa).lost)),.e bT,.s,.s,.s,.s,.v],r0 [.b,.m,.v]] [.wkH 4 0 [],.ren [(1002,0),(4,4),(1000,1000),(1001,1001)]] [0,1000,1001] (aC (dI (f:=ah) (l:=x2) (n:=x0.toNat) 5 4 1 (by omega) (by decide)) (aC (ot (f:=ah) (l:=x2) (n:=x0.toNat) aa 4 (by omega)) (aB c20 aN)))
   ·refine aR H52 fun y20 h29 H53 => ?_;refine pD 1 [r0 [.v,.v,.v,.rl x0.toNat 4 (.bool ((x2.getD x0.toNat aa).lost)),.e bF,.v,.v,.c true (.bool y20),.v,.v]] [.only [0,1,4,5,6,7,8,61] [4,1000,1001,1002]] 1 [] (aC (dI (f:=ah) (l:=x2) (n:=x0.toNat) 5 4 1 (by omega) (by decide)) (aC (ot (f:=ah) (l:=x2) (n:=x0.toNat) aa 4 (by omega)) (aB c21 (aC Tryz.call45 (aF (dc _ _ _ h29) (aT aN)))))) ?_;refine aV H53 (fun c22 H54 => ?_) (fun c23 H55 => ?_)
    ·refine aL H54 fun g10 H56 => ?_;refine pA 9 [.eqT 61 bF,r0 (V 4 [.e (nI x2.length),.mk x2.length,.rwH 68 (.row 3 1 ((List.replicate x2.length (0:Int)).map ao)),.v,.b,.m,.m]),r0 [.v,.v,.v,.rl x0.toNat 2 (.dmap (((x2.getD x0.toNat aa).mults).map (dR ao))),.m]] [.only [0,1,4,5,6,7,10,75] [4,10,68,75,1000,1001,1002]] 8 [false] (fD x0 x1 x2 x3 y0 y19 [] (List.replicate x2.length (0:Int))) (aM c22 (aT (aC (aQ ah x2) (aC (show ((x2.length:Nat):Int)=((x2.length:Nat):Int)∧((x2.length:Nat):Int)=((x2.length:Nat):Int)∧8*x2.length≤140737488355328∧x2.length≤9223372036854775807 from ⟨rfl,rfl,by omega,by omega⟩) (aC (xY (z:=zQ Tryz.prog 3) ao (0:Int) x2.length 3 1 (by kernel_rfl)) (aC (dI (f:=ah) (l:=x2) (n:=x0.toNat) 5 2 1 (by omega) (by decide)) (aC (ot (f:=ah) (l:=x2) (n:=x0.toNat) aa 2 (by omega)) aN))))))) ?_;refine sw (cc:=ao) 75 (fD x0 x1 x2 x3 y0 y19) (by kernel_rfl) H56 [.v] (fun i2 s2=>⟨by kernel_rfl,by kernel_rfl⟩) (fun i2 s2=>⟨161,[(0,.hptr 1000 0),(1,iI x0),(4,.hptr 4 0),(5,iI 0),(6,.hptr 1001 (x0.toNat*5)),(7,iI y0),(10,.hptr 10 0),(75,.hptr 75 0),(76,.tup [.bool false]),(77,.bool false)],[(4,.cells 28 [.eslice,iI 0]),(10,.cells 28 [.rslice 68,iI y19.1]),(68,.row 3 1 (s2.map ao)),(75,.iter (((x2.getD x0.toNat aa).mults).map (dR ao)) i2),(1000,.cells 73 [.rslice 1001,.rslice 1002,iI x1]),(1001,.row 76 5 (x2.map ah)),(1002,.row 41 7 (x3.map az))]⟩) (fun i2 s2=>by kernel_rfl) (fun i2 s2 n1 e1=>⟨161,[(0,.hptr 1000 0),(1,iI x0),(4,.hptr 4 0),(5,iI 0),(6,.hptr 1001 (x0.toNat*5)),(7,iI y0),(10,.hptr 10 0),(75,.hptr 75 0),(76,.tup [.bool true,iI e1.1,iI e1.2]),(77,.bool true)],[(4,.cells 28 [.eslice,iI 0]),(10,.cells 28 [.rslice 68,iI y19.1]),(68,.row 3 1 (s2.map ao)),(75,.iter (((x2.getD x0.toNat aa).mults).map (dR ao)) (i2++[n1])),(1000,.cells 73 [.rslice 1001,.rslice 1002,iI x1]),(1001,.row 76 5 (x2.map ah)),(1002,.row 41 7 (x3.map az))]⟩) (fun i2 s2 n1 e1=>by kernel_rfl) (fun i2 s2 H57 => ?_) (fun i2 s2 n1 e1 h30 q2 h31 h32 => ?_)
     ·obtain rfl:=sI H57;exact pR 6 [r0 [.v,.m,.v]] [.fz 68,.ren [(1002,0),(4,4),(1000,1000),(1001,1001)]] [0,1000,1001] aN
     ·refine aL h31 fun g11 H58 => ?_;refine aL H58 fun g12 H59 => ?_;refine aR H59 fun y21 h33 H60 => ?_;obtain rfl:=sI H60;exact pB 7 [r0 [.en n1 (.tup [iI e1.1,iI e1.2]),.v,.v,.v,.v],r0 (V 5 [.rs e1.1.toNat 0,.rwH 68 (.row 3 1 (y21.map ao))])] [.only [0,1,4,5,6,7,10,75] [4,10,68,75,1000,1001,1002]] (fD x0 x1 x2 x3 y0 y19 (i2++[n1]) y21) (aC (kH i2 n1) (aC (yk (cc:=ao) h30) (aC (show (0:Int)≤e1.1∧e1.1<((s2.map ao).length:Int) from by rw [MM];exact g11) (aC (dI (f:=ao) (l:=s2) (n:=e1.1.toNat) 1 0 1 (by omega) (by decide)) (aC ((qS (f:=ao) 3 1 s2 e1.1.toNat 0 e1.2 0 [iI e1.2] (by omega) rfl).trans (congrArg (fun l=>AO.row 3 1 (l.map ao)) (MQ h33))) aN)))))
    ·obtain rfl:=sI H55;exact pR 5 [.eqT 61 bT,r0 [.b,.m,.v]] [.wkH 4 0 [],.ren [(1002,0),(4,4),(1000,1000),(1001,1001)]] [0,1000,1001] (aM c23 aN)
noncomputable def bJ (x0:List Linear) (x1:Int):Option ((List Bind)×Int×al×Int) :=
 (ck x0).bind fun y0 =>
 ((
  bif y0 then (
   bif decide (x1<1) then (
    some true
   ) else (
    bif decide (x1≥1000000000) then (
     some true
    ) else (
     (cy x0).bind fun y1 =>
     some (decide (y1≥x1))
    )
   )
  ) else (
   some true
  )
 ):Option Bool).bind fun v0 =>
 bif v0 then (
  some ([],0,(al.mk [] 0),1)
 ) else (
  bif decide (((x0.length:Nat):Int)>6000) then (
   some ([],0,(al.mk [] 0),3)
  ) else (
   (dn (σ:=(List aj)) (ε:=(List aj)) (ρ:=Empty) (fun i0 s0 =>
    bf ((s0.length+1)*56≤140737488355328) <|
    some (.go (s0++[(aj.mk (Linear.mk ((x0.getD i0 aG).Const) ((x0.getD i0 aG).Terms)) (ksort (bW (((i0:Nat):Int):Int) 1 [])) 1 false)]))
   ) (fun i0 s0=>s0) (x0.length-0) 0 []).bind <| ca fun u0 =>
   (gn (σ:=(Int×(List aj)×(List Bind)×Int)) (ε:=((List aj)×(List Bind)×Int)) (ρ:=((List Bind)×Int×al×Int)) (fun s1 =>
    bif decide (s1.1<((u0.length:Nat):Int)) then (
     (gn (σ:=((List aj)×(List Bind)×Int)) (ε:=((List aj)×(List Bind)×Int)) (ρ:=(eR (Int×(List aj)×(List Bind)×Int) ((List aj)×(List Bind)×Int) ((List Bind)×Int×al×Int))) (fun s2 =>
      bf (0≤s1.1∧s1.1<(s2.1.length:Int)) <|
      bf (s1.1.toNat<s2.1.length) <|
      (eF (Linear.mk (((s2.1.getD s1.1.toNat aa).q).Const) (((s2.1.getD s1.1.toNat aa).q).Terms))).bind fun y2 =>
      bif y2 then (
       some (.brk (s2.1,s2.2.1,s2.2.2))
      ) else (
       (bt s1.1 s2.2.2 s2.1 s2.2.1).bind fun y3 =>
       bif (y3.1.2==0) then (
        some (.go (y3.2.2.1,y3.2.2.2,y3.2.1))
       ) else (
        some (.ret (.ret ([],0,y3.1.1,y3.1.2)))
       )
      )
     ) 4294967296 (s1.2.1,s1.2.2.1,s1.2.2.2)).bind <| aft fun u1 =>
     some (.go ((aK (s1.1+1)),u1.1,u1.2.1,u1.2.2))
    ) else (
     some (.brk (s1.2.1,s1.2.2.1,s1.2.2.2))
    )
   ) 4294967296 (0,u0,[],x1)).bind <| aft fun u2 =>
   bif decide (u2.2.2≥1000000000) then (
    some ([],0,(al.mk [] 0),3)
   ) else (
    (bB x0).bind fun y4 =>
    (dn (σ:=(List Bind)) (ε:=(List Bind)) (ρ:=Empty) (fun i1 s3 =>
     (fW y4 ((u2.2.1.getD i1 ax).Var)).bind fun y5 =>
     ((
      bif y5.2 then (
       bf ((s3.length+1)*112≤140737488355328) <|
       some (s3++[(Bind.mk ((u2.2.1.getD i1 ax).Kind) ((u2.2.1.getD i1 ax).Var) (Linear.mk (((u2.2.1.getD i1 ax).Dim).Const) (((u2.2.1.getD i1 ax).Dim).Terms)) (Shape.mk (((u2.2.1.getD i1 ax).Row).Row) (((u2.2.1.getD i1 ax).Row).Dims)) ((u2.2.1.getD i1 ax).Elem))])
      ) else (
       some s3
      )
     ):Option (List Bind)).bind fun v1 =>
     some (.go v1)
    ) (fun i1 s3=>s3) (u2.2.1.length-0) 0 []).bind <| ca fun u3 =>
    (jL (fun x=>x.Var) u3).bind fun y6 =>
    some (y6,u2.2.2,(al.mk [] 0),0)
   )
  )
 )
def eP (x0:List Linear) (x1:Int) (v0:Bool):AS:=⟨133,[(0,dS aw x0),(1,iI x1),(4,.eslice),(5,iI 0),(6,.hptr 6 0),(7,iI 0),(35,.bool v0)],[(6,.cells 28 [.eslice,iI 0])]⟩
def jA (x0:List Linear) (x1:Int) (i0:Nat) (s0:List aj):AS:=⟨133,[(0,dS aw x0),(4,.eslice),(5,iI 0),(6,.hptr 6 0),(7,iI 0),(8,.hptr 43 0),(44,dS aw x0),(45,nI x0.length),(46,nI i0)],[(6,.cells 28 [.eslice,iI 0]),(43,.cells 73 [.rslice 62,.eslice,iI x1]),(62,.row 76 5 (s0.map ah))]⟩
def oa (x0:List Linear) (x1:Int) (u4:List aj):AS:=⟨133,[(0,dS aw x0),(4,.eslice),(5,iI 0),(6,.hptr 6 0),(7,iI 0),(8,.hptr 43 0)],[(6,.cells 28 [.eslice,iI 0]),(43,.cells 73 [.rslice 62,.eslice,iI x1]),(62,.row 76 5 (u4.map ah))]⟩
def jC (x0:List Linear) (u0:List aj) (s1:Int×(List aj)×(List Bind)×Int):AS:=⟨133,[(0,dS aw x0),(4,.eslice),(5,iI 0),(6,.hptr 6 0),(7,iI 0),(8,.hptr 43 0),(70,nI u0.length),(71,iI s1.1)],[(6,.cells 28 [.eslice,iI 0]),(43,.cells 73 [.rslice 62,.rslice 900,iI s1.2.2.2]),(62,.row 76 5 (s1.2.1.map ah)),(900,.row 41 7 (s1.2.2.1.map az))]⟩
def mE (x0:List Linear) (u5:(List aj)×(List Bind)×Int):AS:=⟨133,[(0,dS aw x0),(4,.eslice),(5,iI 0),(6,.hptr 6 0),(7,iI 0),(8,.hptr 43 0)],[(6,.cells 28 [.eslice,iI 0]),(43,.cells 73 [.rslice 62,.rslice 900,iI u5.2.2]),(62,.row 76 5 (u5.1.map ah)),(900,.row 41 7 (u5.2.1.map az))]⟩
def jq (x0:List Linear) (u0:List aj) (s1:Int×(List aj)×(List Bind)×Int) (s2:(List aj)×(List Bind)×Int):AS:=⟨133,[(0,dS aw x0),(4,.eslice),(5,iI 0),(6,.hptr 6 0),(7,iI 0),(8,.hptr 43 0),(11,iI s1.1),(70,nI u0.length),(71,iI s1.1)],[(6,.cells 28 [.eslice,iI 0]),(43,.cells 73 [.rslice 62,.rslice 901,iI s2.2.2]),(62,.row 76 5 (s2.1.map ah)),(901,.row 41 7 (s2.2.1.map az))]⟩
def mS (x0:List Linear) (u0:List aj) (s1:Int×(List aj)×(List Bind)×Int) (u6:(List aj)×(List Bind)×Int):AS:=⟨133,[(0,dS aw x0),(4,.eslice),(5,iI 0),(6,.hptr 6 0),(7,iI 0),(8,.hptr 43 0),(70,nI u0.length),(71,iI s1.1)],[(6,.cells 28 [.eslice,iI 0]),(43,.cells 73 [.rslice 62,.rslice 901,iI u6.2.2]),(62,.row 76 5 (u6.1.map ah)),(901,.row 41 7 (u6.2.1.map az))]⟩
def jF (u2:(List aj)×(List Bind)×Int) (y4:List aJ) (i1:Nat) (s3:List Bind):AS:=⟨133,[(4,.rslice 123),(5,iI 0),(6,.hptr 6 0),(7,iI 0),(8,.hptr 43 0),(14,dS bq y4),(106,.rslice 900),(107,nI u2.2.1.length),(108,nI i1)],[(6,.cells 28 [.eslice,iI 0]),(43,.cells 73 [.rslice 62,.rslice 900,iI u2.2.2]),(62,.row 76 5 (u2.1.map ah)),(123,.row 41 7 (s3.map az)),(900,.row 41 7 (u2.2.1.map az))]⟩
def og (u2:(List aj)×(List Bind)×Int) (u7:List Bind):AS:=⟨133,[(4,.rslice 123),(5,iI 0),(6,.hptr 6 0),(7,iI 0),(8,.hptr 43 0)],[(6,.cells 28 [.eslice,iI 0]),(43,.cells 73 [.rslice 62,.rslice 900,iI u2.2.2]),(62,.row 76 5 (u2.1.map ah)),(123,.row 41 7 (u7.map az)),(900,.row 41 7 (u2.2.1.map az))]⟩
def iK (u2:(List aj)×(List Bind)×Int) (y4:List aJ) (i1:Nat) (v1:List Bind):AS:=⟨133,[(4,.rslice 123),(5,iI 0),(6,.hptr 6 0),(7,iI 0),(8,.hptr 43 0),(14,dS bq y4),(106,.rslice 900),(107,nI u2.2.1.length),(108,nI i1)],[(6,.cells 28 [.eslice,iI 0]),(43,.cells 73 [.rslice 62,.rslice 900,iI u2.2.2]),(62,.row 76 5 (u2.1.map ah)),(123,.row 41 7 (v1.map az)),(900,.row 41 7 (u2.2.1.map az))]⟩
theorem dL (x0:List Linear) (x1:Int) (r:(List Bind)×Int×al×Int) (H:bJ x0 x1=some r):bG Tryz.prog 9 [dS aw x0,iI x1] (.tup [dS az r.1,iI r.2.1,.agg [dS ao r.2.2.1.Mults,iI r.2.2.1.Mod],iI r.2.2.2]):=by
 unfold bJ at H;refine aX Tryz.func9 133 [.tmp 4,.tmp 5,.cell 6 28,.tmp 7] ?_;refine aR H fun y0 h0 H0 => ?_;refine pD 4 [r0 [.v,.v,.m,.v]] [.only [0,1,4,5,6,7] [6]] 4 [] aN ?_;refine aR H0 fun v0 h1 H1 => ?_;refine bV 0 (eP x0 x1 v0) (by kernel_rfl) ?_ ?_
 ·refine aV h1 (fun c0 H2 => ?_) (fun c1 H3 => ?_)
  ·refine aV H2 (fun c2 H4 => ?_) (fun c3 H5 => ?_)
   ·obtain rfl:=sI H4;exact pB 1 [r0 [.v,.c true bT,.v,.v,.v,.e bT,.v,.v,.s,.s,.v,.v,.s,.s,.s,.s,.v]] [.only [0,1,4,5,6,7,35] [6]] (eP x0 x1 true) (aC Tryz.call27 (aC (bG.eq (be _ _ h0) (cB c0)) (aT (aB c2 aN))))
   ·refine aV H5 (fun c4 H6 => ?_) (fun c5 H7 => ?_)
    ·obtain rfl:=sI H6;exact pB 1 [r0 [.v,.c true bT,.v,.v,.v,.e bF,.v,.v,.v,.e bT,.v,.v,.s,.s,.s,.s,.v]] [.only [0,1,4,5,6,7,35] [6]] (eP x0 x1 true) (aC Tryz.call27 (aC (bG.eq (be _ _ h0) (cB c0)) (aT (aB c3 (aB c4 aN)))))
    ·refine aR H7 fun y1 h2 H8 => ?_;obtain rfl:=sI H8;exact pB 1 [r0 [.v,.c true bT,.v,.v,.v,.e bF,.v,.v,.v,.e bF,.v,.v,.v,.c true (iI y1),.v,.v,.v]] [.only [0,1,4,5,6,7,35] [6]] (eP x0 x1 (decide (y1≥x1))) (aC Tryz.call27 (aC (bG.eq (be _ _ h0) (cB c0)) (aT (aB c3 (aB c5 (aC Tryz.call28 (aF (lD _ _ h2) aN)))))))
  ·obtain rfl:=sI H3;exact pB 1 [r0 [.v,.c true bF,.v,.v,.s,.s,.v,.v,.s,.s,.v,.v,.s,.s,.s,.s,.v]] [.only [0,1,4,5,6,7,35] [6]] (eP x0 x1 true) (aC Tryz.call27 (aC (bG.eq (be _ _ h0) (cB c1)) (aT aN)))
 ·refine aV H1 (fun c6 H9 => ?_) (fun c7 H10 => ?_)
  ·obtain rfl:=sI H9;exact pR 5 [.eqT 35 bT,r0 [.b,.v,.v,.m,.v]] [.wk 4 [],.wkH 6 0 []] [] (aB c6 aN)
  ·refine aV H10 (fun c8 H11 => ?_) (fun c9 H12 => ?_)
   ·obtain rfl:=sI H11;exact pR 11 [.eqT 35 bF,r0 [.v,.e (nI x0.length),.v],.eqT 39 bT,r0 [.b,.v,.v,.m,.v]] [.wk 4 [],.wkH 6 0 []] [] (aB c7 (aT (aC (aQ aw x0) (aB c8 aN))))
   ·have c9p:=MI c9;refine pA 15 [.eqT 35 bF,r0 [.v,.e (nI x0.length),.v],.eqT 39 bF,r0 [.v,.b,.m,.v],r0 [.v,.e (nI x0.length),.v]] [.erH 43 0 62 76 5,.only [0,4,5,6,7,8,44,45,46] [6,43,62]] 13 [false,false] (jA x0 x1 0 []) (aB c7 (aT (aC (aQ aw x0) (aB c9 (aT (aC (aQ aw x0) aN)))))) ?_;refine aR H12 fun R0 h3 H13 => ?_;refine pJ 1 (oa x0 x1) R0 ?_ (fun u0 e0 => ?_)
    ·refine pC (jA x0 x1) h3 (fun i0 s0 h4 e1 => ?_) (fun i0 s0 h5 q0 h6 h7 => ?_)
     ·have c10:=lF i0 x0.length (by omega);subst e1;exact pB 5 [r0 [.e bF]] [.only [0,4,5,6,7,8] [6,43,62]] (oa x0 x1 s0) (aB c10 aN)
     ·have c11:=lT i0 x0.length (by omega);refine aL h6 fun g0 H14 => ?_;refine bO 0 (ps:=[(x0.map aw).length≤9223372036854775807]) (by kernel_rfl) (fun l0 => ?_);have l1:x0.length≤9223372036854775807:=by simpa only [cu,MM] using l0
      clear l0;obtain rfl:=sI H14;exact pB 12 [r0 [.e bT],r0 [.v,.e (.dptr (aw (x0.getD i0 aG))),.v,.m,.v,.m],.cv [.ren [(6,6),(10,10),(43,43),(62,900)]],.rg 13 (V 4 [.lt,.v,.mm,.v,.mi ((ksort (bW (((i0:Nat):Int):Int) 1 [])).map (dR ao)),.v,.b,.b,.apx ((s0++[(aj.mk (Linear.mk ((x0.getD i0 aG).Const) ((x0.getD i0 aG).Terms)) (ksort (bW (((i0:Nat):Int):Int) 1 [])) 1 false)]).map ah)]) [.v,.v,.m],V2] [.only [0,4,5,6,7,8,44,45,46] [6,43,62]] (jA x0 x1 (i0+1) (s0++[(aj.mk (Linear.mk ((x0.getD i0 aG).Const) ((x0.getD i0 aG).Terms)) (ksort (bW (((i0:Nat):Int):Int) 1 [])) 1 false)])) (aB c11 (aI bo x0 i0 aG (aC (Mj hU (((i0:Nat):Int):Int) 1 []) (bp (Ig (c:=ah) uG s0 [(aj.mk (Linear.mk ((x0.getD i0 aG).Const) ((x0.getD i0 aG).Terms)) (ksort (bW (((i0:Nat):Int):Int) 1 [])) 1 false)] 56 (by decide) (by first | (simp;done) | simpa using g0) List.map_append.symm) (aH i0 aN)))))
    ·subst e0;have H15:=a8 H13;refine pA 4 [r0 (V 4 [.e (nI u0.length),.v])] [.erH 43 1 900 41 7,.only [0,4,5,6,7,8,70,71] [6,43,62,900]] 4 [] (jC x0 u0 (0,u0,[],x1)) (aT (aC (aQ ah u0) aN)) ?_;refine aR H15 fun R1 h8 H16 => ?_;refine pJ 1 (mE x0) R1 ?_ (fun u2 e2 => ?_)
     ·refine lB (jC x0 u0) (by kernel_rfl) h8 (fun s1 q1 h9 h10 => ?_)
      ·refine aV h9 (fun c12 H17 => ?_) (fun c13 H18 => ?_)
       ·have c12p:=MJ c12;refine pA 11 [V1,.eqT 72 bT,V2] [.ren [(6,6),(43,43),(62,62),(900,901)],.only [0,4,5,6,7,8,11,70,71] [6,43,62,901]] 10 [true] (jq x0 u0 s1 (s1.2.1,s1.2.2.1,s1.2.2.2)) (aB c12 aN) ?_;refine aR H17 fun R2 h11 H19 => ?_;refine pJ 2 (mS x0 u0 s1) R2 ?_ (fun u1 e3 => ?_)
        ·refine lB (jq x0 u0 s1) (by kernel_rfl) h11 (fun s2 q2 h12 h13 => ?_)
         ·refine aL h12 fun g1 H20 => ?_;refine aL H20 fun g2 H21 => ?_;refine aR H21 fun y2 h14 H22 => ?_;refine pD 3 [r0 (V 7 [.rl s1.1.toNat 0 (.agg (aw ((s2.1.getD s1.1.toNat aa).q))),.c true (.bool y2),.v])] [.only [0,4,5,6,7,8,11,70,71,83] [6,43,62,901]] 3 [] (aC (show (0:Int)≤s1.1∧s1.1<((s2.1.map ah).length:Int) from by rw [MM];exact g1) (aC (dI (f:=ah) (l:=s2.1) (n:=s1.1.toNat) 5 0 2 (by omega) (by decide)) (aC (yK (f:=ah) (l:=s2.1) (n:=s1.1.toNat) aa 0 2 (by omega)) (aC Tryz.call29 (aF (uQ _ _ h14) (aT aN)))))) ?_;refine aV H22 (fun c14 H23 => ?_) (fun c15 H24 => ?_)
          ·obtain rfl:=sI H23;obtain rfl:=dM h13;exact pB 3 [.eqT 83 bF] [.only [0,4,5,6,7,8,70,71] [6,43,62,901]] (mS x0 u0 s1 (s2.1,s2.2.1,s2.2.2)) (aM c14 aN)
          ·refine aR H24 fun y3 h15 H25 => ?_;refine pD 8 [.eqT 83 bT,r0 [.v,.v,.hM [(43,1000),(62,1001),(901,1002)] [(0,900)] (.tup [.agg [dS ao y3.1.1.Mults,iI y3.1.1.Mod],iI y3.1.2]) [(0,.row 41 7 (y3.2.2.2.map az)),(1000,.cells 73 [.rslice 1001,.rslice 0,iI y3.2.1]),(1001,.row 76 5 (y3.2.2.1.map ah))],.v,.v,.v,.m,.m,.v],V2] [.only [0,4,5,6,7,8,11,12,13,70,71,91] [6,12,43,62,900]] 7 [true] (aM c15 (aC Tryz.call30 (aC (pG _ _ _ _ _ h15) aN))) ?_;refine aV H25 (fun c16 H26 => ?_) (fun c17 H27 => ?_)
           ·obtain rfl:=sI H26;exact pB 3 [.eqT 91 bF] [.ren [(6,6),(43,43),(62,62),(900,901)],.only [0,4,5,6,7,8,11,70,71] [6,43,62,901]] (jq x0 u0 s1 (y3.2.2.1,y3.2.2.2,y3.2.1)) (aM c16 aN)
           ·obtain rfl:=sI H27;obtain rfl:=aW h13;obtain rfl:=sI (aP H19);obtain rfl:=aW h10;obtain rfl:=sI (aP H16);exact pR 5 [.eqT 91 bT,.rg 5 (V 4 [.m]) [.v]] [.wk 4 []] [] (aM c17 aN)
        ·subst e3;have H28:=bl H19;obtain rfl:=sI H28;exact pB 1 [r0 [.w,.v]] [.ren [(6,6),(43,43),(62,62),(901,900)],.only [0,4,5,6,7,8,70,71] [6,43,62,900]] (jC x0 u0 ((aK (s1.1+1)),u1.1,u1.2.1,u1.2.2)) aN
       ·obtain rfl:=sI H18;obtain rfl:=dM h10;exact pB 6 [V1,.eqT 72 bF] [.only [0,4,5,6,7,8] [6,43,62,900]] (mE x0 (s1.2.1,s1.2.2.1,s1.2.2.2)) (aB c13 aN)
     ·subst e2;have H29:=bl H16;refine aV H29 (fun c18 H30 => ?_) (fun c19 H31 => ?_)
      ·obtain rfl:=sI H30;exact pR 8 [V5,.eqT 99 bT,r0 [.b,.v,.v,.m,.v]] [.wk 4 [],.wkH 6 0 []] [] (aB c18 aN)
      ·have c19p:=MI c19;refine aR H31 fun y4 h16 H32 => ?_;refine pA 12 [V5,.eqT 99 bF,r0 [.v,.c true (dS bq y4),.v],r0 (V 4 [.e (nI u2.2.1.length),.v])] [.er 4 123 41 7,.only [4,5,6,7,8,14,106,107,108] [6,43,62,123,900]] 11 [false] (jF u2 y4 0 []) (aB c19 (aC Tryz.call31 (aF (dp _ _ h16) (aT (aC (aQ az u2.2.1) aN))))) ?_;refine aR H32 fun R3 h17 H33 => ?_;refine pJ 1 (og u2) R3 ?_ (fun u3 e4 => ?_)
       ·refine pC (jF u2 y4) h17 (fun i1 s3 h18 e5 => ?_) (fun i1 s3 h19 q3 h20 h21 => ?_)
        ·have c20:=lF i1 u2.2.1.length (by omega);subst e5;exact pB 5 [r0 [.e bF]] [.only [4,5,6,7,8] [6,43,62,123,900]] (og u2 s3) (aB c20 aN)
        ·have c21:=lT i1 u2.2.1.length (by omega);refine aR h20 fun y5 h22 H34 => ?_;refine pD 13 [r0 [.e bT],r0 [.v,.rl i1 0 (.agg (az (u2.2.1.getD i1 ax))),.m,.m],r0 [.v,.v,.v,.c true (.tup [iI y5.1,.bool y5.2]),.v,.v,.v,.v,.v],V1] [.only [4,5,6,7,8,14,16,106,107,108,119] [6,16,43,62,123,900]] 13 [true] (aB c21 (aC (show (0:Int)≤((i1:Nat):Int)∧((i1:Nat):Int)<((u2.2.1.map az).length:Int) from by rw [MM];omega) (aC (dI (f:=az) (l:=u2.2.1) (n:=i1) 7 0 7 (by omega) (by decide)) (aC (yK (f:=az) (l:=u2.2.1) (n:=i1) ax 0 7 (by omega)) (aC Tryz.call32 (aF (s9 y4 ((u2.2.1.getD i1 ax).Var) y5 h22) aN)))))) ?_;refine aR H34 fun v1 h23 H35 => ?_;refine bV 1 (iK u2 y4 i1 v1) (by kernel_rfl) ?_ ?_
         ·refine aV h23 (fun c22 H36 => ?_) (fun c23 H37 => ?_)
          ·refine aL H36 fun g3 H38 => ?_;obtain rfl:=sI H38;exact pB 3 [.eqT 119 bT,r0 [.v,.v,.b,.ap,.rwH 123 (.row 41 7 ((s3++[(Bind.mk ((u2.2.1.getD i1 ax).Kind) ((u2.2.1.getD i1 ax).Var) (Linear.mk (((u2.2.1.getD i1 ax).Dim).Const) (((u2.2.1.getD i1 ax).Dim).Terms)) (Shape.mk (((u2.2.1.getD i1 ax).Row).Row) (((u2.2.1.getD i1 ax).Row).Dims)) ((u2.2.1.getD i1 ax).Elem))]).map az)),.v]] [.only [4,5,6,7,8,14,106,107,108] [6,43,62,123,900]] (iK u2 y4 i1 (s3++[(Bind.mk ((u2.2.1.getD i1 ax).Kind) ((u2.2.1.getD i1 ax).Var) (Linear.mk (((u2.2.1.getD i1 ax).Dim).Const) (((u2.2.1.getD i1 ax).Dim).Terms)) (Shape.mk (((u2.2.1.getD i1 ax).Row).Row) (((u2.2.1.getD i1 ax).Row).Dims)) ((u2.2.1.getD i1 ax).Elem))])) (aB c22 (bp (tT (c:=az) ru s3 [(Bind.mk ((u2.2.1.getD i1 ax).Kind) ((u2.2.1.getD i1 ax).Var) (Linear.mk (((u2.2.1.getD i1 ax).Dim).Const) (((u2.2.1.getD i1 ax).Dim).Terms)) (Shape.mk (((u2.2.1.getD i1 ax).Row).Row) (((u2.2.1.getD i1 ax).Row).Dims)) ((u2.2.1.getD i1 ax).Elem))] 112 (by decide) (by first | (simp;done) | simpa using g3)) (aC (wA 41 7 az s3 [(Bind.mk ((u2.2.1.getD i1 ax).Kind) ((u2.2.1.getD i1 ax).Var) (Linear.mk (((u2.2.1.getD i1 ax).Dim).Const) (((u2.2.1.getD i1 ax).Dim).Terms)) (Shape.mk (((u2.2.1.getD i1 ax).Row).Row) (((u2.2.1.getD i1 ax).Row).Dims)) ((u2.2.1.getD i1 ax).Elem))]) aN)))
          ·refine bZ H37 fun e6 => ?_;subst e6;exact pB 3 [.eqT 119 bF] [.only [4,5,6,7,8,14,106,107,108] [6,43,62,123,900]] (iK u2 y4 i1 s3) (aB c23 aN)
         ·refine oF 900 (n:=(u2.2.1.map az).length) (by kernel_rfl) (fun l2 => ?_);have l3:u2.2.1.length≤9223372036854775807:=by simpa only [MM] using l2
          clear l2;obtain rfl:=sI H35;exact pB 1 [V2] [.only [4,5,6,7,8,14,106,107,108] [6,43,62,123,900]] (jF u2 y4 (i1+1) v1) (aH i1 aN)
       ·subst e4;have H39:=a8 H33;refine aR H39 fun y6 h24 H40 => ?_;obtain rfl:=sI H40;exact pR 5 [r0 [.v,.hR [(123,1000)] 126 (.tup []) [(1000,.row 41 7 (y6.map az))]],.rg 8 (V 5 [.b,.v,.v]) [.m,.v]] [.fz 123,.wkH 6 0 []] [] (aC Tryz.call33 (aC (Bz az (fun x=>x.Var) _ _ _ _ _ _ (fun _=>rfl) (fun _=>rfl) u3 y6 h24) aN))
def gF (x0:aJ):Option Linear :=
 some (Linear.mk 0 [(au.mk x0 1)])
theorem lI (x0:aJ) (r:Linear) (H:gF x0=some r):bG Tryz.prog 22 [.str x0] (.agg [iI r.Const,dS aq r.Terms]):=by unfold gF at H;refine aX Tryz.func22 7 [.cell 2 34] ?_;obtain rfl:=sI H;exact pR 5 [r0 [.m],r0 [.v,.b,.b,.b,.m]] [] [] aN
def cW (x0 x1:Linear) (x2:Int):Option Linear :=
 bf ((0+x0.Terms.length)*24≤140737488355328) <|
 (dn (σ:=(Int×(List au))) (ε:=(Int×(List au))) (ρ:=Empty) (fun i0 s0 =>
  (bQ (Linear.mk s0.1 s0.2) ((x1.Terms.getD i0 ay).Var) (aK (x2*((x1.Terms.getD i0 ay).C)))).bind fun y0 =>
  some (.go (y0.Const,y0.Terms))
 ) (fun i0 s0=>(s0.1,s0.2)) (x1.Terms.length-0) 0 ((aK (x0.Const+(aK (x2*x1.Const)))),x0.Terms)).bind <| ca fun u0 =>
 some (Linear.mk u0.1 u0.2)
def nJ (x1:Linear) (x2:Int) (i0:Nat) (s0:Int×(List au)):AS:=⟨45,[(2,iI x2),(4,.hptr 4 0),(6,.hptr 6 0),(7,.hptr 7 0),(8,nI i0)],[(4,.cells 34 [iI x1.Const,dS aq x1.Terms]),(6,.cells 34 [iI 0,.eslice]),(7,.cells 34 [iI s0.1,dS aq s0.2])]⟩
def rz (u1:Int×(List au)):AS:=⟨45,[(6,.hptr 6 0),(7,.hptr 7 0)],[(6,.cells 34 [iI 0,.eslice]),(7,.cells 34 [iI u1.1,dS aq u1.2])]⟩
theorem kY (x0 x1:Linear) (x2:Int) (r:Linear) (H:cW x0 x1 x2=some r):bG Tryz.prog 16 [.agg [iI x0.Const,dS aq x0.Terms],.agg [iI x1.Const,dS aq x1.Terms],iI x2] (.agg [iI r.Const,dS aq r.Terms]):=by
 unfold cW at H;refine aX Tryz.func16 45 [.cell 6 34] ?_;refine aL H fun g0 H0 => ?_;refine pA 8 [r0 [.m,.m,.m],.rg 13 (V 5 [.w,.w,.b,.v,.v,.apx (x0.Terms.map aq),.b,.m]) [.m],V1] [.fz 19,.only [2,4,6,7,8] [4,6,7]] 8 [] (nJ x1 x2 0 ((aK (x0.Const+(aK (x2*x1.Const)))),x0.Terms)) (bp (Ig (c:=aq) iw [] x0.Terms 24 (by decide) (by first | (simp;done) | simpa using g0) rfl) aN) ?_;refine aR H0 fun R0 h0 H1 => ?_;refine pJ 1 (rz) R0 ?_ (fun u0 e0 => ?_)
 ·refine pC (nJ x1 x2) h0 (fun i0 s0 h1 e1 => ?_) (fun i0 s0 h2 q0 h3 h4 => ?_)
  ·have c0:=lF i0 x1.Terms.length (by omega);subst e1;exact pB 5 [r0 [.v,.v,.v,.e (nI x1.Terms.length),.e bF]] [.only [6,7] [6,7]] (rz (s0.1,s0.2)) (aT (aC (aQ aq x1.Terms) (aB c0 aN)))
  ·have c1:=lT i0 x1.Terms.length (by omega);refine aR h3 fun y0 h5 H2 => ?_;refine gX 4 1 (ps:=[(x1.Terms.map aq).length≤9223372036854775807]) (by kernel_rfl) (fun l0 => ?_);have l1:x1.Terms.length≤9223372036854775807:=by simpa only [cu,MM] using l0
   clear l0;obtain rfl:=sI H2;exact pB 9 [r0 [.v,.v,.v,.e (nI x1.Terms.length),.e bT],.rg 15 (V 4 [.e (.dptr (aq (x1.Terms.getD i0 ay))),.v,.v,.v,.v,.v,.v,.e (.dptr (aq (x1.Terms.getD i0 ay))),.v,.v,.w]) [.c true (.agg [iI y0.Const,dS aq y0.Terms]),.m],V3] [.only [2,4,6,7,8] [4,6,7]] (nJ x1 x2 (i0+1) (y0.Const,y0.Terms)) (aT (aC (aQ aq x1.Terms) (aB c1 (aI aZ x1.Terms i0 ay (aI aZ x1.Terms i0 ay (aC Tryz.call17 (aF (dy _ _ _ _ h5) (aH i0 aN))))))))
 ·subst e0;have H3:=a8 H1;obtain rfl:=sI H3;exact pR 3 [r0 [.v,.m]] [] [] aN
noncomputable def gq (x0 x1:List Linear):Option ((List Bind)×Int) :=
 (ck x0).bind fun y0 =>
 bif y0 then (
  (ck x1).bind fun y1 =>
  bif y1 then (
   bif decide (((x0.length:Nat):Int)>6000) then (
    some ([],1)
   ) else (
    bif decide (((x1.length:Nat):Int)>6000) then (
     some ([],1)
    ) else (
     bif (((x0.length:Nat):Int)==((x1.length:Nat):Int)) then (
      (cy x0).bind fun y2 =>
      bif decide ((aK (y2+1))≥1000000000) then (
       some ([],3)
      ) else (
       (bB x0).bind fun y3 =>
       bf (112*y3.length≤140737488355328) <|
       (dn (σ:=(List Bind)) (ε:=(List Bind)) (ρ:=Empty) (fun i0 s0 =>
        bf (i0<s0.length) <|
        some (.go (s0.set i0 (Bind.mk 1 (y3.getD i0 []) (Linear.mk 0 []) (Shape.mk [] []) [])))
       ) (fun i0 s0=>s0) (y3.length-0) 0 (List.replicate y3.length ax)).bind <| ca fun u0 =>
       (bB x1).bind fun y4 =>
       bf ((([[]]:List aJ).length+y4.length)*16≤140737488355328) <|
       (dn (σ:=(List Bind)) (ε:=(List Bind)) (ρ:=((List Bind)×Int)) (fun i1 s1 =>
        (dn (σ:=(List Linear)) (ε:=(List Linear)) (ρ:=(eR (List Bind) (List Bind) ((List Bind)×Int))) (fun i2 s2 =>
         bf (i2<x1.length) <|
         ((
          bif decide (((i1:Nat):Int)>0) then (
           (cU (Linear.mk ((x1.getD i2 aG).Const) ((x1.getD i2 aG).Terms)) ((([[]]:List aJ)++y4).getD i1 [])).bind fun y5 =>
           some (aK (0-y5))
          ) else (
           some (aK (((x0.getD i2 aG).Const)-((x1.getD i2 aG).Const)))
          )
         ):Option Int).bind fun v0 =>
         (cb (Linear.mk v0 ((x0.getD i2 aG).Terms))).bind fun y6 =>
         bif y6 then (
          bf ((s2.length+1)*32≤140737488355328) <|
          some (.go (s2++[(Linear.mk v0 ((x0.getD i2 aG).Terms))]))
         ) else (
          some (.ret (.ret ([],3)))
         )
        ) (fun i2 s2=>s2) (x0.length-0) 0 []).bind <| aft fun u1 =>
        (bJ u1 (aK (y2+1))).bind fun y7 =>
        bif (y7.2.2.2==0) then (
         (dn (σ:=(List Bind)) (ε:=(List Bind)) (ρ:=Empty) (fun i3 s3 =>
          (fW y3 ((y7.1.getD i3 ax).Var)).bind fun y8 =>
          ((
           bif (((i1:Nat):Int)==0) then (
            bf (0≤y8.1∧y8.1<(s3.length:Int)) <|
            bf (y8.1.toNat<s3.length) <|
            some (s3.set y8.1.toNat (Bind.mk ((s3.getD y8.1.toNat ax).Kind) ((s3.getD y8.1.toNat ax).Var) (Linear.mk (((y7.1.getD i3 ax).Dim).Const) (((s3.getD y8.1.toNat ax).Dim).Terms)) (Shape.mk (((s3.getD y8.1.toNat ax).Row).Row) (((s3.getD y8.1.toNat ax).Row).Dims)) ((s3.getD y8.1.toNat ax).Elem)))
           ) else (
            bif ((((y7.1.getD i3 ax).Dim).Const)==0) then (
             some s3
            ) else (
             bf (0≤y8.1∧y8.1<(s3.length:Int)) <|
             bf (y8.1.toNat<s3.length) <|
             bf ((((s3.getD y8.1.toNat ax).Dim).Terms)=[]) <|
             some (s3.set y8.1.toNat (Bind.mk ((s3.getD y8.1.toNat ax).Kind) ((s3.getD y8.1.toNat ax).Var) (Linear.mk (((s3.getD y8.1.toNat ax).Dim).Const) [(au.mk ((([[]]:List aJ)++y4).getD i1 []) (((y7.1.getD i3 ax).Dim).Const))]) (Shape.mk (((s3.getD y8.1.toNat ax).Row).Row) (((s3.getD y8.1.toNat ax).Row).Dims)) ((s3.getD y8.1.toNat ax).Elem)))
            )
           )
          ):Option (List Bind)).bind fun v1 =>
          some (.go v1)
         ) (fun i3 s3=>s3) (y7.1.length-0) 0 s1).bind <| ca fun u2 =>
         some (.go u2)
        ) else (
         some (.ret ([],y7.2.2.2))
        )
       ) (fun i1 s1=>s1) ((([[]]:List aJ)++y4).length-0) 0 u0).bind <| aft fun u3 =>
       (dn (σ:=Unit) (ε:=Unit) (ρ:=((List Bind)×Int)) (fun i4 s4 =>
        (cb (Linear.mk (((u3.getD i4 ax).Dim).Const) (((u3.getD i4 ax).Dim).Terms))).bind fun y9 =>
        bif y9 then (
         some (.go ())
        ) else (
         some (.ret ([],3))
        )
       ) (fun i4 s4=>()) (u3.length-0) 0 ()).bind <| aft fun u4 =>
       bif (((u3.length:Nat):Int)==0) then (
        some ([],0)
       ) else (
        some (u3,0)
       )
      )
     ) else (
      some ([],14)
     )
    )
   )
  ) else (
   some ([],1)
  )
 ) else (
  some ([],1)
 )
def jv (x0 x1:List Linear) (y2:Int) (y3:List aJ) (i0:Nat) (s0:List Bind):AS:=⟨196,[(0,dS aw x0),(1,dS aw x1),(4,.eslice),(5,iI 0),(6,iI (aK (y2+1))),(7,dS bq y3),(8,.rslice 63),(64,dS bq y3),(65,nI y3.length),(66,nI i0)],[(63,.row 41 7 (s0.map cH))]⟩
def nn (x0 x1:List Linear) (y2:Int) (y3:List aJ) (u5:List Bind):AS:=⟨196,[(0,dS aw x0),(1,dS aw x1),(4,.eslice),(5,iI 0),(6,iI (aK (y2+1))),(7,dS bq y3),(8,.rslice 63)],[(63,.row 41 7 (u5.map cH))]⟩
def jm (x0 x1:List Linear) (y2:Int) (y3 y4:List aJ) (i1:Nat) (s1:List Bind):AS:=⟨196,[(0,dS aw x0),(1,dS aw x1),(4,.eslice),(5,iI 0),(6,iI (aK (y2+1))),(7,dS bq y3),(8,.rslice 63),(81,.rslice 80),(82,iI (((([[]]:List aJ)++y4).length:Nat):Int)),(83,nI i1)],[(63,.row 41 7 (s1.map cH)),(80,.row 9 1 ((([[]]:List aJ)++y4).map bq))]⟩
def mG (u6:List Bind):AS:=⟨196,[(4,.eslice),(5,iI 0),(8,.rslice 63)],[(63,.row 41 7 (u6.map cH))]⟩
def jy (x0 x1:List Linear) (y2:Int) (y3 y4:List aJ) (i1:Nat) (s1:List Bind) (i2:Nat) (s2:List Linear):AS:=⟨196,[(0,dS aw x0),(1,dS aw x1),(4,.eslice),(5,iI 0),(6,iI (aK (y2+1))),(7,dS bq y3),(8,.rslice 63),(12,nI i1),(13,.str ((([[]]:List aJ)++y4).getD i1 [])),(14,.rslice 122),(81,.rslice 80),(82,iI (((([[]]:List aJ)++y4).length:Nat):Int)),(83,nI i1),(88,dS aw x0),(89,nI x0.length),(90,nI i2)],[(63,.row 41 7 (s1.map cH)),(80,.row 9 1 ((([[]]:List aJ)++y4).map bq)),(122,.row 34 2 (s2.map aw))]⟩
def od (x0 x1:List Linear) (y2:Int) (y3 y4:List aJ) (i1:Nat) (s1:List Bind) (u7:List Linear):AS:=⟨196,[(0,dS aw x0),(1,dS aw x1),(4,.eslice),(5,iI 0),(6,iI (aK (y2+1))),(7,dS bq y3),(8,.rslice 63),(12,nI i1),(13,.str ((([[]]:List aJ)++y4).getD i1 [])),(14,.rslice 122),(81,.rslice 80),(82,iI (((([[]]:List aJ)++y4).length:Nat):Int)),(83,nI i1)],[(63,.row 41 7 (s1.map cH)),(80,.row 9 1 ((([[]]:List aJ)++y4).map bq)),(122,.row 34 2 (u7.map aw))]⟩
def jD (x0 x1:List Linear) (y2:Int) (y3 y4:List aJ) (i1:Nat) (s1:List Bind) (i2:Nat) (s2:List Linear) (v0:Int):AS:=⟨196,[(0,dS aw x0),(1,dS aw x1),(4,.eslice),(5,iI 0),(6,iI (aK (y2+1))),(7,dS bq y3),(8,.rslice 63),(12,nI i1),(13,.str ((([[]]:List aJ)++y4).getD i1 [])),(14,.rslice 122),(17,.hptr 17 0),(81,.rslice 80),(82,iI (((([[]]:List aJ)++y4).length:Nat):Int)),(83,nI i1),(88,dS aw x0),(89,nI x0.length),(90,nI i2)],[(17,.cells 34 [iI v0,.dslice (((x0.getD i2 aG).Terms).map aq)]),(63,.row 41 7 (s1.map cH)),(80,.row 9 1 ((([[]]:List aJ)++y4).map bq)),(122,.row 34 2 (s2.map aw))]⟩
def jw (x0 x1:List Linear) (y2:Int) (y3 y4:List aJ) (i1:Nat) (y7:(List Bind)×Int×al×Int) (i3:Nat) (s3:List Bind):AS:=⟨196,[(0,dS aw x0),(1,dS aw x1),(4,.eslice),(5,iI 0),(6,iI (aK (y2+1))),(7,dS bq y3),(8,.rslice 63),(12,nI i1),(13,.str ((([[]]:List aJ)++y4).getD i1 [])),(81,.rslice 80),(82,iI (((([[]]:List aJ)++y4).length:Nat):Int)),(83,nI i1),(135,dS az y7.1),(136,nI y7.1.length),(137,nI i3)],[(63,.row 41 7 (s3.map cH)),(80,.row 9 1 ((([[]]:List aJ)++y4).map bq))]⟩
def nA (x0 x1:List Linear) (y2:Int) (y3 y4:List aJ) (i1:Nat) (u8:List Bind):AS:=⟨196,[(0,dS aw x0),(1,dS aw x1),(4,.eslice),(5,iI 0),(6,iI (aK (y2+1))),(7,dS bq y3),(8,.rslice 63),(81,.rslice 80),(82,iI (((([[]]:List aJ)++y4).length:Nat):Int)),(83,nI i1)],[(63,.row 41 7 (u8.map cH)),(80,.row 9 1 ((([[]]:List aJ)++y4).map bq))]⟩
def fK (x0 x1:List Linear) (y2:Int) (y3 y4:List aJ) (i1:Nat) (y7:(List Bind)×Int×al×Int) (i3:Nat) (v1:List Bind):AS:=⟨196,[(0,dS aw x0),(1,dS aw x1),(4,.eslice),(5,iI 0),(6,iI (aK (y2+1))),(7,dS bq y3),(8,.rslice 63),(12,nI i1),(13,.str ((([[]]:List aJ)++y4).getD i1 [])),(81,.rslice 80),(82,iI (((([[]]:List aJ)++y4).length:Nat):Int)),(83,nI i1),(135,dS az y7.1),(136,nI y7.1.length),(137,nI i3)],[(63,.row 41 7 (v1.map cH)),(80,.row 9 1 ((([[]]:List aJ)++y4).map bq))]⟩
def iJ (u3:List Bind) (i4:Nat) (s4:Unit):AS:=⟨196,[(4,.eslice),(5,iI 0),(8,.rslice 63),(181,.rslice 63),(182,nI u3.length),(183,nI i4)],[(63,.row 41 7 (u3.map az))]⟩
def mf (u3:List Bind) (u9:Unit):AS:=⟨196,[(4,.eslice),(5,iI 0),(8,.rslice 63)],[(63,.row 41 7 (u3.map az))]⟩
theorem ua (x0 x1:List Linear) (r:(List Bind)×Int) (H:gq x0 x1=some r):bG Tryz.prog 23 [dS aw x0,dS aw x1] (.tup [dS az r.1,iI r.2]):=by
 unfold gq at H;refine aX Tryz.func23 196 [.tmp 4,.tmp 5] ?_;refine aR H fun y0 h0 H0 => ?_;refine aV H0 (fun c0 H1 => ?_) (fun c1 H2 => ?_)
 ·refine aR H1 fun y1 h1 H3 => ?_;refine aV H3 (fun c2 H4 => ?_) (fun c3 H5 => ?_)
  ·refine aV H4 (fun c4 H6 => ?_) (fun c5 H7 => ?_)
   ·obtain rfl:=sI H6;exact pR 10 [V2,r0 [.v,.c true bT,.v,.v,.v,.c true bT,.v,.v,.v,.v,.e (nI x0.length),.e bT,.v,.v,.s,.s,.s,.v,.v],V2] [.wk 4 []] [] (aC Tryz.call27 (aC (bG.eq (be _ _ h0) (cB c0)) (aT (aC Tryz.call27 (aC (bG.eq (be _ _ h1) (cB c2)) (aT (aT (aC (aQ aw x0) (aB c4 aN)))))))))
   ·have c5p:=MI c5;refine pD 6 [V2,r0 [.v,.c true bT,.v,.v,.v,.c true bT,.v,.v,.v,.v,.e (nI x0.length),.e bF,.v,.v,.v,.e (nI x1.length),.v,.v,.v]] [.only [0,1,4,5,29] []] 6 [] (aC Tryz.call27 (aC (bG.eq (be _ _ h0) (cB c0)) (aT (aC Tryz.call27 (aC (bG.eq (be _ _ h1) (cB c2)) (aT (aT (aC (aQ aw x0) (aB c5 (aT (aC (aQ aw x1) aN))))))))))) ?_;refine aV H7 (fun c6 H8 => ?_) (fun c7 H9 => ?_)
    ·obtain rfl:=sI H8;exact pR 5 [.eqT 29 bT,V2] [.wk 4 []] [] (aB c6 aN)
    ·have c7p:=MI c7;refine aV H9 (fun c8 H10 => ?_) (fun c9 H11 => ?_)
     ·refine aR H10 fun y2 h2 H12 => ?_;refine pD 12 [.eqT 29 bF,r0 [.v,.e (nI x0.length),.v,.e (nI x1.length),.v,.v],.eqT 48 bF,r0 [.v,.c true (iI y2),.w,.v],V2] [.only [0,1,4,5,6,58] []] 10 [false,false] (aB c7 (aT (aC (aQ aw x0) (aT (aC (aQ aw x1) (aM c8 (aC Tryz.call28 (aF (lD _ _ h2) aN)))))))) ?_;refine aV H12 (fun c10 H13 => ?_) (fun c11 H14 => ?_)
      ·obtain rfl:=sI H13;exact pR 5 [.eqT 58 bT,V2] [.wk 4 []] [] (aB c10 aN)
      ·have c11p:=MI c11;refine aR H14 fun y3 h3 H15 => ?_;refine aL H15 fun g0 H16 => ?_;refine pA 11 [.eqT 58 bF,r0 [.v,.c true (dS bq y3),.v],r0 [.v,.e (nI y3.length),.mk y3.length,.rwH 63 (.row 41 7 ((List.replicate y3.length ax).map cH)),.v],r0 [.v,.e (nI y3.length),.v]] [.only [0,1,4,5,6,7,8,64,65,66] [63]] 10 [false] (jv x0 x1 y2 y3 0 (List.replicate y3.length ax)) (aB c11 (aC Tryz.call31 (aF (dp _ _ h3) (aT (aC (aQ bq y3) (aC (show ((y3.length:Nat):Int)=((y3.length:Nat):Int)∧((y3.length:Nat):Int)=((y3.length:Nat):Int)∧112*y3.length≤140737488355328∧y3.length≤9223372036854775807 from ⟨rfl,rfl,by omega,by omega⟩) (aC (xY (z:=zQ Tryz.prog 41) cH ax y3.length 41 7 (by kernel_rfl)) (aT (aC (aQ bq y3) aN))))))))) ?_;refine aR H16 fun R0 h4 H17 => ?_;refine pJ 1 (nn x0 x1 y2 y3) R0 ?_ (fun u0 e0 => ?_)
       ·refine pC (jv x0 x1 y2 y3) h4 (fun i0 s0 h5 e1 => ?_) (fun i0 s0 h6 q0 h7 h8 => ?_)
        ·have c12:=lF i0 y3.length (by omega);subst e1;exact pB 5 [r0 [.e bF]] [.only [0,1,4,5,6,7,8] [63]] (nn x0 x1 y2 y3 s0) (aB c12 aN)
        ·have c13:=lT i0 y3.length (by omega);refine aL h7 fun g1 H18 => ?_;refine bO 7 (ps:=[(y3.map bq).length≤9223372036854775807]) (by kernel_rfl) (fun l0 => ?_);have l1:y3.length≤9223372036854775807:=by simpa only [cu,MM] using l0
         clear l0;obtain rfl:=sI H18;exact pB 11 [r0 [.e bT],r0 [.v,.e (.dptr [.str (y3.getD i0 [])]),.v,.v,.v],r0 [.v,.v,.v,.b,.v,.rs i0 0,.rwH 63 (.row 41 7 ((s0.set i0 (Bind.mk 1 (y3.getD i0 []) (Linear.mk 0 []) (Shape.mk [] []) [])).map cH))],V2] [.only [0,1,4,5,6,7,8,64,65,66] [63]] (jv x0 x1 y2 y3 (i0+1) (s0.set i0 (Bind.mk 1 (y3.getD i0 []) (Linear.mk 0 []) (Shape.mk [] []) []))) (aB c13 (aI mY y3 i0 [] (aC (show (0:Int)≤((i0:Nat):Int)∧((i0:Nat):Int)<((s0.map cH).length:Int) from by rw [MM];omega) (aC (dI (f:=cH) (l:=s0) (n:=i0) 7 0 7 (by omega) (by decide)) (aC (qS (f:=cH) 41 7 s0 i0 ax (Bind.mk 1 (y3.getD i0 []) (Linear.mk 0 []) (Shape.mk [] []) []) 0 [iI 1,.str (y3.getD i0 []),iI 0,.eslice,.str [],.eslice,.str []] (by omega) rfl) (aH i0 aN))))))
       ·subst e0;have H19:=a8 H17;refine aR H19 fun y4 h9 H20 => ?_;refine aL H20 fun g2 H21 => ?_;refine pA 6 [r0 [.ap,.rwH 77 (.row 9 1 (([[]]:List aJ).map bq)),.v,.c true (dS bq y4),.ap,.rwH 80 (.row 9 1 ((([[]]:List aJ)++y4).map bq)),.v],r0 [.v,.e (iI (((([[]]:List aJ)++y4).length:Nat):Int)),.v]] [.only [0,1,4,5,6,7,8,81,82,83] [63,80]] 6 [] (jm x0 x1 y2 y3 y4 0 u0) (aC (Eq.refl (AO.row 9 1 (([[]]:List aJ).map bq))) (aC Tryz.call31 (aF (dp _ _ h9) (bp (tT (c:=bq) tQ ([[]]:List aJ) y4 16 (by decide) (by first | (simp;done) | simpa using g2)) (aC (wA 9 1 bq ([[]]:List aJ) y4) (aT (aC (aQ bq (([[]]:List aJ)++y4)) aN))))))) ?_;refine aR H21 fun R1 h10 H22 => ?_;refine pJ 1 (mG) R1 ?_ (fun u3 e2 => ?_)
        ·refine pC (jm x0 x1 y2 y3 y4) h10 (fun i1 s1 h11 e3 => ?_) (fun i1 s1 h12 q1 h13 h14 => ?_)
         ·have c14:=lF i1 ((([[]]:List aJ)++y4).length) (by omega);subst e3;exact pB 5 [r0 [.e bF]] [.only [4,5,8] [63]] (mG s1) (aB c14 aN)
         ·have c15:=lT i1 ((([[]]:List aJ)++y4).length) (by omega);refine pA 15 [r0 [.e bT],r0 [.v,.v,.rl i1 0 (.str ((([[]]:List aJ)++y4).getD i1 [])),.v,.v],V1,r0 [.v,.e (nI x0.length),.v]] [.er 14 122 34 2,.only [0,1,4,5,6,7,8,12,13,14,81,82,83,88,89,90] [63,80,122]] 15 [true] (jy x0 x1 y2 y3 y4 i1 s1 0 []) (aB c15 (aC (show (0:Int)≤((i1:Nat):Int)∧((i1:Nat):Int)<(((([[]]:List aJ)++y4).map bq).length:Int) from by rw [MM];omega) (aC (dI (f:=bq) (l:=(([[]]:List aJ)++y4)) (n:=i1) 1 0 1 (by omega) (by decide)) (aC (ot (f:=bq) (l:=(([[]]:List aJ)++y4)) (n:=i1) [] 0 (by omega)) (aT (aC (aQ aw x0) aN)))))) ?_;refine aR h13 fun R2 h15 H23 => ?_;refine pJ 1 (od x0 x1 y2 y3 y4 i1 s1) R2 ?_ (fun u1 e4 => ?_)
          ·refine pC (jy x0 x1 y2 y3 y4 i1 s1) h15 (fun i2 s2 h16 e5 => ?_) (fun i2 s2 h17 q2 h18 h19 => ?_)
           ·have c16:=lF i2 x0.length (by omega);subst e5;exact pB 5 [r0 [.e bF]] [.only [0,1,4,5,6,7,8,12,13,14,81,82,83] [63,80,122]] (od x0 x1 y2 y3 y4 i1 s1 s2) (aB c16 aN)
           ·have c17:=lT i2 x0.length (by omega);refine aL h18 fun g3 H24 => ?_;refine pD 14 [r0 [.e bT],r0 [.v,.e (.dptr (aw (x0.getD i2 aG))),.v,.m,.v,.m],.rg 12 (V 6 [.e (.dptr (aw (x1.getD i2 aG))),.v,.v,.w,.b,.m]) [.m],V2] [.only [0,1,4,5,6,7,8,12,13,14,15,17,81,82,83,88,89,90,107] [17,63,80,122]] 14 [true] (aB c17 (aI bo x0 i2 aG (aI bo x1 i2 aG aN))) ?_;refine aR H24 fun v0 h20 H25 => ?_;refine bV 0 (jD x0 x1 y2 y3 y4 i1 s1 i2 s2 v0) (by kernel_rfl) ?_ ?_
            ·refine aV h20 (fun c18 H26 => ?_) (fun c19 H27 => ?_)
             ·have c18p:=MJ c18;refine aR H26 fun y5 h21 H28 => ?_;obtain rfl:=sI H28;exact pB 3 [.eqT 107 bT,r0 [.v,.v,.e (.dptr (aw (x1.getD i2 aG))),.v,.v,.c true (iI y5),.w,.v,.m]] [.only [0,1,4,5,6,7,8,12,13,14,17,81,82,83,88,89,90] [17,63,80,122]] (jD x0 x1 y2 y3 y4 i1 s1 i2 s2 (aK (0-y5))) (aB c18 (aI bo x1 i2 aG (aC Tryz.call46 (aF (jb _ _ _ h21) aN))))
             ·obtain rfl:=sI H27;exact pB 3 [.eqT 107 bF] [.only [0,1,4,5,6,7,8,12,13,14,17,81,82,83,88,89,90] [17,63,80,122]] (jD x0 x1 y2 y3 y4 i1 s1 i2 s2 (aK (((x0.getD i2 aG).Const)-((x1.getD i2 aG).Const)))) (aB c19 aN)
            ·refine aR H25 fun y6 h22 H29 => ?_;refine aV H29 (fun c20 H30 => ?_) (fun c21 H31 => ?_)
             ·refine aL H30 fun g4 H32 => ?_;refine bO 0 (ps:=[(x0.map aw).length≤9223372036854775807]) (by kernel_rfl) (fun l2 => ?_);have l3:x0.length≤9223372036854775807:=by simpa only [cu,MM] using l2
              clear l2;obtain rfl:=sI H32;exact pB 8 [r0 [.v,.c true (.bool y6),.v],.eqT 118 bF,r0 [.v,.v,.b,.ap,.rwH 122 (.row 34 2 ((s2++[(Linear.mk v0 ((x0.getD i2 aG).Terms))]).map aw)),.v],V2] [.only [0,1,4,5,6,7,8,12,13,14,81,82,83,88,89,90] [63,80,122]] (jy x0 x1 y2 y3 y4 i1 s1 (i2+1) (s2++[(Linear.mk v0 ((x0.getD i2 aG).Terms))])) (aC Tryz.call50 (aF (b8 _ _ h22) (aT (aM c20 (bp (tT (c:=aw) xK s2 [(Linear.mk v0 ((x0.getD i2 aG).Terms))] 32 (by decide) (by first | (simp;done) | simpa using g4)) (aC (wA 34 2 aw s2 [(Linear.mk v0 ((x0.getD i2 aG).Terms))]) (aH i2 aN)))))))
             ·obtain rfl:=sI H31;obtain rfl:=aW h19;obtain rfl:=sI (aP H23);obtain rfl:=aW h14;obtain rfl:=sI (aP H22);exact pR 8 [r0 [.v,.c true (.bool y6),.v],.eqT 118 bT,V2] [.wk 4 []] [] (aC Tryz.call50 (aF (b8 _ _ h22) (aT (aM c21 aN))))
          ·subst e4;have H33:=bl H23;refine aR H33 fun y7 h23 H34 => ?_;refine aV H34 (fun c22 H35 => ?_) (fun c23 H36 => ?_)
           ·refine pA 11 [.rg 0 [] [.v,.v,.fz 122,.c true (.tup [.dslice (y7.1.map az),.int .i64 y7.2.1,.agg [.dslice (y7.2.2.1.Mults.map ao),.int .i64 y7.2.2.1.Mod],.int .i64 y7.2.2.2]),.v,.v,.v,.v,.v,.m,.v,.v,.m,.v],.rg 0 [] [.v,.v],.eqT 133 bF,.rg 0 [] [.v,.e (.int .i64 ((y7.1.length:Nat):Int)),.v]] [.only [0,1,4,5,6,7,8,12,13,81,82,83,135,136,137] [63,80]] 10 [false] (jw x0 x1 y2 y3 y4 i1 y7 0 s1) (aC Tryz.call9 (aF (dL _ _ _ h23) (aM c22 (aT (aC (aQ az y7.1) aN))))) ?_;refine aR H35 fun R3 h24 H37 => ?_;refine pJ 2 (nA x0 x1 y2 y3 y4 i1) R3 ?_ (fun u2 e6 => ?_)
            ·refine pC (jw x0 x1 y2 y3 y4 i1 y7) h24 (fun i3 s3 h25 e7 => ?_) (fun i3 s3 h26 q3 h27 h28 => ?_)
             ·have c24:=lF i3 y7.1.length (by omega);subst e7;exact pB 5 [r0 [.e bF]] [.only [0,1,4,5,6,7,8,81,82,83] [63,80]] (nA x0 x1 y2 y3 y4 i1 s3) (aB c24 aN)
             ·have c25:=lT i3 y7.1.length (by omega);refine aR h27 fun y8 h29 H38 => ?_;refine pD 16 [r0 [.e bT],r0 [.e (.dptr (az (y7.1.getD i3 ax))),.v,.m,.m],r0 [.v,.v,.v,.c true (.tup [iI y8.1,.bool y8.2]),.v,.v,.v,.v,.v],V4,V3] [.only [0,1,4,5,6,7,8,12,13,24,26,81,82,83,135,136,137,151] [63,80]] 16 [true] (aB c25 (aI bb y7.1 i3 ax (aC Tryz.call32 (aF (s9 y3 ((y7.1.getD i3 ax).Var) y8 h29) aN)))) ?_;refine aR H38 fun v1 h30 H39 => ?_;refine bV 2 (fK x0 x1 y2 y3 y4 i1 y7 i3 v1) (by kernel_rfl) ?_ ?_
              ·refine aV h30 (fun c26 H40 => ?_) (fun c27 H41 => ?_)
               ·refine aL H40 fun g5 H42 => ?_;refine aL H42 fun g6 H43 => ?_;obtain rfl:=sI H43;exact pB 3 [.eqT 151 bT,r0 (V 6 [.rs y8.1.toNat 2,.rwH 63 (.row 41 7 ((s3.set y8.1.toNat (Bind.mk ((s3.getD y8.1.toNat ax).Kind) ((s3.getD y8.1.toNat ax).Var) (Linear.mk (((y7.1.getD i3 ax).Dim).Const) (((s3.getD y8.1.toNat ax).Dim).Terms)) (Shape.mk (((s3.getD y8.1.toNat ax).Row).Row) (((s3.getD y8.1.toNat ax).Row).Dims)) ((s3.getD y8.1.toNat ax).Elem))).map cH))])] [.only [0,1,4,5,6,7,8,12,13,81,82,83,135,136,137] [63,80]] (fK x0 x1 y2 y3 y4 i1 y7 i3 (s3.set y8.1.toNat (Bind.mk ((s3.getD y8.1.toNat ax).Kind) ((s3.getD y8.1.toNat ax).Var) (Linear.mk (((y7.1.getD i3 ax).Dim).Const) (((s3.getD y8.1.toNat ax).Dim).Terms)) (Shape.mk (((s3.getD y8.1.toNat ax).Row).Row) (((s3.getD y8.1.toNat ax).Row).Dims)) ((s3.getD y8.1.toNat ax).Elem)))) (aB c26 (aC (show (0:Int)≤y8.1∧y8.1<((s3.map cH).length:Int) from by rw [MM];exact g5) (aC (dI (f:=cH) (l:=s3) (n:=y8.1.toNat) 7 2 1 (by omega) (by decide)) (aC (qS (f:=cH) 41 7 s3 y8.1.toNat ax (Bind.mk ((s3.getD y8.1.toNat ax).Kind) ((s3.getD y8.1.toNat ax).Var) (Linear.mk (((y7.1.getD i3 ax).Dim).Const) (((s3.getD y8.1.toNat ax).Dim).Terms)) (Shape.mk (((s3.getD y8.1.toNat ax).Row).Row) (((s3.getD y8.1.toNat ax).Row).Dims)) ((s3.getD y8.1.toNat ax).Elem)) 2 [iI (((y7.1.getD i3 ax).Dim).Const)] (by omega) rfl) aN))))
               ·refine aV H41 (fun c28 H44 => ?_) (fun c29 H45 => ?_)
                ·refine bZ H44 fun e8 => ?_;subst e8;exact pB 7 [.eqT 151 bF,V3,.eqT 160 bF] [.only [0,1,4,5,6,7,8,12,13,81,82,83,135,136,137] [63,80]] (fK x0 x1 y2 y3 y4 i1 y7 i3 s3) (aB c27 (aM c28 aN))
                ·refine aL H45 fun g7 H46 => ?_;refine aL H46 fun g8 H47 => ?_;refine aL H47 fun g9 H48 => ?_;obtain rfl:=sI H48;exact pB 7 [.eqT 151 bF,V3,.eqT 160 bT,r0 (V 7 [.rl y8.1.toNat 3 (Ki aq (((s3.getD y8.1.toNat ax).Dim).Terms)),.v,.v,.b,.b,.rwT 170 .eslice,.er 170 175 88 2,.ap,.rwH 175 (.row 88 2 ([(au.mk ((([[]]:List aJ)++y4).getD i1 []) (((y7.1.getD i3 ax).Dim).Const))].map aq)),.v,.v,.v,.fz 175,.rs y8.1.toNat 3,.rwH 63 (.row 41 7 ((s3.set y8.1.toNat (Bind.mk ((s3.getD y8.1.toNat ax).Kind) ((s3.getD y8.1.toNat ax).Var) (Linear.mk (((s3.getD y8.1.toNat ax).Dim).Const) [(au.mk ((([[]]:List aJ)++y4).getD i1 []) (((y7.1.getD i3 ax).Dim).Const))]) (Shape.mk (((s3.getD y8.1.toNat ax).Row).Row) (((s3.getD y8.1.toNat ax).Row).Dims)) ((s3.getD y8.1.toNat ax).Elem))).map cH))])] [.only [0,1,4,5,6,7,8,12,13,81,82,83,135,136,137] [63,80]] (fK x0 x1 y2 y3 y4 i1 y7 i3 (s3.set y8.1.toNat (Bind.mk ((s3.getD y8.1.toNat ax).Kind) ((s3.getD y8.1.toNat ax).Var) (Linear.mk (((s3.getD y8.1.toNat ax).Dim).Const) [(au.mk ((([[]]:List aJ)++y4).getD i1 []) (((y7.1.getD i3 ax).Dim).Const))]) (Shape.mk (((s3.getD y8.1.toNat ax).Row).Row) (((s3.getD y8.1.toNat ax).Row).Dims)) ((s3.getD y8.1.toNat ax).Elem)))) (aB c27 (aM c29 (aC (show (0:Int)≤y8.1∧y8.1<((s3.map cH).length:Int) from by rw [MM];exact g7) (aC (dI (f:=cH) (l:=s3) (n:=y8.1.toNat) 7 3 1 (by omega) (by decide)) (aC (ot (f:=cH) (l:=s3) (n:=y8.1.toNat) ax 3 (by omega)) (aC (congrArg (Ki aq) g9) (bp (tT (c:=aq) iw [] [(au.mk ((([[]]:List aJ)++y4).getD i1 []) (((y7.1.getD i3 ax).Dim).Const))] 24 (by decide) (by simp)) (aC (Ll 88 2 aq [(au.mk ((([[]]:List aJ)++y4).getD i1 []) (((y7.1.getD i3 ax).Dim).Const))]) (aC (show (0:Int)≤y8.1∧y8.1<((s3.map cH).length:Int) from by rw [MM];exact g7) (aC (dI (f:=cH) (l:=s3) (n:=y8.1.toNat) 7 3 1 (by omega) (by decide)) (aC (qS (f:=cH) 41 7 s3 y8.1.toNat ax (Bind.mk ((s3.getD y8.1.toNat ax).Kind) ((s3.getD y8.1.toNat ax).Var) (Linear.mk (((s3.getD y8.1.toNat ax).Dim).Const) [(au.mk ((([[]]:List aJ)++y4).getD i1 []) (((y7.1.getD i3 ax).Dim).Const))]) (Shape.mk (((s3.getD y8.1.toNat ax).Row).Row) (((s3.getD y8.1.toNat ax).Row).Dims)) ((s3.getD y8.1.toNat ax).Elem)) 3 [.dslice ([(au.mk ((([[]]:List aJ)++y4).getD i1 []) (((y7.1.getD i3 ax).Dim).Const))].map aq)] (by omega) rfl) aN)))))))))))
              ·refine bO 135 (ps:=[(y7.1.map az).length≤9223372036854775807]) (by kernel_rfl) (fun l4 => ?_);have l5:y7.1.length≤9223372036854775807:=by simpa only [cu,MM] using l4
               clear l4;obtain rfl:=sI H39;exact pB 1 [V2] [.only [0,1,4,5,6,7,8,12,13,81,82,83,135,136,137] [63,80]] (jw x0 x1 y2 y3 y4 i1 y7 (i3+1) v1) (aH i3 aN)
            ·subst e6;have H49:=a8 H37;refine oF 80 (n:=((([[]]:List aJ)++y4).map bq).length) (by kernel_rfl) (fun l6 => ?_);have l7:(([[]]:List aJ)++y4).length≤9223372036854775807:=by simpa only [MM] using l6
             clear l6;obtain rfl:=sI H49;exact pB 1 [V2] [.only [0,1,4,5,6,7,8,81,82,83] [63,80]] (jm x0 x1 y2 y3 y4 (i1+1) u2) (aH i1 aN)
           ·obtain rfl:=sI H36;obtain rfl:=aW h14;obtain rfl:=sI (aP H22);exact pR 10 [r0 [.v,.v,.fz 122,.c true (.tup [dS az y7.1,iI y7.2.1,.agg [dS ao y7.2.2.1.Mults,iI y7.2.2.1.Mod],iI y7.2.2.2]),.v,.v,.v,.v,.v,.m,.v,.v,.m,.v],V2,.eqT 133 bT,V3] [.wk 4 []] [] (aC Tryz.call9 (aF (dL _ _ _ h23) (aM c23 aN)))
        ·subst e2;have H50:=bl H22;refine pA 4 [r0 [.ezr 63,.rwH 63 (.row 41 7 (u3.map az)),.v,.e (nI u3.length),.v]] [.only [4,5,8,181,182,183] [63]] 4 [] (iJ u3 0 ()) (aC (Lj 41 7 FL u3) (aT (aC (aQ az u3) aN))) ?_;refine aR H50 fun R4 h31 H51 => ?_;refine pJ 1 (mf u3) R4 ?_ (fun u4 e9 => ?_)
         ·refine pC (iJ u3) h31 (fun i4 s4 h32 e10 => ?_) (fun i4 s4 h33 q4 h34 h35 => ?_)
          ·have c30:=lF i4 u3.length (by omega);subst e10;exact pB 5 [r0 [.e bF]] [.only [4,5,8] [63]] (mf u3 ()) (aB c30 aN)
          ·have c31:=lT i4 u3.length (by omega);refine aR h34 fun y9 h36 H52 => ?_;refine pD 11 [r0 [.e bT],r0 [.v,.rl i4 0 (.agg (az (u3.getD i4 ax))),.m,.m],r0 [.v,.v,.c true (.bool y9),.v]] [.only [4,5,8,181,182,183,190] [63]] 11 [true] (aB c31 (aC (show (0:Int)≤((i4:Nat):Int)∧((i4:Nat):Int)<((u3.map az).length:Int) from by rw [MM];omega) (aC (dI (f:=az) (l:=u3) (n:=i4) 7 0 7 (by omega) (by decide)) (aC (yK (f:=az) (l:=u3) (n:=i4) ax 0 7 (by omega)) (aC Tryz.call50 (aF (b8 _ _ h36) (aT aN))))))) ?_;refine aV H52 (fun c32 H53 => ?_) (fun c33 H54 => ?_)
           ·refine oF 63 (n:=(u3.map az).length) (by kernel_rfl) (fun l8 => ?_);have l9:u3.length≤9223372036854775807:=by simpa only [MM] using l8
            clear l8;obtain rfl:=sI H53;exact pB 4 [.eqT 190 bF,V2] [.only [4,5,8,181,182,183] [63]] (iJ u3 (i4+1) ()) (aM c32 (aH i4 aN))
           ·obtain rfl:=sI H54;obtain rfl:=aW h35;obtain rfl:=sI (aP H51);exact pR 5 [.eqT 190 bT,V2] [.wk 4 []] [] (aM c33 aN)
         ·subst e9;have H55:=bl H51;refine aV H55 (fun c34 H56 => ?_) (fun c35 H57 => ?_)
          ·obtain rfl:=sI H56;exact pR 8 [r0 [.v,.e (nI u3.length),.v],.eqT 194 bT,V2] [.wk 4 []] [] (aT (aC (aQ az u3) (aB c34 aN)))
          ·obtain rfl:=sI H57;exact pR 9 [r0 [.v,.e (nI u3.length),.v],.eqT 194 bF,V3] [.fz 63] [] (aT (aC (aQ az u3) (aB c35 aN)))
     ·obtain rfl:=sI H11;exact pR 9 [.eqT 29 bF,r0 [.v,.e (nI x0.length),.v,.e (nI x1.length),.v,.v],.eqT 48 bT,V2] [.wk 4 []] [] (aB c7 (aT (aC (aQ aw x0) (aT (aC (aQ aw x1) (aM c9 aN))))))
  ·obtain rfl:=sI H5;exact pR 10 [V2,r0 [.v,.c true bT,.v,.v,.v,.c true bF,.v,.v,.v,.s,.s,.s,.v,.v,.s,.s,.s,.v,.v],V2] [.wk 4 []] [] (aC Tryz.call27 (aC (bG.eq (be _ _ h0) (cB c0)) (aT (aC Tryz.call27 (aC (bG.eq (be _ _ h1) (cB c3)) (aT aN))))))
 ·obtain rfl:=sI H2;exact pR 10 [V2,r0 [.v,.c true bF,.v,.v,.s,.s,.s,.v,.v,.s,.s,.s,.v,.v,.s,.s,.s,.v,.v],V2] [.wk 4 []] [] (aC Tryz.call27 (aC (bG.eq (be _ _ h0) (cB c1)) (aT aN)))
def jM (x0:Int):Option Bool :=
 bif decide (x0≥(-1000000)) then (
  some (decide (x0≤1000000))
 ) else (
  some false
 )
theorem gz (x0:Int) (r:Bool) (H:jM x0=some r):bG Tryz.prog 69 [iI x0] (.bool r):=by
 unfold jM at H;refine aX Tryz.func69 9 [.tmp 2] ?_;refine aV H (fun c0 H0 => ?_) (fun c1 H1 => ?_)
 ·obtain rfl:=sI H0;exact pR 5 [V1,r0 [.v,.e bT,.v,.v,.v,.v,.v]] [] [] (aB c0 aN)
 ·obtain rfl:=sI H1;exact pR 5 [V1,r0 [.v,.e bF,.v,.s,.s,.v,.v]] [] [] (aB c1 aN)
def jI (x0:UInt8):Option Bool :=
 bif decide (((x0).toNat:Int)≥48) then (
  some (decide (((x0).toNat:Int)≤57))
 ) else (
  some false
 )
theorem oO (x0:UInt8) (r:Bool) (H:jI x0=some r):bG Tryz.prog 114 [.int .u8 ((x0).toNat:Int)] (.bool r):=by
 unfold jI at H;refine aX Tryz.func114 9 [.tmp 2] ?_;refine aV H (fun c0 H0 => ?_) (fun c1 H1 => ?_)
 ·obtain rfl:=sI H0;exact pR 5 [V1,r0 [.v,.e bT,.v,.v,.v,.v,.v]] [] [] (aB c0 aN)
 ·obtain rfl:=sI H1;exact pR 5 [V1,r0 [.v,.e bF,.v,.s,.s,.v,.v]] [] [] (aB c1 aN)
def jU (x0:UInt8):Option Bool :=
 bif decide (((x0).toNat:Int)≥97) then (
  some (decide (((x0).toNat:Int)≤122))
 ) else (
  some false
 )
theorem nh (x0:UInt8) (r:Bool) (H:jU x0=some r):bG Tryz.prog 115 [.int .u8 ((x0).toNat:Int)] (.bool r):=by
 unfold jU at H;refine aX Tryz.func115 9 [.tmp 2] ?_;refine aV H (fun c0 H0 => ?_) (fun c1 H1 => ?_)
 ·obtain rfl:=sI H0;exact pR 5 [V1,r0 [.v,.e bT,.v,.v,.v,.v,.v]] [] [] (aB c0 aN)
 ·obtain rfl:=sI H1;exact pR 5 [V1,r0 [.v,.e bF,.v,.s,.s,.v,.v]] [] [] (aB c1 aN)
def kF (x0:aJ):Option Bool :=
 bif (((x0.length:Nat):Int)==0) then (
  some false
 ) else (
  bif decide (((x0.length:Nat):Int)>30) then (
   some false
  ) else (
   bf (0<x0.length) <|
   bif (((x0.getD 0 0).toNat:Int)==95) then (
    bif decide (((x0.length:Nat):Int)<2) then (
     some false
    ) else (
     bif decide (((x0.length:Nat):Int)>10) then (
      some false
     ) else (
      bf (1<x0.length) <|
      bif (((x0.getD 1 0).toNat:Int)==48) then (
       some false
      ) else (
       (dn (σ:=Unit) (ε:=Unit) (ρ:=Bool) (fun i0 s0 =>
        (jI (x0.getD i0 0)).bind fun y0 =>
        bif y0 then (
         some (.go ())
        ) else (
         some (.ret false)
        )
       ) (fun i0 s0=>()) (x0.length-1) 1 ()).bind <| aft fun u0 =>
       some true
      )
     )
    )
   ) else (
    (dn (σ:=Unit) (ε:=Unit) (ρ:=Bool) (fun i1 s1 =>
     (jU (x0.getD i1 0)).bind fun y1 =>
     ((
      bif y1 then (
       some (.brk ())
      ) else (
       bif (((i1:Nat):Int)==0) then (
        some (.ret (.ret false))
       ) else (
        (jI (x0.getD i1 0)).bind fun y2 =>
        bif y2 then (
         some (.brk ())
        ) else (
         some (.ret (.ret false))
        )
       )
      )
     ):Option (Out Unit (eR Unit Unit Bool))).bind (aft fun u1 =>
      some (.go ())
     )
    ) (fun i1 s1=>()) (x0.length-0) 0 ()).bind <| aft fun u2 =>
    some true
   )
  )
 )
def ph (x0:aJ) (i0:Nat) (s0:Unit):AS:=⟨62,[(0,.str x0),(2,.bool false),(3,nI i0)],[]⟩
def s7 (x0:aJ) (u3:Unit):AS:=⟨62,[(0,.str x0),(2,.bool false)],[]⟩
def o4 (x0:aJ) (i1:Nat) (s1:Unit):AS:=⟨62,[(0,.str x0),(2,.bool false),(4,nI i1)],[]⟩
def td (u4:Unit):AS:=⟨62,[(2,.bool false)],[]⟩
def oM (x0:aJ) (i1:Nat) (u1:Unit):AS:=⟨62,[(0,.str x0),(2,.bool false),(4,nI i1)],[]⟩
theorem fh (x0:aJ) (r:Bool) (H:kF x0=some r):bG Tryz.prog 70 [.str x0] (.bool r):=by
 unfold kF at H;refine aX Tryz.func70 62 [.tmp 2] ?_;refine aV H (fun c0 H0 => ?_) (fun c1 H1 => ?_)
 ·obtain rfl:=sI H0;exact pR 9 [V1,r0 [.v,.v,.e bT,.v,.s,.s,.s,.v],V1] [] [] (aT (aB c0 aN))
 ·refine aV H1 (fun c2 H2 => ?_) (fun c3 H3 => ?_)
  ·obtain rfl:=sI H2;exact pR 10 [V1,r0 [.v,.v,.e bF,.v,.v,.v,.v,.v],.eqT 12 bT,V1] [] [] (aT (aB c1 (aT (aB c2 aN))))
  ·have c3p:=MI c3;refine aL H3 fun g0 H4 => ?_;refine aV H4 (fun c4 H5 => ?_) (fun c5 H6 => ?_)
   ·refine aV H5 (fun c6 H7 => ?_) (fun c7 H8 => ?_)
    ·have c6p:=MJ c6;obtain rfl:=sI H7;exact pR 20 [V1,r0 [.v,.v,.e bF,.v,.v,.v,.v,.v],.eqT 12 bF,V3,.eqT 15 bT,r0 [.v,.v,.e bT,.v,.s,.s,.s,.v,.v,.s,.s,.s,.v],V1] [] [] (aT (aB c1 (aT (aB c3 (aC (show (0:Int)≤0∧0<(x0.length:Int) from by omega) (aB c4 (aT (aB c6 aN))))))))
    ·have c7p:=MI c7;refine aV H8 (fun c8 H9 => ?_) (fun c9 H10 => ?_)
     ·have c8p:=MJ c8;obtain rfl:=sI H9;exact pR 20 [V1,r0 [.v,.v,.e bF,.v,.v,.v,.v,.v],.eqT 12 bF,V3,.eqT 15 bT,r0 [.v,.v,.e bF,.v,.v,.v,.e bT,.v,.v,.s,.s,.s,.v],V1] [] [] (aT (aB c1 (aT (aB c3 (aC (show (0:Int)≤0∧0<(x0.length:Int) from by omega) (aB c4 (aT (aB c7 (aT (aB c8 aN))))))))))
     ·have c9p:=MI c9;refine aL H10 fun g1 H11 => ?_;refine pD 16 [V1,r0 [.v,.v,.e bF,.v,.v,.v,.v,.v],.eqT 12 bF,V3,.eqT 15 bT,r0 [.v,.v,.e bF,.v,.v,.v,.e bF,.v,.v,.v,.v,.v,.v]] [.only [0,2,28] []] 14 [false,true] (aT (aB c1 (aT (aB c3 (aC (show (0:Int)≤0∧0<(x0.length:Int) from by omega) (aB c4 (aT (aB c7 (aT (aB c9 (aC (show (0:Int)≤1∧1<(x0.length:Int) from by omega) aN))))))))))) ?_;refine aV H11 (fun c10 H12 => ?_) (fun c11 H13 => ?_)
      ·obtain rfl:=sI H12;exact pR 5 [.eqT 28 bT,V1] [] [] (aB c10 aN)
      ·refine pA 7 [.eqT 28 bF,.rg 0 [] [.v]] [.only [0,2,3] []] 6 [false] (ph x0 1 ()) (aB c11 aN) ?_;refine aR H13 fun R0 h0 H14 => ?_;refine pJ 1 (s7 x0) R0 ?_ (fun u0 e0 => ?_)
       ·refine pC (ph x0) h0 (fun i0 s0 h1 e1 => ?_) (fun i0 s0 h2 q0 h3 h4 => ?_)
        ·have c12:=lF i0 x0.length (by omega);subst e1;exact pB 5 [r0 [.v,.v,.v,.e bF]] [.only [0,2] []] (s7 x0 ()) (aT (aB c12 aN))
        ·have c13:=lT i0 x0.length (by omega);refine aR h3 fun y0 h5 H15 => ?_;refine aV H15 (fun c14 H16 => ?_) (fun c15 H17 => ?_)
         ·refine bO 0 (ps:=[x0.length≤9223372036854775807]) (by kernel_rfl) (fun l0 => ?_);have l1:x0.length≤9223372036854775807:=by simpa only [cu,MM] using l0
          clear l0;obtain rfl:=sI H16;exact pB 13 [r0 [.v,.v,.v,.e bT],r0 [.v,.v,.v,.c true (.bool y0),.v],.eqT 39 bF,V3] [.only [0,2,3] []] (ph x0 (i0+1) ()) (aT (aB c13 (aC (show (0:Int)≤((i0:Nat):Int)∧((i0:Nat):Int)<(x0.length:Int) from by omega) (aC Tryz.call114 (aF (oO _ _ h5) (aT (aM c14 (aH i0 aN))))))))
         ·obtain rfl:=sI H17;obtain rfl:=aW h4;obtain rfl:=sI (aP H14);exact pR 14 [r0 [.v,.v,.v,.e bT],r0 [.v,.v,.v,.c true (.bool y0),.v],.eqT 39 bT,V1] [] [] (aT (aB c13 (aC (show (0:Int)≤((i0:Nat):Int)∧((i0:Nat):Int)<(x0.length:Int) from by omega) (aC Tryz.call114 (aF (oO _ _ h5) (aT (aM c15 aN)))))))
       ·subst e0;have H18:=bl H14;obtain rfl:=sI H18;exact pR 3 [V1] [] [] aN
   ·refine pA 18 [.rg 0 [] [.v],.rg 0 [] [.v,.v,.e bF,.v,.v,.v,.v,.v],.eqT 12 bF,.rg 0 [] [.v,.v,.v],.eqT 15 bF,.rg 0 [] [.v]] [.only [0,2,4] []] 16 [false,false] (o4 x0 0 ()) (aT (aB c1 (aT (aB c3 (aC (show (0:Int)≤0∧0<(x0.length:Int) from by omega) (aB c5 aN)))))) ?_;refine aR H6 fun R1 h6 H19 => ?_;refine pJ 1 (td) R1 ?_ (fun u2 e2 => ?_)
    ·refine pC (o4 x0) h6 (fun i1 s1 h7 e3 => ?_) (fun i1 s1 h8 q1 h9 h10 => ?_)
     ·have c16:=lF i1 x0.length (by omega);subst e3;exact pB 5 [r0 [.v,.v,.v,.e bF]] [.only [2] []] (td ()) (aT (aB c16 aN))
     ·have c17:=lT i1 x0.length (by omega);refine aR h9 fun y1 h11 H20 => ?_;refine pD 8 [r0 [.v,.v,.v,.e bT]] [.only [0,2,4] []] 8 [true] (aT (aB c17 aN)) ?_;refine aR H20 fun v0 h12 H21 => ?_;refine pJ 2 (oM x0 i1) v0 ?_ (fun u1 e4 => ?_)
      ·refine aV h12 (fun c18 H22 => ?_) (fun c19 H23 => ?_)
       ·obtain rfl:=sI H22;exact pB 3 [r0 [.v,.v,.v,.c true bT,.v,.v,.s,.s,.s,.s,.s,.s,.s,.s,.s,.v]] [.only [0,2,4] []] (oM x0 i1 ()) (aC (show (0:Int)≤((i1:Nat):Int)∧((i1:Nat):Int)<(x0.length:Int) from by omega) (aC Tryz.call115 (aC (bG.eq (nh _ _ h11) (cB c18)) (aT aN))))
       ·refine aV H23 (fun c20 H24 => ?_) (fun c21 H25 => ?_)
        ·obtain rfl:=sI H24;obtain rfl:=sI (aP H21);obtain rfl:=aW h10;obtain rfl:=sI (aP H19);exact pR 5 [r0 [.v,.v,.v,.c true bF,.v,.v,.v,.e bT,.v,.s,.s,.s,.s,.s,.v,.v],V1] [] [] (aC (show (0:Int)≤((i1:Nat):Int)∧((i1:Nat):Int)<(x0.length:Int) from by omega) (aC Tryz.call115 (aC (bG.eq (nh _ _ h11) (cB c19)) (aT (aB c20 aN)))))
        ·refine aR H25 fun y2 h13 H26 => ?_;refine pD 1 [r0 [.v,.v,.v,.c true bF,.v,.v,.v,.e bF,.v,.v,.v,.v,.c true (.bool y2),.v,.v,.v]] [.only [0,2,4,61] []] 1 [] (aC (show (0:Int)≤((i1:Nat):Int)∧((i1:Nat):Int)<(x0.length:Int) from by omega) (aC Tryz.call115 (aC (bG.eq (nh _ _ h11) (cB c19)) (aT (aB c21 (aC (show (0:Int)≤((i1:Nat):Int)∧((i1:Nat):Int)<(x0.length:Int) from by omega) (aC Tryz.call114 (aF (oO _ _ h13) (aT aN))))))))) ?_;refine aV H26 (fun c22 H27 => ?_) (fun c23 H28 => ?_)
         ·obtain rfl:=sI H27;exact pB 3 [.eqT 61 bF] [.only [0,2,4] []] (oM x0 i1 ()) (aM c22 aN)
         ·obtain rfl:=sI H28;obtain rfl:=sI (aP H21);obtain rfl:=aW h10;obtain rfl:=sI (aP H19);exact pR 5 [.eqT 61 bT,V1] [] [] (aM c23 aN)
      ·subst e4;have H29:=bl H21;refine bO 0 (ps:=[x0.length≤9223372036854775807]) (by kernel_rfl) (fun l2 => ?_);have l3:x0.length≤9223372036854775807:=by simpa only [cu,MM] using l2
       clear l2;obtain rfl:=sI H29;exact pB 1 [V3] [.only [0,2,4] []] (o4 x0 (i1+1) ()) (aH i1 aN)
    ·subst e2;have H30:=bl H19;obtain rfl:=sI H30;exact pR 3 [V1] [] [] aN
def dj (x0:Linear):Option Bool :=
 (jM x0.Const).bind fun y0 =>
 bif y0 then (
  bif decide (((x0.Terms.length:Nat):Int)>12) then (
   some false
  ) else (
   (dn (σ:=Unit) (ε:=Unit) (ρ:=Bool) (fun i0 s0 =>
    (kF ((x0.Terms.getD i0 ay).Var)).bind fun y1 =>
    ((
     bif y1 then (
      bif (((x0.Terms.getD i0 ay).C)==0) then (
       some (.ret (.ret false))
      ) else (
       (jM ((x0.Terms.getD i0 ay).C)).bind fun y2 =>
       bif y2 then (
        bif decide (((i0:Nat):Int)>0) then (
         bf (0≤(aK (((i0:Nat):Int)-1))∧(aK (((i0:Nat):Int)-1))<(x0.Terms.length:Int)) <|
         bif (Op.bytesLess ((x0.Terms.getD (aK (((i0:Nat):Int)-1)).toNat ay).Var) ((x0.Terms.getD i0 ay).Var)) then (
          some (.brk ())
         ) else (
          some (.ret (.ret false))
         )
        ) else (
         some (.brk ())
        )
       ) else (
        some (.ret (.ret false))
       )
      )
     ) else (
      some (.ret (.ret false))
     )
    ):Option (Out Unit (eR Unit Unit Bool))).bind (aft fun u0 =>
     some (.go ())
    )
   ) (fun i0 s0=>()) (x0.Terms.length-0) 0 ()).bind <| aft fun u1 =>
   some true
  )
 ) else (
  some false
 )
def nt (x0:Linear) (i0:Nat) (s0:Unit):AS:=⟨58,[(1,.hptr 1 0),(2,.bool false),(3,nI i0)],[(1,.cells 34 [iI x0.Const,dS aq x0.Terms])]⟩
def rY (u2:Unit):AS:=⟨58,[(2,.bool false)],[]⟩
def mF (x0:Linear) (i0:Nat) (u0:Unit):AS:=⟨58,[(1,.hptr 1 0),(2,.bool false),(3,nI i0)],[(1,.cells 34 [iI x0.Const,dS aq x0.Terms])]⟩
theorem bU (x0:Linear) (r:Bool) (H:dj x0=some r):bG Tryz.prog 36 [.agg [iI x0.Const,dS aq x0.Terms]] (.bool r):=by
 unfold dj at H;refine aX Tryz.func36 58 [.tmp 2] ?_;refine aR H fun y0 h0 H0 => ?_;refine aV H0 (fun c0 H1 => ?_) (fun c1 H2 => ?_)
 ·refine aV H1 (fun c2 H3 => ?_) (fun c3 H4 => ?_)
  ·obtain rfl:=sI H3;exact pR 10 [r0 [.m,.v],r0 [.v,.v,.c true bT,.v,.v,.v,.v,.e (nI x0.Terms.length),.v,.v],.eqT 14 bT,V1] [] [] (aC Tryz.call69 (aC (bG.eq (gz _ _ h0) (cB c0)) (aT (aT (aC (aQ aq x0.Terms) (aB c2 aN))))))
  ·have c3p:=MI c3;refine pA 12 [r0 [.m,.v],r0 [.v,.v,.c true bT,.v,.v,.v,.v,.e (nI x0.Terms.length),.v,.v],.eqT 14 bF,V1] [.only [1,2,3] [1]] 11 [false] (nt x0 0 ()) (aC Tryz.call69 (aC (bG.eq (gz _ _ h0) (cB c0)) (aT (aT (aC (aQ aq x0.Terms) (aB c3 aN)))))) ?_;refine aR H4 fun R0 h1 H5 => ?_;refine pJ 1 (rY) R0 ?_ (fun u1 e0 => ?_)
   ·refine pC (nt x0) h1 (fun i0 s0 h2 e1 => ?_) (fun i0 s0 h3 q0 h4 h5 => ?_)
    ·have c4:=lF i0 x0.Terms.length (by omega);subst e1;exact pB 5 [r0 [.v,.v,.v,.e (nI x0.Terms.length),.e bF]] [.only [2] []] (rY ()) (aT (aC (aQ aq x0.Terms) (aB c4 aN)))
    ·have c5:=lT i0 x0.Terms.length (by omega);refine aR h4 fun y1 h6 H6 => ?_;refine pD 10 [r0 [.v,.v,.v,.e (nI x0.Terms.length),.e bT],r0 [.v,.v,.v,.e (.dptr (aq (x0.Terms.getD i0 ay))),.v,.m,.m]] [.only [1,2,3,4] [1,4]] 10 [true] (aT (aC (aQ aq x0.Terms) (aB c5 (aI aZ x0.Terms i0 ay aN)))) ?_;refine aR H6 fun v0 h7 H7 => ?_;refine pJ 2 (mF x0 i0) v0 ?_ (fun u0 e2 => ?_)
     ·refine aV h7 (fun c6 H8 => ?_) (fun c7 H9 => ?_)
      ·refine aV H8 (fun c8 H10 => ?_) (fun c9 H11 => ?_)
       ·obtain rfl:=sI H10;obtain rfl:=sI (aP H7);obtain rfl:=aW h5;obtain rfl:=sI (aP H5);exact pR 5 [.rg 28 [.v,.v,.c true bT,.v,.v,.v,.v,.e bT,.v,.v,.s,.s,.s,.s,.v,.v,.s,.s,.s,.s,.s,.s,.s,.s,.s,.s,.s,.s] [.s,.s,.v],V1] [] [] (aC Tryz.call70 (aC (bG.eq (fh _ _ h6) (cB c6)) (aT (aB c8 aN))))
       ·refine aR H11 fun y2 h8 H12 => ?_;refine aV H12 (fun c10 H13 => ?_) (fun c11 H14 => ?_)
        ·refine aV H13 (fun c12 H15 => ?_) (fun c13 H16 => ?_)
         ·refine aL H15 fun g0 H17 => ?_;refine pD 1 [.rg 28 [.v,.v,.c true bT,.v,.v,.v,.v,.e bF,.v,.v,.v,.v,.c true bT,.v,.v,.v,.v,.e bT,.v,.v,.v,.v,.w,.e (.dptr (aq (x0.Terms.getD (aK (((i0:Nat):Int)-1)).toNat ay))),.v,.v,.v,.v] [.v,.v,.v]] [.only [1,2,3,57] [1]] 1 [] (aC Tryz.call70 (aC (bG.eq (fh _ _ h6) (cB c6)) (aT (aB c9 (aC Tryz.call69 (aC (bG.eq (gz _ _ h8) (cB c10)) (aT (aB c12 (bp (IZ (f:=aq) (l:=x0.Terms) (n:=(aK (((i0:Nat):Int)-1))) ay aZ (by decide) (by exact g0)) aN))))))))) ?_;refine aV H17 (fun c14 H18 => ?_) (fun c15 H19 => ?_)
          ·obtain rfl:=sI H18;exact pB 3 [.eqT 57 bF] [.only [1,2,3] [1]] (mF x0 i0 ()) (aM c14 aN)
          ·obtain rfl:=sI H19;obtain rfl:=sI (aP H7);obtain rfl:=aW h5;obtain rfl:=sI (aP H5);exact pR 5 [.eqT 57 bT,V1] [] [] (aM c15 aN)
         ·obtain rfl:=sI H16;exact pB 3 [.rg 28 [.v,.v,.c true bT,.v,.v,.v,.v,.e bF,.v,.v,.v,.v,.c true bT,.v,.v,.v,.v,.e bF,.v,.s,.s,.s,.s,.s,.s,.s,.s,.s] [.s,.v,.v]] [.only [1,2,3] [1]] (mF x0 i0 ()) (aC Tryz.call70 (aC (bG.eq (fh _ _ h6) (cB c6)) (aT (aB c9 (aC Tryz.call69 (aC (bG.eq (gz _ _ h8) (cB c10)) (aT (aB c13 aN))))))))
        ·obtain rfl:=sI H14;obtain rfl:=sI (aP H7);obtain rfl:=aW h5;obtain rfl:=sI (aP H5);exact pR 5 [.rg 28 [.v,.v,.c true bT,.v,.v,.v,.v,.e bF,.v,.v,.v,.v,.c true bF,.v,.v,.v,.s,.s,.s,.s,.s,.s,.s,.s,.s,.s,.s,.s] [.s,.s,.v],V1] [] [] (aC Tryz.call70 (aC (bG.eq (fh _ _ h6) (cB c6)) (aT (aB c9 (aC Tryz.call69 (aC (bG.eq (gz _ _ h8) (cB c11)) (aT aN)))))))
      ·obtain rfl:=sI H9;obtain rfl:=sI (aP H7);obtain rfl:=aW h5;obtain rfl:=sI (aP H5);exact pR 5 [.rg 28 [.v,.v,.c true bF,.v,.v,.s,.s,.s,.v,.v,.s,.s,.s,.s,.v,.v,.s,.s,.s,.s,.s,.s,.s,.s,.s,.s,.s,.s] [.s,.s,.v],V1] [] [] (aC Tryz.call70 (aC (bG.eq (fh _ _ h6) (cB c7)) (aT aN)))
     ·subst e2;have H20:=bl H7;refine gX 1 1 (ps:=[(x0.Terms.map aq).length≤9223372036854775807]) (by kernel_rfl) (fun l0 => ?_);have l1:x0.Terms.length≤9223372036854775807:=by simpa only [cu,MM] using l0
      clear l0;obtain rfl:=sI H20;exact pB 1 [V3] [.only [1,2,3] [1]] (nt x0 (i0+1) ()) (aH i0 aN)
   ·subst e0;have H21:=bl H5;obtain rfl:=sI H21;exact pR 3 [V1] [] [] aN
 ·obtain rfl:=sI H2;exact pR 9 [r0 [.m,.v],r0 [.v,.v,.c true bF,.v,.v,.s,.s,.s,.s,.v],V1] [] [] (aC Tryz.call69 (aC (bG.eq (gz _ _ h0) (cB c1)) (aT aN)))
def kr (self:Int→Option aJ) (x0:Int):Option aJ :=
 bif decide (x0<0) then (
  (self (aK (0-x0))).bind fun y0 =>
  bf ([45].length+y0.length≤9223372036854775807) <|
  some ([45]++y0)
 ) else (
  bif decide (x0<10) then (
   bf (0≤x0∧x0≤(aK (x0+1))∧(aK (x0+1))≤([48,49,50,51,52,53,54,55,56,57].length:Int)) <|
   some (([48,49,50,51,52,53,54,55,56,57].drop x0.toNat).take ((aK (x0+1)).toNat-x0.toNat))
  ) else (
   (self (aK (x0.tdiv 10))).bind fun y1 =>
   (self (x0.tmod 10)).bind fun y2 =>
   bf (y1.length+y2.length≤9223372036854775807) <|
   some (y1++y2)
  )
 )
def fC  : Nat→Int→Option aJ
 | 0,_=>none
 | fu+1,x0=>kr (fC fu) x0
theorem mv (fuel:Nat):∀ (x0:Int) (r:aJ) (H:fC fuel x0=some r),bG Tryz.prog 51 [iI x0] (.str r):=by
 induction fuel with
 | zero=>intros;contradiction
 | succ fu ih =>
 intro x0 r H;have H:kr (fC fu) x0=some r:=H;unfold kr at H;refine aX Tryz.func51 22 [.tmp 2] ?_;refine aV H (fun c0 H0 => ?_) (fun c1 H1 => ?_)
 ·refine aR H0 fun y0 h0 H2 => ?_;refine aL H2 fun g0 H3 => ?_;obtain rfl:=sI H3;exact pR 10 [V1,V2,.eqT 4 bT,r0 [.v,.w,.c true (.str y0),.v,.v]] [] [] (aB c0 (aC Tryz.call51 (aF (ih (aK (0-x0)) y0 h0) (aC (show [45].length+y0.length≤9223372036854775807 from g0) aN))))
 ·have c1p:=MI c1;refine aV H1 (fun c2 H4 => ?_) (fun c3 H5 => ?_)
  ·have c2p:=MJ c2;refine aL H4 fun g1 H6 => ?_;obtain rfl:=sI H6;exact pR 16 [V1,V2,.eqT 4 bF,V2,.eqT 10 bT,r0 [.v,.v,.w,.v,.v]] [] [] (aB c1 (aB c2 (aC (show (0:Int)≤x0∧x0≤(aK (x0+1))∧(aK (x0+1))≤([48,49,50,51,52,53,54,55,56,57].length:Int) from by omega) aN)))
  ·refine aR H5 fun y1 h1 H7 => ?_;refine aR H7 fun y2 h2 H8 => ?_;refine aL H8 fun g2 H9 => ?_;obtain rfl:=sI H9;exact pR 17 [V1,V2,.eqT 4 bF,V2,.eqT 10 bF,r0 [.v,.w,.c true (.str y1),.v,.v,.c true (.str y2),.v,.v]] [] [] (aB c1 (aB c3 (aC (show (10:Int)≠0 from (by decide)) (aC Tryz.call51 (aF (ih (aK (x0.tdiv 10)) y1 h1) (aC (show (10:Int)≠0 from (by decide)) (aC Tryz.call51 (aF (ih (x0.tmod 10) y2 h2) (aC (show y1.length+y2.length≤9223372036854775807 from g2) aN)))))))))
def dV (x0:Linear):Option aJ :=
 (dj x0).bind fun y0 =>
 bif y0 then (
  (dn (σ:=aJ) (ε:=aJ) (ρ:=Empty) (fun i0 s0 =>
   ((
    bif decide (((x0.Terms.getD i0 ay).C)<0) then (
     bf (s0.length+[45].length≤9223372036854775807) <|
     some ((s0++[45]),(aK (0-((x0.Terms.getD i0 ay).C))))
    ) else (
     bif decide (((i0:Nat):Int)>0) then (
      bf (s0.length+[43].length≤9223372036854775807) <|
      some ((s0++[43]),((x0.Terms.getD i0 ay).C))
     ) else (
      some (s0,((x0.Terms.getD i0 ay).C))
     )
    )
   ):Option (aJ×Int)).bind fun v0 =>
   ((
    bif decide (v0.2>1) then (
     (fC 64 v0.2).bind fun y1 =>
     bf (v0.1.length+y1.length≤9223372036854775807) <|
     some (v0.1++y1)
    ) else (
     some v0.1
    )
   ):Option aJ).bind fun v1 =>
   bf (v1.length+((x0.Terms.getD i0 ay).Var).length≤9223372036854775807) <|
   some (.go (v1++((x0.Terms.getD i0 ay).Var)))
  ) (fun i0 s0=>s0) (x0.Terms.length-0) 0 []).bind <| ca fun u0 =>
  bif (((x0.Terms.length:Nat):Int)==0) then (
   (fC 64 x0.Const).bind fun y2 =>
   some y2
  ) else (
   ((
    bif decide (x0.Const>0) then (
     bf (u0.length+[43].length≤9223372036854775807) <|
     some (u0++[43])
    ) else (
     some u0
    )
   ):Option aJ).bind fun v2 =>
   bif (x0.Const==0) then (
    some v2
   ) else (
    (fC 64 x0.Const).bind fun y3 =>
    bf (v2.length+y3.length≤9223372036854775807) <|
    some (v2++y3)
   )
  )
 ) else (
  some []
 )
def nY (x0:Linear) (i0:Nat) (s0:aJ):AS:=⟨69,[(1,.hptr 1 0),(2,.str []),(3,.str s0),(4,nI i0)],[(1,.cells 34 [iI x0.Const,dS aq x0.Terms])]⟩
def q8 (x0:Linear) (u1:aJ):AS:=⟨69,[(1,.hptr 1 0),(2,.str []),(3,.str u1)],[(1,.cells 34 [iI x0.Const,dS aq x0.Terms])]⟩
def kb (x0:Linear) (i0:Nat) (v0:aJ×Int):AS:=⟨69,[(1,.hptr 1 0),(2,.str []),(3,.str v0.1),(4,nI i0),(5,.hptr 5 0)],[(1,.cells 34 [iI x0.Const,dS aq x0.Terms]),(5,.cells 88 [.str ((x0.Terms.getD i0 ay).Var),iI v0.2])]⟩
def mI (x0:Linear) (i0:Nat) (v0:aJ×Int) (v1:aJ):AS:=⟨69,[(1,.hptr 1 0),(2,.str []),(3,.str v1),(4,nI i0),(5,.hptr 5 0)],[(1,.cells 34 [iI x0.Const,dS aq x0.Terms]),(5,.cells 88 [.str ((x0.Terms.getD i0 ay).Var),iI v0.2])]⟩
def nD (x0:Linear) (v2:aJ):AS:=⟨69,[(1,.hptr 1 0),(2,.str []),(3,.str v2)],[(1,.cells 34 [iI x0.Const,dS aq x0.Terms])]⟩
theorem bM (x0:Linear) (r:aJ) (H:dV x0=some r):bG Tryz.prog 24 [.agg [iI x0.Const,dS aq x0.Terms]] (.str r):=by
 unfold dV at H;refine aX Tryz.func24 69 [.tmp 2] ?_;refine aR H fun y0 h0 H0 => ?_;refine aV H0 (fun c0 H1 => ?_) (fun c1 H2 => ?_)
 ·refine pA 14 [.rg 0 [] [.m,.v],.rg 0 [] [.v,.c true (.bool y0),.v],.eqT 8 bF,.rg 0 [] [.v],.rg 0 [] [.v]] [.only [1,2,3,4] [1]] 13 [false] (nY x0 0 []) (aC Tryz.call36 (aF (bU _ _ h0) (aT (aM c0 aN)))) ?_;refine aR H1 fun R0 h1 H3 => ?_;refine pJ 1 (q8 x0) R0 ?_ (fun u0 e0 => ?_)
  ·refine pC (nY x0) h1 (fun i0 s0 h2 e1 => ?_) (fun i0 s0 h3 q0 h4 h5 => ?_)
   ·have c2:=lF i0 x0.Terms.length (by omega);subst e1;exact pB 5 [r0 [.v,.v,.v,.e (nI x0.Terms.length),.e bF]] [.only [1,2,3] [1]] (q8 x0 s0) (aT (aC (aQ aq x0.Terms) (aB c2 aN)))
   ·have c3:=lT i0 x0.Terms.length (by omega);refine pD 13 [r0 [.v,.v,.v,.e (nI x0.Terms.length),.e bT],r0 [.v,.v,.v,.e (.dptr (aq (x0.Terms.getD i0 ay))),.v,.m,.m],V4] [.only [1,2,3,4,5,21] [1,5]] 13 [true] (aT (aC (aQ aq x0.Terms) (aB c3 (aI aZ x0.Terms i0 ay aN)))) ?_;refine aR h4 fun v0 h6 H4 => ?_;refine bV 1 (kb x0 i0 v0) (by kernel_rfl) ?_ ?_
    ·refine aV h6 (fun c4 H5 => ?_) (fun c5 H6 => ?_)
     ·refine aL H5 fun g0 H7 => ?_;obtain rfl:=sI H7;exact pB 5 [.eqT 21 bT,V3,r0 [.v,.v,.w,.v,.m]] [.only [1,2,3,4,5] [1,5]] (kb x0 i0 ((s0++[45]),(aK (0-((x0.Terms.getD i0 ay).C))))) (aB c4 (aC (show s0.length+[45].length≤9223372036854775807 from g0) aN))
     ·refine aV H6 (fun c6 H8 => ?_) (fun c7 H9 => ?_)
      ·refine aL H8 fun g1 H10 => ?_;obtain rfl:=sI H10;exact pB 7 [.eqT 21 bF,V3,.eqT 31 bT,V3] [.only [1,2,3,4,5] [1,5]] (kb x0 i0 ((s0++[43]),((x0.Terms.getD i0 ay).C))) (aB c5 (aB c6 (aC (show s0.length+[43].length≤9223372036854775807 from g1) aN)))
      ·obtain rfl:=sI H9;exact pB 7 [.eqT 21 bF,V3,.eqT 31 bF] [.only [1,2,3,4,5] [1,5]] (kb x0 i0 (s0,((x0.Terms.getD i0 ay).C))) (aB c5 (aB c7 aN))
    ·refine pD 3 [.rg 0 [] [.v,.v,.v]] [.only [1,2,3,4,5,38] [1,5]] 3 [] aN ?_;refine aR H4 fun v1 h7 H11 => ?_;refine bV 0 (mI x0 i0 v0 v1) (by kernel_rfl) ?_ ?_
     ·refine aV h7 (fun c8 H12 => ?_) (fun c9 H13 => ?_)
      ·refine aR H12 fun y1 h8 H14 => ?_;refine aL H14 fun g2 H15 => ?_;obtain rfl:=sI H15;exact pB 3 [.eqT 38 bT,r0 [.v,.v,.v,.c true (.str y1),.v,.v]] [.only [1,2,3,4,5] [1,5]] (mI x0 i0 v0 (v0.1++y1)) (aB c8 (aC Tryz.call51 (aF (mv _ _ _ h8) (aC (show v0.1.length+y1.length≤9223372036854775807 from g2) aN))))
      ·obtain rfl:=sI H13;exact pB 3 [.eqT 38 bF] [.only [1,2,3,4,5] [1,5]] (mI x0 i0 v0 v0.1) (aB c9 aN)
     ·refine aL H11 fun g3 H16 => ?_;refine gX 1 1 (ps:=[(x0.Terms.map aq).length≤9223372036854775807]) (by kernel_rfl) (fun l0 => ?_);have l1:x0.Terms.length≤9223372036854775807:=by simpa only [cu,MM] using l0
      clear l0;obtain rfl:=sI H16;exact pB 2 [V5,V3] [.only [1,2,3,4] [1]] (nY x0 (i0+1) (v1++((x0.Terms.getD i0 ay).Var))) (aC (show v1.length+((x0.Terms.getD i0 ay).Var).length≤9223372036854775807 from g3) (aH i0 aN))
  ·subst e0;have H17:=a8 H3;refine aV H17 (fun c10 H18 => ?_) (fun c11 H19 => ?_)
   ·refine aR H18 fun y2 h9 H20 => ?_;refine bZ H20 fun e2 => ?_;subst e2;exact pR 8 [r0 [.v,.v,.e (nI x0.Terms.length),.v],.eqT 51 bT,r0 [.v,.v,.c true (.str y2),.v]] [] [] (aT (aC (aQ aq x0.Terms) (aB c10 (aC Tryz.call51 (aF (mv _ _ _ h9) aN)))))
   ·refine pD 9 [.rg 0 [] [.v,.v,.e (.int .i64 ((x0.Terms.length:Nat):Int)),.v],.eqT 51 bF,.rg 0 [] [.v,.v,.v]] [.only [1,2,3,57] [1]] 8 [false] (aT (aC (aQ aq x0.Terms) (aB c11 aN))) ?_;refine aR H19 fun v2 h10 H21 => ?_;refine bV 0 (nD x0 v2) (by kernel_rfl) ?_ ?_
    ·refine aV h10 (fun c12 H22 => ?_) (fun c13 H23 => ?_)
     ·refine aL H22 fun g4 H24 => ?_;obtain rfl:=sI H24;exact pB 3 [.eqT 57 bT,V3] [.only [1,2,3] [1]] (nD x0 (u0++[43])) (aB c12 (aC (show u0.length+[43].length≤9223372036854775807 from g4) aN))
     ·refine bZ H23 fun e3 => ?_;subst e3;exact pB 3 [.eqT 57 bF] [.only [1,2,3] [1]] (nD x0 u0) (aB c13 aN)
    ·refine aV H21 (fun c14 H25 => ?_) (fun c15 H26 => ?_)
     ·refine bZ H25 fun e4 => ?_;subst e4;exact pR 9 [V3,.eqT 62 bF,V2] [] [] (aM c14 aN)
     ·refine aR H26 fun y3 h11 H27 => ?_;refine aL H27 fun g5 H28 => ?_;obtain rfl:=sI H28;exact pR 9 [V3,.eqT 62 bT,r0 [.v,.v,.v,.c true (.str y3),.v,.v],V2] [] [] (aM c15 (aC Tryz.call51 (aF (mv _ _ _ h11) (aC (show v2.length+y3.length≤9223372036854775807 from g5) aN))))
 ·obtain rfl:=sI H2;exact pR 10 [r0 [.m,.v],r0 [.v,.c true (.bool y0),.v],.eqT 8 bT,V1] [] [] (aC Tryz.call36 (aF (bU _ _ h0) (aT (aM c1 aN))))
def im (x0:List Linear):Option Bool :=
 (dn (σ:=Unit) (ε:=Unit) (ρ:=Bool) (fun i0 s0 =>
  (dj (Linear.mk ((x0.getD i0 aG).Const) ((x0.getD i0 aG).Terms))).bind fun y0 =>
  bif y0 then (
   some (.go ())
  ) else (
   some (.ret false)
  )
 ) (fun i0 s0=>()) (x0.length-0) 0 ()).bind <| aft fun u0 =>
 some true
def nM (x0:List Linear) (i0:Nat) (s0:Unit):AS:=⟨16,[(0,dS aw x0),(2,.bool false),(3,nI i0)],[]⟩
def rZ (u1:Unit):AS:=⟨16,[(2,.bool false)],[]⟩
theorem cQ (x0:List Linear) (r:Bool) (H:im x0=some r):bG Tryz.prog 13 [dS aw x0] (.bool r):=by
 unfold im at H;refine aX Tryz.func13 16 [.tmp 2] ?_;refine pA 6 [V1,V1] [.only [0,2,3] []] 6 [] (nM x0 0 ()) aN ?_;refine aR H fun R0 h0 H0 => ?_;refine pJ 1 (rZ) R0 ?_ (fun u0 e0 => ?_)
 ·refine pC (nM x0) h0 (fun i0 s0 h1 e1 => ?_) (fun i0 s0 h2 q0 h3 h4 => ?_)
  ·have c0:=lF i0 x0.length (by omega);subst e1;exact pB 5 [r0 [.v,.v,.e (nI x0.length),.e bF]] [.only [2] []] (rZ ()) (aT (aC (aQ aw x0) (aB c0 aN)))
  ·have c1:=lT i0 x0.length (by omega);refine aR h3 fun y0 h5 H1 => ?_;refine pD 9 [r0 [.v,.v,.e (nI x0.length),.e bT],r0 [.v,.v,.e (.dptr (aw (x0.getD i0 aG))),.v,.c true (.bool y0),.v]] [.only [0,2,3,15] []] 9 [true] (aT (aC (aQ aw x0) (aB c1 (aI bo x0 i0 aG (aC Tryz.call36 (aF (bU _ _ h5) (aT aN))))))) ?_;refine aV H1 (fun c2 H2 => ?_) (fun c3 H3 => ?_)
   ·refine bO 0 (ps:=[(x0.map aw).length≤9223372036854775807]) (by kernel_rfl) (fun l0 => ?_);have l1:x0.length≤9223372036854775807:=by simpa only [cu,MM] using l0
    clear l0;obtain rfl:=sI H2;exact pB 4 [.eqT 15 bF,V3] [.only [0,2,3] []] (nM x0 (i0+1) ()) (aM c2 (aH i0 aN))
   ·obtain rfl:=sI H3;obtain rfl:=aW h4;obtain rfl:=sI (aP H0);exact pR 5 [.eqT 15 bT,V1] [] [] (aM c3 aN)
 ·subst e0;have H4:=bl H0;obtain rfl:=sI H4;exact pR 3 [V1] [] [] aN
def cr (x0:Linear) (x1:aJ):Option Int :=
 (dn (σ:=Unit) (ε:=Unit) (ρ:=Int) (fun i0 s0 =>
  bif (((x0.Terms.getD i0 ay).Var)==x1) then (
   some (.ret ((x0.Terms.getD i0 ay).C))
  ) else (
   some (.go ())
  )
 ) (fun i0 s0=>()) (x0.Terms.length-0) 0 ()).bind <| aft fun u0 =>
 some 0
def o6 (x0:Linear) (x1:aJ) (i0:Nat) (s0:Unit):AS:=⟨27,[(1,.str x1),(2,.hptr 2 0),(4,iI 0),(5,nI i0)],[(2,.cells 34 [iI x0.Const,dS aq x0.Terms])]⟩
def s6 (u1:Unit):AS:=⟨27,[(4,iI 0)],[]⟩
theorem gi (x0:Linear) (x1:aJ) (r:Int) (H:cr x0 x1=some r):bG Tryz.prog 12 [.agg [iI x0.Const,dS aq x0.Terms],.str x1] (iI r):=by
 unfold cr at H;refine aX Tryz.func12 27 [.tmp 4] ?_;refine pA 6 [r0 [.m,.v],V1] [.only [1,2,4,5] [2]] 6 [] (o6 x0 x1 0 ()) aN ?_;refine aR H fun R0 h0 H0 => ?_;refine pJ 1 (s6) R0 ?_ (fun u0 e0 => ?_)
 ·refine pC (o6 x0 x1) h0 (fun i0 s0 h1 e1 => ?_) (fun i0 s0 h2 q0 h3 h4 => ?_)
  ·have c0:=lF i0 x0.Terms.length (by omega);subst e1;exact pB 5 [r0 [.v,.v,.v,.e (nI x0.Terms.length),.e bF]] [.only [4] []] (s6 ()) (aT (aC (aQ aq x0.Terms) (aB c0 aN)))
  ·have c1:=lT i0 x0.Terms.length (by omega);refine pD 9 [r0 [.v,.v,.v,.e (nI x0.Terms.length),.e bT],r0 [.v,.v,.v,.e (.dptr (aq (x0.Terms.getD i0 ay))),.v,.v,.v,.v]] [.only [1,2,4,5,20] [2]] 9 [true] (aT (aC (aQ aq x0.Terms) (aB c1 (aI aZ x0.Terms i0 ay aN)))) ?_;refine aV h3 (fun c2 H1 => ?_) (fun c3 H2 => ?_)
   ·obtain rfl:=sI H1;obtain rfl:=aW h4;obtain rfl:=sI (aP H0);exact pR 5 [.eqT 20 bT,r0 [.v,.v,.v,.e (.dptr (aq (x0.Terms.getD i0 ay))),.v,.v,.v]] [] [] (aB c2 (aI aZ x0.Terms i0 ay aN))
   ·refine gX 2 1 (ps:=[(x0.Terms.map aq).length≤9223372036854775807]) (by kernel_rfl) (fun l0 => ?_);have l1:x0.Terms.length≤9223372036854775807:=by simpa only [cu,MM] using l0
    clear l0;obtain rfl:=sI H2;exact pB 4 [.eqT 20 bF,V3] [.only [1,2,4,5] [2]] (o6 x0 x1 (i0+1) ()) (aB c3 (aH i0 aN))
 ·subst e0;have H3:=bl H0;obtain rfl:=sI H3;exact pR 3 [V1] [] [] aN
def nv (x0:Linear):Option (List aJ) :=
 (dn (σ:=(List aJ)) (ε:=(List aJ)) (ρ:=Empty) (fun i0 s0 =>
  bf ((s0.length+1)*16≤140737488355328) <|
  some (.go (s0++[((x0.Terms.getD i0 ay).Var)]))
 ) (fun i0 s0=>s0) (x0.Terms.length-0) 0 []).bind <| ca fun u0 =>
 some u0
def oP (x0:Linear) (i0:Nat) (s0:List aJ):AS:=⟨22,[(1,.hptr 1 0),(2,.eslice),(3,.rslice 20),(4,nI i0)],[(1,.cells 34 [iI x0.Const,dS aq x0.Terms]),(20,.row 9 1 (s0.map bq))]⟩
def sT (u1:List aJ):AS:=⟨22,[(2,.eslice),(3,.rslice 20)],[(20,.row 9 1 (u1.map bq))]⟩
theorem Af (x0:Linear) (r:List aJ) (H:nv x0=some r):bG Tryz.prog 79 [.agg [iI x0.Const,dS aq x0.Terms]] (dS bq r):=by
 unfold nv at H;refine aX Tryz.func79 22 [.tmp 2] ?_;refine pA 8 [r0 [.m,.v],V1,V1] [.er 3 20 9 1,.only [1,2,3,4] [1,20]] 8 [] (oP x0 0 []) aN ?_;refine aR H fun R0 h0 H0 => ?_;refine pJ 1 (sT) R0 ?_ (fun u0 e0 => ?_)
 ·refine pC (oP x0) h0 (fun i0 s0 h1 e1 => ?_) (fun i0 s0 h2 q0 h3 h4 => ?_)
  ·have c0:=lF i0 x0.Terms.length (by omega);subst e1;exact pB 5 [r0 [.v,.v,.v,.e (nI x0.Terms.length),.e bF]] [.only [2,3] [20]] (sT s0) (aT (aC (aQ aq x0.Terms) (aB c0 aN)))
  ·have c1:=lT i0 x0.Terms.length (by omega);refine aL h3 fun g0 H1 => ?_;refine gX 1 1 (ps:=[(x0.Terms.map aq).length≤9223372036854775807]) (by kernel_rfl) (fun l0 => ?_);have l1:x0.Terms.length≤9223372036854775807:=by simpa only [cu,MM] using l0
   clear l0;obtain rfl:=sI H1;exact pB 9 [r0 [.v,.v,.v,.e (nI x0.Terms.length),.e bT],r0 (V 4 [.e (.dptr (aq (x0.Terms.getD i0 ay))),.v,.v,.b,.ap,.rwH 20 (.row 9 1 ((s0++[((x0.Terms.getD i0 ay).Var)]).map bq)),.v]),V3] [.only [1,2,3,4] [1,20]] (oP x0 (i0+1) (s0++[((x0.Terms.getD i0 ay).Var)])) (aT (aC (aQ aq x0.Terms) (aB c1 (aI aZ x0.Terms i0 ay (bp (tT (c:=bq) tQ s0 [((x0.Terms.getD i0 ay).Var)] 16 (by decide) (by first | (simp;done) | simpa using g0)) (aC (wA 9 1 bq s0 [((x0.Terms.getD i0 ay).Var)]) (aH i0 aN)))))))
 ·subst e0;have H2:=a8 H0;refine bZ H2 fun e2 => ?_;subst e2;exact pR 3 [V2] [.fz 20] [] aN
def ju (x0:List Linear):Option (List aJ) :=
 (dn (σ:=(Int×(List au))) (ε:=(Int×(List au))) (ρ:=Empty) (fun i0 s0 =>
  (gn (σ:=(Int×Int×(List au))) (ε:=(Int×(List au))) (ρ:=Empty) (fun s1 =>
   bif decide (s1.1<((((x0.getD i0 aG).Terms).length:Nat):Int)) then (
    bf (0≤s1.1∧s1.1<(((x0.getD i0 aG).Terms).length:Int)) <|
    (cr (Linear.mk s1.2.1 s1.2.2) ((((x0.getD i0 aG).Terms).getD s1.1.toNat ay).Var)).bind fun y0 =>
    ((
     bif (y0==0) then (
      (bQ (Linear.mk s1.2.1 s1.2.2) ((((x0.getD i0 aG).Terms).getD s1.1.toNat ay).Var) 1).bind fun y1 =>
      some (y1.Const,y1.Terms)
     ) else (
      some (s1.2.1,s1.2.2)
     )
    ):Option (Int×(List au))).bind fun v0 =>
    some (.go ((aK (s1.1+1)),v0.1,v0.2))
   ) else (
    some (.brk (s1.2.1,s1.2.2))
   )
  ) 4294967296 (0,s0.1,s0.2)).bind <| ca fun u0 =>
  some (.go (u0.1,u0.2))
 ) (fun i0 s0=>(s0.1,s0.2)) (x0.length-0) 0 (0,[])).bind <| ca fun u1 =>
 (nv (Linear.mk u1.1 u1.2)).bind fun y2 =>
 some y2
def o7 (x0:List Linear) (i0:Nat) (s0:Int×(List au)):AS:=⟨41,[(0,dS aw x0),(2,.eslice),(3,.hptr 3 0),(4,nI i0)],[(3,.cells 34 [iI s0.1,dS aq s0.2])]⟩
def s8 (u2:Int×(List au)):AS:=⟨41,[(2,.eslice),(3,.hptr 3 0)],[(3,.cells 34 [iI u2.1,dS aq u2.2])]⟩
def pt (x0:List Linear) (i0:Nat) (s1:Int×Int×(List au)):AS:=⟨41,[(0,dS aw x0),(2,.eslice),(3,.hptr 3 0),(4,nI i0),(5,iI s1.1)],[(3,.cells 34 [iI s1.2.1,dS aq s1.2.2])]⟩
def sU (x0:List Linear) (i0:Nat) (u3:Int×(List au)):AS:=⟨41,[(0,dS aw x0),(2,.eslice),(3,.hptr 3 0),(4,nI i0)],[(3,.cells 34 [iI u3.1,dS aq u3.2])]⟩
def pf (x0:List Linear) (i0:Nat) (s1:Int×Int×(List au)) (v0:Int×(List au)):AS:=⟨41,[(0,dS aw x0),(2,.eslice),(3,.hptr 3 0),(4,nI i0),(5,iI s1.1)],[(3,.cells 34 [iI v0.1,dS aq v0.2])]⟩
theorem qj (x0:List Linear) (r:List aJ) (H:ju x0=some r):bG Tryz.prog 44 [dS aw x0] (dS bq r):=by
 unfold ju at H;refine aX Tryz.func44 41 [.tmp 2] ?_;refine pA 8 [V1,r0 [.m],V1] [.wkH 3 1 [],.only [0,2,3,4] [3]] 8 [] (o7 x0 0 (0,[])) aN ?_;refine aR H fun R0 h0 H0 => ?_;refine pJ 1 (s8) R0 ?_ (fun u1 e0 => ?_)
 ·refine pC (o7 x0) h0 (fun i0 s0 h1 e1 => ?_) (fun i0 s0 h2 q0 h3 h4 => ?_)
  ·have c0:=lF i0 x0.length (by omega);subst e1;exact pB 5 [r0 [.v,.v,.e (nI x0.length),.e bF]] [.only [2,3] [3]] (s8 (s0.1,s0.2)) (aT (aC (aQ aw x0) (aB c0 aN)))
  ·have c1:=lT i0 x0.length (by omega);refine pA 10 [r0 [.v,.v,.e (nI x0.length),.e bT],V1] [.only [0,2,3,4,5] [3]] 10 [true] (pt x0 i0 (0,s0.1,s0.2)) (aT (aC (aQ aw x0) (aB c1 aN))) ?_;refine aR h3 fun R1 h5 H1 => ?_;refine pJ 2 (sU x0 i0) R1 ?_ (fun u0 e2 => ?_)
   ·refine lB (pt x0 i0) (by kernel_rfl) h5 (fun s1 q1 h6 h7 => ?_)
    ·refine aV h6 (fun c2 H2 => ?_) (fun c3 H3 => ?_)
     ·have c2p:=MJ c2;refine aL H2 fun g0 H4 => ?_;refine aR H4 fun y0 h8 H5 => ?_;refine pD 12 [r0 [.v,.v,.v,.e (.dptr (aw (x0.getD i0 aG))),.v,.v,.e (iI ((((x0.getD i0 aG).Terms).length:Nat):Int)),.v],.eqT 20 bT,r0 [.v,.v,.e (.dptr (aw (x0.getD i0 aG))),.v,.v,.v,.e (.dptr (aq (((x0.getD i0 aG).Terms).getD s1.1.toNat ay))),.v,.v,.v],r0 [.v,.v,.c true (iI y0),.v]] [.only [0,2,3,4,5,6,35] [3]] 11 [true] (aI bo x0 i0 aG (aT (aC (aQ aq ((x0.getD i0 aG).Terms)) (aB c2 (aI bo x0 i0 aG (bp (IZ (f:=aq) (l:=((x0.getD i0 aG).Terms)) (n:=s1.1) ay aZ (by decide) (by exact g0)) (aC Tryz.call12 (aF (gi _ _ _ h8) aN)))))))) ?_;refine aR H5 fun v0 h9 H6 => ?_;refine bV 1 (pf x0 i0 s1 v0) (by kernel_rfl) ?_ ?_
      ·refine aV h9 (fun c4 H7 => ?_) (fun c5 H8 => ?_)
       ·refine aR H7 fun y1 h10 H9 => ?_;obtain rfl:=sI H9;exact pB 3 [.eqT 35 bT,r0 [.v,.v,.c true (.agg [iI y1.Const,dS aq y1.Terms]),.m]] [.only [0,2,3,4,5] [3]] (pf x0 i0 s1 (y1.Const,y1.Terms)) (aB c4 (aC Tryz.call17 (aF (dy _ _ _ _ h10) aN)))
       ·obtain rfl:=sI H8;exact pB 3 [.eqT 35 bF] [.only [0,2,3,4,5] [3]] (pf x0 i0 s1 (s1.2.1,s1.2.2)) (aB c5 aN)
      ·obtain rfl:=sI H6;exact pB 1 [r0 [.v,.w,.v]] [.only [0,2,3,4,5] [3]] (pt x0 i0 ((aK (s1.1+1)),v0.1,v0.2)) aN
     ·have c3p:=MI c3;obtain rfl:=sI H3;obtain rfl:=dM h7;exact pB 6 [r0 [.v,.v,.v,.e (.dptr (aw (x0.getD i0 aG))),.v,.v,.e (iI ((((x0.getD i0 aG).Terms).length:Nat):Int)),.v],.eqT 20 bF] [.only [0,2,3,4] [3]] (sU x0 i0 (s1.2.1,s1.2.2)) (aI bo x0 i0 aG (aT (aC (aQ aq ((x0.getD i0 aG).Terms)) (aB c3 aN))))
   ·subst e2;have H10:=a8 H1;refine bO 0 (ps:=[(x0.map aw).length≤9223372036854775807]) (by kernel_rfl) (fun l0 => ?_);have l1:x0.length≤9223372036854775807:=by simpa only [cu,MM] using l0
    clear l0;obtain rfl:=sI H10;exact pB 1 [V3] [.only [0,2,3,4] [3]] (o7 x0 (i0+1) (u0.1,u0.2)) (aH i0 aN)
 ·subst e0;have H11:=a8 H0;refine aR H11 fun y2 h11 H12 => ?_;refine bZ H12 fun e3 => ?_;subst e3;exact pR 3 [r0 [.v,.c true (dS bq y2),.v]] [] [] (aC Tryz.call79 (aF (Af _ _ h11) aN))
def da (x0:Int):Option Bool :=
 bif decide (x0≥(-4611686018427387904)) then (
  some (decide (x0≤4611686018427387904))
 ) else (
  some false
 )
theorem aY (x0:Int) (r:Bool) (H:da x0=some r):bG Tryz.prog 85 [iI x0] (.bool r):=by
 unfold da at H;refine aX Tryz.func85 9 [.tmp 2] ?_;refine aV H (fun c0 H0 => ?_) (fun c1 H1 => ?_)
 ·obtain rfl:=sI H0;exact pR 5 [V1,r0 [.v,.e bT,.v,.v,.v,.v,.v]] [] [] (aB c0 aN)
 ·obtain rfl:=sI H1;exact pR 5 [V1,r0 [.v,.e bF,.v,.s,.s,.v,.v]] [] [] (aB c1 aN)
def mw (x0:Int):Option (Int×Int×Int) :=
 some ((x0.tmod 2097152),((aK (x0.tdiv 2097152)).tmod 2097152),(aK ((aK (x0.tdiv 2097152)).tdiv 2097152)))
theorem rn (x0:Int) (r:Int×Int×Int) (H:mw x0=some r):bG Tryz.prog 86 [iI x0] (.agg [iI r.1,iI r.2.1,iI r.2.2]):=by unfold mw at H;refine aX Tryz.func86 12 [.cell 2 60] ?_;obtain rfl:=sI H;exact pR 5 [r0 [.m],r0 [.v,.v,.v,.w,.v,.v,.w,.w,.b,.m]] [] [] (aC (show (2097152:Int)≠0 from (by decide)) (aC (show (2097152:Int)≠0 from (by decide)) (aC (show (2097152:Int)≠0 from (by decide)) (aC (show (2097152:Int)≠0 from (by decide)) (aC (show (2097152:Int)≠0 from (by decide)) aN)))))
def dN (x0 x1:Int):Option (Int×Int) :=
 (da x0).bind fun y0 =>
 bif y0 then (
  (da x1).bind fun y1 =>
  bif y1 then (
   bif (x1==0) then (
    some (0,1)
   ) else (
    bf ((x1:Int)≠0) <|
    ((
     bif ((x0.tmod x1)==0) then (
      some false
     ) else (
      some (!(decide (x0<0)==decide (x1<0)))
     )
    ):Option Bool).bind fun v0 =>
    bif v0 then (
     some ((aK ((aK (x0.tdiv x1))-1)),0)
    ) else (
     some ((aK (x0.tdiv x1)),0)
    )
   )
  ) else (
   some (0,2)
  )
 ) else (
  some (0,2)
 )
def qE (x0 x1:Int) (v0:Bool):AS:=⟨34,[(4,iI 0),(5,iI 0),(6,iI (aK (x0.tdiv x1))),(30,.bool v0)],[]⟩
theorem fq (x0 x1:Int) (r:Int×Int) (H:dN x0 x1=some r):bG Tryz.prog 78 [iI x0,iI x1] (.tup [iI r.1,iI r.2]):=by
 unfold dN at H;refine aX Tryz.func78 34 [.tmp 4,.tmp 5] ?_;refine aR H fun y0 h0 H0 => ?_;refine aV H0 (fun c0 H1 => ?_) (fun c1 H2 => ?_)
 ·refine aR H1 fun y1 h1 H3 => ?_;refine aV H3 (fun c2 H4 => ?_) (fun c3 H5 => ?_)
  ·refine aV H4 (fun c4 H6 => ?_) (fun c5 H7 => ?_)
   ·obtain rfl:=sI H6;exact pR 16 [V2,r0 [.v,.c true bT,.v,.v,.v,.c true (.bool y1),.v,.v],.eqT 14 bF,V2,.eqT 16 bT,V2] [] [] (aC Tryz.call85 (aC (bG.eq (aY _ _ h0) (cB c0)) (aT (aC Tryz.call85 (aF (aY _ _ h1) (aT (aM c2 (aB c4 aN))))))))
   ·refine aL H7 fun g0 H8 => ?_;refine pD 18 [V2,r0 [.v,.c true bT,.v,.v,.v,.c true (.bool y1),.v,.v],.eqT 14 bF,V2,.eqT 16 bF,r0 [.v,.v,.w,.v]] [.only [0,1,4,5,6] []] 16 [false,false] (aC Tryz.call85 (aC (bG.eq (aY _ _ h0) (cB c0)) (aT (aC Tryz.call85 (aF (aY _ _ h1) (aT (aM c2 (aB c5 (aC (show (x1:Int)≠0 from g0) aN))))))))) ?_;refine aR H8 fun v0 h2 H9 => ?_;refine bV 0 (qE x0 x1 v0) (by kernel_rfl) ?_ ?_
    ·refine aV h2 (fun c6 H10 => ?_) (fun c7 H11 => ?_)
     ·obtain rfl:=sI H10;exact pB 1 [r0 [.v,.v,.v,.e bF,.v,.s,.s,.s,.s,.s,.v]] [.only [4,5,6,30] []] (qE x0 x1 false) (aC (show (x1:Int)≠0 from g0) (aM c6 aN))
     ·obtain rfl:=sI H11;exact pB 1 [r0 [.v,.v,.v,.e bT,.v,.v,.v,.v,.v,.v,.v]] [.only [4,5,6,30] []] (qE x0 x1 (!(decide (x0<0)==decide (x1<0)))) (aC (show (x1:Int)≠0 from g0) (aM c7 aN))
    ·refine aV H9 (fun c8 H12 => ?_) (fun c9 H13 => ?_)
     ·obtain rfl:=sI H12;exact pR 6 [.eqT 30 bT,r0 [.v,.w,.v],V3] [] [] (aB c8 aN)
     ·obtain rfl:=sI H13;exact pR 6 [.eqT 30 bF,V3] [] [] (aB c9 aN)
  ·obtain rfl:=sI H5;exact pR 10 [V2,r0 [.v,.c true bT,.v,.v,.v,.c true (.bool y1),.v,.v],.eqT 14 bT,V2] [] [] (aC Tryz.call85 (aC (bG.eq (aY _ _ h0) (cB c0)) (aT (aC Tryz.call85 (aF (aY _ _ h1) (aT (aM c3 aN)))))))
 ·obtain rfl:=sI H2;exact pR 9 [V2,r0 [.v,.c true bF,.v,.v,.s,.s,.s,.v],V2] [] [] (aC Tryz.call85 (aC (bG.eq (aY _ _ h0) (cB c1)) (aT aN)))
def sJ (x0 x1:List Int):Option (Int×Int) :=
 bif (((x0.length:Nat):Int)==((x1.length:Nat):Int)) then (
  bif decide (((x0.length:Nat):Int)>10000) then (
   some (0,3)
  ) else (
   (dn (σ:=Unit) (ε:=Unit) (ρ:=(Int×Int)) (fun i0 s0 =>
    (da (x0.getD i0 0)).bind fun y0 =>
    bif y0 then (
     bf (i0<x1.length) <|
     (da (x1.getD i0 0)).bind fun y1 =>
     bif y1 then (
      some (.go ())
     ) else (
      some (.ret (0,2))
     )
    ) else (
     some (.ret (0,2))
    )
   ) (fun i0 s0=>()) (x0.length-0) 0 ()).bind <| aft fun u0 =>
   (dn (σ:=(Int×Int×Int×Int×Int)) (ε:=(Int×Int×Int×Int×Int)) (ρ:=Empty) (fun i1 s1 =>
    (mw (x0.getD i1 0)).bind fun y2 =>
    bf (i1<x1.length) <|
    (mw (x1.getD i1 0)).bind fun y3 =>
    some (.go ((aK (s1.1+(aK (y2.1*y3.1)))),(aK ((aK (s1.2.1+(aK (y2.1*y3.2.1))))+(aK (y2.2.1*y3.1)))),(aK ((aK ((aK (s1.2.2.1+(aK (y2.1*y3.2.2))))+(aK (y2.2.1*y3.2.1))))+(aK (y2.2.2*y3.1)))),(aK ((aK (s1.2.2.2.1+(aK (y2.2.1*y3.2.2))))+(aK (y2.2.2*y3.2.1)))),(aK (s1.2.2.2.2+(aK (y2.2.2*y3.2.2))))))
   ) (fun i1 s1=>(s1.1,s1.2.1,s1.2.2.1,s1.2.2.2.1,s1.2.2.2.2)) (x0.length-0) 0 (0,0,0,0,0)).bind <| ca fun u1 =>
   (dN u1.1 2097152).bind fun y4 =>
   (some (aK (u1.1-(aK (y4.1*2097152))))).bind fun y5 =>
   (dN (aK (u1.2.1+y4.1)) 2097152).bind fun y6 =>
   (some (aK ((aK (u1.2.1+y4.1))-(aK (y6.1*2097152))))).bind fun y7 =>
   (dN (aK (u1.2.2.1+y6.1)) 2097152).bind fun y8 =>
   (some (aK ((aK (u1.2.2.1+y6.1))-(aK (y8.1*2097152))))).bind fun y9 =>
   (dN (aK (u1.2.2.2.1+y8.1)) 2097152).bind fun y10 =>
   (some (aK ((aK (u1.2.2.2.1+y8.1))-(aK (y10.1*2097152))))).bind fun y11 =>
   (dN (aK (u1.2.2.2.2+y10.1)) 2097152).bind fun y12 =>
   (some (aK ((aK (u1.2.2.2.2+y10.1))-(aK (y12.1*2097152))))).bind fun y13 =>
   (dN (aK (0+y12.1)) 2097152).bind fun y14 =>
   (some (aK ((aK (0+y12.1))-(aK (y14.1*2097152))))).bind fun y15 =>
   (dN (aK (0+y14.1)) 2097152).bind fun y16 =>
   (some (aK ((aK (0+y14.1))-(aK (y16.1*2097152))))).bind fun y17 =>
   bif decide ((aK (0+(aK (0+y16.1))))>2199023255552) then (
    some (0,2)
   ) else (
    bif decide ((aK (0+(aK (0+y16.1))))<(-2199023255552)) then (
     some (0,2)
    ) else (
     (some (aK ((aK (0+(aK (0+y16.1))))*2097152))).bind fun y18 =>
     bif decide ((aK (y18+y17))>2199023255552) then (
      some (0,2)
     ) else (
      bif decide ((aK (y18+y17))<(-2199023255552)) then (
       some (0,2)
      ) else (
       (some (aK ((aK (y18+y17))*2097152))).bind fun y19 =>
       bif decide ((aK (y19+y15))>2199023255552) then (
        some (0,2)
       ) else (
        bif decide ((aK (y19+y15))<(-2199023255552)) then (
         some (0,2)
        ) else (
         (some (aK ((aK (y19+y15))*2097152))).bind fun y20 =>
         bif decide ((aK (y20+y13))>2199023255552) then (
          some (0,2)
         ) else (
          bif decide ((aK (y20+y13))<(-2199023255552)) then (
           some (0,2)
          ) else (
           (some (aK ((aK (y20+y13))*2097152))).bind fun y21 =>
           bif decide ((aK (y21+y11))>2199023255552) then (
            some (0,2)
           ) else (
            bif decide ((aK (y21+y11))<(-2199023255552)) then (
             some (0,2)
            ) else (
             (some (aK ((aK (y21+y11))*2097152))).bind fun y22 =>
             bif decide ((aK (y22+y9))>2199023255552) then (
              some (0,2)
             ) else (
              bif decide ((aK (y22+y9))<(-2199023255552)) then (
               some (0,2)
              ) else (
               (some (aK ((aK (y22+y9))*2097152))).bind fun y23 =>
               bif decide ((aK (y23+y7))>2199023255552) then (
                some (0,2)
               ) else (
                bif decide ((aK (y23+y7))<(-2199023255552)) then (
                 some (0,2)
                ) else (
                 (some (aK ((aK (y23+y7))*2097152))).bind fun y24 =>
                 (da (aK (y24+y5))).bind fun y25 =>
                 bif y25 then (
                  some ((aK (y24+y5)),0)
                 ) else (
                  some (0,2)
                 )
                )
               )
              )
             )
            )
           )
          )
         )
        )
       )
      )
     )
    )
   )
  )
 ) else (
  some (0,1)
 )
def qw (x0 x1:List Int) (i0:Nat) (s0:Unit):AS:=⟨130,[(0,dS ao x0),(1,dS ao x1),(4,iI 0),(5,iI 0),(6,nI i0)],[]⟩
def uh (x0 x1:List Int) (u2:Unit):AS:=⟨130,[(0,dS ao x0),(1,dS ao x1),(4,iI 0),(5,iI 0)],[]⟩
def qk (x0 x1:List Int) (i1:Nat) (s1:Int×Int×Int×Int×Int):AS:=⟨130,[(0,dS ao x0),(1,dS ao x1),(4,iI 0),(5,iI 0),(7,.hptr 7 0),(8,nI i1)],[(7,.cells 136 [iI s1.1,iI s1.2.1,iI s1.2.2.1,iI s1.2.2.2.1,iI s1.2.2.2.2,iI 0,iI 0,iI 0])]⟩
def ur (u3:Int×Int×Int×Int×Int):AS:=⟨130,[(4,iI 0),(5,iI 0),(7,.hptr 7 0)],[(7,.cells 136 [iI u3.1,iI u3.2.1,iI u3.2.2.1,iI u3.2.2.2.1,iI u3.2.2.2.2,iI 0,iI 0,iI 0])]⟩
theorem oJ (x0 x1:List Int) (r:Int×Int) (H:sJ x0 x1=some r):bG Tryz.prog 52 [dS ao x0,dS ao x1] (.tup [iI r.1,iI r.2]):=by
 unfold sJ at H;refine aX Tryz.func52 130 [.tmp 4,.tmp 5] ?_;refine aV H (fun c0 H0 => ?_) (fun c1 H1 => ?_)
 ·refine pD 11 [.rg 0 [] [.v,.v],.rg 0 [] [.v,.e (.int .i64 ((x0.length:Nat):Int)),.v,.e (.int .i64 ((x1.length:Nat):Int)),.v],.eqT 22 bF,.rg 0 [] [.v,.e (.int .i64 ((x0.length:Nat):Int)),.v]] [.only [0,1,4,5,25] []] 10 [false] (aT (aC (aQ ao x0) (aT (aC (aQ ao x1) (aM c0 (aT (aC (aQ ao x0) aN))))))) ?_;refine aV H0 (fun c2 H2 => ?_) (fun c3 H3 => ?_)
  ·obtain rfl:=sI H2;exact pR 5 [.eqT 25 bT,V2] [] [] (aB c2 aN)
  ·have c3p:=MI c3;refine pA 7 [.eqT 25 bF,V1] [.only [0,1,4,5,6] []] 6 [false] (qw x0 x1 0 ()) (aB c3 aN) ?_;refine aR H3 fun R0 h0 H4 => ?_;refine pJ 1 (uh x0 x1) R0 ?_ (fun u0 e0 => ?_)
   ·refine pC (qw x0 x1) h0 (fun i0 s0 h1 e1 => ?_) (fun i0 s0 h2 q0 h3 h4 => ?_)
    ·have c4:=lF i0 x0.length (by omega);subst e1;exact pB 5 [r0 [.v,.v,.e (nI x0.length),.e bF]] [.only [0,1,4,5] []] (uh x0 x1 ()) (aT (aC (aQ ao x0) (aB c4 aN)))
    ·have c5:=lT i0 x0.length (by omega);refine aR h3 fun y0 h5 H5 => ?_;refine aV H5 (fun c6 H6 => ?_) (fun c7 H7 => ?_)
     ·refine aL H6 fun g0 H8 => ?_;refine aR H8 fun y1 h6 H9 => ?_;refine pD 9 [r0 [.v,.v,.e (nI x0.length),.e bT],r0 [.v,.v,.e (.dptr [iI (x0.getD i0 0)]),.v,.c true bT,.v,.v,.v,.v,.e (.dptr [iI (x1.getD i0 0)]),.v,.c true (.bool y1),.v,.v]] [.only [0,1,4,5,6,45] []] 9 [true] (aT (aC (aQ ao x0) (aB c5 (aI bK x0 i0 0 (aC Tryz.call85 (aC (bG.eq (aY _ _ h5) (cB c6)) (aT (aI bK x1 i0 0 (aC Tryz.call85 (aF (aY _ _ h6) (aT aN))))))))))) ?_;refine aV H9 (fun c8 H10 => ?_) (fun c9 H11 => ?_)
      ·refine bO 0 (ps:=[(x0.map ao).length≤9223372036854775807]) (by kernel_rfl) (fun l0 => ?_);have l1:x0.length≤9223372036854775807:=by simpa only [cu,MM] using l0
       clear l0;obtain rfl:=sI H10;exact pB 4 [.eqT 45 bF,V3] [.only [0,1,4,5,6] []] (qw x0 x1 (i0+1) ()) (aM c8 (aH i0 aN))
      ·obtain rfl:=sI H11;obtain rfl:=aW h4;obtain rfl:=sI (aP H4);exact pR 5 [.eqT 45 bT,V2] [] [] (aM c9 aN)
     ·obtain rfl:=sI H7;obtain rfl:=aW h4;obtain rfl:=sI (aP H4);exact pR 13 [r0 [.v,.v,.e (nI x0.length),.e bT],r0 [.v,.v,.e (.dptr [iI (x0.getD i0 0)]),.v,.c true bF,.v,.v,.s,.s,.s,.s,.s,.s,.v],V2] [] [] (aT (aC (aQ ao x0) (aB c5 (aI bK x0 i0 0 (aC Tryz.call85 (aC (bG.eq (aY _ _ h5) (cB c7)) (aT aN)))))))
   ·subst e0;have H12:=bl H4;refine pA 6 [r0 [.m],V1] [.only [0,1,4,5,7,8] [7]] 6 [] (qk x0 x1 0 (0,0,0,0,0)) aN ?_;refine aR H12 fun R1 h7 H13 => ?_;refine pJ 1 (ur) R1 ?_ (fun u1 e2 => ?_)
    ·refine pC (qk x0 x1) h7 (fun i1 s1 h8 e3 => ?_) (fun i1 s1 h9 q1 h10 h11 => ?_)
     ·have c10:=lF i1 x0.length (by omega);subst e3;exact pB 5 [r0 [.v,.v,.e (nI x0.length),.e bF]] [.only [4,5,7] [7]] (ur (s1.1,s1.2.1,s1.2.2.1,s1.2.2.2.1,s1.2.2.2.2)) (aT (aC (aQ ao x0) (aB c10 aN)))
     ·have c11:=lT i1 x0.length (by omega);refine aR h10 fun y2 h12 H14 => ?_;refine aL H14 fun g1 H15 => ?_;refine aR H15 fun y3 h13 H16 => ?_;refine bO 0 (ps:=[(x0.map ao).length≤9223372036854775807]) (by kernel_rfl) (fun l2 => ?_);have l3:x0.length≤9223372036854775807:=by simpa only [cu,MM] using l2
      clear l2;obtain rfl:=sI H16;exact pB 163 [r0 [.v,.v,.e (nI x0.length),.e bT],.rg 12 [.v,.v,.e (.dptr [iI (x0.getD i1 0)]),.v,.c true (.agg [iI y2.1,iI y2.2.1,iI y2.2.2]),.v,.v,.e (.dptr [iI (x1.getD i1 0)]),.v,.c true (.agg [iI y3.1,iI y3.2.1,iI y3.2.2]),.m,.m] [.m,.m],V1,.un,V2,V1,.un,V2,.rg 12 (V 11 [.w]) [.w,.v,.m],V3,.cv [.only [0,1,4,5,7,8,9,10,11,12] [7,9,10]],V2,.rg 12 (V 11 [.w]) [.w,.v,.m],V3,.cv [.only [0,1,4,5,7,8,9,10,11,12] [7,9,10]],V2,.rg 12 (V 11 [.w]) [.w,.v,.m],V3,.cv [.only [0,1,4,5,7,8,9,10,11,12] [7,9,10]],V2,V3,.cv [.only [0,1,4,5,7,8,9,10,11] [7,9,10]],V2,V1,.un,V2,.rg 12 (V 11 [.w]) [.w,.v,.m],V3,.cv [.only [0,1,4,5,7,8,9,10,11,12] [7,9,10]],V2,.rg 12 (V 11 [.w]) [.w,.v,.m],V3,.cv [.only [0,1,4,5,7,8,9,10,11,12] [7,9,10]],V2,.rg 12 (V 11 [.w]) [.w,.v,.m],V3,.cv [.only [0,1,4,5,7,8,9,10,11,12] [7,9,10]],V2,V3,.cv [.only [0,1,4,5,7,8,9,10,11] [7,9,10]],V2,V1,.un,V2,.rg 12 (V 11 [.w]) [.w,.v,.m],V3,.cv [.only [0,1,4,5,7,8,9,10,11,12] [7,9,10]],V2,.rg 12 (V 11 [.w]) [.w,.v,.m],V3,.cv [.only [0,1,4,5,7,8,9,10,11,12] [7,9,10]],V2,.rg 12 (V 11 [.w]) [.w,.v,.m],V3,.cv [.only [0,1,4,5,7,8,9,10,11,12] [7,9,10]],V2,V3,.cv [.only [0,1,4,5,7,8,9,10,11] [7,9,10]],V2,V3] [.only [0,1,4,5,7,8] [7]] (qk x0 x1 (i1+1) ((aK (s1.1+(aK (y2.1*y3.1)))),(aK ((aK (s1.2.1+(aK (y2.1*y3.2.1))))+(aK (y2.2.1*y3.1)))),(aK ((aK ((aK (s1.2.2.1+(aK (y2.1*y3.2.2))))+(aK (y2.2.1*y3.2.1))))+(aK (y2.2.2*y3.1)))),(aK ((aK (s1.2.2.2.1+(aK (y2.2.1*y3.2.2))))+(aK (y2.2.2*y3.2.1)))),(aK (s1.2.2.2.2+(aK (y2.2.2*y3.2.2)))))) (aT (aC (aQ ao x0) (aB c11 (aI bK x0 i1 0 (aC Tryz.call86 (aF (rn _ _ h12) (aI bK x1 i1 0 (aC Tryz.call86 (aF (rn _ _ h13) (aO (0+0) (aT (aT (aT (aT (aO (0+1) (aO (0+1) (aT (aT (aT (aT (aO (1+1) (aO (0+2) (aT (aT (aT (aT (aO (2+1) (aO (0+1) (aO (1+0) (aT (aT (aT (aT (aO (0+1) (aO (1+1) (aT (aT (aT (aT (aO (1+1) (aO (1+2) (aT (aT (aT (aT (aO (2+1) (aO (1+1) (aO (2+0) (aT (aT (aT (aT (aO (0+1) (aO (2+1) (aT (aT (aT (aT (aO (1+1) (aO (2+2) (aT (aT (aT (aT (aO (2+1) (aO (2+1) (aH i1 aN)))))))))))))))))))))))))))))))))))))))))))))))))))))))))))))))))))
    ·subst e2;have H17:=a8 H13;refine aR H17 fun y4 h14 H18 => ?_;refine aR H18 fun y5 h15 H19 => ?_;refine aR H19 fun y6 h16 H20 => ?_;refine aR H20 fun y7 h17 H21 => ?_;refine aR H21 fun y8 h18 H22 => ?_;refine aR H22 fun y9 h19 H23 => ?_;refine aR H23 fun y10 h20 H24 => ?_;refine aR H24 fun y11 h21 H25 => ?_;refine aR H25 fun y12 h22 H26 => ?_;refine aR H26 fun y13 h23 H27 => ?_;refine aR H27 fun y14 h24 H28 => ?_;refine aR H28 fun y15 h25 H29 => ?_;refine aR H29 fun y16 h26 H30 => ?_;refine aR H30 fun y17 h27 H31 => ?_;refine pD 139 [V1,.un,V3,r0 [.v,.v,.v,.c true (.tup [iI y4.1,iI y4.2]),.v,.v,.v,.v,.v],r0 (V 4 [.w,.we (iI y5),.v,.m]),r0 (V 5 [.w,.v,.m]),V3,.cv [.only [4,5,7,13] [7]],V3,r0 [.v,.v,.v,.c true (.tup [iI y6.1,iI y6.2]),.v,.v,.v,.v,.v],r0 (V 4 [.w,.we (iI y7),.v,.m]),r0 (V 5 [.w,.v,.m]),V3,.cv [.only [4,5,7,13] [7]],V3,r0 [.v,.v,.v,.c true (.tup [iI y8.1,iI y8.2]),.v,.v,.v,.v,.v],r0 (V 4 [.w,.we (iI y9),.v,.m]),r0 (V 5 [.w,.v,.m]),V3,.cv [.only [4,5,7,13] [7]],V3,r0 [.v,.v,.v,.c true (.tup [iI y10.1,iI y10.2]),.v,.v,.v,.v,.v],r0 (V 4 [.w,.we (iI y11),.v,.m]),r0 (V 5 [.w,.v,.m]),V3,.cv [.only [4,5,7,13] [7]],V3,r0 [.v,.v,.v,.c true (.tup [iI y12.1,iI y12.2]),.v,.v,.v,.v,.v],r0 (V 4 [.w,.we (iI y13),.v,.m]),r0 (V 5 [.w,.v,.m]),V3,.cv [.only [4,5,7,13] [7]],V3,r0 [.v,.v,.v,.c true (.tup [iI y14.1,iI y14.2]),.v,.v,.v,.v,.v],r0 (V 4 [.w,.we (iI y15),.v,.m]),r0 (V 5 [.w,.v,.m]),V3,.cv [.only [4,5,7,13] [7]],V3,r0 [.v,.v,.v,.c true (.tup [iI y16.1,iI y16.2]),.v,.v,.v,.v,.v],r0 (V 4 [.w,.we (iI y17),.v,.m]),r0 (V 5 [.w,.v,.m]),V3,.cv [.only [4,5,7,13] [7]],V3,V1,V1,.un,V2,V6,r0 (V 5 [.w,.v]),V3,.cv [.only [4,5,7,16,17] [7]],V2] [.only [4,5,7,16,17] [7]] 131 [true,true,true,true,true,true,true,false,true,false,true] (aO (0+1) (aT (aC Tryz.call78 (aF (fq _ _ _ h14) (aT (aC (congrArg (AV.int .i64) (MQ h15)) (aT (aO (0+1) (aT (aT (aO (0+1) (aO (1+1) (aT (aC Tryz.call78 (aF (fq _ _ _ h16) (aT (aC (congrArg (AV.int .i64) (MQ h17)) (aT (aO (1+1) (aT (aT (aO (1+1) (aO (2+1) (aT (aC Tryz.call78 (aF (fq _ _ _ h18) (aT (aC (congrArg (AV.int .i64) (MQ h19)) (aT (aO (2+1) (aT (aT (aO (2+1) (aO (3+1) (aT (aC Tryz.call78 (aF (fq _ _ _ h20) (aT (aC (congrArg (AV.int .i64) (MQ h21)) (aT (aO (3+1) (aT (aT (aO (3+1) (aO (4+1) (aT (aC Tryz.call78 (aF (fq _ _ _ h22) (aT (aC (congrArg (AV.int .i64) (MQ h23)) (aT (aO (4+1) (aT (aT (aO (4+1) (aO (5+1) (aT (aC Tryz.call78 (aF (fq _ _ _ h24) (aT (aC (congrArg (AV.int .i64) (MQ h25)) (aT (aO (5+1) (aT (aT (aO (5+1) (aO (6+1) (aT (aC Tryz.call78 (aF (fq _ _ _ h26) (aT (aC (congrArg (AV.int .i64) (MQ h27)) (aT (aO (6+1) (aT (aT (aO (6+1) (aO (7+1) (aO (0*2097152) (aT (aO (7-1) aN))))))))))))))))))))))))))))))))))))))))))))))))))))))))))))))))))))))))))))))))) ?_;refine aV H31 (fun c12 H32 => ?_) (fun c13 H33 => ?_)
     ·obtain rfl:=sI H32;exact pR 5 [r0 [.v,.e bT,.v,.s,.s,.v],V2] [] [] (aB c12 aN)
     ·have c13p:=MI c13;refine aV H33 (fun c14 H34 => ?_) (fun c15 H35 => ?_)
      ·obtain rfl:=sI H34;exact pR 6 [r0 [.v,.e bF,.v,.v,.v,.v],.eqT 119 bT,V2] [] [] (aB c13 (aB c14 aN))
      ·have c15p:=MI c15;refine aR H35 fun y18 h28 H36 => ?_;refine pD 16 [r0 [.v,.e bF,.v,.v,.v,.v],.eqT 119 bF,r0 [.v,.we (iI y18),.v,.v,.v,.w,.v],V3,.cv [.only [4,5,7,16,17] [7]],V2] [.only [4,5,7,16,17] [7]] 14 [false,true] (aB c13 (aB c15 (aC (congrArg (AV.int .i64) (MQ h28)) (aT (aO (6-1) aN))))) ?_;refine aV H36 (fun c16 H37 => ?_) (fun c17 H38 => ?_)
       ·obtain rfl:=sI H37;exact pR 5 [r0 [.v,.e bT,.v,.s,.s,.v],V2] [] [] (aB c16 aN)
       ·have c17p:=MI c17;refine aV H38 (fun c18 H39 => ?_) (fun c19 H40 => ?_)
        ·obtain rfl:=sI H39;exact pR 6 [r0 [.v,.e bF,.v,.v,.v,.v],.eqT 119 bT,V2] [] [] (aB c17 (aB c18 aN))
        ·have c19p:=MI c19;refine aR H40 fun y19 h29 H41 => ?_;refine pD 16 [r0 [.v,.e bF,.v,.v,.v,.v],.eqT 119 bF,r0 [.v,.we (iI y19),.v,.v,.v,.w,.v],V3,.cv [.only [4,5,7,16,17] [7]],V2] [.only [4,5,7,16,17] [7]] 14 [false,true] (aB c17 (aB c19 (aC (congrArg (AV.int .i64) (MQ h29)) (aT (aO (5-1) aN))))) ?_;refine aV H41 (fun c20 H42 => ?_) (fun c21 H43 => ?_)
         ·obtain rfl:=sI H42;exact pR 5 [r0 [.v,.e bT,.v,.s,.s,.v],V2] [] [] (aB c20 aN)
         ·have c21p:=MI c21;refine aV H43 (fun c22 H44 => ?_) (fun c23 H45 => ?_)
          ·obtain rfl:=sI H44;exact pR 6 [r0 [.v,.e bF,.v,.v,.v,.v],.eqT 119 bT,V2] [] [] (aB c21 (aB c22 aN))
          ·have c23p:=MI c23;refine aR H45 fun y20 h30 H46 => ?_;refine pD 16 [r0 [.v,.e bF,.v,.v,.v,.v],.eqT 119 bF,r0 [.v,.we (iI y20),.v,.v,.v,.w,.v],V3,.cv [.only [4,5,7,16,17] [7]],V2] [.only [4,5,7,16,17] [7]] 14 [false,true] (aB c21 (aB c23 (aC (congrArg (AV.int .i64) (MQ h30)) (aT (aO (4-1) aN))))) ?_;refine aV H46 (fun c24 H47 => ?_) (fun c25 H48 => ?_)
           ·obtain rfl:=sI H47;exact pR 5 [r0 [.v,.e bT,.v,.s,.s,.v],V2] [] [] (aB c24 aN)
           ·have c25p:=MI c25;refine aV H48 (fun c26 H49 => ?_) (fun c27 H50 => ?_)
            ·obtain rfl:=sI H49;exact pR 6 [r0 [.v,.e bF,.v,.v,.v,.v],.eqT 119 bT,V2] [] [] (aB c25 (aB c26 aN))
            ·have c27p:=MI c27;refine aR H50 fun y21 h31 H51 => ?_;refine pD 16 [r0 [.v,.e bF,.v,.v,.v,.v],.eqT 119 bF,r0 [.v,.we (iI y21),.v,.v,.v,.w,.v],V3,.cv [.only [4,5,7,16,17] [7]],V2] [.only [4,5,7,16,17] [7]] 14 [false,true] (aB c25 (aB c27 (aC (congrArg (AV.int .i64) (MQ h31)) (aT (aO (3-1) aN))))) ?_;refine aV H51 (fun c28 H52 => ?_) (fun c29 H53 => ?_)
             ·obtain rfl:=sI H52;exact pR 5 [r0 [.v,.e bT,.v,.s,.s,.v],V2] [] [] (aB c28 aN)
             ·have c29p:=MI c29;refine aV H53 (fun c30 H54 => ?_) (fun c31 H55 => ?_)
              ·obtain rfl:=sI H54;exact pR 6 [r0 [.v,.e bF,.v,.v,.v,.v],.eqT 119 bT,V2] [] [] (aB c29 (aB c30 aN))
              ·have c31p:=MI c31;refine aR H55 fun y22 h32 H56 => ?_;refine pD 16 [r0 [.v,.e bF,.v,.v,.v,.v],.eqT 119 bF,r0 [.v,.we (iI y22),.v,.v,.v,.w,.v],V3,.cv [.only [4,5,7,16,17] [7]],V2] [.only [4,5,7,16,17] [7]] 14 [false,true] (aB c29 (aB c31 (aC (congrArg (AV.int .i64) (MQ h32)) (aT (aO (2-1) aN))))) ?_;refine aV H56 (fun c32 H57 => ?_) (fun c33 H58 => ?_)
               ·obtain rfl:=sI H57;exact pR 5 [r0 [.v,.e bT,.v,.s,.s,.v],V2] [] [] (aB c32 aN)
               ·have c33p:=MI c33;refine aV H58 (fun c34 H59 => ?_) (fun c35 H60 => ?_)
                ·obtain rfl:=sI H59;exact pR 6 [r0 [.v,.e bF,.v,.v,.v,.v],.eqT 119 bT,V2] [] [] (aB c33 (aB c34 aN))
                ·have c35p:=MI c35;refine aR H60 fun y23 h33 H61 => ?_;refine pD 16 [r0 [.v,.e bF,.v,.v,.v,.v],.eqT 119 bF,r0 [.v,.we (iI y23),.v,.v,.v,.w,.v],V3,.cv [.only [4,5,7,16,17] [7]],V2] [.only [4,5,7,16,17] [7]] 14 [false,true] (aB c33 (aB c35 (aC (congrArg (AV.int .i64) (MQ h33)) (aT (aO (1-1) aN))))) ?_;refine aV H61 (fun c36 H62 => ?_) (fun c37 H63 => ?_)
                 ·obtain rfl:=sI H62;exact pR 5 [r0 [.v,.e bT,.v,.s,.s,.v],V2] [] [] (aB c36 aN)
                 ·have c37p:=MI c37;refine aV H63 (fun c38 H64 => ?_) (fun c39 H65 => ?_)
                  ·obtain rfl:=sI H64;exact pR 6 [r0 [.v,.e bF,.v,.v,.v,.v],.eqT 119 bT,V2] [] [] (aB c37 (aB c38 aN))
                  ·have c39p:=MI c39;refine aR H65 fun y24 h34 H66 => ?_;refine aR H66 fun y25 h35 H67 => ?_;refine pD 15 [r0 [.v,.e bF,.v,.v,.v,.v],.eqT 119 bF,r0 [.v,.we (iI y24),.v,.v,.v,.w,.v],V3,.cv [.only [4,5,7,16,17] [7]],V2,r0 [.v,.c true (.bool y25),.v]] [.only [4,5,16,128] []] 13 [false,false] (aB c37 (aB c39 (aC (congrArg (AV.int .i64) (MQ h34)) (aT (aO (0-1) (aC Tryz.call85 (aF (aY _ _ h35) (aT aN)))))))) ?_;refine aV H67 (fun c40 H68 => ?_) (fun c41 H69 => ?_)
                   ·obtain rfl:=sI H68;exact pR 6 [.eqT 128 bF,V3] [] [] (aM c40 aN)
                   ·obtain rfl:=sI H69;exact pR 5 [.eqT 128 bT,V2] [] [] (aM c41 aN)
 ·obtain rfl:=sI H1;exact pR 10 [V2,r0 [.v,.e (nI x0.length),.v,.e (nI x1.length),.v],.eqT 22 bT,V2] [] [] (aT (aC (aQ ao x0) (aT (aC (aQ ao x1) (aM c1 aN)))))
def kg (x0 x1:Int):Option Bool :=
 bif (x1==0) then (
  some (x0==0)
 ) else (
  bf ((x1:Int)≠0) <|
  some ((x0.tmod x1)==0)
 )
theorem py (x0 x1:Int) (r:Bool) (H:kg x0 x1=some r):bG Tryz.prog 53 [iI x0,iI x1] (.bool r):=by
 unfold kg at H;refine aX Tryz.func53 13 [.tmp 4] ?_;refine aV H (fun c0 H0 => ?_) (fun c1 H1 => ?_)
 ·obtain rfl:=sI H0;exact pR 10 [V1,V2,.eqT 6 bT,V3] [] [] (aB c0 aN)
 ·refine aL H1 fun g0 H2 => ?_;obtain rfl:=sI H2;exact pR 11 [V1,V2,.eqT 6 bF,V5] [] [] (aB c1 (aC (show (x1:Int)≠0 from g0) aN))
def ow (x0:List Linear) (x1:al):Option Bool :=
 (im x0).bind fun y0 =>
 bif y0 then (
  bif decide (((x0.length:Nat):Int)>6000) then (
   some false
  ) else (
   bif (((x1.Mults.length:Nat):Int)==((x0.length:Nat):Int)) then (
    bif decide (x1.Mod<0) then (
     some false
    ) else (
     bif decide (x1.Mod>1099511627776) then (
      some false
     ) else (
      (dn (σ:=(List Int)) (ε:=(List Int)) (ρ:=Bool) (fun i0 s0 =>
       bf (i0<x1.Mults.length) <|
       bif decide ((x1.Mults.getD i0 0)<(-1099511627776)) then (
        some (.ret false)
       ) else (
        bif decide ((x1.Mults.getD i0 0)>1099511627776) then (
         some (.ret false)
        ) else (
         bf ((s0.length+1)*8≤140737488355328) <|
         some (.go (s0++[((x0.getD i0 aG).Const)]))
        )
       )
      ) (fun i0 s0=>s0) (x0.length-0) 0 []).bind <| aft fun u0 =>
      (ju x0).bind fun y1 =>
      (dn (σ:=Unit) (ε:=Unit) (ρ:=Bool) (fun i1 s1 =>
       (dn (σ:=(List Int)) (ε:=(List Int)) (ρ:=Empty) (fun i2 s2 =>
        (cr (Linear.mk ((x0.getD i2 aG).Const) ((x0.getD i2 aG).Terms)) (y1.getD i1 [])).bind fun y2 =>
        bf ((s2.length+1)*8≤140737488355328) <|
        some (.go (s2++[y2]))
       ) (fun i2 s2=>s2) (x0.length-0) 0 []).bind <| ca fun u1 =>
       (sJ x1.Mults u1).bind fun y3 =>
       bif (y3.2==0) then (
        (kg y3.1 x1.Mod).bind fun y4 =>
        bif y4 then (
         some (.go ())
        ) else (
         some (.ret false)
        )
       ) else (
        some (.ret false)
       )
      ) (fun i1 s1=>()) (y1.length-0) 0 ()).bind <| aft fun u2 =>
      (sJ x1.Mults u0).bind fun y5 =>
      bif (y5.2==0) then (
       (kg y5.1 x1.Mod).bind fun y6 =>
       some (!y6)
      ) else (
       some false
      )
     )
    )
   ) else (
    some false
   )
  )
 ) else (
  some false
 )
def nG (x0:List Linear) (x1:al) (i0:Nat) (s0:List Int):AS:=⟨127,[(0,dS aw x0),(3,.hptr 3 0),(4,.bool false),(5,.rslice 68),(6,nI i0)],[(3,.cells 53 [dS ao x1.Mults,iI x1.Mod]),(68,.row 3 1 (s0.map ao))]⟩
def rF (x0:List Linear) (x1:al) (u3:List Int):AS:=⟨127,[(0,dS aw x0),(3,.hptr 3 0),(4,.bool false),(5,.rslice 68)],[(3,.cells 53 [dS ao x1.Mults,iI x1.Mod]),(68,.row 3 1 (u3.map ao))]⟩
def nr (x0:List Linear) (x1:al) (u0:List Int) (y1:List aJ) (i1:Nat) (s1:Unit):AS:=⟨127,[(0,dS aw x0),(3,.hptr 3 0),(4,.bool false),(5,.rslice 68),(7,dS bq y1),(8,nI i1)],[(3,.cells 53 [dS ao x1.Mults,iI x1.Mod]),(68,.row 3 1 (u0.map ao))]⟩
def r7 (x1:al) (u0:List Int) (u4:Unit):AS:=⟨127,[(3,.hptr 3 0),(4,.bool false),(5,.rslice 68)],[(3,.cells 53 [dS ao x1.Mults,iI x1.Mod]),(68,.row 3 1 (u0.map ao))]⟩
def n5 (x0:List Linear) (x1:al) (u0:List Int) (y1:List aJ) (i1 i2:Nat) (s2:List Int):AS:=⟨127,[(0,dS aw x0),(3,.hptr 3 0),(4,.bool false),(5,.rslice 68),(7,dS bq y1),(8,nI i1),(9,.rslice 94),(10,nI i2)],[(3,.cells 53 [dS ao x1.Mults,iI x1.Mod]),(68,.row 3 1 (u0.map ao)),(94,.row 3 1 (s2.map ao))]⟩
def rX (x0:List Linear) (x1:al) (u0:List Int) (y1:List aJ) (i1:Nat) (u5:List Int):AS:=⟨127,[(0,dS aw x0),(3,.hptr 3 0),(4,.bool false),(5,.rslice 68),(7,dS bq y1),(8,nI i1),(9,.rslice 94)],[(3,.cells 53 [dS ao x1.Mults,iI x1.Mod]),(68,.row 3 1 (u0.map ao)),(94,.row 3 1 (u5.map ao))]⟩
theorem iO (x0:List Linear) (x1:al) (r:Bool) (H:ow x0 x1=some r):bG Tryz.prog 25 [dS aw x0,.agg [dS ao x1.Mults,iI x1.Mod]] (.bool r):=by
 unfold ow at H;refine aX Tryz.func25 127 [.tmp 4] ?_;refine aR H fun y0 h0 H0 => ?_;refine aV H0 (fun c0 H1 => ?_) (fun c1 H2 => ?_)
 ·refine aV H1 (fun c2 H3 => ?_) (fun c3 H4 => ?_)
  ·obtain rfl:=sI H3;exact pR 9 [r0 [.m,.v],r0 [.v,.c true bT,.v,.v,.v,.e (nI x0.length),.e bT,.v,.v,.s,.s,.s,.s,.s,.s,.v,.v,.s,.s,.s,.v,.v,.s,.s,.s,.v],V1] [] [] (aC Tryz.call13 (aC (bG.eq (cQ _ _ h0) (cB c0)) (aT (aT (aC (aQ aw x0) (aB c2 aN))))))
  ·have c3p:=MI c3;refine aV H4 (fun c4 H5 => ?_) (fun c5 H6 => ?_)
   ·refine aV H5 (fun c6 H7 => ?_) (fun c7 H8 => ?_)
    ·obtain rfl:=sI H7;exact pR 9 [r0 [.m,.v],r0 [.v,.c true bT,.v,.v,.v,.e (nI x0.length),.e bF,.v,.v,.v,.v,.e (nI x1.Mults.length),.v,.e (nI x0.length),.e bF,.v,.v,.v,.v,.e bT,.v,.v,.s,.s,.s,.v],V1] [] [] (aC Tryz.call13 (aC (bG.eq (cQ _ _ h0) (cB c0)) (aT (aT (aC (aQ aw x0) (aB c3 (aT (aC (aQ ao x1.Mults) (aT (aC (aQ aw x0) (aM c4 (aB c6 aN))))))))))))
    ·have c7p:=MI c7;refine pD 5 [r0 [.m,.v],r0 [.v,.c true bT,.v,.v,.v,.e (nI x0.length),.e bF,.v,.v,.v,.v,.e (nI x1.Mults.length),.v,.e (nI x0.length),.e bF,.v,.v,.v,.v,.e bF,.v,.v,.v,.v,.v,.v]] [.only [0,3,4,40] [3]] 5 [] (aC Tryz.call13 (aC (bG.eq (cQ _ _ h0) (cB c0)) (aT (aT (aC (aQ aw x0) (aB c3 (aT (aC (aQ ao x1.Mults) (aT (aC (aQ aw x0) (aM c4 (aB c7 aN)))))))))))) ?_;refine aV H8 (fun c8 H9 => ?_) (fun c9 H10 => ?_)
     ·obtain rfl:=sI H9;exact pR 5 [.eqT 40 bT,V1] [] [] (aB c8 aN)
     ·have c9p:=MI c9;refine pA 9 [.eqT 40 bF,V1,V1] [.er 5 68 3 1,.only [0,3,4,5,6] [3,68]] 8 [false] (nG x0 x1 0 []) (aB c9 aN) ?_;refine aR H10 fun R0 h1 H11 => ?_;refine pJ 1 (rF x0 x1) R0 ?_ (fun u0 e0 => ?_)
      ·refine pC (nG x0 x1) h1 (fun i0 s0 h2 e1 => ?_) (fun i0 s0 h3 q0 h4 h5 => ?_)
       ·have c10:=lF i0 x0.length (by omega);subst e1;exact pB 5 [r0 [.v,.v,.e (nI x0.length),.e bF]] [.only [0,3,4,5] [3,68]] (rF x0 x1 s0) (aT (aC (aQ aw x0) (aB c10 aN)))
       ·have c11:=lT i0 x0.length (by omega);refine aL h4 fun g0 H12 => ?_;refine aV H12 (fun c12 H13 => ?_) (fun c13 H14 => ?_)
        ·have c12p:=MJ c12;obtain rfl:=sI H13;obtain rfl:=aW h5;obtain rfl:=sI (aP H11);exact pR 14 [r0 [.v,.v,.e (nI x0.length),.e bT],r0 [.v,.v,.v,.e (.dptr [iI (x1.Mults.getD i0 0)]),.v,.e bT,.v,.s,.s,.s,.s,.s,.s,.v],V1] [] [] (aT (aC (aQ aw x0) (aB c11 (aI bK x1.Mults i0 0 (aB c12 aN)))))
        ·have c13p:=MI c13;refine pD 10 [r0 [.v,.v,.e (nI x0.length),.e bT],r0 [.v,.v,.v,.e (.dptr [iI (x1.Mults.getD i0 0)]),.v,.e bF,.v,.v,.v,.v,.e (.dptr [iI (x1.Mults.getD i0 0)]),.v,.v,.v]] [.only [0,3,4,5,6,60] [3,68]] 10 [true] (aT (aC (aQ aw x0) (aB c11 (aI bK x1.Mults i0 0 (aB c13 (aI bK x1.Mults i0 0 aN)))))) ?_;refine aV H14 (fun c14 H15 => ?_) (fun c15 H16 => ?_)
         ·obtain rfl:=sI H15;obtain rfl:=aW h5;obtain rfl:=sI (aP H11);exact pR 5 [.eqT 60 bT,V1] [] [] (aB c14 aN)
         ·have c15p:=MI c15;refine aL H16 fun g1 H17 => ?_;refine bO 0 (ps:=[(x0.map aw).length≤9223372036854775807]) (by kernel_rfl) (fun l0 => ?_);have l1:x0.length≤9223372036854775807:=by simpa only [cu,MM] using l0
          clear l0;obtain rfl:=sI H17;exact pB 5 [.eqT 60 bF,r0 [.v,.v,.v,.e (.dptr (aw (x0.getD i0 aG))),.v,.v,.b,.ap,.rwH 68 (.row 3 1 ((s0++[((x0.getD i0 aG).Const)]).map ao)),.v],V3] [.only [0,3,4,5,6] [3,68]] (nG x0 x1 (i0+1) (s0++[((x0.getD i0 aG).Const)])) (aB c15 (aI bo x0 i0 aG (bp (tT (c:=ao) hU s0 [((x0.getD i0 aG).Const)] 8 (by decide) (by first | (simp;done) | simpa using g1)) (aC (wA 3 1 ao s0 [((x0.getD i0 aG).Const)]) (aH i0 aN)))))
      ·subst e0;have H18:=bl H11;refine aR H18 fun y1 h6 H19 => ?_;refine pA 6 [r0 [.v,.c true (dS bq y1),.v],V1] [.only [0,3,4,5,7,8] [3,68]] 6 [] (nr x0 x1 u0 y1 0 ()) (aC Tryz.call44 (aF (qj _ _ h6) aN)) ?_;refine aR H19 fun R1 h7 H20 => ?_;refine pJ 1 (r7 x1 u0) R1 ?_ (fun u2 e2 => ?_)
       ·refine pC (nr x0 x1 u0 y1) h7 (fun i1 s1 h8 e3 => ?_) (fun i1 s1 h9 q1 h10 h11 => ?_)
        ·have c16:=lF i1 y1.length (by omega);subst e3;exact pB 5 [r0 [.v,.v,.e (nI y1.length),.e bF]] [.only [3,4,5] [3,68]] (r7 x1 u0 ()) (aT (aC (aQ bq y1) (aB c16 aN)))
        ·have c17:=lT i1 y1.length (by omega);refine pA 13 [r0 [.v,.v,.e (nI y1.length),.e bT],V1,V1] [.er 9 94 3 1,.only [0,3,4,5,7,8,9,10] [3,68,94]] 13 [true] (n5 x0 x1 u0 y1 i1 0 []) (aT (aC (aQ bq y1) (aB c17 aN))) ?_;refine aR h10 fun R2 h12 H21 => ?_;refine pJ 1 (rX x0 x1 u0 y1 i1) R2 ?_ (fun u1 e4 => ?_)
         ·refine pC (n5 x0 x1 u0 y1 i1) h12 (fun i2 s2 h13 e5 => ?_) (fun i2 s2 h14 q2 h15 h16 => ?_)
          ·have c18:=lF i2 x0.length (by omega);subst e5;exact pB 5 [r0 [.v,.v,.e (nI x0.length),.e bF]] [.only [0,3,4,5,7,8,9] [3,68,94]] (rX x0 x1 u0 y1 i1 s2) (aT (aC (aQ aw x0) (aB c18 aN)))
          ·have c19:=lT i2 x0.length (by omega);refine aR h15 fun y2 h17 H22 => ?_;refine aL H22 fun g2 H23 => ?_;refine bO 0 (ps:=[(x0.map aw).length≤9223372036854775807]) (by kernel_rfl) (fun l2 => ?_);have l3:x0.length≤9223372036854775807:=by simpa only [cu,MM] using l2
           clear l2;obtain rfl:=sI H23;exact pB 9 [r0 [.v,.v,.e (nI x0.length),.e bT],.rg 11 [.v,.v,.v,.e (.dptr (aw (x0.getD i2 aG))),.v,.v,.v,.e (.dptr [.str (y1.getD i1 [])]),.v,.c true (iI y2),.b] [.ap,.rwH 94 (.row 3 1 ((s2++[y2]).map ao)),.v],V3] [.only [0,3,4,5,7,8,9,10] [3,68,94]] (n5 x0 x1 u0 y1 i1 (i2+1) (s2++[y2])) (aT (aC (aQ aw x0) (aB c19 (aI bo x0 i2 aG (aI mY y1 i1 [] (aC Tryz.call12 (aF (gi _ _ _ h17) (bp (tT (c:=ao) hU s2 [y2] 8 (by decide) (by first | (simp;done) | simpa using g2)) (aC (wA 3 1 ao s2 [y2]) (aH i2 aN))))))))))
         ·subst e4;have H24:=a8 H21;refine aR H24 fun y3 h18 H25 => ?_;refine aV H25 (fun c20 H26 => ?_) (fun c21 H27 => ?_)
          ·refine aR H26 fun y4 h19 H28 => ?_;refine pD 4 [r0 [.v,.v,.v,.c false (.tup [iI y3.1,iI y3.2]),.v,.v,.v,.v,.v],r0 [.v,.e bF,.v,.v,.v,.v,.c true (.bool y4),.v,.v]] [.only [0,3,4,5,7,8,110] [3,68]] 4 [] (aC Tryz.call52 (aF (oJ _ _ _ h18) (aM c20 (aC Tryz.call53 (aF (py _ _ _ h19) (aT aN)))))) ?_;refine aV H28 (fun c22 H29 => ?_) (fun c23 H30 => ?_)
           ·refine bO 7 (ps:=[(y1.map bq).length≤9223372036854775807]) (by kernel_rfl) (fun l4 => ?_);have l5:y1.length≤9223372036854775807:=by simpa only [cu,MM] using l4
            clear l4;obtain rfl:=sI H29;exact pB 4 [.eqT 110 bF,V3] [.only [0,3,4,5,7,8] [3,68]] (nr x0 x1 u0 y1 (i1+1) ()) (aM c22 (aH i1 aN))
           ·obtain rfl:=sI H30;obtain rfl:=aW h11;obtain rfl:=sI (aP H20);exact pR 5 [.eqT 110 bT,V1] [] [] (aM c23 aN)
          ·obtain rfl:=sI H27;obtain rfl:=aW h11;obtain rfl:=sI (aP H20);exact pR 8 [r0 [.v,.v,.v,.c false (.tup [iI y3.1,iI y3.2]),.v,.v,.v,.v,.v],r0 [.v,.e bT,.v,.s,.s,.s,.s,.s,.v],V1] [] [] (aC Tryz.call52 (aF (oJ _ _ _ h18) (aM c21 aN)))
       ·subst e2;have H31:=bl H20;refine aR H31 fun y5 h20 H32 => ?_;refine aV H32 (fun c24 H33 => ?_) (fun c25 H34 => ?_)
        ·refine aR H33 fun y6 h21 H35 => ?_;obtain rfl:=sI H35;exact pR 5 [r0 [.v,.v,.v,.c false (.tup [iI y5.1,iI y5.2]),.v,.v,.v,.v,.v],r0 [.v,.e bT,.v,.v,.v,.v,.c true (.bool y6),.v,.v,.v]] [] [] (aC Tryz.call52 (aF (oJ _ _ _ h20) (aB c24 (aC Tryz.call53 (aF (py _ _ _ h21) (aT aN))))))
        ·obtain rfl:=sI H34;exact pR 5 [r0 [.v,.v,.v,.c false (.tup [iI y5.1,iI y5.2]),.v,.v,.v,.v,.v],r0 [.v,.e bF,.v,.s,.s,.s,.s,.s,.v,.v]] [] [] (aC Tryz.call52 (aF (oJ _ _ _ h20) (aB c25 aN)))
   ·obtain rfl:=sI H6;exact pR 9 [r0 [.m,.v],r0 [.v,.c true bT,.v,.v,.v,.e (nI x0.length),.e bF,.v,.v,.v,.v,.e (nI x1.Mults.length),.v,.e (nI x0.length),.e bT,.v,.v,.s,.s,.s,.v,.v,.s,.s,.s,.v],V1] [] [] (aC Tryz.call13 (aC (bG.eq (cQ _ _ h0) (cB c0)) (aT (aT (aC (aQ aw x0) (aB c3 (aT (aC (aQ ao x1.Mults) (aT (aC (aQ aw x0) (aM c5 aN)))))))))))
 ·obtain rfl:=sI H2;exact pR 9 [r0 [.m,.v],r0 [.v,.c true bF,.v,.v,.s,.s,.s,.v,.v,.s,.s,.s,.s,.s,.s,.v,.v,.s,.s,.s,.v,.v,.s,.s,.s,.v],V1] [] [] (aC Tryz.call13 (aC (bG.eq (cQ _ _ h0) (cB c1)) (aT aN)))
def dx (x0 x1:Int):Option Bool :=
 bif (x1==0) then (
  some (x0==0)
 ) else (
  bf ((x1:Int)≠0) <|
  some ((x0.tmod x1)==0)
 )
theorem ln (x0 x1:Int) (r:Bool) (H:dx x0 x1=some r):bG Tryz.prog 48 [iI x0,iI x1] (.bool r):=by
 unfold dx at H;refine aX Tryz.func48 13 [.tmp 4] ?_;refine aV H (fun c0 H0 => ?_) (fun c1 H1 => ?_)
 ·obtain rfl:=sI H0;exact pR 10 [V1,V2,.eqT 6 bT,V3] [] [] (aB c0 aN)
 ·refine aL H1 fun g0 H2 => ?_;obtain rfl:=sI H2;exact pR 11 [V1,V2,.eqT 6 bF,V5] [] [] (aB c1 (aC (show (x1:Int)≠0 from g0) aN))
end Go.Proofs.YtlhcekghjfjajaaGreatDoor
