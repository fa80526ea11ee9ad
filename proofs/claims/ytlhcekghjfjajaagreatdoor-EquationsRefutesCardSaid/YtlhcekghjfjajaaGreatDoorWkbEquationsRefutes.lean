/- What functions of the program compute, walked: each as a plain function, with the theorem that the code computes it wherever that answers. Printed by a program, part 2. -/
import Derived.Test.YtlhcekghjfjajaaGreatDoorWkaEquationsRefutes
set_option linter.unusedSimpArgs false
set_option linter.unusedVariables false
namespace Go.Proofs.YtlhcekghjfjajaaGreatDoor
open Go.RowKit Go.Ab Go.Sh
noncomputable def bL (x0:Int) (x1:aq) (x2:Int) (x3:List ae) (x4:List Bind):Option (Int×Int×(List ae)×(List Bind)) :=
 bM (0≤x0∧x0<(x3.length:Int)) <|
 bM (x0.toNat<x3.length) <|
 (gS x2).bind fun y0 =>
 bM ([95].length+y0.length≤9223372036854775807) <|
 bif decide ((aL (x2+1))≥1000000000) then (
  some (3,(aL (x2+1)),x3,x4)
 ) else (
  (bC (((x3.getD x0.toNat aa).q).Const) x1).bind fun y1 =>
  (eH (σ:=(List aq)) (ε:=(List aq)) (ρ:=Empty) (fun i0 s0 =>
   (bC (((((x3.getD x0.toNat aa).q).Terms).getD i0 ay).C) x1).bind fun y2 =>
   ((
    bif ((((((x3.getD x0.toNat aa).q).Terms).getD i0 ay).Var)==x1.Var) then (
     some false
    ) else (
     some (y2 != 0)
    )
   ):Option Bool).bind fun v0 =>
   ((
    bif v0 then (
     bM ((s0.length+1)*24≤140737488355328) <|
     some (s0++[(aq.mk (((((x3.getD x0.toNat aa).q).Terms).getD i0 ay).Var) y2)])
    ) else (
     some s0
    )
   ):Option (List aq)).bind fun v1 =>
   some (.go v1)
  ) (fun i0 s0=>s0) ((((x3.getD x0.toNat aa).q).Terms).length-0) 0 [(aq.mk ([95]++y0) 1)]).bind <| dI fun u0 =>
  (iR (fun x=>x.Var) u0).bind fun y3 =>
  (aY x1.Var (Linear.mk y1 y3) x0 (aL (x2+1)) x3 x4).bind fun y4 =>
  some (y4.1,(aL (x2+1)),y4.2.1,y4.2.2)
 )
def ef (x0:Int) (x1:aq) (x2:Int) (x3:List ae) (x4:List Bind) (y1:Int) (i0:Nat) (s0:List aq):AS:=⟨93,[(0,.hptr 1000 0),(1,iI x0),(5,.hptr 5 0),(6,iI 0),(9,.hptr 9 0),(10,.fn 95 [.hptr 5 0]),(55,.dslice ((((x3.getD x0.toNat aa).q).Terms).map ao)),(56,iI (((((x3.getD x0.toNat aa).q).Terms).length:Nat):Int)),(57,nI i0)],[(5,.cells 88 [.str x1.Var,iI x1.C]),(9,.cells 34 [iI y1,.rslice 52]),(52,.row 88 2 (s0.map ao)),(1000,.cells 73 [.rslice 1001,.rslice 1002,iI (aL (x2+1))]),(1001,.row 76 5 (x3.map ab)),(1002,.row 41 7 (x4.map aA))]⟩
def gr (x0:Int) (x1:aq) (x2:Int) (x3:List ae) (x4:List Bind) (y1:Int) (u1:List aq):AS:=⟨93,[(0,.hptr 1000 0),(1,iI x0),(5,.hptr 5 0),(6,iI 0),(9,.hptr 9 0)],[(5,.cells 88 [.str x1.Var,iI x1.C]),(9,.cells 34 [iI y1,.rslice 52]),(52,.row 88 2 (u1.map ao)),(1000,.cells 73 [.rslice 1001,.rslice 1002,iI (aL (x2+1))]),(1001,.row 76 5 (x3.map ab)),(1002,.row 41 7 (x4.map aA))]⟩
def eh (x0:Int) (x1:aq) (x2:Int) (x3:List ae) (x4:List Bind) (y1:Int) (i0:Nat) (s0:List aq) (y2:Int) (v0:Bool):AS:=⟨93,[(0,.hptr 1000 0),(1,iI x0),(5,.hptr 5 0),(6,iI 0),(9,.hptr 9 0),(10,.fn 95 [.hptr 5 0]),(12,.hptr 12 0),(13,iI y2),(55,.dslice ((((x3.getD x0.toNat aa).q).Terms).map ao)),(56,iI (((((x3.getD x0.toNat aa).q).Terms).length:Nat):Int)),(57,nI i0),(73,.bool v0)],[(5,.cells 88 [.str x1.Var,iI x1.C]),(9,.cells 34 [iI y1,.rslice 52]),(12,.cells 88 [.str (((((x3.getD x0.toNat aa).q).Terms).getD i0 ay).Var),iI (((((x3.getD x0.toNat aa).q).Terms).getD i0 ay).C)]),(52,.row 88 2 (s0.map ao)),(1000,.cells 73 [.rslice 1001,.rslice 1002,iI (aL (x2+1))]),(1001,.row 76 5 (x3.map ab)),(1002,.row 41 7 (x4.map aA))]⟩
def eC (x0:Int) (x1:aq) (x2:Int) (x3:List ae) (x4:List Bind) (y1:Int) (i0:Nat) (v1:List aq):AS:=⟨93,[(0,.hptr 1000 0),(1,iI x0),(5,.hptr 5 0),(6,iI 0),(9,.hptr 9 0),(10,.fn 95 [.hptr 5 0]),(55,.dslice ((((x3.getD x0.toNat aa).q).Terms).map ao)),(56,iI (((((x3.getD x0.toNat aa).q).Terms).length:Nat):Int)),(57,nI i0)],[(5,.cells 88 [.str x1.Var,iI x1.C]),(9,.cells 34 [iI y1,.rslice 52]),(52,.row 88 2 (v1.map ao)),(1000,.cells 73 [.rslice 1001,.rslice 1002,iI (aL (x2+1))]),(1001,.row 76 5 (x3.map ab)),(1002,.row 41 7 (x4.map aA))]⟩
theorem gL (x0:Int) (x1:aq) (x2:Int) (x3:List ae) (x4:List Bind) (r:Int×Int×(List ae)×(List Bind)) (H:bL x0 x1 x2 x3 x4=some r):bY Tryz.prog 60 [.hptr 1000 0,iI x0,.agg [.str x1.Var,iI x1.C]] [(1000,.cells 73 [.rslice 1001,.rslice 1002,iI x2]),(1001,.row 76 5 (x3.map ab)),(1002,.row 41 7 (x4.map aA))] (fun r2 h0=>r2=(iI r.1)∧h0=[(0,.row 41 7 (r.2.2.2.map aA)),(1000,.cells 73 [.rslice 1001,.rslice 0,iI r.2.1]),(1001,.row 76 5 (r.2.2.1.map ab))]):=by
 unfold bL at H;refine aX Tryz.func60 93 [.tmp 6] ?_;refine aK H fun g0 H0 => ?_;refine aK H0 fun g1 H1 => ?_;refine aQ H1 fun y0 h1 H2 => ?_;refine aK H2 fun g2 H3 => ?_;refine pD 11 [r0 [.m,.v],r0 (V 7 [.rl x0.toNat 0 (.agg (ak ((x3.getD x0.toNat aa).q))),.m,.m]),r0 (V 4 [.c true (.str y0),.v,.v]),r0 (V 4 [.w,.v,.v,.m]),V5] [.only [0,1,5,6,7,8,39] [5,7,1000,1001,1002]] 11 [] (aC (show (0:Int)≤x0∧x0<((x3.map ab).length:Int) from by rw [LI];exact g0) (aC (iS (f:=ab) (l:=x3) (n:=x0.toNat) 5 0 2 (by omega) (by decide)) (aC (E2 (f:=ab) (l:=x3) (n:=x0.toNat) aa 0 2 (by omega)) (aC Tryz.call94 (aF (vG x2 y0 h1) (aC (show [95].length+y0.length≤9223372036854775807 from g2) aN)))))) ?_;refine aZ H3 (fun c0 H4 => ?_) (fun c1 H5 => ?_)
 ·obtain rfl:=sI H4;exact pR 5 [.eqT 39 bT,V1] [.ren [(1002,0),(1000,1000),(1001,1001)]] [0,1000,1001] (aB c0 aN)
 ·have c1p:=LD c1;refine aQ H5 fun y1 h2 H6 => ?_;refine pA 15 [.eqT 39 bF,r0 [.b,.m,.m],V2,r0 [.v,.v,.v,.c false (iI y1),.v,.m],r0 [.v,.v,.v,.b,.b,.er 48 52 88 2,.ap,.rwH 52 (.row 88 2 ([(aq.mk ([95]++y0) 1)].map ao)),.v,.m],r0 [.v,.v,.e (iI (((((x3.getD x0.toNat aa).q).Terms).length:Nat):Int)),.v]] [.only [0,1,5,6,9,10,55,56,57] [5,9,52,1000,1001,1002]] 14 [false] (ef x0 x1 x2 x3 x4 y1 0 [(aq.mk ([95]++y0) 1)]) (aB c1 (aC Tryz.call95 (aF (ga _ _ _ h2) (b9 (yf (c:=ao) gQ [] [(aq.mk ([95]++y0) 1)] 24 (by decide) (by simp)) (aC (KT 88 2 ao [(aq.mk ([95]++y0) 1)]) (aT (aC (aP ao (((x3.getD x0.toNat aa).q).Terms)) aN))))))) ?_;refine aQ H6 fun R0 h3 H7 => ?_;refine pJ 1 (gr x0 x1 x2 x3 x4 y1) R0 ?_ (fun u0 e0 => ?_)
  ·refine pC (ef x0 x1 x2 x3 x4 y1) h3 (fun i0 s0 h4 e1 => ?_) (fun i0 s0 h5 q0 h6 h7 => ?_)
   ·have c2:=lF i0 ((((x3.getD x0.toNat aa).q).Terms).length) (by omega);subst e1;exact pB 5 [r0 [.e bF]] [.only [0,1,5,6,9] [5,9,52,1000,1001,1002]] (gr x0 x1 x2 x3 x4 y1 s0) (aB c2 aN)
   ·have c3:=lT i0 ((((x3.getD x0.toNat aa).q).Terms).length) (by omega);refine aQ h6 fun y2 h8 H8 => ?_;refine pD 12 [r0 [.e bT],r0 [.e (.dptr (ao ((((x3.getD x0.toNat aa).q).Terms).getD i0 ay))),.v,.m,.m],r0 [.v,.v,.v,.c false (iI y2),.v]] [.only [0,1,5,6,9,10,12,13,55,56,57] [5,9,12,52,1000,1001,1002]] 12 [true] (aB c3 (aI bf ((((x3.getD x0.toNat aa).q).Terms)) i0 ay (aC Tryz.call95 (aF (ga _ _ _ h8) aN)))) ?_;refine aQ H8 fun v0 h9 H9 => ?_;refine eR 0 (eh x0 x1 x2 x3 x4 y1 i0 s0 y2 v0) (by kernel_rfl) ?_ ?_
    ·refine aZ h9 (fun c4 H10 => ?_) (fun c5 H11 => ?_)
     ·obtain rfl:=sI H10;exact pB 1 [r0 (V 4 [.e bF,.v,.s,.s,.v])] [.only [0,1,5,6,9,10,12,13,55,56,57,73] [5,9,12,52,1000,1001,1002]] (eh x0 x1 x2 x3 x4 y1 i0 s0 y2 false) (aM c4 aN)
     ·obtain rfl:=sI H11;exact pB 1 [r0 (V 4 [.e bT,.v,.v,.v,.v])] [.only [0,1,5,6,9,10,12,13,55,56,57,73] [5,9,12,52,1000,1001,1002]] (eh x0 x1 x2 x3 x4 y1 i0 s0 y2 (y2 != 0)) (aM c5 aN)
    ·refine aQ H9 fun v1 h10 H12 => ?_;refine eR 1 (eC x0 x1 x2 x3 x4 y1 i0 v1) (by kernel_rfl) ?_ ?_
     ·refine aZ h10 (fun c6 H13 => ?_) (fun c7 H14 => ?_)
      ·refine aK H13 fun g3 H15 => ?_;obtain rfl:=sI H15;exact pB 3 [.eqT 73 bT,r0 (V 5 [.b,.b,.ap,.rwH 81 (.row 88 2 ((s0++[(aq.mk (((((x3.getD x0.toNat aa).q).Terms).getD i0 ay).Var) y2)]).map ao)),.v,.m])] [.ren [(5,5),(9,9),(81,52),(1000,1000),(1001,1001),(1002,1002)],.only [0,1,5,6,9,10,55,56,57] [5,9,52,1000,1001,1002]] (eC x0 x1 x2 x3 x4 y1 i0 (s0++[(aq.mk (((((x3.getD x0.toNat aa).q).Terms).getD i0 ay).Var) y2)])) (aB c6 (b9 (yf (c:=ao) gQ s0 [(aq.mk (((((x3.getD x0.toNat aa).q).Terms).getD i0 ay).Var) y2)] 24 (by decide) (by first | (simp;done) | simpa using g3)) (aC (Bn 88 2 ao s0 [(aq.mk (((((x3.getD x0.toNat aa).q).Terms).getD i0 ay).Var) y2)]) aN)))
      ·refine cR H14 fun e2 => ?_;subst e2;exact pB 3 [.eqT 73 bF] [.only [0,1,5,6,9,10,55,56,57] [5,9,52,1000,1001,1002]] (eC x0 x1 x2 x3 x4 y1 i0 s0) (aB c7 aN)
     ·refine bV 55 (ps:=[((((x3.getD x0.toNat aa).q).Terms).map ao).length≤9223372036854775807]) (by kernel_rfl) (fun l0 => ?_);have l1:(((x3.getD x0.toNat aa).q).Terms).length≤9223372036854775807:=by simpa only [cI,LI] using l0
      clear l0;obtain rfl:=sI H12;exact pB 1 [V2] [.only [0,1,5,6,9,10,55,56,57] [5,9,52,1000,1001,1002]] (ef x0 x1 x2 x3 x4 y1 (i0+1) v1) (aH i0 aN)
  ·subst e0;have H16:=bG H7;refine aQ H16 fun y3 h11 H17 => ?_;refine aQ H17 fun y4 h12 H18 => ?_;obtain rfl:=sI H18;exact pR 5 [r0 [.v,.v,.hR [(52,1000)] 86 (.tup []) [(1000,.row 88 2 (y3.map ao))]],r0 (V 5 [.fz 52,.hM [(1000,1000),(1001,1001),(1002,1002)] [(0,900)] (iI y4.1) [(0,.row 41 7 (y4.2.2.map aA)),(1000,.cells 73 [.rslice 1001,.rslice 0,iI (aL (x2+1))]),(1001,.row 76 5 (y4.2.1.map ab))],.v])] [.ren [(900,0),(1000,1000),(1001,1001)]] [0,1000,1001] (aC Tryz.call97 (aC (zm ao (fun x=>x.Var) _ (fun _=>rfl) (fun _=>rfl) u0 y3 h11) (aC Tryz.call99 (aC (jl _ _ _ _ _ _ _ h12) aN))))
noncomputable def aV (x0 x1:Int) (x2:List ae) (x3:List Bind):Option ((ah×Int)×Int×(List ae)×(List Bind)) :=
 bM (0≤x0∧x0<(x2.length:Int)) <|
 bM (x0.toNat<x2.length) <|
 (gA (Linear.mk (((x2.getD x0.toNat aa).q).Const) (((x2.getD x0.toNat aa).q).Terms))).bind fun y0 =>
 bif (y0==0) then (
  (eN ((x2.getD x0.toNat aa).scale) y0).bind fun y1 =>
  bif ((x2.getD x0.toNat aa).lost) then (
   some (((ah.mk [] 0),9),x1,x2,x3)
  ) else (
   (bE y1.1 y1.2).bind fun y2 =>
   bif y2 then (
    bM (8*x2.length≤140737488355328) <|
    nY (σ:=(List Int)) (ε:=Empty) (β:=((ah×Int)×Int×(List ae)×(List Bind))) ((x2.getD x0.toNat aa).mults) (fun e0 s0 =>
     bM (0≤e0.1∧e0.1<(s0.length:Int)) <|
     bM (e0.1.toNat<s0.length) <|
     (some (s0.set e0.1.toNat e0.2)).bind fun y3 =>
     some (.go y3)
    ) (List.replicate x2.length (0:Int)) (fun s0 =>
     some (((ah.mk s0 y1.1),9),x1,x2,x3)
    )
   ) else (
    some (((ah.mk [] 0),9),x1,x2,x3)
   )
  )
 ) else (
  bM ((y0:Int)≠0) <|
  bif (((((x2.getD x0.toNat aa).q).Const).tmod y0)==0) then (
   (eH (σ:=(List aq)) (ε:=(List aq)) (ρ:=Empty) (fun i0 s1 =>
    bM ((s1.length+1)*24≤140737488355328) <|
    some (.go (s1++[(aq.mk (((((x2.getD x0.toNat aa).q).Terms).getD i0 ay).Var) (aL ((((((x2.getD x0.toNat aa).q).Terms).getD i0 ay).C).tdiv y0)))]))
   ) (fun i0 s1=>s1) ((((x2.getD x0.toNat aa).q).Terms).length-0) 0 []).bind <| dI fun u0 =>
   (eN ((x2.getD x0.toNat aa).scale) y0).bind fun y4 =>
   (bE y4.1 y4.2).bind fun y5 =>
   bif y5 then (
    (some (x2.set x0.toNat (ae.mk (Linear.mk (aL ((((x2.getD x0.toNat aa).q).Const).tdiv y0)) u0) ((x2.getD x0.toNat aa).mults) ((x2.getD x0.toNat aa).scale) ((x2.getD x0.toNat aa).lost)))).bind fun y6 =>
    bM (x0.toNat<y6.length) <|
    (some (y6.set x0.toNat (ae.mk (Linear.mk (((y6.getD x0.toNat aa).q).Const) (((y6.getD x0.toNat aa).q).Terms)) ((y6.getD x0.toNat aa).mults) y4.1 ((y6.getD x0.toNat aa).lost)))).bind fun y7 =>
    (fC (Linear.mk (aL ((((x2.getD x0.toNat aa).q).Const).tdiv y0)) u0)).bind fun y8 =>
    bif (y8.C==1) then (
     (bw x0 y8 x1 y7 x3).bind fun y9 =>
     some (((ah.mk [] 0),y9.1),x1,y9.2.1,y9.2.2)
    ) else (
     bif (y8.C==(-1)) then (
      (bw x0 y8 x1 y7 x3).bind fun y10 =>
      some (((ah.mk [] 0),y10.1),x1,y10.2.1,y10.2.2)
     ) else (
      (bL x0 y8 x1 y7 x3).bind fun y11 =>
      some (((ah.mk [] 0),y11.1),y11.2.1,y11.2.2.1,y11.2.2.2)
     )
    )
   ) else (
    (some (x2.set x0.toNat (ae.mk (Linear.mk (((x2.getD x0.toNat aa).q).Const) (((x2.getD x0.toNat aa).q).Terms)) ((x2.getD x0.toNat aa).mults) ((x2.getD x0.toNat aa).scale) true))).bind fun y12 =>
    bM (x0.toNat<y12.length) <|
    (some (y12.set x0.toNat (ae.mk (Linear.mk (aL ((((x2.getD x0.toNat aa).q).Const).tdiv y0)) u0) ((y12.getD x0.toNat aa).mults) ((y12.getD x0.toNat aa).scale) ((y12.getD x0.toNat aa).lost)))).bind fun y13 =>
    bM (x0.toNat<y13.length) <|
    (some (y13.set x0.toNat (ae.mk (Linear.mk (((y13.getD x0.toNat aa).q).Const) (((y13.getD x0.toNat aa).q).Terms)) ((y13.getD x0.toNat aa).mults) 1 ((y13.getD x0.toNat aa).lost)))).bind fun y14 =>
    (fC (Linear.mk (aL ((((x2.getD x0.toNat aa).q).Const).tdiv y0)) u0)).bind fun y15 =>
    bif (y15.C==1) then (
     (bw x0 y15 x1 y14 x3).bind fun y16 =>
     some (((ah.mk [] 0),y16.1),x1,y16.2.1,y16.2.2)
    ) else (
     bif (y15.C==(-1)) then (
      (bw x0 y15 x1 y14 x3).bind fun y17 =>
      some (((ah.mk [] 0),y17.1),x1,y17.2.1,y17.2.2)
     ) else (
      (bL x0 y15 x1 y14 x3).bind fun y18 =>
      some (((ah.mk [] 0),y18.1),y18.2.1,y18.2.2.1,y18.2.2.2)
     )
    )
   )
  ) else (
   (eN ((x2.getD x0.toNat aa).scale) y0).bind fun y19 =>
   bif ((x2.getD x0.toNat aa).lost) then (
    some (((ah.mk [] 0),9),x1,x2,x3)
   ) else (
    (bE y19.1 y19.2).bind fun y20 =>
    bif y20 then (
     bM (8*x2.length≤140737488355328) <|
     nY (σ:=(List Int)) (ε:=Empty) (β:=((ah×Int)×Int×(List ae)×(List Bind))) ((x2.getD x0.toNat aa).mults) (fun e1 s2 =>
      bM (0≤e1.1∧e1.1<(s2.length:Int)) <|
      bM (e1.1.toNat<s2.length) <|
      (some (s2.set e1.1.toNat e1.2)).bind fun y21 =>
      some (.go y21)
     ) (List.replicate x2.length (0:Int)) (fun s2 =>
      some (((ah.mk s2 y19.1),9),x1,x2,x3)
     )
    ) else (
     some (((ah.mk [] 0),9),x1,x2,x3)
    )
   )
  )
 )
def fa (x0 x1:Int) (x2:List ae) (x3:List Bind) (y0:Int) (y1:Int×Int) (i1:List Nat) (s0:List Int):AS:=⟨161,[(0,.hptr 1000 0),(1,iI x0),(4,.hptr 4 0),(5,iI 0),(6,.hptr 1001 (x0.toNat*5)),(7,iI y0),(10,.hptr 10 0),(75,.hptr 75 0)],[(4,.cells 28 [.eslice,iI 0]),(10,.cells 28 [.rslice 68,iI y1.1]),(68,.row 3 1 (s0.map aj)),(75,.iter (((x2.getD x0.toNat aa).mults).map (dL aj)) i1),(1000,.cells 73 [.rslice 1001,.rslice 1002,iI x1]),(1001,.row 76 5 (x2.map ab)),(1002,.row 41 7 (x3.map aA))]⟩
def eZ (x0 x1:Int) (x2:List ae) (x3:List Bind) (y0:Int) (i0:Nat) (s1:List aq):AS:=⟨161,[(0,.hptr 1000 0),(1,iI x0),(4,.hptr 4 0),(5,iI 0),(6,.hptr 1001 (x0.toNat*5)),(7,iI y0),(13,.hptr 13 0),(99,.dslice ((((x2.getD x0.toNat aa).q).Terms).map ao)),(100,iI (((((x2.getD x0.toNat aa).q).Terms).length:Nat):Int)),(101,nI i0)],[(4,.cells 28 [.eslice,iI 0]),(13,.cells 34 [iI (aL ((((x2.getD x0.toNat aa).q).Const).tdiv y0)),.rslice 115]),(115,.row 88 2 (s1.map ao)),(1000,.cells 73 [.rslice 1001,.rslice 1002,iI x1]),(1001,.row 76 5 (x2.map ab)),(1002,.row 41 7 (x3.map aA))]⟩
def gP (x0 x1:Int) (x2:List ae) (x3:List Bind) (y0:Int) (u1:List aq):AS:=⟨161,[(0,.hptr 1000 0),(1,iI x0),(4,.hptr 4 0),(5,iI 0),(6,.hptr 1001 (x0.toNat*5)),(7,iI y0),(13,.hptr 13 0)],[(4,.cells 28 [.eslice,iI 0]),(13,.cells 34 [iI (aL ((((x2.getD x0.toNat aa).q).Const).tdiv y0)),.rslice 115]),(115,.row 88 2 (u1.map ao)),(1000,.cells 73 [.rslice 1001,.rslice 1002,iI x1]),(1001,.row 76 5 (x2.map ab)),(1002,.row 41 7 (x3.map aA))]⟩
def eW (x0 x1:Int) (x2:List ae) (x3:List Bind) (y0:Int) (y19:Int×Int) (i2:List Nat) (s2:List Int):AS:=⟨161,[(0,.hptr 1000 0),(1,iI x0),(4,.hptr 4 0),(5,iI 0),(6,.hptr 1001 (x0.toNat*5)),(7,iI y0),(10,.hptr 10 0),(75,.hptr 75 0)],[(4,.cells 28 [.eslice,iI 0]),(10,.cells 28 [.rslice 68,iI y19.1]),(68,.row 3 1 (s2.map aj)),(75,.iter (((x2.getD x0.toNat aa).mults).map (dL aj)) i2),(1000,.cells 73 [.rslice 1001,.rslice 1002,iI x1]),(1001,.row 76 5 (x2.map ab)),(1002,.row 41 7 (x3.map aA))]⟩
theorem nM (x0 x1:Int) (x2:List ae) (x3:List Bind) (r:(ah×Int)×Int×(List ae)×(List Bind)) (H:aV x0 x1 x2 x3=some r):bY Tryz.prog 30 [.hptr 1000 0,iI x0] [(1000,.cells 73 [.rslice 1001,.rslice 1002,iI x1]),(1001,.row 76 5 (x2.map ab)),(1002,.row 41 7 (x3.map aA))] (fun r2 h0=>r2=(.tup [.agg [dS aj r.1.1.Mults,iI r.1.1.Mod],iI r.1.2])∧h0=[(0,.row 41 7 (r.2.2.2.map aA)),(1000,.cells 73 [.rslice 1001,.rslice 0,iI r.2.1]),(1001,.row 76 5 (r.2.2.1.map ab))]):=by
 unfold aV at H;refine aX Tryz.func30 161 [.cell 4 28,.tmp 5] ?_;refine aK H fun g0 H0 => ?_;refine aK H0 fun g1 H1 => ?_;refine aQ H1 fun y0 h1 H2 => ?_;refine pD 8 [r0 [.m,.v],r0 (V 7 []),r0 [.v,.v,.v,.rl x0.toNat 0 (.agg (ak ((x2.getD x0.toNat aa).q))),.c true (iI y0),.v]] [.only [0,1,4,5,6,7] [4,1000,1001,1002]] 8 [] (aC (show (0:Int)≤x0∧x0<((x2.map ab).length:Int) from by rw [LI];exact g0) (aC (iS (f:=ab) (l:=x2) (n:=x0.toNat) 5 0 2 (by omega) (by decide)) (aC (E2 (f:=ab) (l:=x2) (n:=x0.toNat) aa 0 2 (by omega)) (aC Tryz.call57 (aF (sY _ _ h1) aN))))) ?_;refine aZ H2 (fun c0 H3 => ?_) (fun c1 H4 => ?_)
 ·refine aQ H3 fun y1 h2 H5 => ?_;refine pD 6 [r0 [.v,.e bT,.v,.s,.s,.s,.s,.s,.s,.s,.s,.v],r0 [.v,.v,.v,.rl x0.toNat 3 (iI ((x2.getD x0.toNat aa).scale)),.v,.c true (.tup [iI y1.1,iI y1.2]),.v,.v,.v,.v,.v]] [.only [0,1,4,5,6,7,8,9] [4,1000,1001,1002]] 6 [true] (aB c0 (aC (iS (f:=ab) (l:=x2) (n:=x0.toNat) 5 3 1 (by omega) (by decide)) (aC (tJ (f:=ab) (l:=x2) (n:=x0.toNat) aa 3 (by omega)) (aC Tryz.call58 (aF (gT _ _ _ h2) aN))))) ?_;refine aZ H5 (fun c2 H6 => ?_) (fun c3 H7 => ?_)
  ·obtain rfl:=sI H6;exact pR 5 [r0 [.v,.v,.v,.rl x0.toNat 4 (.bool ((x2.getD x0.toNat aa).lost)),.e bT,.s,.s,.s,.s,.v],r0 [.b,.m,.v]] [.wkH 4 0 [],.ren [(1002,0),(4,4),(1000,1000),(1001,1001)]] [0,1000,1001] (aC (iS (f:=ab) (l:=x2) (n:=x0.toNat) 5 4 1 (by omega) (by decide)) (aC (tJ (f:=ab) (l:=x2) (n:=x0.toNat) aa 4 (by omega)) (aB c2 aN)))
  ·refine aQ H7 fun y2 h3 H8 => ?_;refine pD 1 [r0 [.v,.v,.v,.rl x0.toNat 4 (.bool ((x2.getD x0.toNat aa).lost)),.e bF,.v,.v,.c true (.bool y2),.v,.v]] [.only [0,1,4,5,6,7,8,61] [4,1000,1001,1002]] 1 [] (aC (iS (f:=ab) (l:=x2) (n:=x0.toNat) 5 4 1 (by omega) (by decide)) (aC (tJ (f:=ab) (l:=x2) (n:=x0.toNat) aa 4 (by omega)) (aB c3 (aC Tryz.call45 (aF (dd _ _ _ h3) (aT aN)))))) ?_;refine aZ H8 (fun c4 H9 => ?_) (fun c5 H10 => ?_)
   ·refine aK H9 fun g2 H11 => ?_;refine pA 9 [.eqT 61 bF,r0 (V 4 [.e (nI x2.length),.mk x2.length,.rwH 68 (.row 3 1 ((List.replicate x2.length (0:Int)).map aj)),.v,.b,.m,.m]),r0 [.v,.v,.v,.rl x0.toNat 2 (.dmap (((x2.getD x0.toNat aa).mults).map (dL aj))),.m]] [.only [0,1,4,5,6,7,10,75] [4,10,68,75,1000,1001,1002]] 8 [false] (fa x0 x1 x2 x3 y0 y1 [] (List.replicate x2.length (0:Int))) (aM c4 (aT (aC (aP ab x2) (aC (show ((x2.length:Nat):Int)=((x2.length:Nat):Int)∧((x2.length:Nat):Int)=((x2.length:Nat):Int)∧8*x2.length≤140737488355328∧x2.length≤9223372036854775807 from ⟨rfl,rfl,by omega,by omega⟩) (aC (vg (z:=E3 Tryz.prog 3) aj (0:Int) x2.length 3 1 (by kernel_rfl)) (aC (iS (f:=ab) (l:=x2) (n:=x0.toNat) 5 2 1 (by omega) (by decide)) (aC (tJ (f:=ab) (l:=x2) (n:=x0.toNat) aa 2 (by omega)) aN))))))) ?_;refine qq (cc:=aj) 75 (fa x0 x1 x2 x3 y0 y1) (by kernel_rfl) H11 [.v] (fun i1 s0=>⟨by kernel_rfl,by kernel_rfl⟩) (fun i1 s0=>⟨161,[(0,.hptr 1000 0),(1,iI x0),(4,.hptr 4 0),(5,iI 0),(6,.hptr 1001 (x0.toNat*5)),(7,iI y0),(10,.hptr 10 0),(75,.hptr 75 0),(76,.tup [.bool false]),(77,.bool false)],[(4,.cells 28 [.eslice,iI 0]),(10,.cells 28 [.rslice 68,iI y1.1]),(68,.row 3 1 (s0.map aj)),(75,.iter (((x2.getD x0.toNat aa).mults).map (dL aj)) i1),(1000,.cells 73 [.rslice 1001,.rslice 1002,iI x1]),(1001,.row 76 5 (x2.map ab)),(1002,.row 41 7 (x3.map aA))]⟩) (fun i1 s0=>by kernel_rfl) (fun i1 s0 n0 e0=>⟨161,[(0,.hptr 1000 0),(1,iI x0),(4,.hptr 4 0),(5,iI 0),(6,.hptr 1001 (x0.toNat*5)),(7,iI y0),(10,.hptr 10 0),(75,.hptr 75 0),(76,.tup [.bool true,iI e0.1,iI e0.2]),(77,.bool true)],[(4,.cells 28 [.eslice,iI 0]),(10,.cells 28 [.rslice 68,iI y1.1]),(68,.row 3 1 (s0.map aj)),(75,.iter (((x2.getD x0.toNat aa).mults).map (dL aj)) (i1++[n0])),(1000,.cells 73 [.rslice 1001,.rslice 1002,iI x1]),(1001,.row 76 5 (x2.map ab)),(1002,.row 41 7 (x3.map aA))]⟩) (fun i1 s0 n0 e0=>by kernel_rfl) (fun i1 s0 H12 => ?_) (fun i1 s0 n0 e0 h4 q0 h5 h6 => ?_)
    ·obtain rfl:=sI H12;exact pR 6 [r0 [.v,.m,.v]] [.fz 68,.ren [(1002,0),(4,4),(1000,1000),(1001,1001)]] [0,1000,1001] aN
    ·refine aK h5 fun g3 H13 => ?_;refine aK H13 fun g4 H14 => ?_;refine aQ H14 fun y3 h7 H15 => ?_;obtain rfl:=sI H15;exact pB 7 [r0 [.en n0 (.tup [iI e0.1,iI e0.2]),.v,.v,.v,.v],r0 (V 5 [.rs e0.1.toNat 0,.rwH 68 (.row 3 1 (y3.map aj))])] [.only [0,1,4,5,6,7,10,75] [4,10,68,75,1000,1001,1002]] (fa x0 x1 x2 x3 y0 y1 (i1++[n0]) y3) (aC (jO i1 n0) (aC (wg (cc:=aj) h4) (aC (show (0:Int)≤e0.1∧e0.1<((s0.map aj).length:Int) from by rw [LI];exact g3) (aC (iS (f:=aj) (l:=s0) (n:=e0.1.toNat) 1 0 1 (by omega) (by decide)) (aC ((uE (f:=aj) 3 1 s0 e0.1.toNat 0 e0.2 0 [iI e0.2] (by omega) rfl).trans (congrArg (fun l=>AO.row 3 1 (l.map aj)) (LM h7))) aN)))))
   ·obtain rfl:=sI H10;exact pR 5 [.eqT 61 bT,r0 [.b,.m,.v]] [.wkH 4 0 [],.ren [(1002,0),(4,4),(1000,1000),(1001,1001)]] [0,1000,1001] (aM c5 aN)
 ·refine aK H4 fun g5 H16 => ?_;refine pD 1 [r0 [.v,.e bF,.v,.v,.v,.v,.v,.rl x0.toNat 0 (iI (((x2.getD x0.toNat aa).q).Const)),.v,.v,.v,.v]] [.only [0,1,4,5,6,7,42] [4,1000,1001,1002]] 1 [] (aB c1 (aC (iS (f:=ab) (l:=x2) (n:=x0.toNat) 5 0 1 (by omega) (by decide)) (aC (tJ (f:=ab) (l:=x2) (n:=x0.toNat) aa 0 (by omega)) (aC (show (y0:Int)≠0 from g5) aN)))) ?_;refine aZ H16 (fun c6 H17 => ?_) (fun c7 H18 => ?_)
  ·refine pA 9 [.eqT 42 bF,.rg 0 [] (V 4 [.rl x0.toNat 0 (.int .i64 (((x2.getD x0.toNat aa).q).Const)),.v,.w,.b,.m,.m]),.rg 0 [] (V 4 [.rl x0.toNat 1 (.dslice ((((x2.getD x0.toNat aa).q).Terms).map ao)),.e (.int .i64 (((((x2.getD x0.toNat aa).q).Terms).length:Nat):Int)),.v])] [.erH 13 1 115 88 2,.only [0,1,4,5,6,7,13,99,100,101] [4,13,115,1000,1001,1002]] 8 [false] (eZ x0 x1 x2 x3 y0 0 []) (aM c6 (aC (iS (f:=ab) (l:=x2) (n:=x0.toNat) 5 0 1 (by omega) (by decide)) (aC (tJ (f:=ab) (l:=x2) (n:=x0.toNat) aa 0 (by omega)) (aC (show (y0:Int)≠0 from g5) (aC (iS (f:=ab) (l:=x2) (n:=x0.toNat) 5 1 1 (by omega) (by decide)) (aC (tJ (f:=ab) (l:=x2) (n:=x0.toNat) aa 1 (by omega)) (aT (aC (aP ao (((x2.getD x0.toNat aa).q).Terms)) aN)))))))) ?_;refine aQ H17 fun R0 h8 H19 => ?_;refine pJ 1 (gP x0 x1 x2 x3 y0) R0 ?_ (fun u0 e2 => ?_)
   ·refine pC (eZ x0 x1 x2 x3 y0) h8 (fun i0 s1 h9 e3 => ?_) (fun i0 s1 h10 q1 h11 h12 => ?_)
    ·have c8:=lF i0 ((((x2.getD x0.toNat aa).q).Terms).length) (by omega);subst e3;exact pB 5 [r0 [.e bF]] [.only [0,1,4,5,6,7,13] [4,13,115,1000,1001,1002]] (gP x0 x1 x2 x3 y0 s1) (aB c8 aN)
    ·have c9:=lT i0 ((((x2.getD x0.toNat aa).q).Terms).length) (by omega);refine aK h11 fun g6 H20 => ?_;refine bV 99 (ps:=[((((x2.getD x0.toNat aa).q).Terms).map ao).length≤9223372036854775807]) (by kernel_rfl) (fun l0 => ?_);have l1:(((x2.getD x0.toNat aa).q).Terms).length≤9223372036854775807:=by simpa only [cI,LI] using l0
     clear l0;obtain rfl:=sI H20;exact pB 11 [r0 [.e bT],r0 [.e (.dptr (ao ((((x2.getD x0.toNat aa).q).Terms).getD i0 ay))),.v,.m,.m],.rg 10 (V 7 [.w,.b,.b]) [.ap,.rwH 115 (.row 88 2 ((s1++[(aq.mk (((((x2.getD x0.toNat aa).q).Terms).getD i0 ay).Var) (aL ((((((x2.getD x0.toNat aa).q).Terms).getD i0 ay).C).tdiv y0)))]).map ao)),.v,.m],V2] [.only [0,1,4,5,6,7,13,99,100,101] [4,13,115,1000,1001,1002]] (eZ x0 x1 x2 x3 y0 (i0+1) (s1++[(aq.mk (((((x2.getD x0.toNat aa).q).Terms).getD i0 ay).Var) (aL ((((((x2.getD x0.toNat aa).q).Terms).getD i0 ay).C).tdiv y0)))])) (aB c9 (aI bf ((((x2.getD x0.toNat aa).q).Terms)) i0 ay (aC (show (y0:Int)≠0 from g5) (b9 (yf (c:=ao) gQ s1 [(aq.mk (((((x2.getD x0.toNat aa).q).Terms).getD i0 ay).Var) (aL ((((((x2.getD x0.toNat aa).q).Terms).getD i0 ay).C).tdiv y0)))] 24 (by decide) (by first | (simp;done) | simpa using g6)) (aC (Bn 88 2 ao s1 [(aq.mk (((((x2.getD x0.toNat aa).q).Terms).getD i0 ay).Var) (aL ((((((x2.getD x0.toNat aa).q).Terms).getD i0 ay).C).tdiv y0)))]) (aH i0 aN))))))
   ·subst e2;have H21:=bG H19;refine aQ H21 fun y4 h13 H22 => ?_;refine aQ H22 fun y5 h14 H23 => ?_;refine pD 5 [r0 [.v,.v,.v,.rl x0.toNat 3 (iI ((x2.getD x0.toNat aa).scale)),.v,.c true (.tup [iI y4.1,iI y4.2]),.v,.v,.v,.v,.v],r0 [.v,.v,.c true (.bool y5),.v]] [.only [0,1,4,5,6,13,16,130] [4,13,115,1000,1001,1002]] 5 [] (aC (iS (f:=ab) (l:=x2) (n:=x0.toNat) 5 3 1 (by omega) (by decide)) (aC (tJ (f:=ab) (l:=x2) (n:=x0.toNat) aa 3 (by omega)) (aC Tryz.call58 (aF (gT _ _ _ h13) (aC Tryz.call45 (aF (dd _ _ _ h14) (aT aN))))))) ?_;refine aZ H23 (fun c10 H24 => ?_) (fun c11 H25 => ?_)
    ·refine aQ H24 fun y6 h15 H26 => ?_;refine aK H26 fun g7 H27 => ?_;refine aQ H27 fun y7 h16 H28 => ?_;refine aQ H28 fun y8 h17 H29 => ?_;refine pD 11 [.eqT 130 bF,r0 (V 6 [.fz 115,.rs x0.toNat 0,.rwH 1001 (.row 76 5 (y6.map ab)),.v,.v,.rs x0.toNat 3,.rwH 1001 (.row 76 5 (y7.map ab))]),r0 [.v,.c true (.agg [.str y8.Var,iI y8.C]),.m,.m],V3] [.only [0,1,4,5,18,19] [4,18,1000,1001,1002]] 10 [false] (aM c10 (aC (iS (f:=ab) (l:=x2) (n:=x0.toNat) 5 0 2 (by omega) (by decide)) (aC ((uE (f:=ab) 76 5 x2 x0.toNat aa (ae.mk (Linear.mk (aL ((((x2.getD x0.toNat aa).q).Const).tdiv y0)) u0) ((x2.getD x0.toNat aa).mults) ((x2.getD x0.toNat aa).scale) ((x2.getD x0.toNat aa).lost)) 0 [iI (aL ((((x2.getD x0.toNat aa).q).Const).tdiv y0)),dS ao u0] (by omega) rfl).trans (congrArg (fun l=>AO.row 76 5 (l.map ab)) (LM h15))) (aC (iS (f:=ab) (l:=y6) (n:=x0.toNat) 5 3 1 (by omega) (by decide)) (aC ((uE (f:=ab) 76 5 y6 x0.toNat aa (ae.mk (Linear.mk (((y6.getD x0.toNat aa).q).Const) (((y6.getD x0.toNat aa).q).Terms)) ((y6.getD x0.toNat aa).mults) y4.1 ((y6.getD x0.toNat aa).lost)) 3 [iI y4.1] (by omega) rfl).trans (congrArg (fun l=>AO.row 76 5 (l.map ab)) (LM h16))) (aC Tryz.call59 (aF (nZ _ _ h17) aN))))))) ?_;refine aZ H29 (fun c12 H30 => ?_) (fun c13 H31 => ?_)
     ·refine aQ H30 fun y9 h18 H32 => ?_;obtain rfl:=sI H32;exact pR 6 [r0 [.v,.v,.e bT,.v,.s,.s,.s,.v],V3,r0 [.b,.v,.v,.v,.hM [(1000,1000),(1001,1001),(1002,1002)] [(0,900)] (iI y9.1) [(0,.row 41 7 (y9.2.2.map aA)),(1000,.cells 73 [.rslice 1001,.rslice 0,iI x1]),(1001,.row 76 5 (y9.2.1.map ab))],.m,.v]] [.wkH 4 0 [],.ren [(900,0),(4,4),(1000,1000),(1001,1001)]] [0,1000,1001] (aB c12 (aC Tryz.call61 (aC (dC _ _ _ _ _ _ h18) aN)))
     ·refine aZ H31 (fun c14 H33 => ?_) (fun c15 H34 => ?_)
      ·refine aQ H33 fun y10 h19 H35 => ?_;obtain rfl:=sI H35;exact pR 7 [r0 [.v,.v,.e bF,.v,.v,.v,.v,.v],.eqT 153 bT,V3,r0 [.b,.v,.v,.v,.hM [(1000,1000),(1001,1001),(1002,1002)] [(0,900)] (iI y10.1) [(0,.row 41 7 (y10.2.2.map aA)),(1000,.cells 73 [.rslice 1001,.rslice 0,iI x1]),(1001,.row 76 5 (y10.2.1.map ab))],.m,.v]] [.wkH 4 0 [],.ren [(900,0),(4,4),(1000,1000),(1001,1001)]] [0,1000,1001] (aB c13 (aB c14 (aC Tryz.call61 (aC (dC _ _ _ _ _ _ h19) aN))))
      ·refine aQ H34 fun y11 h20 H36 => ?_;obtain rfl:=sI H36;exact pR 7 [r0 [.v,.v,.e bF,.v,.v,.v,.v,.v],.eqT 153 bF,r0 [.b,.v,.v,.v,.hM [(1000,1000),(1001,1001),(1002,1002)] [(0,900)] (iI y11.1) [(0,.row 41 7 (y11.2.2.2.map aA)),(1000,.cells 73 [.rslice 1001,.rslice 0,iI y11.2.1]),(1001,.row 76 5 (y11.2.2.1.map ab))],.m,.v]] [.wkH 4 0 [],.ren [(900,0),(4,4),(1000,1000),(1001,1001)]] [0,1000,1001] (aB c13 (aB c15 (aC Tryz.call60 (aC (gL _ _ _ _ _ _ h20) aN))))
    ·refine aQ H25 fun y12 h21 H37 => ?_;refine aK H37 fun g8 H38 => ?_;refine aQ H38 fun y13 h22 H39 => ?_;refine aK H39 fun g9 H40 => ?_;refine aQ H40 fun y14 h23 H41 => ?_;refine aQ H41 fun y15 h24 H42 => ?_;refine pD 13 [.eqT 130 bT,r0 [.v,.v,.v,.rs x0.toNat 4,.rwH 1001 (.row 76 5 (y12.map ab))],V1,r0 (V 6 [.fz 115,.rs x0.toNat 0,.rwH 1001 (.row 76 5 (y13.map ab)),.v,.v,.rs x0.toNat 3,.rwH 1001 (.row 76 5 (y14.map ab))]),r0 [.v,.c true (.agg [.str y15.Var,iI y15.C]),.m,.m],V3] [.only [0,1,4,5,18,19] [4,18,1000,1001,1002]] 12 [true] (aM c11 (aC (iS (f:=ab) (l:=x2) (n:=x0.toNat) 5 4 1 (by omega) (by decide)) (aC ((uE (f:=ab) 76 5 x2 x0.toNat aa (ae.mk (Linear.mk (((x2.getD x0.toNat aa).q).Const) (((x2.getD x0.toNat aa).q).Terms)) ((x2.getD x0.toNat aa).mults) ((x2.getD x0.toNat aa).scale) true) 4 [.bool true] (by omega) rfl).trans (congrArg (fun l=>AO.row 76 5 (l.map ab)) (LM h21))) (aC (iS (f:=ab) (l:=y12) (n:=x0.toNat) 5 0 2 (by omega) (by decide)) (aC ((uE (f:=ab) 76 5 y12 x0.toNat aa (ae.mk (Linear.mk (aL ((((x2.getD x0.toNat aa).q).Const).tdiv y0)) u0) ((y12.getD x0.toNat aa).mults) ((y12.getD x0.toNat aa).scale) ((y12.getD x0.toNat aa).lost)) 0 [iI (aL ((((x2.getD x0.toNat aa).q).Const).tdiv y0)),dS ao u0] (by omega) rfl).trans (congrArg (fun l=>AO.row 76 5 (l.map ab)) (LM h22))) (aC (iS (f:=ab) (l:=y13) (n:=x0.toNat) 5 3 1 (by omega) (by decide)) (aC ((uE (f:=ab) 76 5 y13 x0.toNat aa (ae.mk (Linear.mk (((y13.getD x0.toNat aa).q).Const) (((y13.getD x0.toNat aa).q).Terms)) ((y13.getD x0.toNat aa).mults) 1 ((y13.getD x0.toNat aa).lost)) 3 [iI 1] (by omega) rfl).trans (congrArg (fun l=>AO.row 76 5 (l.map ab)) (LM h23))) (aC Tryz.call59 (aF (nZ _ _ h24) aN))))))))) ?_;refine aZ H42 (fun c16 H43 => ?_) (fun c17 H44 => ?_)
     ·refine aQ H43 fun y16 h25 H45 => ?_;obtain rfl:=sI H45;exact pR 6 [r0 [.v,.v,.e bT,.v,.s,.s,.s,.v],V3,r0 [.b,.v,.v,.v,.hM [(1000,1000),(1001,1001),(1002,1002)] [(0,900)] (iI y16.1) [(0,.row 41 7 (y16.2.2.map aA)),(1000,.cells 73 [.rslice 1001,.rslice 0,iI x1]),(1001,.row 76 5 (y16.2.1.map ab))],.m,.v]] [.wkH 4 0 [],.ren [(900,0),(4,4),(1000,1000),(1001,1001)]] [0,1000,1001] (aB c16 (aC Tryz.call61 (aC (dC _ _ _ _ _ _ h25) aN)))
     ·refine aZ H44 (fun c18 H46 => ?_) (fun c19 H47 => ?_)
      ·refine aQ H46 fun y17 h26 H48 => ?_;obtain rfl:=sI H48;exact pR 7 [r0 [.v,.v,.e bF,.v,.v,.v,.v,.v],.eqT 153 bT,V3,r0 [.b,.v,.v,.v,.hM [(1000,1000),(1001,1001),(1002,1002)] [(0,900)] (iI y17.1) [(0,.row 41 7 (y17.2.2.map aA)),(1000,.cells 73 [.rslice 1001,.rslice 0,iI x1]),(1001,.row 76 5 (y17.2.1.map ab))],.m,.v]] [.wkH 4 0 [],.ren [(900,0),(4,4),(1000,1000),(1001,1001)]] [0,1000,1001] (aB c17 (aB c18 (aC Tryz.call61 (aC (dC _ _ _ _ _ _ h26) aN))))
      ·refine aQ H47 fun y18 h27 H49 => ?_;obtain rfl:=sI H49;exact pR 7 [r0 [.v,.v,.e bF,.v,.v,.v,.v,.v],.eqT 153 bF,r0 [.b,.v,.v,.v,.hM [(1000,1000),(1001,1001),(1002,1002)] [(0,900)] (iI y18.1) [(0,.row 41 7 (y18.2.2.2.map aA)),(1000,.cells 73 [.rslice 1001,.rslice 0,iI y18.2.1]),(1001,.row 76 5 (y18.2.2.1.map ab))],.m,.v]] [.wkH 4 0 [],.ren [(900,0),(4,4),(1000,1000),(1001,1001)]] [0,1000,1001] (aB c17 (aB c19 (aC Tryz.call60 (aC (gL _ _ _ _ _ _ h27) aN))))
  ·refine aQ H18 fun y19 h28 H50 => ?_;refine pD 6 [.eqT 42 bT,r0 [.v,.v,.v,.rl x0.toNat 3 (iI ((x2.getD x0.toNat aa).scale)),.v,.c true (.tup [iI y19.1,iI y19.2]),.v,.v,.v,.v,.v]] [.only [0,1,4,5,6,7,8,9] [4,1000,1001,1002]] 5 [true] (aM c7 (aC (iS (f:=ab) (l:=x2) (n:=x0.toNat) 5 3 1 (by omega) (by decide)) (aC (tJ (f:=ab) (l:=x2) (n:=x0.toNat) aa 3 (by omega)) (aC Tryz.call58 (aF (gT _ _ _ h28) aN))))) ?_;refine aZ H50 (fun c20 H51 => ?_) (fun c21 H52 => ?_)
   ·obtain rfl:=sI H51;exact pR 5 [r0 [.v,.v,.v,.rl x0.toNat 4 (.bool ((x2.getD x0.toNat aa).lost)),.e bT,.s,.s,.s,.s,.v],r0 [.b,.m,.v]] [.wkH 4 0 [],.ren [(1002,0),(4,4),(1000,1000),(1001,1001)]] [0,1000,1001] (aC (iS (f:=ab) (l:=x2) (n:=x0.toNat) 5 4 1 (by omega) (by decide)) (aC (tJ (f:=ab) (l:=x2) (n:=x0.toNat) aa 4 (by omega)) (aB c20 aN)))
   ·refine aQ H52 fun y20 h29 H53 => ?_;refine pD 1 [r0 [.v,.v,.v,.rl x0.toNat 4 (.bool ((x2.getD x0.toNat aa).lost)),.e bF,.v,.v,.c true (.bool y20),.v,.v]] [.only [0,1,4,5,6,7,8,61] [4,1000,1001,1002]] 1 [] (aC (iS (f:=ab) (l:=x2) (n:=x0.toNat) 5 4 1 (by omega) (by decide)) (aC (tJ (f:=ab) (l:=x2) (n:=x0.toNat) aa 4 (by omega)) (aB c21 (aC Tryz.call45 (aF (dd _ _ _ h29) (aT aN)))))) ?_;refine aZ H53 (fun c22 H54 => ?_) (fun c23 H55 => ?_)
    ·refine aK H54 fun g10 H56 => ?_;refine pA 9 [.eqT 61 bF,r0 (V 4 [.e (nI x2.length),.mk x2.length,.rwH 68 (.row 3 1 ((List.replicate x2.length (0:Int)).map aj)),.v,.b,.m,.m]),r0 [.v,.v,.v,.rl x0.toNat 2 (.dmap (((x2.getD x0.toNat aa).mults).map (dL aj))),.m]] [.only [0,1,4,5,6,7,10,75] [4,10,68,75,1000,1001,1002]] 8 [false] (eW x0 x1 x2 x3 y0 y19 [] (List.replicate x2.length (0:Int))) (aM c22 (aT (aC (aP ab x2) (aC (show ((x2.length:Nat):Int)=((x2.length:Nat):Int)∧((x2.length:Nat):Int)=((x2.length:Nat):Int)∧8*x2.length≤140737488355328∧x2.length≤9223372036854775807 from ⟨rfl,rfl,by omega,by omega⟩) (aC (vg (z:=E3 Tryz.prog 3) aj (0:Int) x2.length 3 1 (by kernel_rfl)) (aC (iS (f:=ab) (l:=x2) (n:=x0.toNat) 5 2 1 (by omega) (by decide)) (aC (tJ (f:=ab) (l:=x2) (n:=x0.toNat) aa 2 (by omega)) aN))))))) ?_;refine qq (cc:=aj) 75 (eW x0 x1 x2 x3 y0 y19) (by kernel_rfl) H56 [.v] (fun i2 s2=>⟨by kernel_rfl,by kernel_rfl⟩) (fun i2 s2=>⟨161,[(0,.hptr 1000 0),(1,iI x0),(4,.hptr 4 0),(5,iI 0),(6,.hptr 1001 (x0.toNat*5)),(7,iI y0),(10,.hptr 10 0),(75,.hptr 75 0),(76,.tup [.bool false]),(77,.bool false)],[(4,.cells 28 [.eslice,iI 0]),(10,.cells 28 [.rslice 68,iI y19.1]),(68,.row 3 1 (s2.map aj)),(75,.iter (((x2.getD x0.toNat aa).mults).map (dL aj)) i2),(1000,.cells 73 [.rslice 1001,.rslice 1002,iI x1]),(1001,.row 76 5 (x2.map ab)),(1002,.row 41 7 (x3.map aA))]⟩) (fun i2 s2=>by kernel_rfl) (fun i2 s2 n1 e1=>⟨161,[(0,.hptr 1000 0),(1,iI x0),(4,.hptr 4 0),(5,iI 0),(6,.hptr 1001 (x0.toNat*5)),(7,iI y0),(10,.hptr 10 0),(75,.hptr 75 0),(76,.tup [.bool true,iI e1.1,iI e1.2]),(77,.bool true)],[(4,.cells 28 [.eslice,iI 0]),(10,.cells 28 [.rslice 68,iI y19.1]),(68,.row 3 1 (s2.map aj)),(75,.iter (((x2.getD x0.toNat aa).mults).map (dL aj)) (i2++[n1])),(1000,.cells 73 [.rslice 1001,.rslice 1002,iI x1]),(1001,.row 76 5 (x2.map ab)),(1002,.row 41 7 (x3.map aA))]⟩) (fun i2 s2 n1 e1=>by kernel_rfl) (fun i2 s2 H57 => ?_) (fun i2 s2 n1 e1 h30 q2 h31 h32 => ?_)
     ·obtain rfl:=sI H57;exact pR 6 [r0 [.v,.m,.v]] [.fz 68,.ren [(1002,0),(4,4),(1000,1000),(1001,1001)]] [0,1000,1001] aN
     ·refine aK h31 fun g11 H58 => ?_;refine aK H58 fun g12 H59 => ?_;refine aQ H59 fun y21 h33 H60 => ?_;obtain rfl:=sI H60;exact pB 7 [r0 [.en n1 (.tup [iI e1.1,iI e1.2]),.v,.v,.v,.v],r0 (V 5 [.rs e1.1.toNat 0,.rwH 68 (.row 3 1 (y21.map aj))])] [.only [0,1,4,5,6,7,10,75] [4,10,68,75,1000,1001,1002]] (eW x0 x1 x2 x3 y0 y19 (i2++[n1]) y21) (aC (jO i2 n1) (aC (wg (cc:=aj) h30) (aC (show (0:Int)≤e1.1∧e1.1<((s2.map aj).length:Int) from by rw [LI];exact g11) (aC (iS (f:=aj) (l:=s2) (n:=e1.1.toNat) 1 0 1 (by omega) (by decide)) (aC ((uE (f:=aj) 3 1 s2 e1.1.toNat 0 e1.2 0 [iI e1.2] (by omega) rfl).trans (congrArg (fun l=>AO.row 3 1 (l.map aj)) (LM h33))) aN)))))
    ·obtain rfl:=sI H55;exact pR 5 [.eqT 61 bT,r0 [.b,.m,.v]] [.wkH 4 0 [],.ren [(1002,0),(4,4),(1000,1000),(1001,1001)]] [0,1000,1001] (aM c23 aN)
noncomputable def bc (x0:List Linear) (x1:Int):Option ((List Bind)×Int×ah×Int) :=
 (bU x0).bind fun y0 =>
 ((
  bif y0 then (
   bif decide (x1<1) then (
    some true
   ) else (
    bif decide (x1≥1000000000) then (
     some true
    ) else (
     (ca x0).bind fun y1 =>
     some (decide (y1≥x1))
    )
   )
  ) else (
   some true
  )
 ):Option Bool).bind fun v0 =>
 bif v0 then (
  some ([],0,(ah.mk [] 0),1)
 ) else (
  bif decide (((x0.length:Nat):Int)>6000) then (
   some ([],0,(ah.mk [] 0),3)
  ) else (
   (eH (σ:=(List ae)) (ε:=(List ae)) (ρ:=Empty) (fun i0 s0 =>
    bM ((s0.length+1)*56≤140737488355328) <|
    some (.go (s0++[(ae.mk (Linear.mk ((x0.getD i0 az).Const) ((x0.getD i0 az).Terms)) (ksort (bI (((i0:Nat):Int):Int) 1 [])) 1 false)]))
   ) (fun i0 s0=>s0) (x0.length-0) 0 []).bind <| dI fun u0 =>
   (kz (σ:=(Int×(List ae)×(List Bind)×Int)) (ε:=((List ae)×(List Bind)×Int)) (ρ:=((List Bind)×Int×ah×Int)) (fun s1 =>
    bif decide (s1.1<((u0.length:Nat):Int)) then (
     (kz (σ:=((List ae)×(List Bind)×Int)) (ε:=((List ae)×(List Bind)×Int)) (ρ:=(gC (Int×(List ae)×(List Bind)×Int) ((List ae)×(List Bind)×Int) ((List Bind)×Int×ah×Int))) (fun s2 =>
      bM (0≤s1.1∧s1.1<(s2.1.length:Int)) <|
      bM (s1.1.toNat<s2.1.length) <|
      (dY (Linear.mk (((s2.1.getD s1.1.toNat aa).q).Const) (((s2.1.getD s1.1.toNat aa).q).Terms))).bind fun y2 =>
      bif y2 then (
       some (.brk (s2.1,s2.2.1,s2.2.2))
      ) else (
       (aV s1.1 s2.2.2 s2.1 s2.2.1).bind fun y3 =>
       bif (y3.1.2==0) then (
        some (.go (y3.2.2.1,y3.2.2.2,y3.2.1))
       ) else (
        some (.ret (.ret ([],0,y3.1.1,y3.1.2)))
       )
      )
     ) 4294967296 (s1.2.1,s1.2.2.1,s1.2.2.2)).bind <| aft fun u1 =>
     some (.go ((aL (s1.1+1)),u1.1,u1.2.1,u1.2.2))
    ) else (
     some (.brk (s1.2.1,s1.2.2.1,s1.2.2.2))
    )
   ) 4294967296 (0,u0,[],x1)).bind <| aft fun u2 =>
   bif decide (u2.2.2≥1000000000) then (
    some ([],0,(ah.mk [] 0),3)
   ) else (
    (bj x0).bind fun y4 =>
    (eH (σ:=(List Bind)) (ε:=(List Bind)) (ρ:=Empty) (fun i1 s3 =>
     (fE y4 ((u2.2.1.getD i1 aw).Var)).bind fun y5 =>
     ((
      bif y5.2 then (
       bM ((s3.length+1)*112≤140737488355328) <|
       some (s3++[(Bind.mk ((u2.2.1.getD i1 aw).Kind) ((u2.2.1.getD i1 aw).Var) (Linear.mk (((u2.2.1.getD i1 aw).Dim).Const) (((u2.2.1.getD i1 aw).Dim).Terms)) (Shape.mk (((u2.2.1.getD i1 aw).Row).Row) (((u2.2.1.getD i1 aw).Row).Dims)) ((u2.2.1.getD i1 aw).Elem))])
      ) else (
       some s3
      )
     ):Option (List Bind)).bind fun v1 =>
     some (.go v1)
    ) (fun i1 s3=>s3) (u2.2.1.length-0) 0 []).bind <| dI fun u3 =>
    (iR (fun x=>x.Var) u3).bind fun y6 =>
    some (y6,u2.2.2,(ah.mk [] 0),0)
   )
  )
 )
def ed (x0:List Linear) (x1:Int) (v0:Bool):AS:=⟨133,[(0,dS ak x0),(1,iI x1),(4,.eslice),(5,iI 0),(6,.hptr 6 0),(7,iI 0),(35,.bool v0)],[(6,.cells 28 [.eslice,iI 0])]⟩
def iu (x0:List Linear) (x1:Int) (i0:Nat) (s0:List ae):AS:=⟨133,[(0,dS ak x0),(4,.eslice),(5,iI 0),(6,.hptr 6 0),(7,iI 0),(8,.hptr 43 0),(44,dS ak x0),(45,nI x0.length),(46,nI i0)],[(6,.cells 28 [.eslice,iI 0]),(43,.cells 73 [.rslice 62,.eslice,iI x1]),(62,.row 76 5 (s0.map ab))]⟩
def lb (x0:List Linear) (x1:Int) (u4:List ae):AS:=⟨133,[(0,dS ak x0),(4,.eslice),(5,iI 0),(6,.hptr 6 0),(7,iI 0),(8,.hptr 43 0)],[(6,.cells 28 [.eslice,iI 0]),(43,.cells 73 [.rslice 62,.eslice,iI x1]),(62,.row 76 5 (u4.map ab))]⟩
def ij (x0:List Linear) (u0:List ae) (s1:Int×(List ae)×(List Bind)×Int):AS:=⟨133,[(0,dS ak x0),(4,.eslice),(5,iI 0),(6,.hptr 6 0),(7,iI 0),(8,.hptr 43 0),(70,nI u0.length),(71,iI s1.1)],[(6,.cells 28 [.eslice,iI 0]),(43,.cells 73 [.rslice 62,.rslice 900,iI s1.2.2.2]),(62,.row 76 5 (s1.2.1.map ab)),(900,.row 41 7 (s1.2.2.1.map aA))]⟩
def lR (x0:List Linear) (u5:(List ae)×(List Bind)×Int):AS:=⟨133,[(0,dS ak x0),(4,.eslice),(5,iI 0),(6,.hptr 6 0),(7,iI 0),(8,.hptr 43 0)],[(6,.cells 28 [.eslice,iI 0]),(43,.cells 73 [.rslice 62,.rslice 900,iI u5.2.2]),(62,.row 76 5 (u5.1.map ab)),(900,.row 41 7 (u5.2.1.map aA))]⟩
def iy (x0:List Linear) (u0:List ae) (s1:Int×(List ae)×(List Bind)×Int) (s2:(List ae)×(List Bind)×Int):AS:=⟨133,[(0,dS ak x0),(4,.eslice),(5,iI 0),(6,.hptr 6 0),(7,iI 0),(8,.hptr 43 0),(11,iI s1.1),(70,nI u0.length),(71,iI s1.1)],[(6,.cells 28 [.eslice,iI 0]),(43,.cells 73 [.rslice 62,.rslice 901,iI s2.2.2]),(62,.row 76 5 (s2.1.map ab)),(901,.row 41 7 (s2.2.1.map aA))]⟩
def lD (x0:List Linear) (u0:List ae) (s1:Int×(List ae)×(List Bind)×Int) (u6:(List ae)×(List Bind)×Int):AS:=⟨133,[(0,dS ak x0),(4,.eslice),(5,iI 0),(6,.hptr 6 0),(7,iI 0),(8,.hptr 43 0),(70,nI u0.length),(71,iI s1.1)],[(6,.cells 28 [.eslice,iI 0]),(43,.cells 73 [.rslice 62,.rslice 901,iI u6.2.2]),(62,.row 76 5 (u6.1.map ab)),(901,.row 41 7 (u6.2.1.map aA))]⟩
def iC (u2:(List ae)×(List Bind)×Int) (y4:List au) (i1:Nat) (s3:List Bind):AS:=⟨133,[(4,.rslice 123),(5,iI 0),(6,.hptr 6 0),(7,iI 0),(8,.hptr 43 0),(14,dS bt y4),(106,.rslice 900),(107,nI u2.2.1.length),(108,nI i1)],[(6,.cells 28 [.eslice,iI 0]),(43,.cells 73 [.rslice 62,.rslice 900,iI u2.2.2]),(62,.row 76 5 (u2.1.map ab)),(123,.row 41 7 (s3.map aA)),(900,.row 41 7 (u2.2.1.map aA))]⟩
def kZ (u2:(List ae)×(List Bind)×Int) (u7:List Bind):AS:=⟨133,[(4,.rslice 123),(5,iI 0),(6,.hptr 6 0),(7,iI 0),(8,.hptr 43 0)],[(6,.cells 28 [.eslice,iI 0]),(43,.cells 73 [.rslice 62,.rslice 900,iI u2.2.2]),(62,.row 76 5 (u2.1.map ab)),(123,.row 41 7 (u7.map aA)),(900,.row 41 7 (u2.2.1.map aA))]⟩
def gO (u2:(List ae)×(List Bind)×Int) (y4:List au) (i1:Nat) (v1:List Bind):AS:=⟨133,[(4,.rslice 123),(5,iI 0),(6,.hptr 6 0),(7,iI 0),(8,.hptr 43 0),(14,dS bt y4),(106,.rslice 900),(107,nI u2.2.1.length),(108,nI i1)],[(6,.cells 28 [.eslice,iI 0]),(43,.cells 73 [.rslice 62,.rslice 900,iI u2.2.2]),(62,.row 76 5 (u2.1.map ab)),(123,.row 41 7 (v1.map aA)),(900,.row 41 7 (u2.2.1.map aA))]⟩
theorem db (x0:List Linear) (x1:Int) (r:(List Bind)×Int×ah×Int) (H:bc x0 x1=some r):bQ Tryz.prog 9 [dS ak x0,iI x1] (.tup [dS aA r.1,iI r.2.1,.agg [dS aj r.2.2.1.Mults,iI r.2.2.1.Mod],iI r.2.2.2]):=by
 unfold bc at H;refine aX Tryz.func9 133 [.tmp 4,.tmp 5,.cell 6 28,.tmp 7] ?_;refine aQ H fun y0 h0 H0 => ?_;refine pD 4 [r0 [.v,.v,.m,.v]] [.only [0,1,4,5,6,7] [6]] 4 [] aN ?_;refine aQ H0 fun v0 h1 H1 => ?_;refine eR 0 (ed x0 x1 v0) (by kernel_rfl) ?_ ?_
 ·refine aZ h1 (fun c0 H2 => ?_) (fun c1 H3 => ?_)
  ·refine aZ H2 (fun c2 H4 => ?_) (fun c3 H5 => ?_)
   ·obtain rfl:=sI H4;exact pB 1 [r0 [.v,.c true bT,.v,.v,.v,.e bT,.v,.v,.s,.s,.v,.v,.s,.s,.s,.s,.v]] [.only [0,1,4,5,6,7,35] [6]] (ed x0 x1 true) (aC Tryz.call27 (aC (bQ.eq (aW _ _ h0) (cB c0)) (aT (aB c2 aN))))
   ·refine aZ H5 (fun c4 H6 => ?_) (fun c5 H7 => ?_)
    ·obtain rfl:=sI H6;exact pB 1 [r0 [.v,.c true bT,.v,.v,.v,.e bF,.v,.v,.v,.e bT,.v,.v,.s,.s,.s,.s,.v]] [.only [0,1,4,5,6,7,35] [6]] (ed x0 x1 true) (aC Tryz.call27 (aC (bQ.eq (aW _ _ h0) (cB c0)) (aT (aB c3 (aB c4 aN)))))
    ·refine aQ H7 fun y1 h2 H8 => ?_;obtain rfl:=sI H8;exact pB 1 [r0 [.v,.c true bT,.v,.v,.v,.e bF,.v,.v,.v,.e bF,.v,.v,.v,.c true (iI y1),.v,.v,.v]] [.only [0,1,4,5,6,7,35] [6]] (ed x0 x1 (decide (y1≥x1))) (aC Tryz.call27 (aC (bQ.eq (aW _ _ h0) (cB c0)) (aT (aB c3 (aB c5 (aC Tryz.call28 (aF (jX _ _ h2) aN)))))))
  ·obtain rfl:=sI H3;exact pB 1 [r0 [.v,.c true bF,.v,.v,.s,.s,.v,.v,.s,.s,.v,.v,.s,.s,.s,.s,.v]] [.only [0,1,4,5,6,7,35] [6]] (ed x0 x1 true) (aC Tryz.call27 (aC (bQ.eq (aW _ _ h0) (cB c1)) (aT aN)))
 ·refine aZ H1 (fun c6 H9 => ?_) (fun c7 H10 => ?_)
  ·obtain rfl:=sI H9;exact pR 5 [.eqT 35 bT,r0 [.b,.v,.v,.m,.v]] [.wk 4 [],.wkH 6 0 []] [] (aB c6 aN)
  ·refine aZ H10 (fun c8 H11 => ?_) (fun c9 H12 => ?_)
   ·obtain rfl:=sI H11;exact pR 11 [.eqT 35 bF,r0 [.v,.e (nI x0.length),.v],.eqT 39 bT,r0 [.b,.v,.v,.m,.v]] [.wk 4 [],.wkH 6 0 []] [] (aB c7 (aT (aC (aP ak x0) (aB c8 aN))))
   ·have c9p:=LD c9;refine pA 15 [.eqT 35 bF,r0 [.v,.e (nI x0.length),.v],.eqT 39 bF,r0 [.v,.b,.m,.v],r0 [.v,.e (nI x0.length),.v]] [.erH 43 0 62 76 5,.only [0,4,5,6,7,8,44,45,46] [6,43,62]] 13 [false,false] (iu x0 x1 0 []) (aB c7 (aT (aC (aP ak x0) (aB c9 (aT (aC (aP ak x0) aN)))))) ?_;refine aQ H12 fun R0 h3 H13 => ?_;refine pJ 1 (lb x0 x1) R0 ?_ (fun u0 e0 => ?_)
    ·refine pC (iu x0 x1) h3 (fun i0 s0 h4 e1 => ?_) (fun i0 s0 h5 q0 h6 h7 => ?_)
     ·have c10:=lF i0 x0.length (by omega);subst e1;exact pB 5 [r0 [.e bF]] [.only [0,4,5,6,7,8] [6,43,62]] (lb x0 x1 s0) (aB c10 aN)
     ·have c11:=lT i0 x0.length (by omega);refine aK h6 fun g0 H14 => ?_;refine bV 0 (ps:=[(x0.map ak).length≤9223372036854775807]) (by kernel_rfl) (fun l0 => ?_);have l1:x0.length≤9223372036854775807:=by simpa only [cI,LI] using l0
      clear l0;obtain rfl:=sI H14;exact pB 12 [r0 [.e bT],r0 [.v,.e (.dptr (ak (x0.getD i0 az))),.v,.m,.v,.m],.cv [.ren [(6,6),(10,10),(43,43),(62,900)]],.rg 13 (V 4 [.lt,.v,.mm,.v,.mi ((ksort (bI (((i0:Nat):Int):Int) 1 [])).map (dL aj)),.v,.b,.b,.apx ((s0++[(ae.mk (Linear.mk ((x0.getD i0 az).Const) ((x0.getD i0 az).Terms)) (ksort (bI (((i0:Nat):Int):Int) 1 [])) 1 false)]).map ab)]) [.v,.v,.m],V2] [.only [0,4,5,6,7,8,44,45,46] [6,43,62]] (iu x0 x1 (i0+1) (s0++[(ae.mk (Linear.mk ((x0.getD i0 az).Const) ((x0.getD i0 az).Terms)) (ksort (bI (((i0:Nat):Int):Int) 1 [])) 1 false)])) (aB c11 (aI bh x0 i0 az (aC (La kg (((i0:Nat):Int):Int) 1 []) (b9 (Jn (c:=ab) rW s0 [(ae.mk (Linear.mk ((x0.getD i0 az).Const) ((x0.getD i0 az).Terms)) (ksort (bI (((i0:Nat):Int):Int) 1 [])) 1 false)] 56 (by decide) (by first | (simp;done) | simpa using g0) List.map_append.symm) (aH i0 aN)))))
    ·subst e0;have H15:=bG H13;refine pA 4 [r0 (V 4 [.e (nI u0.length),.v])] [.erH 43 1 900 41 7,.only [0,4,5,6,7,8,70,71] [6,43,62,900]] 4 [] (ij x0 u0 (0,u0,[],x1)) (aT (aC (aP ab u0) aN)) ?_;refine aQ H15 fun R1 h8 H16 => ?_;refine pJ 1 (lR x0) R1 ?_ (fun u2 e2 => ?_)
     ·refine qU (ij x0 u0) (by kernel_rfl) h8 (fun s1 q1 h9 h10 => ?_)
      ·refine aZ h9 (fun c12 H17 => ?_) (fun c13 H18 => ?_)
       ·have c12p:=LF c12;refine pA 11 [V1,.eqT 72 bT,V2] [.ren [(6,6),(43,43),(62,62),(900,901)],.only [0,4,5,6,7,8,11,70,71] [6,43,62,901]] 10 [true] (iy x0 u0 s1 (s1.2.1,s1.2.2.1,s1.2.2.2)) (aB c12 aN) ?_;refine aQ H17 fun R2 h11 H19 => ?_;refine pJ 2 (lD x0 u0 s1) R2 ?_ (fun u1 e3 => ?_)
        ·refine qU (iy x0 u0 s1) (by kernel_rfl) h11 (fun s2 q2 h12 h13 => ?_)
         ·refine aK h12 fun g1 H20 => ?_;refine aK H20 fun g2 H21 => ?_;refine aQ H21 fun y2 h14 H22 => ?_;refine pD 3 [r0 (V 7 [.rl s1.1.toNat 0 (.agg (ak ((s2.1.getD s1.1.toNat aa).q))),.c true (.bool y2),.v])] [.only [0,4,5,6,7,8,11,70,71,83] [6,43,62,901]] 3 [] (aC (show (0:Int)≤s1.1∧s1.1<((s2.1.map ab).length:Int) from by rw [LI];exact g1) (aC (iS (f:=ab) (l:=s2.1) (n:=s1.1.toNat) 5 0 2 (by omega) (by decide)) (aC (E2 (f:=ab) (l:=s2.1) (n:=s1.1.toNat) aa 0 2 (by omega)) (aC Tryz.call29 (aF (sJ _ _ h14) (aT aN)))))) ?_;refine aZ H22 (fun c14 H23 => ?_) (fun c15 H24 => ?_)
          ·obtain rfl:=sI H23;obtain rfl:=iU h13;exact pB 3 [.eqT 83 bF] [.only [0,4,5,6,7,8,70,71] [6,43,62,901]] (lD x0 u0 s1 (s2.1,s2.2.1,s2.2.2)) (aM c14 aN)
          ·refine aQ H24 fun y3 h15 H25 => ?_;refine pD 8 [.eqT 83 bT,r0 [.v,.v,.hM [(43,1000),(62,1001),(901,1002)] [(0,900)] (.tup [.agg [dS aj y3.1.1.Mults,iI y3.1.1.Mod],iI y3.1.2]) [(0,.row 41 7 (y3.2.2.2.map aA)),(1000,.cells 73 [.rslice 1001,.rslice 0,iI y3.2.1]),(1001,.row 76 5 (y3.2.2.1.map ab))],.v,.v,.v,.m,.m,.v],V2] [.only [0,4,5,6,7,8,11,12,13,70,71,91] [6,12,43,62,900]] 7 [true] (aM c15 (aC Tryz.call30 (aC (nM _ _ _ _ _ h15) aN))) ?_;refine aZ H25 (fun c16 H26 => ?_) (fun c17 H27 => ?_)
           ·obtain rfl:=sI H26;exact pB 3 [.eqT 91 bF] [.ren [(6,6),(43,43),(62,62),(900,901)],.only [0,4,5,6,7,8,11,70,71] [6,43,62,901]] (iy x0 u0 s1 (y3.2.2.1,y3.2.2.2,y3.2.1)) (aM c16 aN)
           ·obtain rfl:=sI H27;obtain rfl:=aS h13;obtain rfl:=sI (aJ H19);obtain rfl:=aS h10;obtain rfl:=sI (aJ H16);exact pR 5 [.eqT 91 bT,.rg 5 (V 4 [.m]) [.v]] [.wk 4 []] [] (aM c17 aN)
        ·subst e3;have H28:=bq H19;obtain rfl:=sI H28;exact pB 1 [r0 [.w,.v]] [.ren [(6,6),(43,43),(62,62),(901,900)],.only [0,4,5,6,7,8,70,71] [6,43,62,900]] (ij x0 u0 ((aL (s1.1+1)),u1.1,u1.2.1,u1.2.2)) aN
       ·obtain rfl:=sI H18;obtain rfl:=iU h10;exact pB 6 [V1,.eqT 72 bF] [.only [0,4,5,6,7,8] [6,43,62,900]] (lR x0 (s1.2.1,s1.2.2.1,s1.2.2.2)) (aB c13 aN)
     ·subst e2;have H29:=bq H16;refine aZ H29 (fun c18 H30 => ?_) (fun c19 H31 => ?_)
      ·obtain rfl:=sI H30;exact pR 8 [V5,.eqT 99 bT,r0 [.b,.v,.v,.m,.v]] [.wk 4 [],.wkH 6 0 []] [] (aB c18 aN)
      ·have c19p:=LD c19;refine aQ H31 fun y4 h16 H32 => ?_;refine pA 12 [V5,.eqT 99 bF,r0 [.v,.c true (dS bt y4),.v],r0 (V 4 [.e (nI u2.2.1.length),.v])] [.er 4 123 41 7,.only [4,5,6,7,8,14,106,107,108] [6,43,62,123,900]] 11 [false] (iC u2 y4 0 []) (aB c19 (aC Tryz.call31 (aF (dq _ _ h16) (aT (aC (aP aA u2.2.1) aN))))) ?_;refine aQ H32 fun R3 h17 H33 => ?_;refine pJ 1 (kZ u2) R3 ?_ (fun u3 e4 => ?_)
       ·refine pC (iC u2 y4) h17 (fun i1 s3 h18 e5 => ?_) (fun i1 s3 h19 q3 h20 h21 => ?_)
        ·have c20:=lF i1 u2.2.1.length (by omega);subst e5;exact pB 5 [r0 [.e bF]] [.only [4,5,6,7,8] [6,43,62,123,900]] (kZ u2 s3) (aB c20 aN)
        ·have c21:=lT i1 u2.2.1.length (by omega);refine aQ h20 fun y5 h22 H34 => ?_;refine pD 13 [r0 [.e bT],r0 [.v,.rl i1 0 (.agg (aA (u2.2.1.getD i1 aw))),.m,.m],r0 [.v,.v,.v,.c true (.tup [iI y5.1,.bool y5.2]),.v,.v,.v,.v,.v],V1] [.only [4,5,6,7,8,14,16,106,107,108,119] [6,16,43,62,123,900]] 13 [true] (aB c21 (aC (show (0:Int)≤((i1:Nat):Int)∧((i1:Nat):Int)<((u2.2.1.map aA).length:Int) from by rw [LI];omega) (aC (iS (f:=aA) (l:=u2.2.1) (n:=i1) 7 0 7 (by omega) (by decide)) (aC (E2 (f:=aA) (l:=u2.2.1) (n:=i1) aw 0 7 (by omega)) (aC Tryz.call32 (aF (qQ y4 ((u2.2.1.getD i1 aw).Var) y5 h22) aN)))))) ?_;refine aQ H34 fun v1 h23 H35 => ?_;refine eR 1 (gO u2 y4 i1 v1) (by kernel_rfl) ?_ ?_
         ·refine aZ h23 (fun c22 H36 => ?_) (fun c23 H37 => ?_)
          ·refine aK H36 fun g3 H38 => ?_;obtain rfl:=sI H38;exact pB 3 [.eqT 119 bT,r0 [.v,.v,.b,.ap,.rwH 123 (.row 41 7 ((s3++[(Bind.mk ((u2.2.1.getD i1 aw).Kind) ((u2.2.1.getD i1 aw).Var) (Linear.mk (((u2.2.1.getD i1 aw).Dim).Const) (((u2.2.1.getD i1 aw).Dim).Terms)) (Shape.mk (((u2.2.1.getD i1 aw).Row).Row) (((u2.2.1.getD i1 aw).Row).Dims)) ((u2.2.1.getD i1 aw).Elem))]).map aA)),.v]] [.only [4,5,6,7,8,14,106,107,108] [6,43,62,123,900]] (gO u2 y4 i1 (s3++[(Bind.mk ((u2.2.1.getD i1 aw).Kind) ((u2.2.1.getD i1 aw).Var) (Linear.mk (((u2.2.1.getD i1 aw).Dim).Const) (((u2.2.1.getD i1 aw).Dim).Terms)) (Shape.mk (((u2.2.1.getD i1 aw).Row).Row) (((u2.2.1.getD i1 aw).Row).Dims)) ((u2.2.1.getD i1 aw).Elem))])) (aB c22 (b9 (yf (c:=aA) zZ s3 [(Bind.mk ((u2.2.1.getD i1 aw).Kind) ((u2.2.1.getD i1 aw).Var) (Linear.mk (((u2.2.1.getD i1 aw).Dim).Const) (((u2.2.1.getD i1 aw).Dim).Terms)) (Shape.mk (((u2.2.1.getD i1 aw).Row).Row) (((u2.2.1.getD i1 aw).Row).Dims)) ((u2.2.1.getD i1 aw).Elem))] 112 (by decide) (by first | (simp;done) | simpa using g3)) (aC (Bn 41 7 aA s3 [(Bind.mk ((u2.2.1.getD i1 aw).Kind) ((u2.2.1.getD i1 aw).Var) (Linear.mk (((u2.2.1.getD i1 aw).Dim).Const) (((u2.2.1.getD i1 aw).Dim).Terms)) (Shape.mk (((u2.2.1.getD i1 aw).Row).Row) (((u2.2.1.getD i1 aw).Row).Dims)) ((u2.2.1.getD i1 aw).Elem))]) aN)))
          ·refine cR H37 fun e6 => ?_;subst e6;exact pB 3 [.eqT 119 bF] [.only [4,5,6,7,8,14,106,107,108] [6,43,62,123,900]] (gO u2 y4 i1 s3) (aB c23 aN)
         ·refine uB 900 (n:=(u2.2.1.map aA).length) (by kernel_rfl) (fun l2 => ?_);have l3:u2.2.1.length≤9223372036854775807:=by simpa only [LI] using l2
          clear l2;obtain rfl:=sI H35;exact pB 1 [V2] [.only [4,5,6,7,8,14,106,107,108] [6,43,62,123,900]] (iC u2 y4 (i1+1) v1) (aH i1 aN)
       ·subst e4;have H39:=bG H33;refine aQ H39 fun y6 h24 H40 => ?_;obtain rfl:=sI H40;exact pR 5 [r0 [.v,.hR [(123,1000)] 126 (.tup []) [(1000,.row 41 7 (y6.map aA))]],.rg 8 (V 5 [.b,.v,.v]) [.m,.v]] [.fz 123,.wkH 6 0 []] [] (aC Tryz.call33 (aC (zJ aA (fun x=>x.Var) _ _ _ _ _ _ (fun _=>rfl) (fun _=>rfl) u3 y6 h24) aN))
def qx (x0:au):Option Linear :=
 some (Linear.mk 0 [(aq.mk x0 1)])
theorem Bi (x0:au) (r:Linear) (H:qx x0=some r):bQ Tryz.prog 22 [.str x0] (.agg [iI r.Const,dS ao r.Terms]):=by unfold qx at H;refine aX Tryz.func22 7 [.cell 2 34] ?_;obtain rfl:=sI H;exact pR 5 [r0 [.m],r0 [.v,.b,.b,.b,.m]] [] [] aN
def mO (x0 x1:Linear) (x2:Int):Option Linear :=
 bM ((0+x0.Terms.length)*24≤140737488355328) <|
 (eH (σ:=(Int×(List aq))) (ε:=(Int×(List aq))) (ρ:=Empty) (fun i0 s0 =>
  (jL (Linear.mk s0.1 s0.2) ((x1.Terms.getD i0 ay).Var) (aL (x2*((x1.Terms.getD i0 ay).C)))).bind fun y0 =>
  some (.go (y0.Const,y0.Terms))
 ) (fun i0 s0=>(s0.1,s0.2)) (x1.Terms.length-0) 0 ((aL (x0.Const+(aL (x2*x1.Const)))),x0.Terms)).bind <| dI fun u0 =>
 some (Linear.mk u0.1 u0.2)
def kY (x1:Linear) (x2:Int) (i0:Nat) (s0:Int×(List aq)):AS:=⟨45,[(2,iI x2),(4,.hptr 4 0),(6,.hptr 6 0),(7,.hptr 7 0),(8,nI i0)],[(4,.cells 34 [iI x1.Const,dS ao x1.Terms]),(6,.cells 34 [iI 0,.eslice]),(7,.cells 34 [iI s0.1,dS ao s0.2])]⟩
def pS (u1:Int×(List aq)):AS:=⟨45,[(6,.hptr 6 0),(7,.hptr 7 0)],[(6,.cells 34 [iI 0,.eslice]),(7,.cells 34 [iI u1.1,dS ao u1.2])]⟩
theorem w4 (x0 x1:Linear) (x2:Int) (r:Linear) (H:mO x0 x1 x2=some r):bQ Tryz.prog 16 [.agg [iI x0.Const,dS ao x0.Terms],.agg [iI x1.Const,dS ao x1.Terms],iI x2] (.agg [iI r.Const,dS ao r.Terms]):=by
 unfold mO at H;refine aX Tryz.func16 45 [.cell 6 34] ?_;refine aK H fun g0 H0 => ?_;refine pA 8 [r0 [.m,.m,.m],.rg 13 (V 5 [.w,.w,.b,.v,.v,.apx (x0.Terms.map ao),.b,.m]) [.m],V1] [.fz 19,.only [2,4,6,7,8] [4,6,7]] 8 [] (kY x1 x2 0 ((aL (x0.Const+(aL (x2*x1.Const)))),x0.Terms)) (b9 (Jn (c:=ao) gQ [] x0.Terms 24 (by decide) (by first | (simp;done) | simpa using g0) rfl) aN) ?_;refine aQ H0 fun R0 h0 H1 => ?_;refine pJ 1 (pS) R0 ?_ (fun u0 e0 => ?_)
 ·refine pC (kY x1 x2) h0 (fun i0 s0 h1 e1 => ?_) (fun i0 s0 h2 q0 h3 h4 => ?_)
  ·have c0:=lF i0 x1.Terms.length (by omega);subst e1;exact pB 5 [r0 [.v,.v,.v,.e (nI x1.Terms.length),.e bF]] [.only [6,7] [6,7]] (pS (s0.1,s0.2)) (aT (aC (aP ao x1.Terms) (aB c0 aN)))
  ·have c1:=lT i0 x1.Terms.length (by omega);refine aQ h3 fun y0 h5 H2 => ?_;refine mJ 4 1 (ps:=[(x1.Terms.map ao).length≤9223372036854775807]) (by kernel_rfl) (fun l0 => ?_);have l1:x1.Terms.length≤9223372036854775807:=by simpa only [cI,LI] using l0
   clear l0;obtain rfl:=sI H2;exact pB 9 [r0 [.v,.v,.v,.e (nI x1.Terms.length),.e bT],.rg 15 (V 4 [.e (.dptr (ao (x1.Terms.getD i0 ay))),.v,.v,.v,.v,.v,.v,.e (.dptr (ao (x1.Terms.getD i0 ay))),.v,.v,.w]) [.c true (.agg [iI y0.Const,dS ao y0.Terms]),.m],V3] [.only [2,4,6,7,8] [4,6,7]] (kY x1 x2 (i0+1) (y0.Const,y0.Terms)) (aT (aC (aP ao x1.Terms) (aB c1 (aI bf x1.Terms i0 ay (aI bf x1.Terms i0 ay (aC Tryz.call17 (aF (kE _ _ _ _ h5) (aH i0 aN))))))))
 ·subst e0;have H3:=bG H1;obtain rfl:=sI H3;exact pR 3 [r0 [.v,.m]] [] [] aN
noncomputable def fM (x0 x1:List Linear):Option ((List Bind)×Int) :=
 (bU x0).bind fun y0 =>
 bif y0 then (
  (bU x1).bind fun y1 =>
  bif y1 then (
   bif decide (((x0.length:Nat):Int)>6000) then (
    some ([],1)
   ) else (
    bif decide (((x1.length:Nat):Int)>6000) then (
     some ([],1)
    ) else (
     bif (((x0.length:Nat):Int)==((x1.length:Nat):Int)) then (
      (ca x0).bind fun y2 =>
      bif decide ((aL (y2+1))≥1000000000) then (
       some ([],3)
      ) else (
       (bj x0).bind fun y3 =>
       bM (112*y3.length≤140737488355328) <|
       (eH (σ:=(List Bind)) (ε:=(List Bind)) (ρ:=Empty) (fun i0 s0 =>
        bM (i0<s0.length) <|
        some (.go (s0.set i0 (Bind.mk 1 (y3.getD i0 []) (Linear.mk 0 []) (Shape.mk [] []) [])))
       ) (fun i0 s0=>s0) (y3.length-0) 0 (List.replicate y3.length aw)).bind <| dI fun u0 =>
       (bj x1).bind fun y4 =>
       bM ((([[]]:List au).length+y4.length)*16≤140737488355328) <|
       (eH (σ:=(List Bind)) (ε:=(List Bind)) (ρ:=((List Bind)×Int)) (fun i1 s1 =>
        (eH (σ:=(List Linear)) (ε:=(List Linear)) (ρ:=(gC (List Bind) (List Bind) ((List Bind)×Int))) (fun i2 s2 =>
         bM (i2<x1.length) <|
         ((
          bif decide (((i1:Nat):Int)>0) then (
           (cS (Linear.mk ((x1.getD i2 az).Const) ((x1.getD i2 az).Terms)) ((([[]]:List au)++y4).getD i1 [])).bind fun y5 =>
           some (aL (0-y5))
          ) else (
           some (aL (((x0.getD i2 az).Const)-((x1.getD i2 az).Const)))
          )
         ):Option Int).bind fun v0 =>
         (bR (Linear.mk v0 ((x0.getD i2 az).Terms))).bind fun y6 =>
         bif y6 then (
          bM ((s2.length+1)*32≤140737488355328) <|
          some (.go (s2++[(Linear.mk v0 ((x0.getD i2 az).Terms))]))
         ) else (
          some (.ret (.ret ([],3)))
         )
        ) (fun i2 s2=>s2) (x0.length-0) 0 []).bind <| aft fun u1 =>
        (bc u1 (aL (y2+1))).bind fun y7 =>
        bif (y7.2.2.2==0) then (
         (eH (σ:=(List Bind)) (ε:=(List Bind)) (ρ:=Empty) (fun i3 s3 =>
          (fE y3 ((y7.1.getD i3 aw).Var)).bind fun y8 =>
          ((
           bif (((i1:Nat):Int)==0) then (
            bM (0≤y8.1∧y8.1<(s3.length:Int)) <|
            bM (y8.1.toNat<s3.length) <|
            some (s3.set y8.1.toNat (Bind.mk ((s3.getD y8.1.toNat aw).Kind) ((s3.getD y8.1.toNat aw).Var) (Linear.mk (((y7.1.getD i3 aw).Dim).Const) (((s3.getD y8.1.toNat aw).Dim).Terms)) (Shape.mk (((s3.getD y8.1.toNat aw).Row).Row) (((s3.getD y8.1.toNat aw).Row).Dims)) ((s3.getD y8.1.toNat aw).Elem)))
           ) else (
            bif ((((y7.1.getD i3 aw).Dim).Const)==0) then (
             some s3
            ) else (
             bM (0≤y8.1∧y8.1<(s3.length:Int)) <|
             bM (y8.1.toNat<s3.length) <|
             bM ((((s3.getD y8.1.toNat aw).Dim).Terms)=[]) <|
             some (s3.set y8.1.toNat (Bind.mk ((s3.getD y8.1.toNat aw).Kind) ((s3.getD y8.1.toNat aw).Var) (Linear.mk (((s3.getD y8.1.toNat aw).Dim).Const) [(aq.mk ((([[]]:List au)++y4).getD i1 []) (((y7.1.getD i3 aw).Dim).Const))]) (Shape.mk (((s3.getD y8.1.toNat aw).Row).Row) (((s3.getD y8.1.toNat aw).Row).Dims)) ((s3.getD y8.1.toNat aw).Elem)))
            )
           )
          ):Option (List Bind)).bind fun v1 =>
          some (.go v1)
         ) (fun i3 s3=>s3) (y7.1.length-0) 0 s1).bind <| dI fun u2 =>
         some (.go u2)
        ) else (
         some (.ret ([],y7.2.2.2))
        )
       ) (fun i1 s1=>s1) ((([[]]:List au)++y4).length-0) 0 u0).bind <| aft fun u3 =>
       (eH (σ:=Unit) (ε:=Unit) (ρ:=((List Bind)×Int)) (fun i4 s4 =>
        (bR (Linear.mk (((u3.getD i4 aw).Dim).Const) (((u3.getD i4 aw).Dim).Terms))).bind fun y9 =>
        bif y9 then (
         some (.go ())
        ) else (
         some (.ret ([],3))
        )
       ) (fun i4 s4=>()) (u3.length-0) 0 ()).bind <| aft fun u4 =>
       bif (((u3.length:Nat):Int)==0) then (
        some ([],0)
       ) else (
        some (u3,0)
       )
      )
     ) else (
      some ([],14)
     )
    )
   )
  ) else (
   some ([],1)
  )
 ) else (
  some ([],1)
 )
def ik (x0 x1:List Linear) (y2:Int) (y3:List au) (i0:Nat) (s0:List Bind):AS:=⟨196,[(0,dS ak x0),(1,dS ak x1),(4,.eslice),(5,iI 0),(6,iI (aL (y2+1))),(7,dS bt y3),(8,.rslice 63),(64,dS bt y3),(65,nI y3.length),(66,nI i0)],[(63,.row 41 7 (s0.map cF))]⟩
def lX (x0 x1:List Linear) (y2:Int) (y3:List au) (u5:List Bind):AS:=⟨196,[(0,dS ak x0),(1,dS ak x1),(4,.eslice),(5,iI 0),(6,iI (aL (y2+1))),(7,dS bt y3),(8,.rslice 63)],[(63,.row 41 7 (u5.map cF))]⟩
def im (x0 x1:List Linear) (y2:Int) (y3 y4:List au) (i1:Nat) (s1:List Bind):AS:=⟨196,[(0,dS ak x0),(1,dS ak x1),(4,.eslice),(5,iI 0),(6,iI (aL (y2+1))),(7,dS bt y3),(8,.rslice 63),(81,.rslice 80),(82,iI (((([[]]:List au)++y4).length:Nat):Int)),(83,nI i1)],[(63,.row 41 7 (s1.map cF)),(80,.row 9 1 ((([[]]:List au)++y4).map bt))]⟩
def lL (u6:List Bind):AS:=⟨196,[(4,.eslice),(5,iI 0),(8,.rslice 63)],[(63,.row 41 7 (u6.map cF))]⟩
def iA (x0 x1:List Linear) (y2:Int) (y3 y4:List au) (i1:Nat) (s1:List Bind) (i2:Nat) (s2:List Linear):AS:=⟨196,[(0,dS ak x0),(1,dS ak x1),(4,.eslice),(5,iI 0),(6,iI (aL (y2+1))),(7,dS bt y3),(8,.rslice 63),(12,nI i1),(13,.str ((([[]]:List au)++y4).getD i1 [])),(14,.rslice 122),(81,.rslice 80),(82,iI (((([[]]:List au)++y4).length:Nat):Int)),(83,nI i1),(88,dS ak x0),(89,nI x0.length),(90,nI i2)],[(63,.row 41 7 (s1.map cF)),(80,.row 9 1 ((([[]]:List au)++y4).map bt)),(122,.row 34 2 (s2.map ak))]⟩
def lz (x0 x1:List Linear) (y2:Int) (y3 y4:List au) (i1:Nat) (s1:List Bind) (u7:List Linear):AS:=⟨196,[(0,dS ak x0),(1,dS ak x1),(4,.eslice),(5,iI 0),(6,iI (aL (y2+1))),(7,dS bt y3),(8,.rslice 63),(12,nI i1),(13,.str ((([[]]:List au)++y4).getD i1 [])),(14,.rslice 122),(81,.rslice 80),(82,iI (((([[]]:List au)++y4).length:Nat):Int)),(83,nI i1)],[(63,.row 41 7 (s1.map cF)),(80,.row 9 1 ((([[]]:List au)++y4).map bt)),(122,.row 34 2 (u7.map ak))]⟩
def iv (x0 x1:List Linear) (y2:Int) (y3 y4:List au) (i1:Nat) (s1:List Bind) (i2:Nat) (s2:List Linear) (v0:Int):AS:=⟨196,[(0,dS ak x0),(1,dS ak x1),(4,.eslice),(5,iI 0),(6,iI (aL (y2+1))),(7,dS bt y3),(8,.rslice 63),(12,nI i1),(13,.str ((([[]]:List au)++y4).getD i1 [])),(14,.rslice 122),(17,.hptr 17 0),(81,.rslice 80),(82,iI (((([[]]:List au)++y4).length:Nat):Int)),(83,nI i1),(88,dS ak x0),(89,nI x0.length),(90,nI i2)],[(17,.cells 34 [iI v0,.dslice (((x0.getD i2 az).Terms).map ao)]),(63,.row 41 7 (s1.map cF)),(80,.row 9 1 ((([[]]:List au)++y4).map bt)),(122,.row 34 2 (s2.map ak))]⟩
def il (x0 x1:List Linear) (y2:Int) (y3 y4:List au) (i1:Nat) (y7:(List Bind)×Int×ah×Int) (i3:Nat) (s3:List Bind):AS:=⟨196,[(0,dS ak x0),(1,dS ak x1),(4,.eslice),(5,iI 0),(6,iI (aL (y2+1))),(7,dS bt y3),(8,.rslice 63),(12,nI i1),(13,.str ((([[]]:List au)++y4).getD i1 [])),(81,.rslice 80),(82,iI (((([[]]:List au)++y4).length:Nat):Int)),(83,nI i1),(135,dS aA y7.1),(136,nI y7.1.length),(137,nI i3)],[(63,.row 41 7 (s3.map cF)),(80,.row 9 1 ((([[]]:List au)++y4).map bt))]⟩
def mq (x0 x1:List Linear) (y2:Int) (y3 y4:List au) (i1:Nat) (u8:List Bind):AS:=⟨196,[(0,dS ak x0),(1,dS ak x1),(4,.eslice),(5,iI 0),(6,iI (aL (y2+1))),(7,dS bt y3),(8,.rslice 63),(81,.rslice 80),(82,iI (((([[]]:List au)++y4).length:Nat):Int)),(83,nI i1)],[(63,.row 41 7 (u8.map cF)),(80,.row 9 1 ((([[]]:List au)++y4).map bt))]⟩
def fj (x0 x1:List Linear) (y2:Int) (y3 y4:List au) (i1:Nat) (y7:(List Bind)×Int×ah×Int) (i3:Nat) (v1:List Bind):AS:=⟨196,[(0,dS ak x0),(1,dS ak x1),(4,.eslice),(5,iI 0),(6,iI (aL (y2+1))),(7,dS bt y3),(8,.rslice 63),(12,nI i1),(13,.str ((([[]]:List au)++y4).getD i1 [])),(81,.rslice 80),(82,iI (((([[]]:List au)++y4).length:Nat):Int)),(83,nI i1),(135,dS aA y7.1),(136,nI y7.1.length),(137,nI i3)],[(63,.row 41 7 (v1.map cF)),(80,.row 9 1 ((([[]]:List au)++y4).map bt))]⟩
def gM (u3:List Bind) (i4:Nat) (s4:Unit):AS:=⟨196,[(4,.eslice),(5,iI 0),(8,.rslice 63),(181,.rslice 63),(182,nI u3.length),(183,nI i4)],[(63,.row 41 7 (u3.map aA))]⟩
def kB (u3:List Bind) (u9:Unit):AS:=⟨196,[(4,.eslice),(5,iI 0),(8,.rslice 63)],[(63,.row 41 7 (u3.map aA))]⟩
theorem su (x0 x1:List Linear) (r:(List Bind)×Int) (H:fM x0 x1=some r):bQ Tryz.prog 23 [dS ak x0,dS ak x1] (.tup [dS aA r.1,iI r.2]):=by
 unfold fM at H;refine aX Tryz.func23 196 [.tmp 4,.tmp 5] ?_;refine aQ H fun y0 h0 H0 => ?_;refine aZ H0 (fun c0 H1 => ?_) (fun c1 H2 => ?_)
 ·refine aQ H1 fun y1 h1 H3 => ?_;refine aZ H3 (fun c2 H4 => ?_) (fun c3 H5 => ?_)
  ·refine aZ H4 (fun c4 H6 => ?_) (fun c5 H7 => ?_)
   ·obtain rfl:=sI H6;exact pR 10 [V2,r0 [.v,.c true bT,.v,.v,.v,.c true bT,.v,.v,.v,.v,.e (nI x0.length),.e bT,.v,.v,.s,.s,.s,.v,.v],V2] [.wk 4 []] [] (aC Tryz.call27 (aC (bQ.eq (aW _ _ h0) (cB c0)) (aT (aC Tryz.call27 (aC (bQ.eq (aW _ _ h1) (cB c2)) (aT (aT (aC (aP ak x0) (aB c4 aN)))))))))
   ·have c5p:=LD c5;refine pD 6 [V2,r0 [.v,.c true bT,.v,.v,.v,.c true bT,.v,.v,.v,.v,.e (nI x0.length),.e bF,.v,.v,.v,.e (nI x1.length),.v,.v,.v]] [.only [0,1,4,5,29] []] 6 [] (aC Tryz.call27 (aC (bQ.eq (aW _ _ h0) (cB c0)) (aT (aC Tryz.call27 (aC (bQ.eq (aW _ _ h1) (cB c2)) (aT (aT (aC (aP ak x0) (aB c5 (aT (aC (aP ak x1) aN))))))))))) ?_;refine aZ H7 (fun c6 H8 => ?_) (fun c7 H9 => ?_)
    ·obtain rfl:=sI H8;exact pR 5 [.eqT 29 bT,V2] [.wk 4 []] [] (aB c6 aN)
    ·have c7p:=LD c7;refine aZ H9 (fun c8 H10 => ?_) (fun c9 H11 => ?_)
     ·refine aQ H10 fun y2 h2 H12 => ?_;refine pD 12 [.eqT 29 bF,r0 [.v,.e (nI x0.length),.v,.e (nI x1.length),.v,.v],.eqT 48 bF,r0 [.v,.c true (iI y2),.w,.v],V2] [.only [0,1,4,5,6,58] []] 10 [false,false] (aB c7 (aT (aC (aP ak x0) (aT (aC (aP ak x1) (aM c8 (aC Tryz.call28 (aF (jX _ _ h2) aN)))))))) ?_;refine aZ H12 (fun c10 H13 => ?_) (fun c11 H14 => ?_)
      ·obtain rfl:=sI H13;exact pR 5 [.eqT 58 bT,V2] [.wk 4 []] [] (aB c10 aN)
      ·have c11p:=LD c11;refine aQ H14 fun y3 h3 H15 => ?_;refine aK H15 fun g0 H16 => ?_;refine pA 11 [.eqT 58 bF,r0 [.v,.c true (dS bt y3),.v],r0 [.v,.e (nI y3.length),.mk y3.length,.rwH 63 (.row 41 7 ((List.replicate y3.length aw).map cF)),.v],r0 [.v,.e (nI y3.length),.v]] [.only [0,1,4,5,6,7,8,64,65,66] [63]] 10 [false] (ik x0 x1 y2 y3 0 (List.replicate y3.length aw)) (aB c11 (aC Tryz.call31 (aF (dq _ _ h3) (aT (aC (aP bt y3) (aC (show ((y3.length:Nat):Int)=((y3.length:Nat):Int)∧((y3.length:Nat):Int)=((y3.length:Nat):Int)∧112*y3.length≤140737488355328∧y3.length≤9223372036854775807 from ⟨rfl,rfl,by omega,by omega⟩) (aC (vg (z:=E3 Tryz.prog 41) cF aw y3.length 41 7 (by kernel_rfl)) (aT (aC (aP bt y3) aN))))))))) ?_;refine aQ H16 fun R0 h4 H17 => ?_;refine pJ 1 (lX x0 x1 y2 y3) R0 ?_ (fun u0 e0 => ?_)
       ·refine pC (ik x0 x1 y2 y3) h4 (fun i0 s0 h5 e1 => ?_) (fun i0 s0 h6 q0 h7 h8 => ?_)
        ·have c12:=lF i0 y3.length (by omega);subst e1;exact pB 5 [r0 [.e bF]] [.only [0,1,4,5,6,7,8] [63]] (lX x0 x1 y2 y3 s0) (aB c12 aN)
        ·have c13:=lT i0 y3.length (by omega);refine aK h7 fun g1 H18 => ?_;refine bV 7 (ps:=[(y3.map bt).length≤9223372036854775807]) (by kernel_rfl) (fun l0 => ?_);have l1:y3.length≤9223372036854775807:=by simpa only [cI,LI] using l0
         clear l0;obtain rfl:=sI H18;exact pB 11 [r0 [.e bT],r0 [.v,.e (.dptr [.str (y3.getD i0 [])]),.v,.v,.v],r0 [.v,.v,.v,.b,.v,.rs i0 0,.rwH 63 (.row 41 7 ((s0.set i0 (Bind.mk 1 (y3.getD i0 []) (Linear.mk 0 []) (Shape.mk [] []) [])).map cF))],V2] [.only [0,1,4,5,6,7,8,64,65,66] [63]] (ik x0 x1 y2 y3 (i0+1) (s0.set i0 (Bind.mk 1 (y3.getD i0 []) (Linear.mk 0 []) (Shape.mk [] []) []))) (aB c13 (aI pZ y3 i0 [] (aC (show (0:Int)≤((i0:Nat):Int)∧((i0:Nat):Int)<((s0.map cF).length:Int) from by rw [LI];omega) (aC (iS (f:=cF) (l:=s0) (n:=i0) 7 0 7 (by omega) (by decide)) (aC (uE (f:=cF) 41 7 s0 i0 aw (Bind.mk 1 (y3.getD i0 []) (Linear.mk 0 []) (Shape.mk [] []) []) 0 [iI 1,.str (y3.getD i0 []),iI 0,.eslice,.str [],.eslice,.str []] (by omega) rfl) (aH i0 aN))))))
       ·subst e0;have H19:=bG H17;refine aQ H19 fun y4 h9 H20 => ?_;refine aK H20 fun g2 H21 => ?_;refine pA 6 [r0 [.ap,.rwH 77 (.row 9 1 (([[]]:List au).map bt)),.v,.c true (dS bt y4),.ap,.rwH 80 (.row 9 1 ((([[]]:List au)++y4).map bt)),.v],r0 [.v,.e (iI (((([[]]:List au)++y4).length:Nat):Int)),.v]] [.only [0,1,4,5,6,7,8,81,82,83] [63,80]] 6 [] (im x0 x1 y2 y3 y4 0 u0) (aC (Eq.refl (AO.row 9 1 (([[]]:List au).map bt))) (aC Tryz.call31 (aF (dq _ _ h9) (b9 (yf (c:=bt) rQ ([[]]:List au) y4 16 (by decide) (by first | (simp;done) | simpa using g2)) (aC (Bn 9 1 bt ([[]]:List au) y4) (aT (aC (aP bt (([[]]:List au)++y4)) aN))))))) ?_;refine aQ H21 fun R1 h10 H22 => ?_;refine pJ 1 (lL) R1 ?_ (fun u3 e2 => ?_)
        ·refine pC (im x0 x1 y2 y3 y4) h10 (fun i1 s1 h11 e3 => ?_) (fun i1 s1 h12 q1 h13 h14 => ?_)
         ·have c14:=lF i1 ((([[]]:List au)++y4).length) (by omega);subst e3;exact pB 5 [r0 [.e bF]] [.only [4,5,8] [63]] (lL s1) (aB c14 aN)
         ·have c15:=lT i1 ((([[]]:List au)++y4).length) (by omega);refine pA 15 [r0 [.e bT],r0 [.v,.v,.rl i1 0 (.str ((([[]]:List au)++y4).getD i1 [])),.v,.v],V1,r0 [.v,.e (nI x0.length),.v]] [.er 14 122 34 2,.only [0,1,4,5,6,7,8,12,13,14,81,82,83,88,89,90] [63,80,122]] 15 [true] (iA x0 x1 y2 y3 y4 i1 s1 0 []) (aB c15 (aC (show (0:Int)≤((i1:Nat):Int)∧((i1:Nat):Int)<(((([[]]:List au)++y4).map bt).length:Int) from by rw [LI];omega) (aC (iS (f:=bt) (l:=(([[]]:List au)++y4)) (n:=i1) 1 0 1 (by omega) (by decide)) (aC (tJ (f:=bt) (l:=(([[]]:List au)++y4)) (n:=i1) [] 0 (by omega)) (aT (aC (aP ak x0) aN)))))) ?_;refine aQ h13 fun R2 h15 H23 => ?_;refine pJ 1 (lz x0 x1 y2 y3 y4 i1 s1) R2 ?_ (fun u1 e4 => ?_)
          ·refine pC (iA x0 x1 y2 y3 y4 i1 s1) h15 (fun i2 s2 h16 e5 => ?_) (fun i2 s2 h17 q2 h18 h19 => ?_)
           ·have c16:=lF i2 x0.length (by omega);subst e5;exact pB 5 [r0 [.e bF]] [.only [0,1,4,5,6,7,8,12,13,14,81,82,83] [63,80,122]] (lz x0 x1 y2 y3 y4 i1 s1 s2) (aB c16 aN)
           ·have c17:=lT i2 x0.length (by omega);refine aK h18 fun g3 H24 => ?_;refine pD 14 [r0 [.e bT],r0 [.v,.e (.dptr (ak (x0.getD i2 az))),.v,.m,.v,.m],.rg 12 (V 6 [.e (.dptr (ak (x1.getD i2 az))),.v,.v,.w,.b,.m]) [.m],V2] [.only [0,1,4,5,6,7,8,12,13,14,15,17,81,82,83,88,89,90,107] [17,63,80,122]] 14 [true] (aB c17 (aI bh x0 i2 az (aI bh x1 i2 az aN))) ?_;refine aQ H24 fun v0 h20 H25 => ?_;refine eR 0 (iv x0 x1 y2 y3 y4 i1 s1 i2 s2 v0) (by kernel_rfl) ?_ ?_
            ·refine aZ h20 (fun c18 H26 => ?_) (fun c19 H27 => ?_)
             ·have c18p:=LF c18;refine aQ H26 fun y5 h21 H28 => ?_;obtain rfl:=sI H28;exact pB 3 [.eqT 107 bT,r0 [.v,.v,.e (.dptr (ak (x1.getD i2 az))),.v,.v,.c true (iI y5),.w,.v,.m]] [.only [0,1,4,5,6,7,8,12,13,14,17,81,82,83,88,89,90] [17,63,80,122]] (iv x0 x1 y2 y3 y4 i1 s1 i2 s2 (aL (0-y5))) (aB c18 (aI bh x1 i2 az (aC Tryz.call46 (aF (ib _ _ _ h21) aN))))
             ·obtain rfl:=sI H27;exact pB 3 [.eqT 107 bF] [.only [0,1,4,5,6,7,8,12,13,14,17,81,82,83,88,89,90] [17,63,80,122]] (iv x0 x1 y2 y3 y4 i1 s1 i2 s2 (aL (((x0.getD i2 az).Const)-((x1.getD i2 az).Const)))) (aB c19 aN)
            ·refine aQ H25 fun y6 h22 H29 => ?_;refine aZ H29 (fun c20 H30 => ?_) (fun c21 H31 => ?_)
             ·refine aK H30 fun g4 H32 => ?_;refine bV 0 (ps:=[(x0.map ak).length≤9223372036854775807]) (by kernel_rfl) (fun l2 => ?_);have l3:x0.length≤9223372036854775807:=by simpa only [cI,LI] using l2
              clear l2;obtain rfl:=sI H32;exact pB 8 [r0 [.v,.c true (.bool y6),.v],.eqT 118 bF,r0 [.v,.v,.b,.ap,.rwH 122 (.row 34 2 ((s2++[(Linear.mk v0 ((x0.getD i2 az).Terms))]).map ak)),.v],V2] [.only [0,1,4,5,6,7,8,12,13,14,81,82,83,88,89,90] [63,80,122]] (iA x0 x1 y2 y3 y4 i1 s1 (i2+1) (s2++[(Linear.mk v0 ((x0.getD i2 az).Terms))])) (aC Tryz.call50 (aF (bK _ _ h22) (aT (aM c20 (b9 (yf (c:=ak) Bx s2 [(Linear.mk v0 ((x0.getD i2 az).Terms))] 32 (by decide) (by first | (simp;done) | simpa using g4)) (aC (Bn 34 2 ak s2 [(Linear.mk v0 ((x0.getD i2 az).Terms))]) (aH i2 aN)))))))
             ·obtain rfl:=sI H31;obtain rfl:=aS h19;obtain rfl:=sI (aJ H23);obtain rfl:=aS h14;obtain rfl:=sI (aJ H22);exact pR 8 [r0 [.v,.c true (.bool y6),.v],.eqT 118 bT,V2] [.wk 4 []] [] (aC Tryz.call50 (aF (bK _ _ h22) (aT (aM c21 aN))))
          ·subst e4;have H33:=bq H23;refine aQ H33 fun y7 h23 H34 => ?_;refine aZ H34 (fun c22 H35 => ?_) (fun c23 H36 => ?_)
           ·refine pA 11 [.rg 0 [] [.v,.v,.fz 122,.c true (.tup [.dslice (y7.1.map aA),.int .i64 y7.2.1,.agg [.dslice (y7.2.2.1.Mults.map aj),.int .i64 y7.2.2.1.Mod],.int .i64 y7.2.2.2]),.v,.v,.v,.v,.v,.m,.v,.v,.m,.v],.rg 0 [] [.v,.v],.eqT 133 bF,.rg 0 [] [.v,.e (.int .i64 ((y7.1.length:Nat):Int)),.v]] [.only [0,1,4,5,6,7,8,12,13,81,82,83,135,136,137] [63,80]] 10 [false] (il x0 x1 y2 y3 y4 i1 y7 0 s1) (aC Tryz.call9 (aF (db _ _ _ h23) (aM c22 (aT (aC (aP aA y7.1) aN))))) ?_;refine aQ H35 fun R3 h24 H37 => ?_;refine pJ 2 (mq x0 x1 y2 y3 y4 i1) R3 ?_ (fun u2 e6 => ?_)
            ·refine pC (il x0 x1 y2 y3 y4 i1 y7) h24 (fun i3 s3 h25 e7 => ?_) (fun i3 s3 h26 q3 h27 h28 => ?_)
             ·have c24:=lF i3 y7.1.length (by omega);subst e7;exact pB 5 [r0 [.e bF]] [.only [0,1,4,5,6,7,8,81,82,83] [63,80]] (mq x0 x1 y2 y3 y4 i1 s3) (aB c24 aN)
             ·have c25:=lT i3 y7.1.length (by omega);refine aQ h27 fun y8 h29 H38 => ?_;refine pD 16 [r0 [.e bT],r0 [.e (.dptr (aA (y7.1.getD i3 aw))),.v,.m,.m],r0 [.v,.v,.v,.c true (.tup [iI y8.1,.bool y8.2]),.v,.v,.v,.v,.v],V4,V3] [.only [0,1,4,5,6,7,8,12,13,24,26,81,82,83,135,136,137,151] [63,80]] 16 [true] (aB c25 (aI bg y7.1 i3 aw (aC Tryz.call32 (aF (qQ y3 ((y7.1.getD i3 aw).Var) y8 h29) aN)))) ?_;refine aQ H38 fun v1 h30 H39 => ?_;refine eR 2 (fj x0 x1 y2 y3 y4 i1 y7 i3 v1) (by kernel_rfl) ?_ ?_
              ·refine aZ h30 (fun c26 H40 => ?_) (fun c27 H41 => ?_)
               ·refine aK H40 fun g5 H42 => ?_;refine aK H42 fun g6 H43 => ?_;obtain rfl:=sI H43;exact pB 3 [.eqT 151 bT,r0 (V 6 [.rs y8.1.toNat 2,.rwH 63 (.row 41 7 ((s3.set y8.1.toNat (Bind.mk ((s3.getD y8.1.toNat aw).Kind) ((s3.getD y8.1.toNat aw).Var) (Linear.mk (((y7.1.getD i3 aw).Dim).Const) (((s3.getD y8.1.toNat aw).Dim).Terms)) (Shape.mk (((s3.getD y8.1.toNat aw).Row).Row) (((s3.getD y8.1.toNat aw).Row).Dims)) ((s3.getD y8.1.toNat aw).Elem))).map cF))])] [.only [0,1,4,5,6,7,8,12,13,81,82,83,135,136,137] [63,80]] (fj x0 x1 y2 y3 y4 i1 y7 i3 (s3.set y8.1.toNat (Bind.mk ((s3.getD y8.1.toNat aw).Kind) ((s3.getD y8.1.toNat aw).Var) (Linear.mk (((y7.1.getD i3 aw).Dim).Const) (((s3.getD y8.1.toNat aw).Dim).Terms)) (Shape.mk (((s3.getD y8.1.toNat aw).Row).Row) (((s3.getD y8.1.toNat aw).Row).Dims)) ((s3.getD y8.1.toNat aw).Elem)))) (aB c26 (aC (show (0:Int)≤y8.1∧y8.1<((s3.map cF).length:Int) from by rw [LI];exact g5) (aC (iS (f:=cF) (l:=s3) (n:=y8.1.toNat) 7 2 1 (by omega) (by decide)) (aC (uE (f:=cF) 41 7 s3 y8.1.toNat aw (Bind.mk ((s3.getD y8.1.toNat aw).Kind) ((s3.getD y8.1.toNat aw).Var) (Linear.mk (((y7.1.getD i3 aw).Dim).Const) (((s3.getD y8.1.toNat aw).Dim).Terms)) (Shape.mk (((s3.getD y8.1.toNat aw).Row).Row) (((s3.getD y8.1.toNat aw).Row).Dims)) ((s3.getD y8.1.toNat aw).Elem)) 2 [iI (((y7.1.getD i3 aw).Dim).Const)] (by omega) rfl) aN))))
               ·refine aZ H41 (fun c28 H44 => ?_) (fun c29 H45 => ?_)
                ·refine cR H44 fun e8 => ?_;subst e8;exact pB 7 [.eqT 151 bF,V3,.eqT 160 bF] [.only [0,1,4,5,6,7,8,12,13,81,82,83,135,136,137] [63,80]] (fj x0 x1 y2 y3 y4 i1 y7 i3 s3) (aB c27 (aM c28 aN))
                ·refine aK H45 fun g7 H46 => ?_;refine aK H46 fun g8 H47 => ?_;refine aK H47 fun g9 H48 => ?_;obtain rfl:=sI H48;exact pB 7 [.eqT 151 bF,V3,.eqT 160 bT,r0 (V 7 [.rl y8.1.toNat 3 (JV ao (((s3.getD y8.1.toNat aw).Dim).Terms)),.v,.v,.b,.b,.rwT 170 .eslice,.er 170 175 88 2,.ap,.rwH 175 (.row 88 2 ([(aq.mk ((([[]]:List au)++y4).getD i1 []) (((y7.1.getD i3 aw).Dim).Const))].map ao)),.v,.v,.v,.fz 175,.rs y8.1.toNat 3,.rwH 63 (.row 41 7 ((s3.set y8.1.toNat (Bind.mk ((s3.getD y8.1.toNat aw).Kind) ((s3.getD y8.1.toNat aw).Var) (Linear.mk (((s3.getD y8.1.toNat aw).Dim).Const) [(aq.mk ((([[]]:List au)++y4).getD i1 []) (((y7.1.getD i3 aw).Dim).Const))]) (Shape.mk (((s3.getD y8.1.toNat aw).Row).Row) (((s3.getD y8.1.toNat aw).Row).Dims)) ((s3.getD y8.1.toNat aw).Elem))).map cF))])] [.only [0,1,4,5,6,7,8,12,13,81,82,83,135,136,137] [63,80]] (fj x0 x1 y2 y3 y4 i1 y7 i3 (s3.set y8.1.toNat (Bind.mk ((s3.getD y8.1.toNat aw).Kind) ((s3.getD y8.1.toNat aw).Var) (Linear.mk (((s3.getD y8.1.toNat aw).Dim).Const) [(aq.mk ((([[]]:List au)++y4).getD i1 []) (((y7.1.getD i3 aw).Dim).Const))]) (Shape.mk (((s3.getD y8.1.toNat aw).Row).Row) (((s3.getD y8.1.toNat aw).Row).Dims)) ((s3.getD y8.1.toNat aw).Elem)))) (aB c27 (aM c29 (aC (show (0:Int)≤y8.1∧y8.1<((s3.map cF).length:Int) from by rw [LI];exact g7) (aC (iS (f:=cF) (l:=s3) (n:=y8.1.toNat) 7 3 1 (by omega) (by decide)) (aC (tJ (f:=cF) (l:=s3) (n:=y8.1.toNat) aw 3 (by omega)) (aC (congrArg (JV ao) g9) (b9 (yf (c:=ao) gQ [] [(aq.mk ((([[]]:List au)++y4).getD i1 []) (((y7.1.getD i3 aw).Dim).Const))] 24 (by decide) (by simp)) (aC (KT 88 2 ao [(aq.mk ((([[]]:List au)++y4).getD i1 []) (((y7.1.getD i3 aw).Dim).Const))]) (aC (show (0:Int)≤y8.1∧y8.1<((s3.map cF).length:Int) from by rw [LI];exact g7) (aC (iS (f:=cF) (l:=s3) (n:=y8.1.toNat) 7 3 1 (by omega) (by decide)) (aC (uE (f:=cF) 41 7 s3 y8.1.toNat aw (Bind.mk ((s3.getD y8.1.toNat aw).Kind) ((s3.getD y8.1.toNat aw).Var) (Linear.mk (((s3.getD y8.1.toNat aw).Dim).Const) [(aq.mk ((([[]]:List au)++y4).getD i1 []) (((y7.1.getD i3 aw).Dim).Const))]) (Shape.mk (((s3.getD y8.1.toNat aw).Row).Row) (((s3.getD y8.1.toNat aw).Row).Dims)) ((s3.getD y8.1.toNat aw).Elem)) 3 [.dslice ([(aq.mk ((([[]]:List au)++y4).getD i1 []) (((y7.1.getD i3 aw).Dim).Const))].map ao)] (by omega) rfl) aN)))))))))))
              ·refine bV 135 (ps:=[(y7.1.map aA).length≤9223372036854775807]) (by kernel_rfl) (fun l4 => ?_);have l5:y7.1.length≤9223372036854775807:=by simpa only [cI,LI] using l4
               clear l4;obtain rfl:=sI H39;exact pB 1 [V2] [.only [0,1,4,5,6,7,8,12,13,81,82,83,135,136,137] [63,80]] (il x0 x1 y2 y3 y4 i1 y7 (i3+1) v1) (aH i3 aN)
            ·subst e6;have H49:=bG H37;refine uB 80 (n:=((([[]]:List au)++y4).map bt).length) (by kernel_rfl) (fun l6 => ?_);have l7:(([[]]:List au)++y4).length≤9223372036854775807:=by simpa only [LI] using l6
             clear l6;obtain rfl:=sI H49;exact pB 1 [V2] [.only [0,1,4,5,6,7,8,81,82,83] [63,80]] (im x0 x1 y2 y3 y4 (i1+1) u2) (aH i1 aN)
           ·obtain rfl:=sI H36;obtain rfl:=aS h14;obtain rfl:=sI (aJ H22);exact pR 10 [r0 [.v,.v,.fz 122,.c true (.tup [dS aA y7.1,iI y7.2.1,.agg [dS aj y7.2.2.1.Mults,iI y7.2.2.1.Mod],iI y7.2.2.2]),.v,.v,.v,.v,.v,.m,.v,.v,.m,.v],V2,.eqT 133 bT,V3] [.wk 4 []] [] (aC Tryz.call9 (aF (db _ _ _ h23) (aM c23 aN)))
        ·subst e2;have H50:=bq H22;refine pA 4 [r0 [.ezr 63,.rwH 63 (.row 41 7 (u3.map aA)),.v,.e (nI u3.length),.v]] [.only [4,5,8,181,182,183] [63]] 4 [] (gM u3 0 ()) (aC (J9 41 7 ED u3) (aT (aC (aP aA u3) aN))) ?_;refine aQ H50 fun R4 h31 H51 => ?_;refine pJ 1 (kB u3) R4 ?_ (fun u4 e9 => ?_)
         ·refine pC (gM u3) h31 (fun i4 s4 h32 e10 => ?_) (fun i4 s4 h33 q4 h34 h35 => ?_)
          ·have c30:=lF i4 u3.length (by omega);subst e10;exact pB 5 [r0 [.e bF]] [.only [4,5,8] [63]] (kB u3 ()) (aB c30 aN)
          ·have c31:=lT i4 u3.length (by omega);refine aQ h34 fun y9 h36 H52 => ?_;refine pD 11 [r0 [.e bT],r0 [.v,.rl i4 0 (.agg (aA (u3.getD i4 aw))),.m,.m],r0 [.v,.v,.c true (.bool y9),.v]] [.only [4,5,8,181,182,183,190] [63]] 11 [true] (aB c31 (aC (show (0:Int)≤((i4:Nat):Int)∧((i4:Nat):Int)<((u3.map aA).length:Int) from by rw [LI];omega) (aC (iS (f:=aA) (l:=u3) (n:=i4) 7 0 7 (by omega) (by decide)) (aC (E2 (f:=aA) (l:=u3) (n:=i4) aw 0 7 (by omega)) (aC Tryz.call50 (aF (bK _ _ h36) (aT aN))))))) ?_;refine aZ H52 (fun c32 H53 => ?_) (fun c33 H54 => ?_)
           ·refine uB 63 (n:=(u3.map aA).length) (by kernel_rfl) (fun l8 => ?_);have l9:u3.length≤9223372036854775807:=by simpa only [LI] using l8
            clear l8;obtain rfl:=sI H53;exact pB 4 [.eqT 190 bF,V2] [.only [4,5,8,181,182,183] [63]] (gM u3 (i4+1) ()) (aM c32 (aH i4 aN))
           ·obtain rfl:=sI H54;obtain rfl:=aS h35;obtain rfl:=sI (aJ H51);exact pR 5 [.eqT 190 bT,V2] [.wk 4 []] [] (aM c33 aN)
         ·subst e9;have H55:=bq H51;refine aZ H55 (fun c34 H56 => ?_) (fun c35 H57 => ?_)
          ·obtain rfl:=sI H56;exact pR 8 [r0 [.v,.e (nI u3.length),.v],.eqT 194 bT,V2] [.wk 4 []] [] (aT (aC (aP aA u3) (aB c34 aN)))
          ·obtain rfl:=sI H57;exact pR 9 [r0 [.v,.e (nI u3.length),.v],.eqT 194 bF,V3] [.fz 63] [] (aT (aC (aP aA u3) (aB c35 aN)))
     ·obtain rfl:=sI H11;exact pR 9 [.eqT 29 bF,r0 [.v,.e (nI x0.length),.v,.e (nI x1.length),.v,.v],.eqT 48 bT,V2] [.wk 4 []] [] (aB c7 (aT (aC (aP ak x0) (aT (aC (aP ak x1) (aM c9 aN))))))
  ·obtain rfl:=sI H5;exact pR 10 [V2,r0 [.v,.c true bT,.v,.v,.v,.c true bF,.v,.v,.v,.s,.s,.s,.v,.v,.s,.s,.s,.v,.v],V2] [.wk 4 []] [] (aC Tryz.call27 (aC (bQ.eq (aW _ _ h0) (cB c0)) (aT (aC Tryz.call27 (aC (bQ.eq (aW _ _ h1) (cB c3)) (aT aN))))))
 ·obtain rfl:=sI H2;exact pR 10 [V2,r0 [.v,.c true bF,.v,.v,.s,.s,.s,.v,.v,.s,.s,.s,.v,.v,.s,.s,.s,.v,.v],V2] [.wk 4 []] [] (aC Tryz.call27 (aC (bQ.eq (aW _ _ h0) (cB c1)) (aT aN)))
def iO (x0:Int):Option Bool :=
 bif decide (x0≥(-1000000)) then (
  some (decide (x0≤1000000))
 ) else (
  some false
 )
theorem fP (x0:Int) (r:Bool) (H:iO x0=some r):bQ Tryz.prog 69 [iI x0] (.bool r):=by
 unfold iO at H;refine aX Tryz.func69 9 [.tmp 2] ?_;refine aZ H (fun c0 H0 => ?_) (fun c1 H1 => ?_)
 ·obtain rfl:=sI H0;exact pR 5 [V1,r0 [.v,.e bT,.v,.v,.v,.v,.v]] [] [] (aB c0 aN)
 ·obtain rfl:=sI H1;exact pR 5 [V1,r0 [.v,.e bF,.v,.s,.s,.v,.v]] [] [] (aB c1 aN)
def iH (x0:UInt8):Option Bool :=
 bif decide (((x0).toNat:Int)≥48) then (
  some (decide (((x0).toNat:Int)≤57))
 ) else (
  some false
 )
theorem nh (x0:UInt8) (r:Bool) (H:iH x0=some r):bQ Tryz.prog 114 [.int .u8 ((x0).toNat:Int)] (.bool r):=by
 unfold iH at H;refine aX Tryz.func114 9 [.tmp 2] ?_;refine aZ H (fun c0 H0 => ?_) (fun c1 H1 => ?_)
 ·obtain rfl:=sI H0;exact pR 5 [V1,r0 [.v,.e bT,.v,.v,.v,.v,.v]] [] [] (aB c0 aN)
 ·obtain rfl:=sI H1;exact pR 5 [V1,r0 [.v,.e bF,.v,.s,.s,.v,.v]] [] [] (aB c1 aN)
def jn (x0:UInt8):Option Bool :=
 bif decide (((x0).toNat:Int)≥97) then (
  some (decide (((x0).toNat:Int)≤122))
 ) else (
  some false
 )
theorem k7 (x0:UInt8) (r:Bool) (H:jn x0=some r):bQ Tryz.prog 115 [.int .u8 ((x0).toNat:Int)] (.bool r):=by
 unfold jn at H;refine aX Tryz.func115 9 [.tmp 2] ?_;refine aZ H (fun c0 H0 => ?_) (fun c1 H1 => ?_)
 ·obtain rfl:=sI H0;exact pR 5 [V1,r0 [.v,.e bT,.v,.v,.v,.v,.v]] [] [] (aB c0 aN)
 ·obtain rfl:=sI H1;exact pR 5 [V1,r0 [.v,.e bF,.v,.s,.s,.v,.v]] [] [] (aB c1 aN)
def mj (x0:au):Option Bool :=
 bif (((x0.length:Nat):Int)==0) then (
  some false
 ) else (
  bif decide (((x0.length:Nat):Int)>30) then (
   some false
  ) else (
   bM (0<x0.length) <|
   bif (((x0.getD 0 0).toNat:Int)==95) then (
    bif decide (((x0.length:Nat):Int)<2) then (
     some false
    ) else (
     bif decide (((x0.length:Nat):Int)>10) then (
      some false
     ) else (
      bM (1<x0.length) <|
      bif (((x0.getD 1 0).toNat:Int)==48) then (
       some false
      ) else (
       (eH (σ:=Unit) (ε:=Unit) (ρ:=Bool) (fun i0 s0 =>
        (iH (x0.getD i0 0)).bind fun y0 =>
        bif y0 then (
         some (.go ())
        ) else (
         some (.ret false)
        )
       ) (fun i0 s0=>()) (x0.length-1) 1 ()).bind <| aft fun u0 =>
       some true
      )
     )
    )
   ) else (
    (eH (σ:=Unit) (ε:=Unit) (ρ:=Bool) (fun i1 s1 =>
     (jn (x0.getD i1 0)).bind fun y1 =>
     ((
      bif y1 then (
       some (.brk ())
      ) else (
       bif (((i1:Nat):Int)==0) then (
        some (.ret (.ret false))
       ) else (
        (iH (x0.getD i1 0)).bind fun y2 =>
        bif y2 then (
         some (.brk ())
        ) else (
         some (.ret (.ret false))
        )
       )
      )
     ):Option (Out Unit (gC Unit Unit Bool))).bind (aft fun u1 =>
      some (.go ())
     )
    ) (fun i1 s1=>()) (x0.length-0) 0 ()).bind <| aft fun u2 =>
    some true
   )
  )
 )
def ng (x0:au) (i0:Nat) (s0:Unit):AS:=⟨62,[(0,.str x0),(2,.bool false),(3,nI i0)],[]⟩
def qT (x0:au) (u3:Unit):AS:=⟨62,[(0,.str x0),(2,.bool false)],[]⟩
def nA (x0:au) (i1:Nat) (s1:Unit):AS:=⟨62,[(0,.str x0),(2,.bool false),(4,nI i1)],[]⟩
def qM (u4:Unit):AS:=⟨62,[(2,.bool false)],[]⟩
def np (x0:au) (i1:Nat) (u1:Unit):AS:=⟨62,[(0,.str x0),(2,.bool false),(4,nI i1)],[]⟩
theorem iY (x0:au) (r:Bool) (H:mj x0=some r):bQ Tryz.prog 70 [.str x0] (.bool r):=by
 unfold mj at H;refine aX Tryz.func70 62 [.tmp 2] ?_;refine aZ H (fun c0 H0 => ?_) (fun c1 H1 => ?_)
 ·obtain rfl:=sI H0;exact pR 9 [V1,r0 [.v,.v,.e bT,.v,.s,.s,.s,.v],V1] [] [] (aT (aB c0 aN))
 ·refine aZ H1 (fun c2 H2 => ?_) (fun c3 H3 => ?_)
  ·obtain rfl:=sI H2;exact pR 10 [V1,r0 [.v,.v,.e bF,.v,.v,.v,.v,.v],.eqT 12 bT,V1] [] [] (aT (aB c1 (aT (aB c2 aN))))
  ·have c3p:=LD c3;refine aK H3 fun g0 H4 => ?_;refine aZ H4 (fun c4 H5 => ?_) (fun c5 H6 => ?_)
   ·refine aZ H5 (fun c6 H7 => ?_) (fun c7 H8 => ?_)
    ·have c6p:=LF c6;obtain rfl:=sI H7;exact pR 20 [V1,r0 [.v,.v,.e bF,.v,.v,.v,.v,.v],.eqT 12 bF,V3,.eqT 15 bT,r0 [.v,.v,.e bT,.v,.s,.s,.s,.v,.v,.s,.s,.s,.v],V1] [] [] (aT (aB c1 (aT (aB c3 (aC (show (0:Int)≤0∧0<(x0.length:Int) from by omega) (aB c4 (aT (aB c6 aN))))))))
    ·have c7p:=LD c7;refine aZ H8 (fun c8 H9 => ?_) (fun c9 H10 => ?_)
     ·have c8p:=LF c8;obtain rfl:=sI H9;exact pR 20 [V1,r0 [.v,.v,.e bF,.v,.v,.v,.v,.v],.eqT 12 bF,V3,.eqT 15 bT,r0 [.v,.v,.e bF,.v,.v,.v,.e bT,.v,.v,.s,.s,.s,.v],V1] [] [] (aT (aB c1 (aT (aB c3 (aC (show (0:Int)≤0∧0<(x0.length:Int) from by omega) (aB c4 (aT (aB c7 (aT (aB c8 aN))))))))))
     ·have c9p:=LD c9;refine aK H10 fun g1 H11 => ?_;refine pD 16 [V1,r0 [.v,.v,.e bF,.v,.v,.v,.v,.v],.eqT 12 bF,V3,.eqT 15 bT,r0 [.v,.v,.e bF,.v,.v,.v,.e bF,.v,.v,.v,.v,.v,.v]] [.only [0,2,28] []] 14 [false,true] (aT (aB c1 (aT (aB c3 (aC (show (0:Int)≤0∧0<(x0.length:Int) from by omega) (aB c4 (aT (aB c7 (aT (aB c9 (aC (show (0:Int)≤1∧1<(x0.length:Int) from by omega) aN))))))))))) ?_;refine aZ H11 (fun c10 H12 => ?_) (fun c11 H13 => ?_)
      ·obtain rfl:=sI H12;exact pR 5 [.eqT 28 bT,V1] [] [] (aB c10 aN)
      ·refine pA 7 [.eqT 28 bF,.rg 0 [] [.v]] [.only [0,2,3] []] 6 [false] (ng x0 1 ()) (aB c11 aN) ?_;refine aQ H13 fun R0 h0 H14 => ?_;refine pJ 1 (qT x0) R0 ?_ (fun u0 e0 => ?_)
       ·refine pC (ng x0) h0 (fun i0 s0 h1 e1 => ?_) (fun i0 s0 h2 q0 h3 h4 => ?_)
        ·have c12:=lF i0 x0.length (by omega);subst e1;exact pB 5 [r0 [.v,.v,.v,.e bF]] [.only [0,2] []] (qT x0 ()) (aT (aB c12 aN))
        ·have c13:=lT i0 x0.length (by omega);refine aQ h3 fun y0 h5 H15 => ?_;refine aZ H15 (fun c14 H16 => ?_) (fun c15 H17 => ?_)
         ·refine bV 0 (ps:=[x0.length≤9223372036854775807]) (by kernel_rfl) (fun l0 => ?_);have l1:x0.length≤9223372036854775807:=by simpa only [cI,LI] using l0
          clear l0;obtain rfl:=sI H16;exact pB 13 [r0 [.v,.v,.v,.e bT],r0 [.v,.v,.v,.c true (.bool y0),.v],.eqT 39 bF,V3] [.only [0,2,3] []] (ng x0 (i0+1) ()) (aT (aB c13 (aC (show (0:Int)≤((i0:Nat):Int)∧((i0:Nat):Int)<(x0.length:Int) from by omega) (aC Tryz.call114 (aF (nh _ _ h5) (aT (aM c14 (aH i0 aN))))))))
         ·obtain rfl:=sI H17;obtain rfl:=aS h4;obtain rfl:=sI (aJ H14);exact pR 14 [r0 [.v,.v,.v,.e bT],r0 [.v,.v,.v,.c true (.bool y0),.v],.eqT 39 bT,V1] [] [] (aT (aB c13 (aC (show (0:Int)≤((i0:Nat):Int)∧((i0:Nat):Int)<(x0.length:Int) from by omega) (aC Tryz.call114 (aF (nh _ _ h5) (aT (aM c15 aN)))))))
       ·subst e0;have H18:=bq H14;obtain rfl:=sI H18;exact pR 3 [V1] [] [] aN
   ·refine pA 18 [.rg 0 [] [.v],.rg 0 [] [.v,.v,.e bF,.v,.v,.v,.v,.v],.eqT 12 bF,.rg 0 [] [.v,.v,.v],.eqT 15 bF,.rg 0 [] [.v]] [.only [0,2,4] []] 16 [false,false] (nA x0 0 ()) (aT (aB c1 (aT (aB c3 (aC (show (0:Int)≤0∧0<(x0.length:Int) from by omega) (aB c5 aN)))))) ?_;refine aQ H6 fun R1 h6 H19 => ?_;refine pJ 1 (qM) R1 ?_ (fun u2 e2 => ?_)
    ·refine pC (nA x0) h6 (fun i1 s1 h7 e3 => ?_) (fun i1 s1 h8 q1 h9 h10 => ?_)
     ·have c16:=lF i1 x0.length (by omega);subst e3;exact pB 5 [r0 [.v,.v,.v,.e bF]] [.only [2] []] (qM ()) (aT (aB c16 aN))
     ·have c17:=lT i1 x0.length (by omega);refine aQ h9 fun y1 h11 H20 => ?_;refine pD 8 [r0 [.v,.v,.v,.e bT]] [.only [0,2,4] []] 8 [true] (aT (aB c17 aN)) ?_;refine aQ H20 fun v0 h12 H21 => ?_;refine pJ 2 (np x0 i1) v0 ?_ (fun u1 e4 => ?_)
      ·refine aZ h12 (fun c18 H22 => ?_) (fun c19 H23 => ?_)
       ·obtain rfl:=sI H22;exact pB 3 [r0 [.v,.v,.v,.c true bT,.v,.v,.s,.s,.s,.s,.s,.s,.s,.s,.s,.v]] [.only [0,2,4] []] (np x0 i1 ()) (aC (show (0:Int)≤((i1:Nat):Int)∧((i1:Nat):Int)<(x0.length:Int) from by omega) (aC Tryz.call115 (aC (bQ.eq (k7 _ _ h11) (cB c18)) (aT aN))))
       ·refine aZ H23 (fun c20 H24 => ?_) (fun c21 H25 => ?_)
        ·obtain rfl:=sI H24;obtain rfl:=sI (aJ H21);obtain rfl:=aS h10;obtain rfl:=sI (aJ H19);exact pR 5 [r0 [.v,.v,.v,.c true bF,.v,.v,.v,.e bT,.v,.s,.s,.s,.s,.s,.v,.v],V1] [] [] (aC (show (0:Int)≤((i1:Nat):Int)∧((i1:Nat):Int)<(x0.length:Int) from by omega) (aC Tryz.call115 (aC (bQ.eq (k7 _ _ h11) (cB c19)) (aT (aB c20 aN)))))
        ·refine aQ H25 fun y2 h13 H26 => ?_;refine pD 1 [r0 [.v,.v,.v,.c true bF,.v,.v,.v,.e bF,.v,.v,.v,.v,.c true (.bool y2),.v,.v,.v]] [.only [0,2,4,61] []] 1 [] (aC (show (0:Int)≤((i1:Nat):Int)∧((i1:Nat):Int)<(x0.length:Int) from by omega) (aC Tryz.call115 (aC (bQ.eq (k7 _ _ h11) (cB c19)) (aT (aB c21 (aC (show (0:Int)≤((i1:Nat):Int)∧((i1:Nat):Int)<(x0.length:Int) from by omega) (aC Tryz.call114 (aF (nh _ _ h13) (aT aN))))))))) ?_;refine aZ H26 (fun c22 H27 => ?_) (fun c23 H28 => ?_)
         ·obtain rfl:=sI H27;exact pB 3 [.eqT 61 bF] [.only [0,2,4] []] (np x0 i1 ()) (aM c22 aN)
         ·obtain rfl:=sI H28;obtain rfl:=sI (aJ H21);obtain rfl:=aS h10;obtain rfl:=sI (aJ H19);exact pR 5 [.eqT 61 bT,V1] [] [] (aM c23 aN)
      ·subst e4;have H29:=bq H21;refine bV 0 (ps:=[x0.length≤9223372036854775807]) (by kernel_rfl) (fun l2 => ?_);have l3:x0.length≤9223372036854775807:=by simpa only [cI,LI] using l2
       clear l2;obtain rfl:=sI H29;exact pB 1 [V3] [.only [0,2,4] []] (nA x0 (i1+1) ()) (aH i1 aN)
    ·subst e2;have H30:=bq H19;obtain rfl:=sI H30;exact pR 3 [V1] [] [] aN
def gm (x0:Linear):Option Bool :=
 (iO x0.Const).bind fun y0 =>
 bif y0 then (
  bif decide (((x0.Terms.length:Nat):Int)>12) then (
   some false
  ) else (
   (eH (σ:=Unit) (ε:=Unit) (ρ:=Bool) (fun i0 s0 =>
    (mj ((x0.Terms.getD i0 ay).Var)).bind fun y1 =>
    ((
     bif y1 then (
      bif (((x0.Terms.getD i0 ay).C)==0) then (
       some (.ret (.ret false))
      ) else (
       (iO ((x0.Terms.getD i0 ay).C)).bind fun y2 =>
       bif y2 then (
        bif decide (((i0:Nat):Int)>0) then (
         bM (0≤(aL (((i0:Nat):Int)-1))∧(aL (((i0:Nat):Int)-1))<(x0.Terms.length:Int)) <|
         bif (Op.bytesLess ((x0.Terms.getD (aL (((i0:Nat):Int)-1)).toNat ay).Var) ((x0.Terms.getD i0 ay).Var)) then (
          some (.brk ())
         ) else (
          some (.ret (.ret false))
         )
        ) else (
         some (.brk ())
        )
       ) else (
        some (.ret (.ret false))
       )
      )
     ) else (
      some (.ret (.ret false))
     )
    ):Option (Out Unit (gC Unit Unit Bool))).bind (aft fun u0 =>
     some (.go ())
    )
   ) (fun i0 s0=>()) (x0.Terms.length-0) 0 ()).bind <| aft fun u1 =>
   some true
  )
 ) else (
  some false
 )
def mr (x0:Linear) (i0:Nat) (s0:Unit):AS:=⟨58,[(1,.hptr 1 0),(2,.bool false),(3,nI i0)],[(1,.cells 34 [iI x0.Const,dS ao x0.Terms])]⟩
def pQ (u2:Unit):AS:=⟨58,[(2,.bool false)],[]⟩
def lZ (x0:Linear) (i0:Nat) (u0:Unit):AS:=⟨58,[(1,.hptr 1 0),(2,.bool false),(3,nI i0)],[(1,.cells 34 [iI x0.Const,dS ao x0.Terms])]⟩
theorem gZ (x0:Linear) (r:Bool) (H:gm x0=some r):bQ Tryz.prog 36 [.agg [iI x0.Const,dS ao x0.Terms]] (.bool r):=by
 unfold gm at H;refine aX Tryz.func36 58 [.tmp 2] ?_;refine aQ H fun y0 h0 H0 => ?_;refine aZ H0 (fun c0 H1 => ?_) (fun c1 H2 => ?_)
 ·refine aZ H1 (fun c2 H3 => ?_) (fun c3 H4 => ?_)
  ·obtain rfl:=sI H3;exact pR 10 [r0 [.m,.v],r0 [.v,.v,.c true bT,.v,.v,.v,.v,.e (nI x0.Terms.length),.v,.v],.eqT 14 bT,V1] [] [] (aC Tryz.call69 (aC (bQ.eq (fP _ _ h0) (cB c0)) (aT (aT (aC (aP ao x0.Terms) (aB c2 aN))))))
  ·have c3p:=LD c3;refine pA 12 [r0 [.m,.v],r0 [.v,.v,.c true bT,.v,.v,.v,.v,.e (nI x0.Terms.length),.v,.v],.eqT 14 bF,V1] [.only [1,2,3] [1]] 11 [false] (mr x0 0 ()) (aC Tryz.call69 (aC (bQ.eq (fP _ _ h0) (cB c0)) (aT (aT (aC (aP ao x0.Terms) (aB c3 aN)))))) ?_;refine aQ H4 fun R0 h1 H5 => ?_;refine pJ 1 (pQ) R0 ?_ (fun u1 e0 => ?_)
   ·refine pC (mr x0) h1 (fun i0 s0 h2 e1 => ?_) (fun i0 s0 h3 q0 h4 h5 => ?_)
    ·have c4:=lF i0 x0.Terms.length (by omega);subst e1;exact pB 5 [r0 [.v,.v,.v,.e (nI x0.Terms.length),.e bF]] [.only [2] []] (pQ ()) (aT (aC (aP ao x0.Terms) (aB c4 aN)))
    ·have c5:=lT i0 x0.Terms.length (by omega);refine aQ h4 fun y1 h6 H6 => ?_;refine pD 10 [r0 [.v,.v,.v,.e (nI x0.Terms.length),.e bT],r0 [.v,.v,.v,.e (.dptr (ao (x0.Terms.getD i0 ay))),.v,.m,.m]] [.only [1,2,3,4] [1,4]] 10 [true] (aT (aC (aP ao x0.Terms) (aB c5 (aI bf x0.Terms i0 ay aN)))) ?_;refine aQ H6 fun v0 h7 H7 => ?_;refine pJ 2 (lZ x0 i0) v0 ?_ (fun u0 e2 => ?_)
     ·refine aZ h7 (fun c6 H8 => ?_) (fun c7 H9 => ?_)
      ·refine aZ H8 (fun c8 H10 => ?_) (fun c9 H11 => ?_)
       ·obtain rfl:=sI H10;obtain rfl:=sI (aJ H7);obtain rfl:=aS h5;obtain rfl:=sI (aJ H5);exact pR 5 [.rg 28 [.v,.v,.c true bT,.v,.v,.v,.v,.e bT,.v,.v,.s,.s,.s,.s,.v,.v,.s,.s,.s,.s,.s,.s,.s,.s,.s,.s,.s,.s] [.s,.s,.v],V1] [] [] (aC Tryz.call70 (aC (bQ.eq (iY _ _ h6) (cB c6)) (aT (aB c8 aN))))
       ·refine aQ H11 fun y2 h8 H12 => ?_;refine aZ H12 (fun c10 H13 => ?_) (fun c11 H14 => ?_)
        ·refine aZ H13 (fun c12 H15 => ?_) (fun c13 H16 => ?_)
         ·refine aK H15 fun g0 H17 => ?_;refine pD 1 [.rg 28 [.v,.v,.c true bT,.v,.v,.v,.v,.e bF,.v,.v,.v,.v,.c true bT,.v,.v,.v,.v,.e bT,.v,.v,.v,.v,.w,.e (.dptr (ao (x0.Terms.getD (aL (((i0:Nat):Int)-1)).toNat ay))),.v,.v,.v,.v] [.v,.v,.v]] [.only [1,2,3,57] [1]] 1 [] (aC Tryz.call70 (aC (bQ.eq (iY _ _ h6) (cB c6)) (aT (aB c9 (aC Tryz.call69 (aC (bQ.eq (fP _ _ h8) (cB c10)) (aT (aB c12 (b9 (Kj (f:=ao) (l:=x0.Terms) (n:=(aL (((i0:Nat):Int)-1))) ay bf (by decide) (by exact g0)) aN))))))))) ?_;refine aZ H17 (fun c14 H18 => ?_) (fun c15 H19 => ?_)
          ·obtain rfl:=sI H18;exact pB 3 [.eqT 57 bF] [.only [1,2,3] [1]] (lZ x0 i0 ()) (aM c14 aN)
          ·obtain rfl:=sI H19;obtain rfl:=sI (aJ H7);obtain rfl:=aS h5;obtain rfl:=sI (aJ H5);exact pR 5 [.eqT 57 bT,V1] [] [] (aM c15 aN)
         ·obtain rfl:=sI H16;exact pB 3 [.rg 28 [.v,.v,.c true bT,.v,.v,.v,.v,.e bF,.v,.v,.v,.v,.c true bT,.v,.v,.v,.v,.e bF,.v,.s,.s,.s,.s,.s,.s,.s,.s,.s] [.s,.v,.v]] [.only [1,2,3] [1]] (lZ x0 i0 ()) (aC Tryz.call70 (aC (bQ.eq (iY _ _ h6) (cB c6)) (aT (aB c9 (aC Tryz.call69 (aC (bQ.eq (fP _ _ h8) (cB c10)) (aT (aB c13 aN))))))))
        ·obtain rfl:=sI H14;obtain rfl:=sI (aJ H7);obtain rfl:=aS h5;obtain rfl:=sI (aJ H5);exact pR 5 [.rg 28 [.v,.v,.c true bT,.v,.v,.v,.v,.e bF,.v,.v,.v,.v,.c true bF,.v,.v,.v,.s,.s,.s,.s,.s,.s,.s,.s,.s,.s,.s,.s] [.s,.s,.v],V1] [] [] (aC Tryz.call70 (aC (bQ.eq (iY _ _ h6) (cB c6)) (aT (aB c9 (aC Tryz.call69 (aC (bQ.eq (fP _ _ h8) (cB c11)) (aT aN)))))))
      ·obtain rfl:=sI H9;obtain rfl:=sI (aJ H7);obtain rfl:=aS h5;obtain rfl:=sI (aJ H5);exact pR 5 [.rg 28 [.v,.v,.c true bF,.v,.v,.s,.s,.s,.v,.v,.s,.s,.s,.s,.v,.v,.s,.s,.s,.s,.s,.s,.s,.s,.s,.s,.s,.s] [.s,.s,.v],V1] [] [] (aC Tryz.call70 (aC (bQ.eq (iY _ _ h6) (cB c7)) (aT aN)))
     ·subst e2;have H20:=bq H7;refine mJ 1 1 (ps:=[(x0.Terms.map ao).length≤9223372036854775807]) (by kernel_rfl) (fun l0 => ?_);have l1:x0.Terms.length≤9223372036854775807:=by simpa only [cI,LI] using l0
      clear l0;obtain rfl:=sI H20;exact pB 1 [V3] [.only [1,2,3] [1]] (mr x0 (i0+1) ()) (aH i0 aN)
   ·subst e0;have H21:=bq H5;obtain rfl:=sI H21;exact pR 3 [V1] [] [] aN
 ·obtain rfl:=sI H2;exact pR 9 [r0 [.m,.v],r0 [.v,.v,.c true bF,.v,.v,.s,.s,.s,.s,.v],V1] [] [] (aC Tryz.call69 (aC (bQ.eq (fP _ _ h0) (cB c1)) (aT aN)))
def oh (self:Int→Option au) (x0:Int):Option au :=
 bif decide (x0<0) then (
  (self (aL (0-x0))).bind fun y0 =>
  bM ([45].length+y0.length≤9223372036854775807) <|
  some ([45]++y0)
 ) else (
  bif decide (x0<10) then (
   bM (0≤x0∧x0≤(aL (x0+1))∧(aL (x0+1))≤([48,49,50,51,52,53,54,55,56,57].length:Int)) <|
   some (([48,49,50,51,52,53,54,55,56,57].drop x0.toNat).take ((aL (x0+1)).toNat-x0.toNat))
  ) else (
   (self (aL (x0.tdiv 10))).bind fun y1 =>
   (self (x0.tmod 10)).bind fun y2 =>
   bM (y1.length+y2.length≤9223372036854775807) <|
   some (y1++y2)
  )
 )
def jQ  : Nat→Int→Option au
 | 0,_=>none
 | fu+1,x0=>oh (jQ fu) x0
theorem og (fuel:Nat):∀ (x0:Int) (r:au) (H:jQ fuel x0=some r),bQ Tryz.prog 51 [iI x0] (.str r):=by
 induction fuel with
 | zero=>intros;contradiction
 | succ fu ih =>
 intro x0 r H;have H:oh (jQ fu) x0=some r:=H;unfold oh at H;refine aX Tryz.func51 22 [.tmp 2] ?_;refine aZ H (fun c0 H0 => ?_) (fun c1 H1 => ?_)
 ·refine aQ H0 fun y0 h0 H2 => ?_;refine aK H2 fun g0 H3 => ?_;obtain rfl:=sI H3;exact pR 10 [V1,V2,.eqT 4 bT,r0 [.v,.w,.c true (.str y0),.v,.v]] [] [] (aB c0 (aC Tryz.call51 (aF (ih (aL (0-x0)) y0 h0) (aC (show [45].length+y0.length≤9223372036854775807 from g0) aN))))
 ·have c1p:=LD c1;refine aZ H1 (fun c2 H4 => ?_) (fun c3 H5 => ?_)
  ·have c2p:=LF c2;refine aK H4 fun g1 H6 => ?_;obtain rfl:=sI H6;exact pR 16 [V1,V2,.eqT 4 bF,V2,.eqT 10 bT,r0 [.v,.v,.w,.v,.v]] [] [] (aB c1 (aB c2 (aC (show (0:Int)≤x0∧x0≤(aL (x0+1))∧(aL (x0+1))≤([48,49,50,51,52,53,54,55,56,57].length:Int) from by omega) aN)))
  ·refine aQ H5 fun y1 h1 H7 => ?_;refine aQ H7 fun y2 h2 H8 => ?_;refine aK H8 fun g2 H9 => ?_;obtain rfl:=sI H9;exact pR 17 [V1,V2,.eqT 4 bF,V2,.eqT 10 bF,r0 [.v,.w,.c true (.str y1),.v,.v,.c true (.str y2),.v,.v]] [] [] (aB c1 (aB c3 (aC (show (10:Int)≠0 from (by decide)) (aC Tryz.call51 (aF (ih (aL (x0.tdiv 10)) y1 h1) (aC (show (10:Int)≠0 from (by decide)) (aC Tryz.call51 (aF (ih (x0.tmod 10) y2 h2) (aC (show y1.length+y2.length≤9223372036854775807 from g2) aN)))))))))
def dQ (x0:Linear):Option au :=
 (gm x0).bind fun y0 =>
 bif y0 then (
  (eH (σ:=au) (ε:=au) (ρ:=Empty) (fun i0 s0 =>
   ((
    bif decide (((x0.Terms.getD i0 ay).C)<0) then (
     bM (s0.length+[45].length≤9223372036854775807) <|
     some ((s0++[45]),(aL (0-((x0.Terms.getD i0 ay).C))))
    ) else (
     bif decide (((i0:Nat):Int)>0) then (
      bM (s0.length+[43].length≤9223372036854775807) <|
      some ((s0++[43]),((x0.Terms.getD i0 ay).C))
     ) else (
      some (s0,((x0.Terms.getD i0 ay).C))
     )
    )
   ):Option (au×Int)).bind fun v0 =>
   ((
    bif decide (v0.2>1) then (
     (jQ 64 v0.2).bind fun y1 =>
     bM (v0.1.length+y1.length≤9223372036854775807) <|
     some (v0.1++y1)
    ) else (
     some v0.1
    )
   ):Option au).bind fun v1 =>
   bM (v1.length+((x0.Terms.getD i0 ay).Var).length≤9223372036854775807) <|
   some (.go (v1++((x0.Terms.getD i0 ay).Var)))
  ) (fun i0 s0=>s0) (x0.Terms.length-0) 0 []).bind <| dI fun u0 =>
  bif (((x0.Terms.length:Nat):Int)==0) then (
   (jQ 64 x0.Const).bind fun y2 =>
   some y2
  ) else (
   ((
    bif decide (x0.Const>0) then (
     bM (u0.length+[43].length≤9223372036854775807) <|
     some (u0++[43])
    ) else (
     some u0
    )
   ):Option au).bind fun v2 =>
   bif (x0.Const==0) then (
    some v2
   ) else (
    (jQ 64 x0.Const).bind fun y3 =>
    bM (v2.length+y3.length≤9223372036854775807) <|
    some (v2++y3)
   )
  )
 ) else (
  some []
 )
def lU (x0:Linear) (i0:Nat) (s0:au):AS:=⟨69,[(1,.hptr 1 0),(2,.str []),(3,.str s0),(4,nI i0)],[(1,.cells 34 [iI x0.Const,dS ao x0.Terms])]⟩
def pT (x0:Linear) (u1:au):AS:=⟨69,[(1,.hptr 1 0),(2,.str []),(3,.str u1)],[(1,.cells 34 [iI x0.Const,dS ao x0.Terms])]⟩
def jb (x0:Linear) (i0:Nat) (v0:au×Int):AS:=⟨69,[(1,.hptr 1 0),(2,.str []),(3,.str v0.1),(4,nI i0),(5,.hptr 5 0)],[(1,.cells 34 [iI x0.Const,dS ao x0.Terms]),(5,.cells 88 [.str ((x0.Terms.getD i0 ay).Var),iI v0.2])]⟩
def lW (x0:Linear) (i0:Nat) (v0:au×Int) (v1:au):AS:=⟨69,[(1,.hptr 1 0),(2,.str []),(3,.str v1),(4,nI i0),(5,.hptr 5 0)],[(1,.cells 34 [iI x0.Const,dS ao x0.Terms]),(5,.cells 88 [.str ((x0.Terms.getD i0 ay).Var),iI v0.2])]⟩
def mg (x0:Linear) (v2:au):AS:=⟨69,[(1,.hptr 1 0),(2,.str []),(3,.str v2)],[(1,.cells 34 [iI x0.Const,dS ao x0.Terms])]⟩
theorem bB (x0:Linear) (r:au) (H:dQ x0=some r):bQ Tryz.prog 24 [.agg [iI x0.Const,dS ao x0.Terms]] (.str r):=by
 unfold dQ at H;refine aX Tryz.func24 69 [.tmp 2] ?_;refine aQ H fun y0 h0 H0 => ?_;refine aZ H0 (fun c0 H1 => ?_) (fun c1 H2 => ?_)
 ·refine pA 14 [.rg 0 [] [.m,.v],.rg 0 [] [.v,.c true (.bool y0),.v],.eqT 8 bF,.rg 0 [] [.v],.rg 0 [] [.v]] [.only [1,2,3,4] [1]] 13 [false] (lU x0 0 []) (aC Tryz.call36 (aF (gZ _ _ h0) (aT (aM c0 aN)))) ?_;refine aQ H1 fun R0 h1 H3 => ?_;refine pJ 1 (pT x0) R0 ?_ (fun u0 e0 => ?_)
  ·refine pC (lU x0) h1 (fun i0 s0 h2 e1 => ?_) (fun i0 s0 h3 q0 h4 h5 => ?_)
   ·have c2:=lF i0 x0.Terms.length (by omega);subst e1;exact pB 5 [r0 [.v,.v,.v,.e (nI x0.Terms.length),.e bF]] [.only [1,2,3] [1]] (pT x0 s0) (aT (aC (aP ao x0.Terms) (aB c2 aN)))
   ·have c3:=lT i0 x0.Terms.length (by omega);refine pD 13 [r0 [.v,.v,.v,.e (nI x0.Terms.length),.e bT],r0 [.v,.v,.v,.e (.dptr (ao (x0.Terms.getD i0 ay))),.v,.m,.m],V4] [.only [1,2,3,4,5,21] [1,5]] 13 [true] (aT (aC (aP ao x0.Terms) (aB c3 (aI bf x0.Terms i0 ay aN)))) ?_;refine aQ h4 fun v0 h6 H4 => ?_;refine eR 1 (jb x0 i0 v0) (by kernel_rfl) ?_ ?_
    ·refine aZ h6 (fun c4 H5 => ?_) (fun c5 H6 => ?_)
     ·refine aK H5 fun g0 H7 => ?_;obtain rfl:=sI H7;exact pB 5 [.eqT 21 bT,V3,r0 [.v,.v,.w,.v,.m]] [.only [1,2,3,4,5] [1,5]] (jb x0 i0 ((s0++[45]),(aL (0-((x0.Terms.getD i0 ay).C))))) (aB c4 (aC (show s0.length+[45].length≤9223372036854775807 from g0) aN))
     ·refine aZ H6 (fun c6 H8 => ?_) (fun c7 H9 => ?_)
      ·refine aK H8 fun g1 H10 => ?_;obtain rfl:=sI H10;exact pB 7 [.eqT 21 bF,V3,.eqT 31 bT,V3] [.only [1,2,3,4,5] [1,5]] (jb x0 i0 ((s0++[43]),((x0.Terms.getD i0 ay).C))) (aB c5 (aB c6 (aC (show s0.length+[43].length≤9223372036854775807 from g1) aN)))
      ·obtain rfl:=sI H9;exact pB 7 [.eqT 21 bF,V3,.eqT 31 bF] [.only [1,2,3,4,5] [1,5]] (jb x0 i0 (s0,((x0.Terms.getD i0 ay).C))) (aB c5 (aB c7 aN))
    ·refine pD 3 [.rg 0 [] [.v,.v,.v]] [.only [1,2,3,4,5,38] [1,5]] 3 [] aN ?_;refine aQ H4 fun v1 h7 H11 => ?_;refine eR 0 (lW x0 i0 v0 v1) (by kernel_rfl) ?_ ?_
     ·refine aZ h7 (fun c8 H12 => ?_) (fun c9 H13 => ?_)
      ·refine aQ H12 fun y1 h8 H14 => ?_;refine aK H14 fun g2 H15 => ?_;obtain rfl:=sI H15;exact pB 3 [.eqT 38 bT,r0 [.v,.v,.v,.c true (.str y1),.v,.v]] [.only [1,2,3,4,5] [1,5]] (lW x0 i0 v0 (v0.1++y1)) (aB c8 (aC Tryz.call51 (aF (og _ _ _ h8) (aC (show v0.1.length+y1.length≤9223372036854775807 from g2) aN))))
      ·obtain rfl:=sI H13;exact pB 3 [.eqT 38 bF] [.only [1,2,3,4,5] [1,5]] (lW x0 i0 v0 v0.1) (aB c9 aN)
     ·refine aK H11 fun g3 H16 => ?_;refine mJ 1 1 (ps:=[(x0.Terms.map ao).length≤9223372036854775807]) (by kernel_rfl) (fun l0 => ?_);have l1:x0.Terms.length≤9223372036854775807:=by simpa only [cI,LI] using l0
      clear l0;obtain rfl:=sI H16;exact pB 2 [V5,V3] [.only [1,2,3,4] [1]] (lU x0 (i0+1) (v1++((x0.Terms.getD i0 ay).Var))) (aC (show v1.length+((x0.Terms.getD i0 ay).Var).length≤9223372036854775807 from g3) (aH i0 aN))
  ·subst e0;have H17:=bG H3;refine aZ H17 (fun c10 H18 => ?_) (fun c11 H19 => ?_)
   ·refine aQ H18 fun y2 h9 H20 => ?_;refine cR H20 fun e2 => ?_;subst e2;exact pR 8 [r0 [.v,.v,.e (nI x0.Terms.length),.v],.eqT 51 bT,r0 [.v,.v,.c true (.str y2),.v]] [] [] (aT (aC (aP ao x0.Terms) (aB c10 (aC Tryz.call51 (aF (og _ _ _ h9) aN)))))
   ·refine pD 9 [.rg 0 [] [.v,.v,.e (.int .i64 ((x0.Terms.length:Nat):Int)),.v],.eqT 51 bF,.rg 0 [] [.v,.v,.v]] [.only [1,2,3,57] [1]] 8 [false] (aT (aC (aP ao x0.Terms) (aB c11 aN))) ?_;refine aQ H19 fun v2 h10 H21 => ?_;refine eR 0 (mg x0 v2) (by kernel_rfl) ?_ ?_
    ·refine aZ h10 (fun c12 H22 => ?_) (fun c13 H23 => ?_)
     ·refine aK H22 fun g4 H24 => ?_;obtain rfl:=sI H24;exact pB 3 [.eqT 57 bT,V3] [.only [1,2,3] [1]] (mg x0 (u0++[43])) (aB c12 (aC (show u0.length+[43].length≤9223372036854775807 from g4) aN))
     ·refine cR H23 fun e3 => ?_;subst e3;exact pB 3 [.eqT 57 bF] [.only [1,2,3] [1]] (mg x0 u0) (aB c13 aN)
    ·refine aZ H21 (fun c14 H25 => ?_) (fun c15 H26 => ?_)
     ·refine cR H25 fun e4 => ?_;subst e4;exact pR 9 [V3,.eqT 62 bF,V2] [] [] (aM c14 aN)
     ·refine aQ H26 fun y3 h11 H27 => ?_;refine aK H27 fun g5 H28 => ?_;obtain rfl:=sI H28;exact pR 9 [V3,.eqT 62 bT,r0 [.v,.v,.v,.c true (.str y3),.v,.v],V2] [] [] (aM c15 (aC Tryz.call51 (aF (og _ _ _ h11) (aC (show v2.length+y3.length≤9223372036854775807 from g5) aN))))
 ·obtain rfl:=sI H2;exact pR 10 [r0 [.m,.v],r0 [.v,.c true (.bool y0),.v],.eqT 8 bT,V1] [] [] (aC Tryz.call36 (aF (gZ _ _ h0) (aT (aM c1 aN))))
def iK (x0:List Linear):Option Bool :=
 (eH (σ:=Unit) (ε:=Unit) (ρ:=Bool) (fun i0 s0 =>
  (gm (Linear.mk ((x0.getD i0 az).Const) ((x0.getD i0 az).Terms))).bind fun y0 =>
  bif y0 then (
   some (.go ())
  ) else (
   some (.ret false)
  )
 ) (fun i0 s0=>()) (x0.length-0) 0 ()).bind <| aft fun u0 =>
 some true
def k9 (x0:List Linear) (i0:Nat) (s0:Unit):AS:=⟨16,[(0,dS ak x0),(2,.bool false),(3,nI i0)],[]⟩
def pW (u1:Unit):AS:=⟨16,[(2,.bool false)],[]⟩
theorem dM (x0:List Linear) (r:Bool) (H:iK x0=some r):bQ Tryz.prog 13 [dS ak x0] (.bool r):=by
 unfold iK at H;refine aX Tryz.func13 16 [.tmp 2] ?_;refine pA 6 [V1,V1] [.only [0,2,3] []] 6 [] (k9 x0 0 ()) aN ?_;refine aQ H fun R0 h0 H0 => ?_;refine pJ 1 (pW) R0 ?_ (fun u0 e0 => ?_)
 ·refine pC (k9 x0) h0 (fun i0 s0 h1 e1 => ?_) (fun i0 s0 h2 q0 h3 h4 => ?_)
  ·have c0:=lF i0 x0.length (by omega);subst e1;exact pB 5 [r0 [.v,.v,.e (nI x0.length),.e bF]] [.only [2] []] (pW ()) (aT (aC (aP ak x0) (aB c0 aN)))
  ·have c1:=lT i0 x0.length (by omega);refine aQ h3 fun y0 h5 H1 => ?_;refine pD 9 [r0 [.v,.v,.e (nI x0.length),.e bT],r0 [.v,.v,.e (.dptr (ak (x0.getD i0 az))),.v,.c true (.bool y0),.v]] [.only [0,2,3,15] []] 9 [true] (aT (aC (aP ak x0) (aB c1 (aI bh x0 i0 az (aC Tryz.call36 (aF (gZ _ _ h5) (aT aN))))))) ?_;refine aZ H1 (fun c2 H2 => ?_) (fun c3 H3 => ?_)
   ·refine bV 0 (ps:=[(x0.map ak).length≤9223372036854775807]) (by kernel_rfl) (fun l0 => ?_);have l1:x0.length≤9223372036854775807:=by simpa only [cI,LI] using l0
    clear l0;obtain rfl:=sI H2;exact pB 4 [.eqT 15 bF,V3] [.only [0,2,3] []] (k9 x0 (i0+1) ()) (aM c2 (aH i0 aN))
   ·obtain rfl:=sI H3;obtain rfl:=aS h4;obtain rfl:=sI (aJ H0);exact pR 5 [.eqT 15 bT,V1] [] [] (aM c3 aN)
 ·subst e0;have H4:=bq H0;obtain rfl:=sI H4;exact pR 3 [V1] [] [] aN
def oF (x0:Linear) (x1:au):Option Int :=
 (eH (σ:=Unit) (ε:=Unit) (ρ:=Int) (fun i0 s0 =>
  bif (((x0.Terms.getD i0 ay).Var)==x1) then (
   some (.ret ((x0.Terms.getD i0 ay).C))
  ) else (
   some (.go ())
  )
 ) (fun i0 s0=>()) (x0.Terms.length-0) 0 ()).bind <| aft fun u0 =>
 some 0
def nt (x0:Linear) (x1:au) (i0:Nat) (s0:Unit):AS:=⟨27,[(1,.str x1),(2,.hptr 2 0),(4,iI 0),(5,nI i0)],[(2,.cells 34 [iI x0.Const,dS ao x0.Terms])]⟩
def qP (u1:Unit):AS:=⟨27,[(4,iI 0)],[]⟩
theorem sj (x0:Linear) (x1:au) (r:Int) (H:oF x0 x1=some r):bQ Tryz.prog 12 [.agg [iI x0.Const,dS ao x0.Terms],.str x1] (iI r):=by
 unfold oF at H;refine aX Tryz.func12 27 [.tmp 4] ?_;refine pA 6 [r0 [.m,.v],V1] [.only [1,2,4,5] [2]] 6 [] (nt x0 x1 0 ()) aN ?_;refine aQ H fun R0 h0 H0 => ?_;refine pJ 1 (qP) R0 ?_ (fun u0 e0 => ?_)
 ·refine pC (nt x0 x1) h0 (fun i0 s0 h1 e1 => ?_) (fun i0 s0 h2 q0 h3 h4 => ?_)
  ·have c0:=lF i0 x0.Terms.length (by omega);subst e1;exact pB 5 [r0 [.v,.v,.v,.e (nI x0.Terms.length),.e bF]] [.only [4] []] (qP ()) (aT (aC (aP ao x0.Terms) (aB c0 aN)))
  ·have c1:=lT i0 x0.Terms.length (by omega);refine pD 9 [r0 [.v,.v,.v,.e (nI x0.Terms.length),.e bT],r0 [.v,.v,.v,.e (.dptr (ao (x0.Terms.getD i0 ay))),.v,.v,.v,.v]] [.only [1,2,4,5,20] [2]] 9 [true] (aT (aC (aP ao x0.Terms) (aB c1 (aI bf x0.Terms i0 ay aN)))) ?_;refine aZ h3 (fun c2 H1 => ?_) (fun c3 H2 => ?_)
   ·obtain rfl:=sI H1;obtain rfl:=aS h4;obtain rfl:=sI (aJ H0);exact pR 5 [.eqT 20 bT,r0 [.v,.v,.v,.e (.dptr (ao (x0.Terms.getD i0 ay))),.v,.v,.v]] [] [] (aB c2 (aI bf x0.Terms i0 ay aN))
   ·refine mJ 2 1 (ps:=[(x0.Terms.map ao).length≤9223372036854775807]) (by kernel_rfl) (fun l0 => ?_);have l1:x0.Terms.length≤9223372036854775807:=by simpa only [cI,LI] using l0
    clear l0;obtain rfl:=sI H2;exact pB 4 [.eqT 20 bF,V3] [.only [1,2,4,5] [2]] (nt x0 x1 (i0+1) ()) (aB c3 (aH i0 aN))
 ·subst e0;have H3:=bq H0;obtain rfl:=sI H3;exact pR 3 [V1] [] [] aN
def rz (x0:Linear):Option (List au) :=
 (eH (σ:=(List au)) (ε:=(List au)) (ρ:=Empty) (fun i0 s0 =>
  bM ((s0.length+1)*16≤140737488355328) <|
  some (.go (s0++[((x0.Terms.getD i0 ay).Var)]))
 ) (fun i0 s0=>s0) (x0.Terms.length-0) 0 []).bind <| dI fun u0 =>
 some u0
def ny (x0:Linear) (i0:Nat) (s0:List au):AS:=⟨22,[(1,.hptr 1 0),(2,.eslice),(3,.rslice 20),(4,nI i0)],[(1,.cells 34 [iI x0.Const,dS ao x0.Terms]),(20,.row 9 1 (s0.map bt))]⟩
def qY (u1:List au):AS:=⟨22,[(2,.eslice),(3,.rslice 20)],[(20,.row 9 1 (u1.map bt))]⟩
theorem yq (x0:Linear) (r:List au) (H:rz x0=some r):bQ Tryz.prog 79 [.agg [iI x0.Const,dS ao x0.Terms]] (dS bt r):=by
 unfold rz at H;refine aX Tryz.func79 22 [.tmp 2] ?_;refine pA 8 [r0 [.m,.v],V1,V1] [.er 3 20 9 1,.only [1,2,3,4] [1,20]] 8 [] (ny x0 0 []) aN ?_;refine aQ H fun R0 h0 H0 => ?_;refine pJ 1 (qY) R0 ?_ (fun u0 e0 => ?_)
 ·refine pC (ny x0) h0 (fun i0 s0 h1 e1 => ?_) (fun i0 s0 h2 q0 h3 h4 => ?_)
  ·have c0:=lF i0 x0.Terms.length (by omega);subst e1;exact pB 5 [r0 [.v,.v,.v,.e (nI x0.Terms.length),.e bF]] [.only [2,3] [20]] (qY s0) (aT (aC (aP ao x0.Terms) (aB c0 aN)))
  ·have c1:=lT i0 x0.Terms.length (by omega);refine aK h3 fun g0 H1 => ?_;refine mJ 1 1 (ps:=[(x0.Terms.map ao).length≤9223372036854775807]) (by kernel_rfl) (fun l0 => ?_);have l1:x0.Terms.length≤9223372036854775807:=by simpa only [cI,LI] using l0
   clear l0;obtain rfl:=sI H1;exact pB 9 [r0 [.v,.v,.v,.e (nI x0.Terms.length),.e bT],r0 (V 4 [.e (.dptr (ao (x0.Terms.getD i0 ay))),.v,.v,.b,.ap,.rwH 20 (.row 9 1 ((s0++[((x0.Terms.getD i0 ay).Var)]).map bt)),.v]),V3] [.only [1,2,3,4] [1,20]] (ny x0 (i0+1) (s0++[((x0.Terms.getD i0 ay).Var)])) (aT (aC (aP ao x0.Terms) (aB c1 (aI bf x0.Terms i0 ay (b9 (yf (c:=bt) rQ s0 [((x0.Terms.getD i0 ay).Var)] 16 (by decide) (by first | (simp;done) | simpa using g0)) (aC (Bn 9 1 bt s0 [((x0.Terms.getD i0 ay).Var)]) (aH i0 aN)))))))
 ·subst e0;have H2:=bG H0;refine cR H2 fun e2 => ?_;subst e2;exact pR 3 [V2] [.fz 20] [] aN
def re (x0:List Linear):Option (List au) :=
 (eH (σ:=(Int×(List aq))) (ε:=(Int×(List aq))) (ρ:=Empty) (fun i0 s0 =>
  (kz (σ:=(Int×Int×(List aq))) (ε:=(Int×(List aq))) (ρ:=Empty) (fun s1 =>
   bif decide (s1.1<((((x0.getD i0 az).Terms).length:Nat):Int)) then (
    bM (0≤s1.1∧s1.1<(((x0.getD i0 az).Terms).length:Int)) <|
    (oF (Linear.mk s1.2.1 s1.2.2) ((((x0.getD i0 az).Terms).getD s1.1.toNat ay).Var)).bind fun y0 =>
    ((
     bif (y0==0) then (
      (jL (Linear.mk s1.2.1 s1.2.2) ((((x0.getD i0 az).Terms).getD s1.1.toNat ay).Var) 1).bind fun y1 =>
      some (y1.Const,y1.Terms)
     ) else (
      some (s1.2.1,s1.2.2)
     )
    ):Option (Int×(List aq))).bind fun v0 =>
    some (.go ((aL (s1.1+1)),v0.1,v0.2))
   ) else (
    some (.brk (s1.2.1,s1.2.2))
   )
  ) 4294967296 (0,s0.1,s0.2)).bind <| dI fun u0 =>
  some (.go (u0.1,u0.2))
 ) (fun i0 s0=>(s0.1,s0.2)) (x0.length-0) 0 (0,[])).bind <| dI fun u1 =>
 (rz (Linear.mk u1.1 u1.2)).bind fun y2 =>
 some y2
def mY (x0:List Linear) (i0:Nat) (s0:Int×(List aq)):AS:=⟨41,[(0,dS ak x0),(2,.eslice),(3,.hptr 3 0),(4,nI i0)],[(3,.cells 34 [iI s0.1,dS ao s0.2])]⟩
def qN (u2:Int×(List aq)):AS:=⟨41,[(2,.eslice),(3,.hptr 3 0)],[(3,.cells 34 [iI u2.1,dS ao u2.2])]⟩
def ns (x0:List Linear) (i0:Nat) (s1:Int×Int×(List aq)):AS:=⟨41,[(0,dS ak x0),(2,.eslice),(3,.hptr 3 0),(4,nI i0),(5,iI s1.1)],[(3,.cells 34 [iI s1.2.1,dS ao s1.2.2])]⟩
def qL (x0:List Linear) (i0:Nat) (u3:Int×(List aq)):AS:=⟨41,[(0,dS ak x0),(2,.eslice),(3,.hptr 3 0),(4,nI i0)],[(3,.cells 34 [iI u3.1,dS ao u3.2])]⟩
def mW (x0:List Linear) (i0:Nat) (s1:Int×Int×(List aq)) (v0:Int×(List aq)):AS:=⟨41,[(0,dS ak x0),(2,.eslice),(3,.hptr 3 0),(4,nI i0),(5,iI s1.1)],[(3,.cells 34 [iI v0.1,dS ao v0.2])]⟩
theorem ze (x0:List Linear) (r:List au) (H:re x0=some r):bQ Tryz.prog 44 [dS ak x0] (dS bt r):=by
 unfold re at H;refine aX Tryz.func44 41 [.tmp 2] ?_;refine pA 8 [V1,r0 [.m],V1] [.wkH 3 1 [],.only [0,2,3,4] [3]] 8 [] (mY x0 0 (0,[])) aN ?_;refine aQ H fun R0 h0 H0 => ?_;refine pJ 1 (qN) R0 ?_ (fun u1 e0 => ?_)
 ·refine pC (mY x0) h0 (fun i0 s0 h1 e1 => ?_) (fun i0 s0 h2 q0 h3 h4 => ?_)
  ·have c0:=lF i0 x0.length (by omega);subst e1;exact pB 5 [r0 [.v,.v,.e (nI x0.length),.e bF]] [.only [2,3] [3]] (qN (s0.1,s0.2)) (aT (aC (aP ak x0) (aB c0 aN)))
  ·have c1:=lT i0 x0.length (by omega);refine pA 10 [r0 [.v,.v,.e (nI x0.length),.e bT],V1] [.only [0,2,3,4,5] [3]] 10 [true] (ns x0 i0 (0,s0.1,s0.2)) (aT (aC (aP ak x0) (aB c1 aN))) ?_;refine aQ h3 fun R1 h5 H1 => ?_;refine pJ 2 (qL x0 i0) R1 ?_ (fun u0 e2 => ?_)
   ·refine qU (ns x0 i0) (by kernel_rfl) h5 (fun s1 q1 h6 h7 => ?_)
    ·refine aZ h6 (fun c2 H2 => ?_) (fun c3 H3 => ?_)
     ·have c2p:=LF c2;refine aK H2 fun g0 H4 => ?_;refine aQ H4 fun y0 h8 H5 => ?_;refine pD 12 [r0 [.v,.v,.v,.e (.dptr (ak (x0.getD i0 az))),.v,.v,.e (iI ((((x0.getD i0 az).Terms).length:Nat):Int)),.v],.eqT 20 bT,r0 [.v,.v,.e (.dptr (ak (x0.getD i0 az))),.v,.v,.v,.e (.dptr (ao (((x0.getD i0 az).Terms).getD s1.1.toNat ay))),.v,.v,.v],r0 [.v,.v,.c true (iI y0),.v]] [.only [0,2,3,4,5,6,35] [3]] 11 [true] (aI bh x0 i0 az (aT (aC (aP ao ((x0.getD i0 az).Terms)) (aB c2 (aI bh x0 i0 az (b9 (Kj (f:=ao) (l:=((x0.getD i0 az).Terms)) (n:=s1.1) ay bf (by decide) (by exact g0)) (aC Tryz.call12 (aF (sj _ _ _ h8) aN)))))))) ?_;refine aQ H5 fun v0 h9 H6 => ?_;refine eR 1 (mW x0 i0 s1 v0) (by kernel_rfl) ?_ ?_
      ·refine aZ h9 (fun c4 H7 => ?_) (fun c5 H8 => ?_)
       ·refine aQ H7 fun y1 h10 H9 => ?_;obtain rfl:=sI H9;exact pB 3 [.eqT 35 bT,r0 [.v,.v,.c true (.agg [iI y1.Const,dS ao y1.Terms]),.m]] [.only [0,2,3,4,5] [3]] (mW x0 i0 s1 (y1.Const,y1.Terms)) (aB c4 (aC Tryz.call17 (aF (kE _ _ _ _ h10) aN)))
       ·obtain rfl:=sI H8;exact pB 3 [.eqT 35 bF] [.only [0,2,3,4,5] [3]] (mW x0 i0 s1 (s1.2.1,s1.2.2)) (aB c5 aN)
      ·obtain rfl:=sI H6;exact pB 1 [r0 [.v,.w,.v]] [.only [0,2,3,4,5] [3]] (ns x0 i0 ((aL (s1.1+1)),v0.1,v0.2)) aN
     ·have c3p:=LD c3;obtain rfl:=sI H3;obtain rfl:=iU h7;exact pB 6 [r0 [.v,.v,.v,.e (.dptr (ak (x0.getD i0 az))),.v,.v,.e (iI ((((x0.getD i0 az).Terms).length:Nat):Int)),.v],.eqT 20 bF] [.only [0,2,3,4] [3]] (qL x0 i0 (s1.2.1,s1.2.2)) (aI bh x0 i0 az (aT (aC (aP ao ((x0.getD i0 az).Terms)) (aB c3 aN))))
   ·subst e2;have H10:=bG H1;refine bV 0 (ps:=[(x0.map ak).length≤9223372036854775807]) (by kernel_rfl) (fun l0 => ?_);have l1:x0.length≤9223372036854775807:=by simpa only [cI,LI] using l0
    clear l0;obtain rfl:=sI H10;exact pB 1 [V3] [.only [0,2,3,4] [3]] (mY x0 (i0+1) (u0.1,u0.2)) (aH i0 aN)
 ·subst e0;have H11:=bG H0;refine aQ H11 fun y2 h11 H12 => ?_;refine cR H12 fun e3 => ?_;subst e3;exact pR 3 [r0 [.v,.c true (dS bt y2),.v]] [] [] (aC Tryz.call79 (aF (yq _ _ h11) aN))
def ml (x0:Int):Option Bool :=
 bif decide (x0≥(-4611686018427387904)) then (
  some (decide (x0≤4611686018427387904))
 ) else (
  some false
 )
theorem eB (x0:Int) (r:Bool) (H:ml x0=some r):bQ Tryz.prog 85 [iI x0] (.bool r):=by
 unfold ml at H;refine aX Tryz.func85 9 [.tmp 2] ?_;refine aZ H (fun c0 H0 => ?_) (fun c1 H1 => ?_)
 ·obtain rfl:=sI H0;exact pR 5 [V1,r0 [.v,.e bT,.v,.v,.v,.v,.v]] [] [] (aB c0 aN)
 ·obtain rfl:=sI H1;exact pR 5 [V1,r0 [.v,.e bF,.v,.s,.s,.v,.v]] [] [] (aB c1 aN)
def kC (x0:Int):Option (Int×Int×Int) :=
 some ((x0.tmod 2097152),((aL (x0.tdiv 2097152)).tmod 2097152),(aL ((aL (x0.tdiv 2097152)).tdiv 2097152)))
theorem pU (x0:Int) (r:Int×Int×Int) (H:kC x0=some r):bQ Tryz.prog 86 [iI x0] (.agg [iI r.1,iI r.2.1,iI r.2.2]):=by unfold kC at H;refine aX Tryz.func86 12 [.cell 2 60] ?_;obtain rfl:=sI H;exact pR 5 [r0 [.m],r0 [.v,.v,.v,.w,.v,.v,.w,.w,.b,.m]] [] [] (aC (show (2097152:Int)≠0 from (by decide)) (aC (show (2097152:Int)≠0 from (by decide)) (aC (show (2097152:Int)≠0 from (by decide)) (aC (show (2097152:Int)≠0 from (by decide)) (aC (show (2097152:Int)≠0 from (by decide)) aN)))))
def gD (x0 x1:Int):Option (Int×Int) :=
 (ml x0).bind fun y0 =>
 bif y0 then (
  (ml x1).bind fun y1 =>
  bif y1 then (
   bif (x1==0) then (
    some (0,1)
   ) else (
    bM ((x1:Int)≠0) <|
    ((
     bif ((x0.tmod x1)==0) then (
      some false
     ) else (
      some (!(decide (x0<0)==decide (x1<0)))
     )
    ):Option Bool).bind fun v0 =>
    bif v0 then (
     some ((aL ((aL (x0.tdiv x1))-1)),0)
    ) else (
     some ((aL (x0.tdiv x1)),0)
    )
   )
  ) else (
   some (0,2)
  )
 ) else (
  some (0,2)
 )
def oE (x0 x1:Int) (v0:Bool):AS:=⟨34,[(4,iI 0),(5,iI 0),(6,iI (aL (x0.tdiv x1))),(30,.bool v0)],[]⟩
theorem gq (x0 x1:Int) (r:Int×Int) (H:gD x0 x1=some r):bQ Tryz.prog 78 [iI x0,iI x1] (.tup [iI r.1,iI r.2]):=by
 unfold gD at H;refine aX Tryz.func78 34 [.tmp 4,.tmp 5] ?_;refine aQ H fun y0 h0 H0 => ?_;refine aZ H0 (fun c0 H1 => ?_) (fun c1 H2 => ?_)
 ·refine aQ H1 fun y1 h1 H3 => ?_;refine aZ H3 (fun c2 H4 => ?_) (fun c3 H5 => ?_)
  ·refine aZ H4 (fun c4 H6 => ?_) (fun c5 H7 => ?_)
   ·obtain rfl:=sI H6;exact pR 16 [V2,r0 [.v,.c true bT,.v,.v,.v,.c true (.bool y1),.v,.v],.eqT 14 bF,V2,.eqT 16 bT,V2] [] [] (aC Tryz.call85 (aC (bQ.eq (eB _ _ h0) (cB c0)) (aT (aC Tryz.call85 (aF (eB _ _ h1) (aT (aM c2 (aB c4 aN))))))))
   ·refine aK H7 fun g0 H8 => ?_;refine pD 18 [V2,r0 [.v,.c true bT,.v,.v,.v,.c true (.bool y1),.v,.v],.eqT 14 bF,V2,.eqT 16 bF,r0 [.v,.v,.w,.v]] [.only [0,1,4,5,6] []] 16 [false,false] (aC Tryz.call85 (aC (bQ.eq (eB _ _ h0) (cB c0)) (aT (aC Tryz.call85 (aF (eB _ _ h1) (aT (aM c2 (aB c5 (aC (show (x1:Int)≠0 from g0) aN))))))))) ?_;refine aQ H8 fun v0 h2 H9 => ?_;refine eR 0 (oE x0 x1 v0) (by kernel_rfl) ?_ ?_
    ·refine aZ h2 (fun c6 H10 => ?_) (fun c7 H11 => ?_)
     ·obtain rfl:=sI H10;exact pB 1 [r0 [.v,.v,.v,.e bF,.v,.s,.s,.s,.s,.s,.v]] [.only [4,5,6,30] []] (oE x0 x1 false) (aC (show (x1:Int)≠0 from g0) (aM c6 aN))
     ·obtain rfl:=sI H11;exact pB 1 [r0 [.v,.v,.v,.e bT,.v,.v,.v,.v,.v,.v,.v]] [.only [4,5,6,30] []] (oE x0 x1 (!(decide (x0<0)==decide (x1<0)))) (aC (show (x1:Int)≠0 from g0) (aM c7 aN))
    ·refine aZ H9 (fun c8 H12 => ?_) (fun c9 H13 => ?_)
     ·obtain rfl:=sI H12;exact pR 6 [.eqT 30 bT,r0 [.v,.w,.v],V3] [] [] (aB c8 aN)
     ·obtain rfl:=sI H13;exact pR 6 [.eqT 30 bF,V3] [] [] (aB c9 aN)
  ·obtain rfl:=sI H5;exact pR 10 [V2,r0 [.v,.c true bT,.v,.v,.v,.c true (.bool y1),.v,.v],.eqT 14 bT,V2] [] [] (aC Tryz.call85 (aC (bQ.eq (eB _ _ h0) (cB c0)) (aT (aC Tryz.call85 (aF (eB _ _ h1) (aT (aM c3 aN)))))))
 ·obtain rfl:=sI H2;exact pR 9 [V2,r0 [.v,.c true bF,.v,.v,.s,.s,.s,.v],V2] [] [] (aC Tryz.call85 (aC (bQ.eq (eB _ _ h0) (cB c1)) (aT aN)))
def qw (x0 x1:List Int):Option (Int×Int) :=
 bif (((x0.length:Nat):Int)==((x1.length:Nat):Int)) then (
  bif decide (((x0.length:Nat):Int)>10000) then (
   some (0,3)
  ) else (
   (eH (σ:=Unit) (ε:=Unit) (ρ:=(Int×Int)) (fun i0 s0 =>
    (ml (x0.getD i0 0)).bind fun y0 =>
    bif y0 then (
     bM (i0<x1.length) <|
     (ml (x1.getD i0 0)).bind fun y1 =>
     bif y1 then (
      some (.go ())
     ) else (
      some (.ret (0,2))
     )
    ) else (
     some (.ret (0,2))
    )
   ) (fun i0 s0=>()) (x0.length-0) 0 ()).bind <| aft fun u0 =>
   (eH (σ:=(Int×Int×Int×Int×Int)) (ε:=(Int×Int×Int×Int×Int)) (ρ:=Empty) (fun i1 s1 =>
    (kC (x0.getD i1 0)).bind fun y2 =>
    bM (i1<x1.length) <|
    (kC (x1.getD i1 0)).bind fun y3 =>
    some (.go ((aL (s1.1+(aL (y2.1*y3.1)))),(aL ((aL (s1.2.1+(aL (y2.1*y3.2.1))))+(aL (y2.2.1*y3.1)))),(aL ((aL ((aL (s1.2.2.1+(aL (y2.1*y3.2.2))))+(aL (y2.2.1*y3.2.1))))+(aL (y2.2.2*y3.1)))),(aL ((aL (s1.2.2.2.1+(aL (y2.2.1*y3.2.2))))+(aL (y2.2.2*y3.2.1)))),(aL (s1.2.2.2.2+(aL (y2.2.2*y3.2.2))))))
   ) (fun i1 s1=>(s1.1,s1.2.1,s1.2.2.1,s1.2.2.2.1,s1.2.2.2.2)) (x0.length-0) 0 (0,0,0,0,0)).bind <| dI fun u1 =>
   (gD u1.1 2097152).bind fun y4 =>
   (some (aL (u1.1-(aL (y4.1*2097152))))).bind fun y5 =>
   (gD (aL (u1.2.1+y4.1)) 2097152).bind fun y6 =>
   (some (aL ((aL (u1.2.1+y4.1))-(aL (y6.1*2097152))))).bind fun y7 =>
   (gD (aL (u1.2.2.1+y6.1)) 2097152).bind fun y8 =>
   (some (aL ((aL (u1.2.2.1+y6.1))-(aL (y8.1*2097152))))).bind fun y9 =>
   (gD (aL (u1.2.2.2.1+y8.1)) 2097152).bind fun y10 =>
   (some (aL ((aL (u1.2.2.2.1+y8.1))-(aL (y10.1*2097152))))).bind fun y11 =>
   (gD (aL (u1.2.2.2.2+y10.1)) 2097152).bind fun y12 =>
   (some (aL ((aL (u1.2.2.2.2+y10.1))-(aL (y12.1*2097152))))).bind fun y13 =>
   (gD (aL (0+y12.1)) 2097152).bind fun y14 =>
   (some (aL ((aL (0+y12.1))-(aL (y14.1*2097152))))).bind fun y15 =>
   (gD (aL (0+y14.1)) 2097152).bind fun y16 =>
   (some (aL ((aL (0+y14.1))-(aL (y16.1*2097152))))).bind fun y17 =>
   bif decide ((aL (0+(aL (0+y16.1))))>2199023255552) then (
    some (0,2)
   ) else (
    bif decide ((aL (0+(aL (0+y16.1))))<(-2199023255552)) then (
     some (0,2)
    ) else (
     (some (aL ((aL (0+(aL (0+y16.1))))*2097152))).bind fun y18 =>
     bif decide ((aL (y18+y17))>2199023255552) then (
      some (0,2)
     ) else (
      bif decide ((aL (y18+y17))<(-2199023255552)) then (
       some (0,2)
      ) else (
       (some (aL ((aL (y18+y17))*2097152))).bind fun y19 =>
       bif decide ((aL (y19+y15))>2199023255552) then (
        some (0,2)
       ) else (
        bif decide ((aL (y19+y15))<(-2199023255552)) then (
         some (0,2)
        ) else (
         (some (aL ((aL (y19+y15))*2097152))).bind fun y20 =>
         bif decide ((aL (y20+y13))>2199023255552) then (
          some (0,2)
         ) else (
          bif decide ((aL (y20+y13))<(-2199023255552)) then (
           some (0,2)
          ) else (
           (some (aL ((aL (y20+y13))*2097152))).bind fun y21 =>
           bif decide ((aL (y21+y11))>2199023255552) then (
            some (0,2)
           ) else (
            bif decide ((aL (y21+y11))<(-2199023255552)) then (
             some (0,2)
            ) else (
             (some (aL ((aL (y21+y11))*2097152))).bind fun y22 =>
             bif decide ((aL (y22+y9))>2199023255552) then (
              some (0,2)
             ) else (
              bif decide ((aL (y22+y9))<(-2199023255552)) then (
               some (0,2)
              ) else (
               (some (aL ((aL (y22+y9))*2097152))).bind fun y23 =>
               bif decide ((aL (y23+y7))>2199023255552) then (
                some (0,2)
               ) else (
                bif decide ((aL (y23+y7))<(-2199023255552)) then (
                 some (0,2)
                ) else (
                 (some (aL ((aL (y23+y7))*2097152))).bind fun y24 =>
                 (ml (aL (y24+y5))).bind fun y25 =>
                 bif y25 then (
                  some ((aL (y24+y5)),0)
                 ) else (
                  some (0,2)
                 )
                )
               )
              )
             )
            )
           )
          )
         )
        )
       )
      )
     )
    )
   )
  )
 ) else (
  some (0,1)
 )
def oI (x0 x1:List Int) (i0:Nat) (s0:Unit):AS:=⟨130,[(0,dS aj x0),(1,dS aj x1),(4,iI 0),(5,iI 0),(6,nI i0)],[]⟩
def sw (x0 x1:List Int) (u2:Unit):AS:=⟨130,[(0,dS aj x0),(1,dS aj x1),(4,iI 0),(5,iI 0)],[]⟩
def oe (x0 x1:List Int) (i1:Nat) (s1:Int×Int×Int×Int×Int):AS:=⟨130,[(0,dS aj x0),(1,dS aj x1),(4,iI 0),(5,iI 0),(7,.hptr 7 0),(8,nI i1)],[(7,.cells 136 [iI s1.1,iI s1.2.1,iI s1.2.2.1,iI s1.2.2.2.1,iI s1.2.2.2.2,iI 0,iI 0,iI 0])]⟩
def sd (u3:Int×Int×Int×Int×Int):AS:=⟨130,[(4,iI 0),(5,iI 0),(7,.hptr 7 0)],[(7,.cells 136 [iI u3.1,iI u3.2.1,iI u3.2.2.1,iI u3.2.2.2.1,iI u3.2.2.2.2,iI 0,iI 0,iI 0])]⟩
theorem mE (x0 x1:List Int) (r:Int×Int) (H:qw x0 x1=some r):bQ Tryz.prog 52 [dS aj x0,dS aj x1] (.tup [iI r.1,iI r.2]):=by
 unfold qw at H;refine aX Tryz.func52 130 [.tmp 4,.tmp 5] ?_;refine aZ H (fun c0 H0 => ?_) (fun c1 H1 => ?_)
 ·refine pD 11 [.rg 0 [] [.v,.v],.rg 0 [] [.v,.e (.int .i64 ((x0.length:Nat):Int)),.v,.e (.int .i64 ((x1.length:Nat):Int)),.v],.eqT 22 bF,.rg 0 [] [.v,.e (.int .i64 ((x0.length:Nat):Int)),.v]] [.only [0,1,4,5,25] []] 10 [false] (aT (aC (aP aj x0) (aT (aC (aP aj x1) (aM c0 (aT (aC (aP aj x0) aN))))))) ?_;refine aZ H0 (fun c2 H2 => ?_) (fun c3 H3 => ?_)
  ·obtain rfl:=sI H2;exact pR 5 [.eqT 25 bT,V2] [] [] (aB c2 aN)
  ·have c3p:=LD c3;refine pA 7 [.eqT 25 bF,V1] [.only [0,1,4,5,6] []] 6 [false] (oI x0 x1 0 ()) (aB c3 aN) ?_;refine aQ H3 fun R0 h0 H4 => ?_;refine pJ 1 (sw x0 x1) R0 ?_ (fun u0 e0 => ?_)
   ·refine pC (oI x0 x1) h0 (fun i0 s0 h1 e1 => ?_) (fun i0 s0 h2 q0 h3 h4 => ?_)
    ·have c4:=lF i0 x0.length (by omega);subst e1;exact pB 5 [r0 [.v,.v,.e (nI x0.length),.e bF]] [.only [0,1,4,5] []] (sw x0 x1 ()) (aT (aC (aP aj x0) (aB c4 aN)))
    ·have c5:=lT i0 x0.length (by omega);refine aQ h3 fun y0 h5 H5 => ?_;refine aZ H5 (fun c6 H6 => ?_) (fun c7 H7 => ?_)
     ·refine aK H6 fun g0 H8 => ?_;refine aQ H8 fun y1 h6 H9 => ?_;refine pD 9 [r0 [.v,.v,.e (nI x0.length),.e bT],r0 [.v,.v,.e (.dptr [iI (x0.getD i0 0)]),.v,.c true bT,.v,.v,.v,.v,.e (.dptr [iI (x1.getD i0 0)]),.v,.c true (.bool y1),.v,.v]] [.only [0,1,4,5,6,45] []] 9 [true] (aT (aC (aP aj x0) (aB c5 (aI bZ x0 i0 0 (aC Tryz.call85 (aC (bQ.eq (eB _ _ h5) (cB c6)) (aT (aI bZ x1 i0 0 (aC Tryz.call85 (aF (eB _ _ h6) (aT aN))))))))))) ?_;refine aZ H9 (fun c8 H10 => ?_) (fun c9 H11 => ?_)
      ·refine bV 0 (ps:=[(x0.map aj).length≤9223372036854775807]) (by kernel_rfl) (fun l0 => ?_);have l1:x0.length≤9223372036854775807:=by simpa only [cI,LI] using l0
       clear l0;obtain rfl:=sI H10;exact pB 4 [.eqT 45 bF,V3] [.only [0,1,4,5,6] []] (oI x0 x1 (i0+1) ()) (aM c8 (aH i0 aN))
      ·obtain rfl:=sI H11;obtain rfl:=aS h4;obtain rfl:=sI (aJ H4);exact pR 5 [.eqT 45 bT,V2] [] [] (aM c9 aN)
     ·obtain rfl:=sI H7;obtain rfl:=aS h4;obtain rfl:=sI (aJ H4);exact pR 13 [r0 [.v,.v,.e (nI x0.length),.e bT],r0 [.v,.v,.e (.dptr [iI (x0.getD i0 0)]),.v,.c true bF,.v,.v,.s,.s,.s,.s,.s,.s,.v],V2] [] [] (aT (aC (aP aj x0) (aB c5 (aI bZ x0 i0 0 (aC Tryz.call85 (aC (bQ.eq (eB _ _ h5) (cB c7)) (aT aN)))))))
   ·subst e0;have H12:=bq H4;refine pA 6 [r0 [.m],V1] [.only [0,1,4,5,7,8] [7]] 6 [] (oe x0 x1 0 (0,0,0,0,0)) aN ?_;refine aQ H12 fun R1 h7 H13 => ?_;refine pJ 1 (sd) R1 ?_ (fun u1 e2 => ?_)
    ·refine pC (oe x0 x1) h7 (fun i1 s1 h8 e3 => ?_) (fun i1 s1 h9 q1 h10 h11 => ?_)
     ·have c10:=lF i1 x0.length (by omega);subst e3;exact pB 5 [r0 [.v,.v,.e (nI x0.length),.e bF]] [.only [4,5,7] [7]] (sd (s1.1,s1.2.1,s1.2.2.1,s1.2.2.2.1,s1.2.2.2.2)) (aT (aC (aP aj x0) (aB c10 aN)))
     ·have c11:=lT i1 x0.length (by omega);refine aQ h10 fun y2 h12 H14 => ?_;refine aK H14 fun g1 H15 => ?_;refine aQ H15 fun y3 h13 H16 => ?_;refine bV 0 (ps:=[(x0.map aj).length≤9223372036854775807]) (by kernel_rfl) (fun l2 => ?_);have l3:x0.length≤9223372036854775807:=by simpa only [cI,LI] using l2
      clear l2;obtain rfl:=sI H16;exact pB 163 [r0 [.v,.v,.e (nI x0.length),.e bT],.rg 12 [.v,.v,.e (.dptr [iI (x0.getD i1 0)]),.v,.c true (.agg [iI y2.1,iI y2.2.1,iI y2.2.2]),.v,.v,.e (.dptr [iI (x1.getD i1 0)]),.v,.c true (.agg [iI y3.1,iI y3.2.1,iI y3.2.2]),.m,.m] [.m,.m],V1,.un,V2,V1,.un,V2,.rg 12 (V 11 [.w]) [.w,.v,.m],V3,.cv [.only [0,1,4,5,7,8,9,10,11,12] [7,9,10]],V2,.rg 12 (V 11 [.w]) [.w,.v,.m],V3,.cv [.only [0,1,4,5,7,8,9,10,11,12] [7,9,10]],V2,.rg 12 (V 11 [.w]) [.w,.v,.m],V3,.cv [.only [0,1,4,5,7,8,9,10,11,12] [7,9,10]],V2,V3,.cv [.only [0,1,4,5,7,8,9,10,11] [7,9,10]],V2,V1,.un,V2,.rg 12 (V 11 [.w]) [.w,.v,.m],V3,.cv [.only [0,1,4,5,7,8,9,10,11,12] [7,9,10]],V2,.rg 12 (V 11 [.w]) [.w,.v,.m],V3,.cv [.only [0,1,4,5,7,8,9,10,11,12] [7,9,10]],V2,.rg 12 (V 11 [.w]) [.w,.v,.m],V3,.cv [.only [0,1,4,5,7,8,9,10,11,12] [7,9,10]],V2,V3,.cv [.only [0,1,4,5,7,8,9,10,11] [7,9,10]],V2,V1,.un,V2,.rg 12 (V 11 [.w]) [.w,.v,.m],V3,.cv [.only [0,1,4,5,7,8,9,10,11,12] [7,9,10]],V2,.rg 12 (V 11 [.w]) [.w,.v,.m],V3,.cv [.only [0,1,4,5,7,8,9,10,11,12] [7,9,10]],V2,.rg 12 (V 11 [.w]) [.w,.v,.m],V3,.cv [.only [0,1,4,5,7,8,9,10,11,12] [7,9,10]],V2,V3,.cv [.only [0,1,4,5,7,8,9,10,11] [7,9,10]],V2,V3] [.only [0,1,4,5,7,8] [7]] (oe x0 x1 (i1+1) ((aL (s1.1+(aL (y2.1*y3.1)))),(aL ((aL (s1.2.1+(aL (y2.1*y3.2.1))))+(aL (y2.2.1*y3.1)))),(aL ((aL ((aL (s1.2.2.1+(aL (y2.1*y3.2.2))))+(aL (y2.2.1*y3.2.1))))+(aL (y2.2.2*y3.1)))),(aL ((aL (s1.2.2.2.1+(aL (y2.2.1*y3.2.2))))+(aL (y2.2.2*y3.2.1)))),(aL (s1.2.2.2.2+(aL (y2.2.2*y3.2.2)))))) (aT (aC (aP aj x0) (aB c11 (aI bZ x0 i1 0 (aC Tryz.call86 (aF (pU _ _ h12) (aI bZ x1 i1 0 (aC Tryz.call86 (aF (pU _ _ h13) (aO (0+0) (aT (aT (aT (aT (aO (0+1) (aO (0+1) (aT (aT (aT (aT (aO (1+1) (aO (0+2) (aT (aT (aT (aT (aO (2+1) (aO (0+1) (aO (1+0) (aT (aT (aT (aT (aO (0+1) (aO (1+1) (aT (aT (aT (aT (aO (1+1) (aO (1+2) (aT (aT (aT (aT (aO (2+1) (aO (1+1) (aO (2+0) (aT (aT (aT (aT (aO (0+1) (aO (2+1) (aT (aT (aT (aT (aO (1+1) (aO (2+2) (aT (aT (aT (aT (aO (2+1) (aO (2+1) (aH i1 aN)))))))))))))))))))))))))))))))))))))))))))))))))))))))))))))))))))
    ·subst e2;have H17:=bG H13;refine aQ H17 fun y4 h14 H18 => ?_;refine aQ H18 fun y5 h15 H19 => ?_;refine aQ H19 fun y6 h16 H20 => ?_;refine aQ H20 fun y7 h17 H21 => ?_;refine aQ H21 fun y8 h18 H22 => ?_;refine aQ H22 fun y9 h19 H23 => ?_;refine aQ H23 fun y10 h20 H24 => ?_;refine aQ H24 fun y11 h21 H25 => ?_;refine aQ H25 fun y12 h22 H26 => ?_;refine aQ H26 fun y13 h23 H27 => ?_;refine aQ H27 fun y14 h24 H28 => ?_;refine aQ H28 fun y15 h25 H29 => ?_;refine aQ H29 fun y16 h26 H30 => ?_;refine aQ H30 fun y17 h27 H31 => ?_;refine pD 139 [V1,.un,V3,r0 [.v,.v,.v,.c true (.tup [iI y4.1,iI y4.2]),.v,.v,.v,.v,.v],r0 (V 4 [.w,.we (iI y5),.v,.m]),r0 (V 5 [.w,.v,.m]),V3,.cv [.only [4,5,7,13] [7]],V3,r0 [.v,.v,.v,.c true (.tup [iI y6.1,iI y6.2]),.v,.v,.v,.v,.v],r0 (V 4 [.w,.we (iI y7),.v,.m]),r0 (V 5 [.w,.v,.m]),V3,.cv [.only [4,5,7,13] [7]],V3,r0 [.v,.v,.v,.c true (.tup [iI y8.1,iI y8.2]),.v,.v,.v,.v,.v],r0 (V 4 [.w,.we (iI y9),.v,.m]),r0 (V 5 [.w,.v,.m]),V3,.cv [.only [4,5,7,13] [7]],V3,r0 [.v,.v,.v,.c true (.tup [iI y10.1,iI y10.2]),.v,.v,.v,.v,.v],r0 (V 4 [.w,.we (iI y11),.v,.m]),r0 (V 5 [.w,.v,.m]),V3,.cv [.only [4,5,7,13] [7]],V3,r0 [.v,.v,.v,.c true (.tup [iI y12.1,iI y12.2]),.v,.v,.v,.v,.v],r0 (V 4 [.w,.we (iI y13),.v,.m]),r0 (V 5 [.w,.v,.m]),V3,.cv [.only [4,5,7,13] [7]],V3,r0 [.v,.v,.v,.c true (.tup [iI y14.1,iI y14.2]),.v,.v,.v,.v,.v],r0 (V 4 [.w,.we (iI y15),.v,.m]),r0 (V 5 [.w,.v,.m]),V3,.cv [.only [4,5,7,13] [7]],V3,r0 [.v,.v,.v,.c true (.tup [iI y16.1,iI y16.2]),.v,.v,.v,.v,.v],r0 (V 4 [.w,.we (iI y17),.v,.m]),r0 (V 5 [.w,.v,.m]),V3,.cv [.only [4,5,7,13] [7]],V3,V1,V1,.un,V2,V6,r0 (V 5 [.w,.v]),V3,.cv [.only [4,5,7,16,17] [7]],V2] [.only [4,5,7,16,17] [7]] 131 [true,true,true,true,true,true,true,false,true,false,true] (aO (0+1) (aT (aC Tryz.call78 (aF (gq _ _ _ h14) (aT (aC (congrArg (AV.int .i64) (LM h15)) (aT (aO (0+1) (aT (aT (aO (0+1) (aO (1+1) (aT (aC Tryz.call78 (aF (gq _ _ _ h16) (aT (aC (congrArg (AV.int .i64) (LM h17)) (aT (aO (1+1) (aT (aT (aO (1+1) (aO (2+1) (aT (aC Tryz.call78 (aF (gq _ _ _ h18) (aT (aC (congrArg (AV.int .i64) (LM h19)) (aT (aO (2+1) (aT (aT (aO (2+1) (aO (3+1) (aT (aC Tryz.call78 (aF (gq _ _ _ h20) (aT (aC (congrArg (AV.int .i64) (LM h21)) (aT (aO (3+1) (aT (aT (aO (3+1) (aO (4+1) (aT (aC Tryz.call78 (aF (gq _ _ _ h22) (aT (aC (congrArg (AV.int .i64) (LM h23)) (aT (aO (4+1) (aT (aT (aO (4+1) (aO (5+1) (aT (aC Tryz.call78 (aF (gq _ _ _ h24) (aT (aC (congrArg (AV.int .i64) (LM h25)) (aT (aO (5+1) (aT (aT (aO (5+1) (aO (6+1) (aT (aC Tryz.call78 (aF (gq _ _ _ h26) (aT (aC (congrArg (AV.int .i64) (LM h27)) (aT (aO (6+1) (aT (aT (aO (6+1) (aO (7+1) (aO (0*2097152) (aT (aO (7-1) aN))))))))))))))))))))))))))))))))))))))))))))))))))))))))))))))))))))))))))))))))) ?_;refine aZ H31 (fun c12 H32 => ?_) (fun c13 H33 => ?_)
     ·obtain rfl:=sI H32;exact pR 5 [r0 [.v,.e bT,.v,.s,.s,.v],V2] [] [] (aB c12 aN)
     ·have c13p:=LD c13;refine aZ H33 (fun c14 H34 => ?_) (fun c15 H35 => ?_)
      ·obtain rfl:=sI H34;exact pR 6 [r0 [.v,.e bF,.v,.v,.v,.v],.eqT 119 bT,V2] [] [] (aB c13 (aB c14 aN))
      ·have c15p:=LD c15;refine aQ H35 fun y18 h28 H36 => ?_;refine pD 16 [r0 [.v,.e bF,.v,.v,.v,.v],.eqT 119 bF,r0 [.v,.we (iI y18),.v,.v,.v,.w,.v],V3,.cv [.only [4,5,7,16,17] [7]],V2] [.only [4,5,7,16,17] [7]] 14 [false,true] (aB c13 (aB c15 (aC (congrArg (AV.int .i64) (LM h28)) (aT (aO (6-1) aN))))) ?_;refine aZ H36 (fun c16 H37 => ?_) (fun c17 H38 => ?_)
       ·obtain rfl:=sI H37;exact pR 5 [r0 [.v,.e bT,.v,.s,.s,.v],V2] [] [] (aB c16 aN)
       ·have c17p:=LD c17;refine aZ H38 (fun c18 H39 => ?_) (fun c19 H40 => ?_)
        ·obtain rfl:=sI H39;exact pR 6 [r0 [.v,.e bF,.v,.v,.v,.v],.eqT 119 bT,V2] [] [] (aB c17 (aB c18 aN))
        ·have c19p:=LD c19;refine aQ H40 fun y19 h29 H41 => ?_;refine pD 16 [r0 [.v,.e bF,.v,.v,.v,.v],.eqT 119 bF,r0 [.v,.we (iI y19),.v,.v,.v,.w,.v],V3,.cv [.only [4,5,7,16,17] [7]],V2] [.only [4,5,7,16,17] [7]] 14 [false,true] (aB c17 (aB c19 (aC (congrArg (AV.int .i64) (LM h29)) (aT (aO (5-1) aN))))) ?_;refine aZ H41 (fun c20 H42 => ?_) (fun c21 H43 => ?_)
         ·obtain rfl:=sI H42;exact pR 5 [r0 [.v,.e bT,.v,.s,.s,.v],V2] [] [] (aB c20 aN)
         ·have c21p:=LD c21;refine aZ H43 (fun c22 H44 => ?_) (fun c23 H45 => ?_)
          ·obtain rfl:=sI H44;exact pR 6 [r0 [.v,.e bF,.v,.v,.v,.v],.eqT 119 bT,V2] [] [] (aB c21 (aB c22 aN))
          ·have c23p:=LD c23;refine aQ H45 fun y20 h30 H46 => ?_;refine pD 16 [r0 [.v,.e bF,.v,.v,.v,.v],.eqT 119 bF,r0 [.v,.we (iI y20),.v,.v,.v,.w,.v],V3,.cv [.only [4,5,7,16,17] [7]],V2] [.only [4,5,7,16,17] [7]] 14 [false,true] (aB c21 (aB c23 (aC (congrArg (AV.int .i64) (LM h30)) (aT (aO (4-1) aN))))) ?_;refine aZ H46 (fun c24 H47 => ?_) (fun c25 H48 => ?_)
           ·obtain rfl:=sI H47;exact pR 5 [r0 [.v,.e bT,.v,.s,.s,.v],V2] [] [] (aB c24 aN)
           ·have c25p:=LD c25;refine aZ H48 (fun c26 H49 => ?_) (fun c27 H50 => ?_)
            ·obtain rfl:=sI H49;exact pR 6 [r0 [.v,.e bF,.v,.v,.v,.v],.eqT 119 bT,V2] [] [] (aB c25 (aB c26 aN))
            ·have c27p:=LD c27;refine aQ H50 fun y21 h31 H51 => ?_;refine pD 16 [r0 [.v,.e bF,.v,.v,.v,.v],.eqT 119 bF,r0 [.v,.we (iI y21),.v,.v,.v,.w,.v],V3,.cv [.only [4,5,7,16,17] [7]],V2] [.only [4,5,7,16,17] [7]] 14 [false,true] (aB c25 (aB c27 (aC (congrArg (AV.int .i64) (LM h31)) (aT (aO (3-1) aN))))) ?_;refine aZ H51 (fun c28 H52 => ?_) (fun c29 H53 => ?_)
             ·obtain rfl:=sI H52;exact pR 5 [r0 [.v,.e bT,.v,.s,.s,.v],V2] [] [] (aB c28 aN)
             ·have c29p:=LD c29;refine aZ H53 (fun c30 H54 => ?_) (fun c31 H55 => ?_)
              ·obtain rfl:=sI H54;exact pR 6 [r0 [.v,.e bF,.v,.v,.v,.v],.eqT 119 bT,V2] [] [] (aB c29 (aB c30 aN))
              ·have c31p:=LD c31;refine aQ H55 fun y22 h32 H56 => ?_;refine pD 16 [r0 [.v,.e bF,.v,.v,.v,.v],.eqT 119 bF,r0 [.v,.we (iI y22),.v,.v,.v,.w,.v],V3,.cv [.only [4,5,7,16,17] [7]],V2] [.only [4,5,7,16,17] [7]] 14 [false,true] (aB c29 (aB c31 (aC (congrArg (AV.int .i64) (LM h32)) (aT (aO (2-1) aN))))) ?_;refine aZ H56 (fun c32 H57 => ?_) (fun c33 H58 => ?_)
               ·obtain rfl:=sI H57;exact pR 5 [r0 [.v,.e bT,.v,.s,.s,.v],V2] [] [] (aB c32 aN)
               ·have c33p:=LD c33;refine aZ H58 (fun c34 H59 => ?_) (fun c35 H60 => ?_)
                ·obtain rfl:=sI H59;exact pR 6 [r0 [.v,.e bF,.v,.v,.v,.v],.eqT 119 bT,V2] [] [] (aB c33 (aB c34 aN))
                ·have c35p:=LD c35;refine aQ H60 fun y23 h33 H61 => ?_;refine pD 16 [r0 [.v,.e bF,.v,.v,.v,.v],.eqT 119 bF,r0 [.v,.we (iI y23),.v,.v,.v,.w,.v],V3,.cv [.only [4,5,7,16,17] [7]],V2] [.only [4,5,7,16,17] [7]] 14 [false,true] (aB c33 (aB c35 (aC (congrArg (AV.int .i64) (LM h33)) (aT (aO (1-1) aN))))) ?_;refine aZ H61 (fun c36 H62 => ?_) (fun c37 H63 => ?_)
                 ·obtain rfl:=sI H62;exact pR 5 [r0 [.v,.e bT,.v,.s,.s,.v],V2] [] [] (aB c36 aN)
                 ·have c37p:=LD c37;refine aZ H63 (fun c38 H64 => ?_) (fun c39 H65 => ?_)
                  ·obtain rfl:=sI H64;exact pR 6 [r0 [.v,.e bF,.v,.v,.v,.v],.eqT 119 bT,V2] [] [] (aB c37 (aB c38 aN))
                  ·have c39p:=LD c39;refine aQ H65 fun y24 h34 H66 => ?_;refine aQ H66 fun y25 h35 H67 => ?_;refine pD 15 [r0 [.v,.e bF,.v,.v,.v,.v],.eqT 119 bF,r0 [.v,.we (iI y24),.v,.v,.v,.w,.v],V3,.cv [.only [4,5,7,16,17] [7]],V2,r0 [.v,.c true (.bool y25),.v]] [.only [4,5,16,128] []] 13 [false,false] (aB c37 (aB c39 (aC (congrArg (AV.int .i64) (LM h34)) (aT (aO (0-1) (aC Tryz.call85 (aF (eB _ _ h35) (aT aN)))))))) ?_;refine aZ H67 (fun c40 H68 => ?_) (fun c41 H69 => ?_)
                   ·obtain rfl:=sI H68;exact pR 6 [.eqT 128 bF,V3] [] [] (aM c40 aN)
                   ·obtain rfl:=sI H69;exact pR 5 [.eqT 128 bT,V2] [] [] (aM c41 aN)
 ·obtain rfl:=sI H1;exact pR 10 [V2,r0 [.v,.e (nI x0.length),.v,.e (nI x1.length),.v],.eqT 22 bT,V2] [] [] (aT (aC (aP aj x0) (aT (aC (aP aj x1) (aM c1 aN)))))
def jd (x0 x1:Int):Option Bool :=
 bif (x1==0) then (
  some (x0==0)
 ) else (
  bM ((x1:Int)≠0) <|
  some ((x0.tmod x1)==0)
 )
theorem nV (x0 x1:Int) (r:Bool) (H:jd x0 x1=some r):bQ Tryz.prog 53 [iI x0,iI x1] (.bool r):=by
 unfold jd at H;refine aX Tryz.func53 13 [.tmp 4] ?_;refine aZ H (fun c0 H0 => ?_) (fun c1 H1 => ?_)
 ·obtain rfl:=sI H0;exact pR 10 [V1,V2,.eqT 6 bT,V3] [] [] (aB c0 aN)
 ·refine aK H1 fun g0 H2 => ?_;obtain rfl:=sI H2;exact pR 11 [V1,V2,.eqT 6 bF,V5] [] [] (aB c1 (aC (show (x1:Int)≠0 from g0) aN))
def mC (x0:List Linear) (x1:ah):Option Bool :=
 (iK x0).bind fun y0 =>
 bif y0 then (
  bif decide (((x0.length:Nat):Int)>6000) then (
   some false
  ) else (
   bif (((x1.Mults.length:Nat):Int)==((x0.length:Nat):Int)) then (
    bif decide (x1.Mod<0) then (
     some false
    ) else (
     bif decide (x1.Mod>1099511627776) then (
      some false
     ) else (
      (eH (σ:=(List Int)) (ε:=(List Int)) (ρ:=Bool) (fun i0 s0 =>
       bM (i0<x1.Mults.length) <|
       bif decide ((x1.Mults.getD i0 0)<(-1099511627776)) then (
        some (.ret false)
       ) else (
        bif decide ((x1.Mults.getD i0 0)>1099511627776) then (
         some (.ret false)
        ) else (
         bM ((s0.length+1)*8≤140737488355328) <|
         some (.go (s0++[((x0.getD i0 az).Const)]))
        )
       )
      ) (fun i0 s0=>s0) (x0.length-0) 0 []).bind <| aft fun u0 =>
      (re x0).bind fun y1 =>
      (eH (σ:=Unit) (ε:=Unit) (ρ:=Bool) (fun i1 s1 =>
       (eH (σ:=(List Int)) (ε:=(List Int)) (ρ:=Empty) (fun i2 s2 =>
        (oF (Linear.mk ((x0.getD i2 az).Const) ((x0.getD i2 az).Terms)) (y1.getD i1 [])).bind fun y2 =>
        bM ((s2.length+1)*8≤140737488355328) <|
        some (.go (s2++[y2]))
       ) (fun i2 s2=>s2) (x0.length-0) 0 []).bind <| dI fun u1 =>
       (qw x1.Mults u1).bind fun y3 =>
       bif (y3.2==0) then (
        (jd y3.1 x1.Mod).bind fun y4 =>
        bif y4 then (
         some (.go ())
        ) else (
         some (.ret false)
        )
       ) else (
        some (.ret false)
       )
      ) (fun i1 s1=>()) (y1.length-0) 0 ()).bind <| aft fun u2 =>
      (qw x1.Mults u0).bind fun y5 =>
      bif (y5.2==0) then (
       (jd y5.1 x1.Mod).bind fun y6 =>
       some (!y6)
      ) else (
       some false
      )
     )
    )
   ) else (
    some false
   )
  )
 ) else (
  some false
 )
def lG (x0:List Linear) (x1:ah) (i0:Nat) (s0:List Int):AS:=⟨127,[(0,dS ak x0),(3,.hptr 3 0),(4,.bool false),(5,.rslice 68),(6,nI i0)],[(3,.cells 53 [dS aj x1.Mults,iI x1.Mod]),(68,.row 3 1 (s0.map aj))]⟩
def pd (x0:List Linear) (x1:ah) (u3:List Int):AS:=⟨127,[(0,dS ak x0),(3,.hptr 3 0),(4,.bool false),(5,.rslice 68)],[(3,.cells 53 [dS aj x1.Mults,iI x1.Mod]),(68,.row 3 1 (u3.map aj))]⟩
def mx (x0:List Linear) (x1:ah) (u0:List Int) (y1:List au) (i1:Nat) (s1:Unit):AS:=⟨127,[(0,dS ak x0),(3,.hptr 3 0),(4,.bool false),(5,.rslice 68),(7,dS bt y1),(8,nI i1)],[(3,.cells 53 [dS aj x1.Mults,iI x1.Mod]),(68,.row 3 1 (u0.map aj))]⟩
def px (x1:ah) (u0:List Int) (u4:Unit):AS:=⟨127,[(3,.hptr 3 0),(4,.bool false),(5,.rslice 68)],[(3,.cells 53 [dS aj x1.Mults,iI x1.Mod]),(68,.row 3 1 (u0.map aj))]⟩
def ld (x0:List Linear) (x1:ah) (u0:List Int) (y1:List au) (i1 i2:Nat) (s2:List Int):AS:=⟨127,[(0,dS ak x0),(3,.hptr 3 0),(4,.bool false),(5,.rslice 68),(7,dS bt y1),(8,nI i1),(9,.rslice 94),(10,nI i2)],[(3,.cells 53 [dS aj x1.Mults,iI x1.Mod]),(68,.row 3 1 (u0.map aj)),(94,.row 3 1 (s2.map aj))]⟩
def qh (x0:List Linear) (x1:ah) (u0:List Int) (y1:List au) (i1:Nat) (u5:List Int):AS:=⟨127,[(0,dS ak x0),(3,.hptr 3 0),(4,.bool false),(5,.rslice 68),(7,dS bt y1),(8,nI i1),(9,.rslice 94)],[(3,.cells 53 [dS aj x1.Mults,iI x1.Mod]),(68,.row 3 1 (u0.map aj)),(94,.row 3 1 (u5.map aj))]⟩
theorem hZ (x0:List Linear) (x1:ah) (r:Bool) (H:mC x0 x1=some r):bQ Tryz.prog 25 [dS ak x0,.agg [dS aj x1.Mults,iI x1.Mod]] (.bool r):=by
 unfold mC at H;refine aX Tryz.func25 127 [.tmp 4] ?_;refine aQ H fun y0 h0 H0 => ?_;refine aZ H0 (fun c0 H1 => ?_) (fun c1 H2 => ?_)
 ·refine aZ H1 (fun c2 H3 => ?_) (fun c3 H4 => ?_)
  ·obtain rfl:=sI H3;exact pR 9 [r0 [.m,.v],r0 [.v,.c true bT,.v,.v,.v,.e (nI x0.length),.e bT,.v,.v,.s,.s,.s,.s,.s,.s,.v,.v,.s,.s,.s,.v,.v,.s,.s,.s,.v],V1] [] [] (aC Tryz.call13 (aC (bQ.eq (dM _ _ h0) (cB c0)) (aT (aT (aC (aP ak x0) (aB c2 aN))))))
  ·have c3p:=LD c3;refine aZ H4 (fun c4 H5 => ?_) (fun c5 H6 => ?_)
   ·refine aZ H5 (fun c6 H7 => ?_) (fun c7 H8 => ?_)
    ·obtain rfl:=sI H7;exact pR 9 [r0 [.m,.v],r0 [.v,.c true bT,.v,.v,.v,.e (nI x0.length),.e bF,.v,.v,.v,.v,.e (nI x1.Mults.length),.v,.e (nI x0.length),.e bF,.v,.v,.v,.v,.e bT,.v,.v,.s,.s,.s,.v],V1] [] [] (aC Tryz.call13 (aC (bQ.eq (dM _ _ h0) (cB c0)) (aT (aT (aC (aP ak x0) (aB c3 (aT (aC (aP aj x1.Mults) (aT (aC (aP ak x0) (aM c4 (aB c6 aN))))))))))))
    ·have c7p:=LD c7;refine pD 5 [r0 [.m,.v],r0 [.v,.c true bT,.v,.v,.v,.e (nI x0.length),.e bF,.v,.v,.v,.v,.e (nI x1.Mults.length),.v,.e (nI x0.length),.e bF,.v,.v,.v,.v,.e bF,.v,.v,.v,.v,.v,.v]] [.only [0,3,4,40] [3]] 5 [] (aC Tryz.call13 (aC (bQ.eq (dM _ _ h0) (cB c0)) (aT (aT (aC (aP ak x0) (aB c3 (aT (aC (aP aj x1.Mults) (aT (aC (aP ak x0) (aM c4 (aB c7 aN)))))))))))) ?_;refine aZ H8 (fun c8 H9 => ?_) (fun c9 H10 => ?_)
     ·obtain rfl:=sI H9;exact pR 5 [.eqT 40 bT,V1] [] [] (aB c8 aN)
     ·have c9p:=LD c9;refine pA 9 [.eqT 40 bF,V1,V1] [.er 5 68 3 1,.only [0,3,4,5,6] [3,68]] 8 [false] (lG x0 x1 0 []) (aB c9 aN) ?_;refine aQ H10 fun R0 h1 H11 => ?_;refine pJ 1 (pd x0 x1) R0 ?_ (fun u0 e0 => ?_)
      ·refine pC (lG x0 x1) h1 (fun i0 s0 h2 e1 => ?_) (fun i0 s0 h3 q0 h4 h5 => ?_)
       ·have c10:=lF i0 x0.length (by omega);subst e1;exact pB 5 [r0 [.v,.v,.e (nI x0.length),.e bF]] [.only [0,3,4,5] [3,68]] (pd x0 x1 s0) (aT (aC (aP ak x0) (aB c10 aN)))
       ·have c11:=lT i0 x0.length (by omega);refine aK h4 fun g0 H12 => ?_;refine aZ H12 (fun c12 H13 => ?_) (fun c13 H14 => ?_)
        ·have c12p:=LF c12;obtain rfl:=sI H13;obtain rfl:=aS h5;obtain rfl:=sI (aJ H11);exact pR 14 [r0 [.v,.v,.e (nI x0.length),.e bT],r0 [.v,.v,.v,.e (.dptr [iI (x1.Mults.getD i0 0)]),.v,.e bT,.v,.s,.s,.s,.s,.s,.s,.v],V1] [] [] (aT (aC (aP ak x0) (aB c11 (aI bZ x1.Mults i0 0 (aB c12 aN)))))
        ·have c13p:=LD c13;refine pD 10 [r0 [.v,.v,.e (nI x0.length),.e bT],r0 [.v,.v,.v,.e (.dptr [iI (x1.Mults.getD i0 0)]),.v,.e bF,.v,.v,.v,.v,.e (.dptr [iI (x1.Mults.getD i0 0)]),.v,.v,.v]] [.only [0,3,4,5,6,60] [3,68]] 10 [true] (aT (aC (aP ak x0) (aB c11 (aI bZ x1.Mults i0 0 (aB c13 (aI bZ x1.Mults i0 0 aN)))))) ?_;refine aZ H14 (fun c14 H15 => ?_) (fun c15 H16 => ?_)
         ·obtain rfl:=sI H15;obtain rfl:=aS h5;obtain rfl:=sI (aJ H11);exact pR 5 [.eqT 60 bT,V1] [] [] (aB c14 aN)
         ·have c15p:=LD c15;refine aK H16 fun g1 H17 => ?_;refine bV 0 (ps:=[(x0.map ak).length≤9223372036854775807]) (by kernel_rfl) (fun l0 => ?_);have l1:x0.length≤9223372036854775807:=by simpa only [cI,LI] using l0
          clear l0;obtain rfl:=sI H17;exact pB 5 [.eqT 60 bF,r0 [.v,.v,.v,.e (.dptr (ak (x0.getD i0 az))),.v,.v,.b,.ap,.rwH 68 (.row 3 1 ((s0++[((x0.getD i0 az).Const)]).map aj)),.v],V3] [.only [0,3,4,5,6] [3,68]] (lG x0 x1 (i0+1) (s0++[((x0.getD i0 az).Const)])) (aB c15 (aI bh x0 i0 az (b9 (yf (c:=aj) kg s0 [((x0.getD i0 az).Const)] 8 (by decide) (by first | (simp;done) | simpa using g1)) (aC (Bn 3 1 aj s0 [((x0.getD i0 az).Const)]) (aH i0 aN)))))
      ·subst e0;have H18:=bq H11;refine aQ H18 fun y1 h6 H19 => ?_;refine pA 6 [r0 [.v,.c true (dS bt y1),.v],V1] [.only [0,3,4,5,7,8] [3,68]] 6 [] (mx x0 x1 u0 y1 0 ()) (aC Tryz.call44 (aF (ze _ _ h6) aN)) ?_;refine aQ H19 fun R1 h7 H20 => ?_;refine pJ 1 (px x1 u0) R1 ?_ (fun u2 e2 => ?_)
       ·refine pC (mx x0 x1 u0 y1) h7 (fun i1 s1 h8 e3 => ?_) (fun i1 s1 h9 q1 h10 h11 => ?_)
        ·have c16:=lF i1 y1.length (by omega);subst e3;exact pB 5 [r0 [.v,.v,.e (nI y1.length),.e bF]] [.only [3,4,5] [3,68]] (px x1 u0 ()) (aT (aC (aP bt y1) (aB c16 aN)))
        ·have c17:=lT i1 y1.length (by omega);refine pA 13 [r0 [.v,.v,.e (nI y1.length),.e bT],V1,V1] [.er 9 94 3 1,.only [0,3,4,5,7,8,9,10] [3,68,94]] 13 [true] (ld x0 x1 u0 y1 i1 0 []) (aT (aC (aP bt y1) (aB c17 aN))) ?_;refine aQ h10 fun R2 h12 H21 => ?_;refine pJ 1 (qh x0 x1 u0 y1 i1) R2 ?_ (fun u1 e4 => ?_)
         ·refine pC (ld x0 x1 u0 y1 i1) h12 (fun i2 s2 h13 e5 => ?_) (fun i2 s2 h14 q2 h15 h16 => ?_)
          ·have c18:=lF i2 x0.length (by omega);subst e5;exact pB 5 [r0 [.v,.v,.e (nI x0.length),.e bF]] [.only [0,3,4,5,7,8,9] [3,68,94]] (qh x0 x1 u0 y1 i1 s2) (aT (aC (aP ak x0) (aB c18 aN)))
          ·have c19:=lT i2 x0.length (by omega);refine aQ h15 fun y2 h17 H22 => ?_;refine aK H22 fun g2 H23 => ?_;refine bV 0 (ps:=[(x0.map ak).length≤9223372036854775807]) (by kernel_rfl) (fun l2 => ?_);have l3:x0.length≤9223372036854775807:=by simpa only [cI,LI] using l2
           clear l2;obtain rfl:=sI H23;exact pB 9 [r0 [.v,.v,.e (nI x0.length),.e bT],.rg 11 [.v,.v,.v,.e (.dptr (ak (x0.getD i2 az))),.v,.v,.v,.e (.dptr [.str (y1.getD i1 [])]),.v,.c true (iI y2),.b] [.ap,.rwH 94 (.row 3 1 ((s2++[y2]).map aj)),.v],V3] [.only [0,3,4,5,7,8,9,10] [3,68,94]] (ld x0 x1 u0 y1 i1 (i2+1) (s2++[y2])) (aT (aC (aP ak x0) (aB c19 (aI bh x0 i2 az (aI pZ y1 i1 [] (aC Tryz.call12 (aF (sj _ _ _ h17) (b9 (yf (c:=aj) kg s2 [y2] 8 (by decide) (by first | (simp;done) | simpa using g2)) (aC (Bn 3 1 aj s2 [y2]) (aH i2 aN))))))))))
         ·subst e4;have H24:=bG H21;refine aQ H24 fun y3 h18 H25 => ?_;refine aZ H25 (fun c20 H26 => ?_) (fun c21 H27 => ?_)
          ·refine aQ H26 fun y4 h19 H28 => ?_;refine pD 4 [r0 [.v,.v,.v,.c false (.tup [iI y3.1,iI y3.2]),.v,.v,.v,.v,.v],r0 [.v,.e bF,.v,.v,.v,.v,.c true (.bool y4),.v,.v]] [.only [0,3,4,5,7,8,110] [3,68]] 4 [] (aC Tryz.call52 (aF (mE _ _ _ h18) (aM c20 (aC Tryz.call53 (aF (nV _ _ _ h19) (aT aN)))))) ?_;refine aZ H28 (fun c22 H29 => ?_) (fun c23 H30 => ?_)
           ·refine bV 7 (ps:=[(y1.map bt).length≤9223372036854775807]) (by kernel_rfl) (fun l4 => ?_);have l5:y1.length≤9223372036854775807:=by simpa only [cI,LI] using l4
            clear l4;obtain rfl:=sI H29;exact pB 4 [.eqT 110 bF,V3] [.only [0,3,4,5,7,8] [3,68]] (mx x0 x1 u0 y1 (i1+1) ()) (aM c22 (aH i1 aN))
           ·obtain rfl:=sI H30;obtain rfl:=aS h11;obtain rfl:=sI (aJ H20);exact pR 5 [.eqT 110 bT,V1] [] [] (aM c23 aN)
          ·obtain rfl:=sI H27;obtain rfl:=aS h11;obtain rfl:=sI (aJ H20);exact pR 8 [r0 [.v,.v,.v,.c false (.tup [iI y3.1,iI y3.2]),.v,.v,.v,.v,.v],r0 [.v,.e bT,.v,.s,.s,.s,.s,.s,.v],V1] [] [] (aC Tryz.call52 (aF (mE _ _ _ h18) (aM c21 aN)))
       ·subst e2;have H31:=bq H20;refine aQ H31 fun y5 h20 H32 => ?_;refine aZ H32 (fun c24 H33 => ?_) (fun c25 H34 => ?_)
        ·refine aQ H33 fun y6 h21 H35 => ?_;obtain rfl:=sI H35;exact pR 5 [r0 [.v,.v,.v,.c false (.tup [iI y5.1,iI y5.2]),.v,.v,.v,.v,.v],r0 [.v,.e bT,.v,.v,.v,.v,.c true (.bool y6),.v,.v,.v]] [] [] (aC Tryz.call52 (aF (mE _ _ _ h20) (aB c24 (aC Tryz.call53 (aF (nV _ _ _ h21) (aT aN))))))
        ·obtain rfl:=sI H34;exact pR 5 [r0 [.v,.v,.v,.c false (.tup [iI y5.1,iI y5.2]),.v,.v,.v,.v,.v],r0 [.v,.e bF,.v,.s,.s,.s,.s,.s,.v,.v]] [] [] (aC Tryz.call52 (aF (mE _ _ _ h20) (aB c25 aN)))
   ·obtain rfl:=sI H6;exact pR 9 [r0 [.m,.v],r0 [.v,.c true bT,.v,.v,.v,.e (nI x0.length),.e bF,.v,.v,.v,.v,.e (nI x1.Mults.length),.v,.e (nI x0.length),.e bT,.v,.v,.s,.s,.s,.v,.v,.s,.s,.s,.v],V1] [] [] (aC Tryz.call13 (aC (bQ.eq (dM _ _ h0) (cB c0)) (aT (aT (aC (aP ak x0) (aB c3 (aT (aC (aP aj x1.Mults) (aT (aC (aP ak x0) (aM c5 aN)))))))))))
 ·obtain rfl:=sI H2;exact pR 9 [r0 [.m,.v],r0 [.v,.c true bF,.v,.v,.s,.s,.s,.v,.v,.s,.s,.s,.s,.s,.s,.v,.v,.s,.s,.s,.v,.v,.s,.s,.s,.v],V1] [] [] (aC Tryz.call13 (aC (bQ.eq (dM _ _ h0) (cB c1)) (aT aN)))
def ck (x0 x1:Int):Option Bool :=
 bif (x1==0) then (
  some (x0==0)
 ) else (
  bM ((x1:Int)≠0) <|
  some ((x0.tmod x1)==0)
 )
theorem kf (x0 x1:Int) (r:Bool) (H:ck x0 x1=some r):bQ Tryz.prog 48 [iI x0,iI x1] (.bool r):=by
 unfold ck at H;refine aX Tryz.func48 13 [.tmp 4] ?_;refine aZ H (fun c0 H0 => ?_) (fun c1 H1 => ?_)
 ·obtain rfl:=sI H0;exact pR 10 [V1,V2,.eqT 6 bT,V3] [] [] (aB c0 aN)
 ·refine aK H1 fun g0 H2 => ?_;obtain rfl:=sI H2;exact pR 11 [V1,V2,.eqT 6 bF,V5] [] [] (aB c1 (aC (show (x1:Int)≠0 from g0) aN))
end Go.Proofs.YtlhcekghjfjajaaGreatDoor
