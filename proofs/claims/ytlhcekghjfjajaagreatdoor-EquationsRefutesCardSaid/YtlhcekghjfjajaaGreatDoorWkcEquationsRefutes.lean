/- What functions of the program compute, walked: each as a plain function, with the theorem that the code computes it wherever that answers. Printed by a program, part 3. -/
import Derived.Test.YtlhcekghjfjajaaGreatDoorWkbEquationsRefutes
set_option linter.unusedSimpArgs false
set_option linter.unusedVariables false
namespace Go.Proofs.YtlhcekghjfjajaaGreatDoor
open Go.RowKit Go.Ab Go.Sh
noncomputable def cM (x0:List Linear) (x1:ah):Option Bool :=
 (bU x0).bind fun y0 =>
 bif y0 then (
  bif decide (((x0.length:Nat):Int)>6000) then (
   some false
  ) else (
   bif (((x1.Mults.length:Nat):Int)==((x0.length:Nat):Int)) then (
    bif decide (x1.Mod<0) then (
     some false
    ) else (
     bif decide (x1.Mod>1099511627776) then (
      some false
     ) else (
      bM (8*x0.length≤140737488355328) <|
      (eH (σ:=(List Int)) (ε:=(List Int)) (ρ:=Bool) (fun i0 s0 =>
       bM (i0<x1.Mults.length) <|
       (bE (x1.Mults.getD i0 0) 0).bind fun y1 =>
       bif y1 then (
        bM (i0<s0.length) <|
        some (.go (s0.set i0 ((x0.getD i0 az).Const)))
       ) else (
        some (.ret false)
       )
      ) (fun i0 s0=>s0) (x0.length-0) 0 (List.replicate x0.length (0:Int))).bind <| aft fun u0 =>
      (bj x0).bind fun y2 =>
      (eH (σ:=Unit) (ε:=Unit) (ρ:=Bool) (fun i1 s1 =>
       (eH (σ:=(List Int)) (ε:=(List Int)) (ρ:=Empty) (fun i2 s2 =>
        (cS (Linear.mk ((x0.getD i2 az).Const) ((x0.getD i2 az).Terms)) (y2.getD i1 [])).bind fun y3 =>
        bM (i2<s2.length) <|
        some (.go (s2.set i2 y3))
       ) (fun i2 s2=>s2) (x0.length-0) 0 (List.replicate x0.length (0:Int))).bind <| dI fun u1 =>
       (eL x1.Mults u1).bind fun y4 =>
       bif (y4.2==0) then (
        (ck y4.1 x1.Mod).bind fun y5 =>
        bif y5 then (
         some (.go ())
        ) else (
         some (.ret false)
        )
       ) else (
        some (.ret false)
       )
      ) (fun i1 s1=>()) (y2.length-0) 0 ()).bind <| aft fun u2 =>
      (eL x1.Mults u0).bind fun y6 =>
      bif (y6.2==0) then (
       (ck y6.1 x1.Mod).bind fun y7 =>
       some (!y7)
      ) else (
       some false
      )
     )
    )
   ) else (
    some false
   )
  )
 ) else (
  some false
 )
def iw (x0:List Linear) (x1:ah) (i0:Nat) (s0:List Int):AS:=⟨123,[(0,dS ak x0),(3,.hptr 3 0),(4,.bool false),(5,.rslice 45),(46,dS ak x0),(47,nI x0.length),(48,nI i0)],[(3,.cells 28 [dS aj x1.Mults,iI x1.Mod]),(45,.row 3 1 (s0.map aj))]⟩
def lV (x0:List Linear) (x1:ah) (u3:List Int):AS:=⟨123,[(0,dS ak x0),(3,.hptr 3 0),(4,.bool false),(5,.rslice 45)],[(3,.cells 28 [dS aj x1.Mults,iI x1.Mod]),(45,.row 3 1 (u3.map aj))]⟩
def ir (x0:List Linear) (x1:ah) (u0:List Int) (y2:List au) (i1:Nat) (s1:Unit):AS:=⟨123,[(0,dS ak x0),(3,.hptr 3 0),(4,.bool false),(5,.rslice 45),(67,dS bt y2),(68,nI y2.length),(69,nI i1)],[(3,.cells 28 [dS aj x1.Mults,iI x1.Mod]),(45,.row 3 1 (u0.map aj))]⟩
def mh (x1:ah) (u0:List Int) (u4:Unit):AS:=⟨123,[(3,.hptr 3 0),(4,.bool false),(5,.rslice 45)],[(3,.cells 28 [dS aj x1.Mults,iI x1.Mod]),(45,.row 3 1 (u0.map aj))]⟩
def iq (x0:List Linear) (x1:ah) (u0:List Int) (y2:List au) (i1 i2:Nat) (s2:List Int):AS:=⟨123,[(0,dS ak x0),(3,.hptr 3 0),(4,.bool false),(5,.rslice 45),(9,.str (y2.getD i1 [])),(10,.rslice 75),(67,dS bt y2),(68,nI y2.length),(69,nI i1),(76,dS ak x0),(77,nI x0.length),(78,nI i2)],[(3,.cells 28 [dS aj x1.Mults,iI x1.Mod]),(45,.row 3 1 (u0.map aj)),(75,.row 3 1 (s2.map aj))]⟩
def lh (x0:List Linear) (x1:ah) (u0:List Int) (y2:List au) (i1:Nat) (u5:List Int):AS:=⟨123,[(0,dS ak x0),(3,.hptr 3 0),(4,.bool false),(5,.rslice 45),(10,.rslice 75),(67,dS bt y2),(68,nI y2.length),(69,nI i1)],[(3,.cells 28 [dS aj x1.Mults,iI x1.Mod]),(45,.row 3 1 (u0.map aj)),(75,.row 3 1 (u5.map aj))]⟩
theorem cG (x0:List Linear) (x1:ah) (r:Bool) (H:cM x0 x1=some r):bQ Tryz.prog 19 [dS ak x0,.agg [dS aj x1.Mults,iI x1.Mod]] (.bool r):=by
 unfold cM at H;refine aX Tryz.func19 123 [.tmp 4] ?_;refine aQ H fun y0 h0 H0 => ?_;refine aZ H0 (fun c0 H1 => ?_) (fun c1 H2 => ?_)
 ·refine aZ H1 (fun c2 H3 => ?_) (fun c3 H4 => ?_)
  ·obtain rfl:=sI H3;exact pR 9 [r0 [.m,.v],r0 [.v,.c true bT,.v,.v,.v,.e (nI x0.length),.e bT,.v,.v,.s,.s,.s,.s,.s,.s,.v,.v,.s,.s,.s,.v,.v,.s,.s,.s,.v],V1] [] [] (aC Tryz.call27 (aC (bQ.eq (aW _ _ h0) (cB c0)) (aT (aT (aC (aP ak x0) (aB c2 aN))))))
  ·have c3p:=LD c3;refine aZ H4 (fun c4 H5 => ?_) (fun c5 H6 => ?_)
   ·refine aZ H5 (fun c6 H7 => ?_) (fun c7 H8 => ?_)
    ·obtain rfl:=sI H7;exact pR 9 [r0 [.m,.v],r0 [.v,.c true bT,.v,.v,.v,.e (nI x0.length),.e bF,.v,.v,.v,.v,.e (nI x1.Mults.length),.v,.e (nI x0.length),.e bF,.v,.v,.v,.v,.e bT,.v,.v,.s,.s,.s,.v],V1] [] [] (aC Tryz.call27 (aC (bQ.eq (aW _ _ h0) (cB c0)) (aT (aT (aC (aP ak x0) (aB c3 (aT (aC (aP aj x1.Mults) (aT (aC (aP ak x0) (aM c4 (aB c6 aN))))))))))))
    ·have c7p:=LD c7;refine pD 5 [r0 [.m,.v],r0 [.v,.c true bT,.v,.v,.v,.e (nI x0.length),.e bF,.v,.v,.v,.v,.e (nI x1.Mults.length),.v,.e (nI x0.length),.e bF,.v,.v,.v,.v,.e bF,.v,.v,.v,.v,.v,.v]] [.only [0,3,4,42] [3]] 5 [] (aC Tryz.call27 (aC (bQ.eq (aW _ _ h0) (cB c0)) (aT (aT (aC (aP ak x0) (aB c3 (aT (aC (aP aj x1.Mults) (aT (aC (aP ak x0) (aM c4 (aB c7 aN)))))))))))) ?_;refine aZ H8 (fun c8 H9 => ?_) (fun c9 H10 => ?_)
     ·obtain rfl:=sI H9;exact pR 5 [.eqT 42 bT,V1] [] [] (aB c8 aN)
     ·have c9p:=LD c9;refine aK H10 fun g0 H11 => ?_;refine pA 9 [.eqT 42 bF,r0 [.v,.e (nI x0.length),.mk x0.length,.rwH 45 (.row 3 1 ((List.replicate x0.length (0:Int)).map aj)),.v],r0 [.v,.e (nI x0.length),.v]] [.only [0,3,4,5,46,47,48] [3,45]] 8 [false] (iw x0 x1 0 (List.replicate x0.length (0:Int))) (aB c9 (aT (aC (aP ak x0) (aC (show ((x0.length:Nat):Int)=((x0.length:Nat):Int)∧((x0.length:Nat):Int)=((x0.length:Nat):Int)∧8*x0.length≤140737488355328∧x0.length≤9223372036854775807 from ⟨rfl,rfl,by omega,by omega⟩) (aC (vg (z:=E3 Tryz.prog 3) aj (0:Int) x0.length 3 1 (by kernel_rfl)) (aT (aC (aP ak x0) aN))))))) ?_;refine aQ H11 fun R0 h1 H12 => ?_;refine pJ 1 (lV x0 x1) R0 ?_ (fun u0 e0 => ?_)
      ·refine pC (iw x0 x1) h1 (fun i0 s0 h2 e1 => ?_) (fun i0 s0 h3 q0 h4 h5 => ?_)
       ·have c10:=lF i0 x0.length (by omega);subst e1;exact pB 5 [r0 [.e bF]] [.only [0,3,4,5] [3,45]] (lV x0 x1 s0) (aB c10 aN)
       ·have c11:=lT i0 x0.length (by omega);refine aK h4 fun g1 H13 => ?_;refine aQ H13 fun y1 h6 H14 => ?_;refine pD 12 [r0 [.e bT],r0 [.v,.e (.dptr (ak (x0.getD i0 az))),.v,.m,.v,.m],r0 [.v,.v,.v,.e (.dptr [iI (x1.Mults.getD i0 0)]),.v,.c true (.bool y1),.v]] [.only [0,3,4,5,6,7,46,47,48,59] [3,7,45]] 12 [true] (aB c11 (aI bh x0 i0 az (aI bZ x1.Mults i0 0 (aC Tryz.call45 (aF (dd _ _ _ h6) (aT aN)))))) ?_;refine aZ H14 (fun c12 H15 => ?_) (fun c13 H16 => ?_)
        ·refine aK H15 fun g2 H17 => ?_;refine bV 0 (ps:=[(x0.map ak).length≤9223372036854775807]) (by kernel_rfl) (fun l0 => ?_);have l1:x0.length≤9223372036854775807:=by simpa only [cI,LI] using l0
         clear l0;obtain rfl:=sI H17;exact pB 5 [.eqT 59 bF,r0 (V 5 [.rs i0 0,.rwH 45 (.row 3 1 ((s0.set i0 ((x0.getD i0 az).Const)).map aj))]),V2] [.only [0,3,4,5,46,47,48] [3,45]] (iw x0 x1 (i0+1) (s0.set i0 ((x0.getD i0 az).Const))) (aM c12 (aC (show (0:Int)≤((i0:Nat):Int)∧((i0:Nat):Int)<((s0.map aj).length:Int) from by rw [LI];omega) (aC (iS (f:=aj) (l:=s0) (n:=i0) 1 0 1 (by omega) (by decide)) (aC (uE (f:=aj) 3 1 s0 i0 0 ((x0.getD i0 az).Const) 0 [iI ((x0.getD i0 az).Const)] (by omega) rfl) (aH i0 aN)))))
        ·obtain rfl:=sI H16;obtain rfl:=aS h5;obtain rfl:=sI (aJ H12);exact pR 5 [.eqT 59 bT,V1] [] [] (aM c13 aN)
      ·subst e0;have H18:=bq H12;refine aQ H18 fun y2 h7 H19 => ?_;refine pA 4 [r0 [.v,.c true (dS bt y2),.e (nI y2.length),.v]] [.only [0,3,4,5,67,68,69] [3,45]] 4 [] (ir x0 x1 u0 y2 0 ()) (aC Tryz.call31 (aF (dq _ _ h7) (aT (aC (aP bt y2) aN)))) ?_;refine aQ H19 fun R1 h8 H20 => ?_;refine pJ 1 (mh x1 u0) R1 ?_ (fun u2 e2 => ?_)
       ·refine pC (ir x0 x1 u0 y2) h8 (fun i1 s1 h9 e3 => ?_) (fun i1 s1 h10 q1 h11 h12 => ?_)
        ·have c14:=lF i1 y2.length (by omega);subst e3;exact pB 5 [r0 [.e bF]] [.only [3,4,5] [3,45]] (mh x1 u0 ()) (aB c14 aN)
        ·have c15:=lT i1 y2.length (by omega);refine pA 15 [r0 [.e bT],r0 [.e (.dptr [.str (y2.getD i1 [])]),.v,.v],r0 [.v,.e (nI x0.length),.mk x0.length,.rwH 75 (.row 3 1 ((List.replicate x0.length (0:Int)).map aj)),.v],r0 [.v,.e (nI x0.length),.v]] [.only [0,3,4,5,9,10,67,68,69,76,77,78] [3,45,75]] 15 [true] (iq x0 x1 u0 y2 i1 0 (List.replicate x0.length (0:Int))) (aB c15 (aI pZ y2 i1 [] (aT (aC (aP ak x0) (aC (show ((x0.length:Nat):Int)=((x0.length:Nat):Int)∧((x0.length:Nat):Int)=((x0.length:Nat):Int)∧8*x0.length≤140737488355328∧x0.length≤9223372036854775807 from ⟨rfl,rfl,by omega,by omega⟩) (aC (vg (z:=E3 Tryz.prog 3) aj (0:Int) x0.length 3 1 (by kernel_rfl)) (aT (aC (aP ak x0) aN)))))))) ?_;refine aQ h11 fun R2 h13 H21 => ?_;refine pJ 1 (lh x0 x1 u0 y2 i1) R2 ?_ (fun u1 e4 => ?_)
         ·refine pC (iq x0 x1 u0 y2 i1) h13 (fun i2 s2 h14 e5 => ?_) (fun i2 s2 h15 q2 h16 h17 => ?_)
          ·have c16:=lF i2 x0.length (by omega);subst e5;exact pB 5 [r0 [.e bF]] [.only [0,3,4,5,10,67,68,69] [3,45,75]] (lh x0 x1 u0 y2 i1 s2) (aB c16 aN)
          ·have c17:=lT i2 x0.length (by omega);refine aQ h16 fun y3 h18 H22 => ?_;refine aK H22 fun g3 H23 => ?_;refine bV 0 (ps:=[(x0.map ak).length≤9223372036854775807]) (by kernel_rfl) (fun l2 => ?_);have l3:x0.length≤9223372036854775807:=by simpa only [cI,LI] using l2
           clear l2;obtain rfl:=sI H23;exact pB 11 [r0 [.e bT],r0 [.v,.e (.dptr (ak (x0.getD i2 az))),.v,.m,.v,.m],r0 (V 4 [.c true (iI y3),.v,.rs i2 0,.rwH 75 (.row 3 1 ((s2.set i2 y3).map aj))]),V2] [.only [0,3,4,5,9,10,67,68,69,76,77,78] [3,45,75]] (iq x0 x1 u0 y2 i1 (i2+1) (s2.set i2 y3)) (aB c17 (aI bh x0 i2 az (aC Tryz.call46 (aF (ib _ _ _ h18) (aC (show (0:Int)≤((i2:Nat):Int)∧((i2:Nat):Int)<((s2.map aj).length:Int) from by rw [LI];omega) (aC (iS (f:=aj) (l:=s2) (n:=i2) 1 0 1 (by omega) (by decide)) (aC (uE (f:=aj) 3 1 s2 i2 0 y3 0 [iI y3] (by omega) rfl) (aH i2 aN))))))))
         ·subst e4;have H24:=bG H21;refine aQ H24 fun y4 h19 H25 => ?_;refine aZ H25 (fun c18 H26 => ?_) (fun c19 H27 => ?_)
          ·refine aQ H26 fun y5 h20 H28 => ?_;refine pD 4 [r0 [.v,.v,.v,.c false (.tup [iI y4.1,iI y4.2]),.v,.v,.v,.v,.v],r0 [.v,.e bF,.v,.v,.v,.v,.c true (.bool y5),.v,.v]] [.only [0,3,4,5,67,68,69,105] [3,45]] 4 [] (aC Tryz.call47 (aF (hU _ _ _ h19) (aM c18 (aC Tryz.call48 (aF (kf _ _ _ h20) (aT aN)))))) ?_;refine aZ H28 (fun c20 H29 => ?_) (fun c21 H30 => ?_)
           ·refine bV 67 (ps:=[(y2.map bt).length≤9223372036854775807]) (by kernel_rfl) (fun l4 => ?_);have l5:y2.length≤9223372036854775807:=by simpa only [cI,LI] using l4
            clear l4;obtain rfl:=sI H29;exact pB 4 [.eqT 105 bF,V2] [.only [0,3,4,5,67,68,69] [3,45]] (ir x0 x1 u0 y2 (i1+1) ()) (aM c20 (aH i1 aN))
           ·obtain rfl:=sI H30;obtain rfl:=aS h12;obtain rfl:=sI (aJ H20);exact pR 5 [.eqT 105 bT,V1] [] [] (aM c21 aN)
          ·obtain rfl:=sI H27;obtain rfl:=aS h12;obtain rfl:=sI (aJ H20);exact pR 8 [r0 [.v,.v,.v,.c false (.tup [iI y4.1,iI y4.2]),.v,.v,.v,.v,.v],r0 [.v,.e bT,.v,.s,.s,.s,.s,.s,.v],V1] [] [] (aC Tryz.call47 (aF (hU _ _ _ h19) (aM c19 aN)))
       ·subst e2;have H31:=bq H20;refine aQ H31 fun y6 h21 H32 => ?_;refine aZ H32 (fun c22 H33 => ?_) (fun c23 H34 => ?_)
        ·refine aQ H33 fun y7 h22 H35 => ?_;obtain rfl:=sI H35;exact pR 5 [r0 [.v,.v,.v,.c false (.tup [iI y6.1,iI y6.2]),.v,.v,.v,.v,.v],r0 [.v,.e bT,.v,.v,.v,.v,.c true (.bool y7),.v,.v,.v]] [] [] (aC Tryz.call47 (aF (hU _ _ _ h21) (aB c22 (aC Tryz.call48 (aF (kf _ _ _ h22) (aT aN))))))
        ·obtain rfl:=sI H34;exact pR 5 [r0 [.v,.v,.v,.c false (.tup [iI y6.1,iI y6.2]),.v,.v,.v,.v,.v],r0 [.v,.e bF,.v,.s,.s,.s,.s,.s,.v,.v]] [] [] (aC Tryz.call47 (aF (hU _ _ _ h21) (aB c23 aN)))
   ·obtain rfl:=sI H6;exact pR 9 [r0 [.m,.v],r0 [.v,.c true bT,.v,.v,.v,.e (nI x0.length),.e bF,.v,.v,.v,.v,.e (nI x1.Mults.length),.v,.e (nI x0.length),.e bT,.v,.v,.s,.s,.s,.v,.v,.s,.s,.s,.v],V1] [] [] (aC Tryz.call27 (aC (bQ.eq (aW _ _ h0) (cB c0)) (aT (aT (aC (aP ak x0) (aB c3 (aT (aC (aP aj x1.Mults) (aT (aC (aP ak x0) (aM c5 aN)))))))))))
 ·obtain rfl:=sI H2;exact pR 9 [r0 [.m,.v],r0 [.v,.c true bF,.v,.v,.s,.s,.s,.v,.v,.s,.s,.s,.s,.s,.s,.v,.v,.s,.s,.s,.v,.v,.s,.s,.s,.v],V1] [] [] (aC Tryz.call27 (aC (bQ.eq (aW _ _ h0) (cB c1)) (aT aN)))
noncomputable def iP   : Option Bool :=
 (fN 2 3 (-1)).bind fun y0 =>
 (bc [y0] 1).bind fun y1 =>
 (fN 2 (-4) 1).bind fun y2 =>
 (bc [y2,(Linear.mk 0 [])] 1).bind fun y3 =>
 (qx [107]).bind fun y4 =>
 (fN 1 0 1).bind fun y5 =>
 (fN 1 1 0).bind fun y6 =>
 (mO (Linear.mk 0 []) y4 3).bind fun y7 =>
 (fM [y5,y6] [y4,y7]).bind fun y8 =>
 bif (y1.2.2.2==0) then (
  bif (y3.2.2.2==9) then (
   bif (y8.2==0) then (
    bif (y1.2.1==2) then (
     bif (((y1.1.length:Nat):Int)==2) then (
      bM (0<y1.1.length) <|
      bif (((y1.1.getD 0 aw).Var)==[109]) then (
       (dQ (Linear.mk (((y1.1.getD 0 aw).Dim).Const) (((y1.1.getD 0 aw).Dim).Terms))).bind fun y9 =>
       bif (y9==[45,50,95,49,45,49]) then (
        bM (1<y1.1.length) <|
        (dQ (Linear.mk (((y1.1.getD 1 aw).Dim).Const) (((y1.1.getD 1 aw).Dim).Terms))).bind fun y10 =>
        bif (y10==[51,95,49,43,50]) then (
         (mC [y2,(Linear.mk 0 [])] y3.2.2.1).bind fun y11 =>
         bif y11 then (
          (cM [y2,(Linear.mk 0 [])] (ah.mk [1,0] 2)).bind fun y12 =>
          bif y12 then (
           bif (((y8.1.length:Nat):Int)==2) then (
            bM (0<y8.1.length) <|
            (dQ (Linear.mk (((y8.1.getD 0 aw).Dim).Const) (((y8.1.getD 0 aw).Dim).Terms))).bind fun y13 =>
            bif (y13==[50,107,43,49]) then (
             bM (1<y8.1.length) <|
             (dQ (Linear.mk (((y8.1.getD 1 aw).Dim).Const) (((y8.1.getD 1 aw).Dim).Terms))).bind fun y14 =>
             some (y14==[107,45,49])
            ) else (
             some false
            )
           ) else (
            some false
           )
          ) else (
           some false
          )
         ) else (
          some false
         )
        ) else (
         some false
        )
       ) else (
        some false
       )
      ) else (
       some false
      )
     ) else (
      some false
     )
    ) else (
     some false
    )
   ) else (
    some false
   )
  ) else (
   some false
  )
 ) else (
  some false
 )
theorem hJ   (r:Bool) (H:iP  = some r):bQ Tryz.prog 7 [] (.bool r):=by
 unfold iP at H;refine aX Tryz.func7 118 [.tmp 0] ?_;refine aQ H fun y0 h0 H0 => ?_;refine aQ H0 fun y1 h1 H1 => ?_;refine aQ H1 fun y2 h2 H2 => ?_;refine aQ H2 fun y3 h3 H3 => ?_;refine aQ H3 fun y4 h4 H4 => ?_;refine aQ H4 fun y5 h5 H5 => ?_;refine aQ H5 fun y6 h6 H6 => ?_;refine aQ H6 fun y7 h7 H7 => ?_;refine aQ H7 fun y8 h8 H8 => ?_;refine pD 13 [V1,r0 [.c true (.agg [iI y0.Const,dS ao y0.Terms]),.b,.c true (.tup [dS aA y1.1,iI y1.2.1,.agg [dS aj y1.2.2.1.Mults,iI y1.2.2.1.Mod],iI y1.2.2.2]),.v,.v,.v,.v,.v,.m,.v,.v,.m,.v],r0 [.c true (.agg [iI y2.Const,dS ao y2.Terms]),.b,.b,.wk 23 [(1,1)],.v],r0 [.v,.c true (.tup [dS aA y3.1,iI y3.2.1,.agg [dS aj y3.2.2.1.Mults,iI y3.2.2.1.Mod],iI y3.2.2.2]),.v,.v,.v,.v,.v,.m,.v,.v,.m,.v],r0 [.c true (.agg [iI y4.Const,dS ao y4.Terms]),.m,.m],.rg 13 [.c true (.agg [iI y5.Const,dS ao y5.Terms]),.c true (.agg [iI y6.Const,dS ao y6.Terms]),.b,.v,.b,.v,.cw true [(0,[(1,0)])] (.agg [iI y7.Const,dS ao y7.Terms]),.b,.c true (.tup [dS aA y8.1,iI y8.2]),.v,.v,.v,.v] [.v]] [.only [0,1,2,4,5,8,9,11,12] [8]] 13 [] (aC Tryz.call21 (aF (mK _ _ _ _ h0) (aC Tryz.call9 (aF (db _ _ _ h1) (aC Tryz.call21 (aF (mK _ _ _ _ h2) (aC Tryz.call9 (aF (db _ _ _ h3) (aC Tryz.call22 (aF (Bi _ _ h4) (aC Tryz.call21 (aF (mK _ _ _ _ h5) (aC Tryz.call21 (aF (mK _ _ _ _ h6) (aC Tryz.call16 (aF (w4 _ _ _ _ h7) (aC Tryz.call23 (aF (su _ _ _ h8) aN)))))))))))))))))) ?_;refine aZ H8 (fun c0 H9 => ?_) (fun c1 H10 => ?_)
 ·refine aZ H9 (fun c2 H11 => ?_) (fun c3 H12 => ?_)
  ·refine aZ H11 (fun c4 H13 => ?_) (fun c5 H14 => ?_)
   ·refine aZ H13 (fun c6 H15 => ?_) (fun c7 H16 => ?_)
    ·refine aZ H15 (fun c8 H17 => ?_) (fun c9 H18 => ?_)
     ·refine aK H17 fun g0 H19 => ?_;refine aZ H19 (fun c10 H20 => ?_) (fun c11 H21 => ?_)
      ·refine aQ H20 fun y9 h9 H22 => ?_;refine aZ H22 (fun c12 H23 => ?_) (fun c13 H24 => ?_)
       ·refine aK H23 fun g1 H25 => ?_;refine aQ H25 fun y10 h10 H26 => ?_;refine aZ H26 (fun c14 H27 => ?_) (fun c15 H28 => ?_)
        ·refine aQ H27 fun y11 h11 H29 => ?_;refine aZ H29 (fun c16 H30 => ?_) (fun c17 H31 => ?_)
         ·refine aQ H30 fun y12 h12 H32 => ?_;refine aZ H32 (fun c18 H33 => ?_) (fun c19 H34 => ?_)
          ·refine aZ H33 (fun c20 H35 => ?_) (fun c21 H36 => ?_)
           ·refine aK H35 fun g2 H37 => ?_;refine aQ H37 fun y13 h13 H38 => ?_;refine aZ H38 (fun c22 H39 => ?_) (fun c23 H40 => ?_)
            ·refine aK H39 fun g3 H41 => ?_;refine aQ H41 fun y14 h14 H42 => ?_;obtain rfl:=sI H42;exact pR 2 [r0 [.v,.e bT,.v,.v,.e bT,.v,.v,.v,.e bT,.v,.v,.v,.e bT,.v,.v,.v,.e (nI y1.1.length),.e bT,.v,.v,.v,.e (.dptr (aA (y1.1.getD 0 aw))),.v,.v,.e bT,.v,.v,.v,.e (.dptr (aA (y1.1.getD 0 aw))),.v,.v,.c true (.str y9),.e bT,.v,.v,.v,.e (.dptr (aA (y1.1.getD 1 aw))),.v,.v,.c true (.str y10),.e bT,.v,.v,.v,.v,.c true bT,.v,.v,.v,.b,.b,.c true bT,.v,.v,.v,.e (nI y8.1.length),.e bT,.v,.v,.v,.e (.dptr (aA (y8.1.getD 0 aw))),.v,.v,.c true (.str y13),.e bT,.v,.v,.v,.e (.dptr (aA (y8.1.getD 1 aw))),.v,.v,.c true (.str y14),.v,.v,.v]] [] [] (aB c0 (aB c2 (aB c4 (aB c6 (aT (aC (aP aA y1.1) (aB c8 (aI bg y1.1 0 aw (aB c10 (aI bg y1.1 0 aw (aC Tryz.call24 (aF (bB _ _ h9) (aB c12 (aI bg y1.1 1 aw (aC Tryz.call24 (aF (bB _ _ h10) (aB c14 (aC Tryz.call25 (aC (bQ.eq (hZ _ _ _ h11) (cB c16)) (aC Tryz.call19 (aC (bQ.eq (cG _ _ _ h12) (cB c18)) (aT (aC (aP aA y8.1) (aB c20 (aI bg y8.1 0 aw (aC Tryz.call24 (aF (bB _ _ h13) (aB c22 (aI bg y8.1 1 aw (aC Tryz.call24 (aF (bB _ _ h14) aN)))))))))))))))))))))))))))))))
            ·obtain rfl:=sI H40;exact pR 2 [r0 [.v,.e bT,.v,.v,.e bT,.v,.v,.v,.e bT,.v,.v,.v,.e bT,.v,.v,.v,.e (nI y1.1.length),.e bT,.v,.v,.v,.e (.dptr (aA (y1.1.getD 0 aw))),.v,.v,.e bT,.v,.v,.v,.e (.dptr (aA (y1.1.getD 0 aw))),.v,.v,.c true (.str y9),.e bT,.v,.v,.v,.e (.dptr (aA (y1.1.getD 1 aw))),.v,.v,.c true (.str y10),.e bT,.v,.v,.v,.v,.c true bT,.v,.v,.v,.b,.b,.c true bT,.v,.v,.v,.e (nI y8.1.length),.e bT,.v,.v,.v,.e (.dptr (aA (y8.1.getD 0 aw))),.v,.v,.c true (.str y13),.e bF,.v,.v,.s,.s,.s,.s,.s,.s,.v,.v]] [] [] (aB c0 (aB c2 (aB c4 (aB c6 (aT (aC (aP aA y1.1) (aB c8 (aI bg y1.1 0 aw (aB c10 (aI bg y1.1 0 aw (aC Tryz.call24 (aF (bB _ _ h9) (aB c12 (aI bg y1.1 1 aw (aC Tryz.call24 (aF (bB _ _ h10) (aB c14 (aC Tryz.call25 (aC (bQ.eq (hZ _ _ _ h11) (cB c16)) (aC Tryz.call19 (aC (bQ.eq (cG _ _ _ h12) (cB c18)) (aT (aC (aP aA y8.1) (aB c20 (aI bg y8.1 0 aw (aC Tryz.call24 (aF (bB _ _ h13) (aB c23 aN))))))))))))))))))))))))))))
           ·obtain rfl:=sI H36;exact pR 2 [r0 [.v,.e bT,.v,.v,.e bT,.v,.v,.v,.e bT,.v,.v,.v,.e bT,.v,.v,.v,.e (nI y1.1.length),.e bT,.v,.v,.v,.e (.dptr (aA (y1.1.getD 0 aw))),.v,.v,.e bT,.v,.v,.v,.e (.dptr (aA (y1.1.getD 0 aw))),.v,.v,.c true (.str y9),.e bT,.v,.v,.v,.e (.dptr (aA (y1.1.getD 1 aw))),.v,.v,.c true (.str y10),.e bT,.v,.v,.v,.v,.c true bT,.v,.v,.v,.b,.b,.c true bT,.v,.v,.v,.e (nI y8.1.length),.e bF,.v,.v,.s,.s,.s,.s,.s,.s,.v,.v,.s,.s,.s,.s,.s,.s,.v,.v]] [] [] (aB c0 (aB c2 (aB c4 (aB c6 (aT (aC (aP aA y1.1) (aB c8 (aI bg y1.1 0 aw (aB c10 (aI bg y1.1 0 aw (aC Tryz.call24 (aF (bB _ _ h9) (aB c12 (aI bg y1.1 1 aw (aC Tryz.call24 (aF (bB _ _ h10) (aB c14 (aC Tryz.call25 (aC (bQ.eq (hZ _ _ _ h11) (cB c16)) (aC Tryz.call19 (aC (bQ.eq (cG _ _ _ h12) (cB c18)) (aT (aC (aP aA y8.1) (aB c21 aN))))))))))))))))))))))))
          ·obtain rfl:=sI H34;exact pR 2 [r0 [.v,.e bT,.v,.v,.e bT,.v,.v,.v,.e bT,.v,.v,.v,.e bT,.v,.v,.v,.e (nI y1.1.length),.e bT,.v,.v,.v,.e (.dptr (aA (y1.1.getD 0 aw))),.v,.v,.e bT,.v,.v,.v,.e (.dptr (aA (y1.1.getD 0 aw))),.v,.v,.c true (.str y9),.e bT,.v,.v,.v,.e (.dptr (aA (y1.1.getD 1 aw))),.v,.v,.c true (.str y10),.e bT,.v,.v,.v,.v,.c true bT,.v,.v,.v,.b,.b,.c true bF,.v,.v,.s,.s,.s,.v,.v,.s,.s,.s,.s,.s,.s,.v,.v,.s,.s,.s,.s,.s,.s,.v,.v]] [] [] (aB c0 (aB c2 (aB c4 (aB c6 (aT (aC (aP aA y1.1) (aB c8 (aI bg y1.1 0 aw (aB c10 (aI bg y1.1 0 aw (aC Tryz.call24 (aF (bB _ _ h9) (aB c12 (aI bg y1.1 1 aw (aC Tryz.call24 (aF (bB _ _ h10) (aB c14 (aC Tryz.call25 (aC (bQ.eq (hZ _ _ _ h11) (cB c16)) (aC Tryz.call19 (aC (bQ.eq (cG _ _ _ h12) (cB c19)) aN)))))))))))))))))))))
         ·obtain rfl:=sI H31;exact pR 2 [r0 [.v,.e bT,.v,.v,.e bT,.v,.v,.v,.e bT,.v,.v,.v,.e bT,.v,.v,.v,.e (nI y1.1.length),.e bT,.v,.v,.v,.e (.dptr (aA (y1.1.getD 0 aw))),.v,.v,.e bT,.v,.v,.v,.e (.dptr (aA (y1.1.getD 0 aw))),.v,.v,.c true (.str y9),.e bT,.v,.v,.v,.e (.dptr (aA (y1.1.getD 1 aw))),.v,.v,.c true (.str y10),.e bT,.v,.v,.v,.v,.c true bF,.v,.v,.s,.s,.s,.s,.v,.v,.s,.s,.s,.v,.v,.s,.s,.s,.s,.s,.s,.v,.v,.s,.s,.s,.s,.s,.s,.v,.v]] [] [] (aB c0 (aB c2 (aB c4 (aB c6 (aT (aC (aP aA y1.1) (aB c8 (aI bg y1.1 0 aw (aB c10 (aI bg y1.1 0 aw (aC Tryz.call24 (aF (bB _ _ h9) (aB c12 (aI bg y1.1 1 aw (aC Tryz.call24 (aF (bB _ _ h10) (aB c14 (aC Tryz.call25 (aC (bQ.eq (hZ _ _ _ h11) (cB c17)) aN)))))))))))))))))))
        ·obtain rfl:=sI H28;exact pR 2 [r0 [.v,.e bT,.v,.v,.e bT,.v,.v,.v,.e bT,.v,.v,.v,.e bT,.v,.v,.v,.e (nI y1.1.length),.e bT,.v,.v,.v,.e (.dptr (aA (y1.1.getD 0 aw))),.v,.v,.e bT,.v,.v,.v,.e (.dptr (aA (y1.1.getD 0 aw))),.v,.v,.c true (.str y9),.e bT,.v,.v,.v,.e (.dptr (aA (y1.1.getD 1 aw))),.v,.v,.c true (.str y10),.e bF,.v,.v,.s,.s,.s,.v,.v,.s,.s,.s,.s,.v,.v,.s,.s,.s,.v,.v,.s,.s,.s,.s,.s,.s,.v,.v,.s,.s,.s,.s,.s,.s,.v,.v]] [] [] (aB c0 (aB c2 (aB c4 (aB c6 (aT (aC (aP aA y1.1) (aB c8 (aI bg y1.1 0 aw (aB c10 (aI bg y1.1 0 aw (aC Tryz.call24 (aF (bB _ _ h9) (aB c12 (aI bg y1.1 1 aw (aC Tryz.call24 (aF (bB _ _ h10) (aB c15 aN)))))))))))))))))
       ·obtain rfl:=sI H24;exact pR 2 [r0 [.v,.e bT,.v,.v,.e bT,.v,.v,.v,.e bT,.v,.v,.v,.e bT,.v,.v,.v,.e (nI y1.1.length),.e bT,.v,.v,.v,.e (.dptr (aA (y1.1.getD 0 aw))),.v,.v,.e bT,.v,.v,.v,.e (.dptr (aA (y1.1.getD 0 aw))),.v,.v,.c true (.str y9),.e bF,.v,.v,.s,.s,.s,.s,.s,.s,.v,.v,.s,.s,.s,.v,.v,.s,.s,.s,.s,.v,.v,.s,.s,.s,.v,.v,.s,.s,.s,.s,.s,.s,.v,.v,.s,.s,.s,.s,.s,.s,.v,.v]] [] [] (aB c0 (aB c2 (aB c4 (aB c6 (aT (aC (aP aA y1.1) (aB c8 (aI bg y1.1 0 aw (aB c10 (aI bg y1.1 0 aw (aC Tryz.call24 (aF (bB _ _ h9) (aB c13 aN)))))))))))))
      ·obtain rfl:=sI H21;exact pR 2 [r0 [.v,.e bT,.v,.v,.e bT,.v,.v,.v,.e bT,.v,.v,.v,.e bT,.v,.v,.v,.e (nI y1.1.length),.e bT,.v,.v,.v,.e (.dptr (aA (y1.1.getD 0 aw))),.v,.v,.e bF,.v,.v,.s,.s,.s,.s,.s,.s,.v,.v,.s,.s,.s,.s,.s,.s,.v,.v,.s,.s,.s,.v,.v,.s,.s,.s,.s,.v,.v,.s,.s,.s,.v,.v,.s,.s,.s,.s,.s,.s,.v,.v,.s,.s,.s,.s,.s,.s,.v,.v]] [] [] (aB c0 (aB c2 (aB c4 (aB c6 (aT (aC (aP aA y1.1) (aB c8 (aI bg y1.1 0 aw (aB c11 aN)))))))))
     ·obtain rfl:=sI H18;exact pR 2 [r0 [.v,.e bT,.v,.v,.e bT,.v,.v,.v,.e bT,.v,.v,.v,.e bT,.v,.v,.v,.e (nI y1.1.length),.e bF,.v,.v,.s,.s,.s,.s,.s,.v,.v,.s,.s,.s,.s,.s,.s,.v,.v,.s,.s,.s,.s,.s,.s,.v,.v,.s,.s,.s,.v,.v,.s,.s,.s,.s,.v,.v,.s,.s,.s,.v,.v,.s,.s,.s,.s,.s,.s,.v,.v,.s,.s,.s,.s,.s,.s,.v,.v]] [] [] (aB c0 (aB c2 (aB c4 (aB c6 (aT (aC (aP aA y1.1) (aB c9 aN)))))))
    ·obtain rfl:=sI H16;exact pR 2 [r0 [.v,.e bT,.v,.v,.e bT,.v,.v,.v,.e bT,.v,.v,.v,.e bF,.v,.v,.s,.s,.s,.v,.v,.s,.s,.s,.s,.s,.v,.v,.s,.s,.s,.s,.s,.s,.v,.v,.s,.s,.s,.s,.s,.s,.v,.v,.s,.s,.s,.v,.v,.s,.s,.s,.s,.v,.v,.s,.s,.s,.v,.v,.s,.s,.s,.s,.s,.s,.v,.v,.s,.s,.s,.s,.s,.s,.v,.v]] [] [] (aB c0 (aB c2 (aB c4 (aB c7 aN))))
   ·obtain rfl:=sI H14;exact pR 2 [r0 [.v,.e bT,.v,.v,.e bT,.v,.v,.v,.e bF,.v,.v,.s,.s,.v,.v,.s,.s,.s,.v,.v,.s,.s,.s,.s,.s,.v,.v,.s,.s,.s,.s,.s,.s,.v,.v,.s,.s,.s,.s,.s,.s,.v,.v,.s,.s,.s,.v,.v,.s,.s,.s,.s,.v,.v,.s,.s,.s,.v,.v,.s,.s,.s,.s,.s,.s,.v,.v,.s,.s,.s,.s,.s,.s,.v,.v]] [] [] (aB c0 (aB c2 (aB c5 aN)))
  ·obtain rfl:=sI H12;exact pR 2 [r0 [.v,.e bT,.v,.v,.e bF,.v,.v,.s,.s,.v,.v,.s,.s,.v,.v,.s,.s,.s,.v,.v,.s,.s,.s,.s,.s,.v,.v,.s,.s,.s,.s,.s,.s,.v,.v,.s,.s,.s,.s,.s,.s,.v,.v,.s,.s,.s,.v,.v,.s,.s,.s,.s,.v,.v,.s,.s,.s,.v,.v,.s,.s,.s,.s,.s,.s,.v,.v,.s,.s,.s,.s,.s,.s,.v,.v]] [] [] (aB c0 (aB c3 aN))
 ·obtain rfl:=sI H10;exact pR 2 [r0 [.v,.e bF,.v,.s,.s,.v,.v,.s,.s,.v,.v,.s,.s,.v,.v,.s,.s,.s,.v,.v,.s,.s,.s,.s,.s,.v,.v,.s,.s,.s,.s,.s,.s,.v,.v,.s,.s,.s,.s,.s,.s,.v,.v,.s,.s,.s,.v,.v,.s,.s,.s,.s,.v,.v,.s,.s,.s,.v,.v,.s,.s,.s,.s,.s,.s,.v,.v,.s,.s,.s,.s,.s,.s,.v,.v]] [] [] (aB c1 aN)
def nQ (x0:Linear) (x1:Int):Option Bool :=
 (eH (σ:=Unit) (ε:=Unit) (ρ:=Bool) (fun i0 s0 =>
  bif decide (((((x0.Terms.getD i0 ay).Var).length:Nat):Int)>40) then (
   some (.ret false)
  ) else (
   some (.go ())
  )
 ) (fun i0 s0=>()) (x0.Terms.length-0) 0 ()).bind <| aft fun u0 =>
 some (decide (((x0.Terms.length:Nat):Int)≤x1))
def oL (x0:Linear) (x1:Int) (i0:Nat) (s0:Unit):AS:=⟨26,[(1,iI x1),(2,.hptr 2 0),(4,.bool false),(5,nI i0)],[(2,.cells 34 [iI x0.Const,dS ao x0.Terms])]⟩
def rZ (x0:Linear) (x1:Int) (u1:Unit):AS:=⟨26,[(1,iI x1),(2,.hptr 2 0),(4,.bool false)],[(2,.cells 34 [iI x0.Const,dS ao x0.Terms])]⟩
theorem AH (x0:Linear) (x1:Int) (r:Bool) (H:nQ x0 x1=some r):bQ Tryz.prog 26 [.agg [iI x0.Const,dS ao x0.Terms],iI x1] (.bool r):=by
 unfold nQ at H;refine aX Tryz.func26 26 [.tmp 4] ?_;refine pA 6 [r0 [.m,.v],V1] [.only [1,2,4,5] [2]] 6 [] (oL x0 x1 0 ()) aN ?_;refine aQ H fun R0 h0 H0 => ?_;refine pJ 1 (rZ x0 x1) R0 ?_ (fun u0 e0 => ?_)
 ·refine pC (oL x0 x1) h0 (fun i0 s0 h1 e1 => ?_) (fun i0 s0 h2 q0 h3 h4 => ?_)
  ·have c0:=lF i0 x0.Terms.length (by omega);subst e1;exact pB 5 [r0 [.v,.v,.v,.e (nI x0.Terms.length),.e bF]] [.only [1,2,4] [2]] (rZ x0 x1 ()) (aT (aC (aP ao x0.Terms) (aB c0 aN)))
  ·have c1:=lT i0 x0.Terms.length (by omega);refine pD 9 [r0 [.v,.v,.v,.e (nI x0.Terms.length),.e bT],r0 [.v,.v,.v,.e (.dptr (ao (x0.Terms.getD i0 ay))),.v,.v,.v,.v]] [.only [1,2,4,5,20] [2]] 9 [true] (aT (aC (aP ao x0.Terms) (aB c1 (aI bf x0.Terms i0 ay (aT aN))))) ?_;refine aZ h3 (fun c2 H1 => ?_) (fun c3 H2 => ?_)
   ·obtain rfl:=sI H1;obtain rfl:=aS h4;obtain rfl:=sI (aJ H0);exact pR 5 [.eqT 20 bT,V1] [] [] (aB c2 aN)
   ·have c3p:=LD c3;refine mJ 2 1 (ps:=[(x0.Terms.map ao).length≤9223372036854775807]) (by kernel_rfl) (fun l0 => ?_);have l1:x0.Terms.length≤9223372036854775807:=by simpa only [cI,LI] using l0
    clear l0;obtain rfl:=sI H2;exact pB 4 [.eqT 20 bF,V3] [.only [1,2,4,5] [2]] (oL x0 x1 (i0+1) ()) (aB c3 (aH i0 aN))
 ·subst e0;have H3:=bq H0;obtain rfl:=sI H3;exact pR 3 [r0 [.v,.v,.e (nI x0.Terms.length),.v,.v,.v]] [] [] (aT (aC (aP ao x0.Terms) aN))
def nS (x0:List Linear) (x1:Int):Option Bool :=
 (eH (σ:=Unit) (ε:=Unit) (ρ:=Bool) (fun i0 s0 =>
  (nQ (Linear.mk ((x0.getD i0 az).Const) ((x0.getD i0 az).Terms)) 6).bind fun y0 =>
  bif y0 then (
   some (.go ())
  ) else (
   some (.ret false)
  )
 ) (fun i0 s0=>()) (x0.length-0) 0 ()).bind <| aft fun u0 =>
 some (decide (((x0.length:Nat):Int)≤x1))
def od (x0:List Linear) (x1:Int) (i0:Nat) (s0:Unit):AS:=⟨22,[(0,dS ak x0),(1,iI x1),(4,.bool false),(5,nI i0)],[]⟩
def r9 (x0:List Linear) (x1:Int) (u1:Unit):AS:=⟨22,[(0,dS ak x0),(1,iI x1),(4,.bool false)],[]⟩
theorem mN (x0:List Linear) (x1:Int) (r:Bool) (H:nS x0 x1=some r):bQ Tryz.prog 8 [dS ak x0,iI x1] (.bool r):=by
 unfold nS at H;refine aX Tryz.func8 22 [.tmp 4] ?_;refine pA 6 [V1,V1] [.only [0,1,4,5] []] 6 [] (od x0 x1 0 ()) aN ?_;refine aQ H fun R0 h0 H0 => ?_;refine pJ 1 (r9 x0 x1) R0 ?_ (fun u0 e0 => ?_)
 ·refine pC (od x0 x1) h0 (fun i0 s0 h1 e1 => ?_) (fun i0 s0 h2 q0 h3 h4 => ?_)
  ·have c0:=lF i0 x0.length (by omega);subst e1;exact pB 5 [r0 [.v,.v,.e (nI x0.length),.e bF]] [.only [0,1,4] []] (r9 x0 x1 ()) (aT (aC (aP ak x0) (aB c0 aN)))
  ·have c1:=lT i0 x0.length (by omega);refine aQ h3 fun y0 h5 H1 => ?_;refine pD 9 [r0 [.v,.v,.e (nI x0.length),.e bT],r0 [.v,.v,.e (.dptr (ak (x0.getD i0 az))),.v,.c true (.bool y0),.v]] [.only [0,1,4,5,17] []] 9 [true] (aT (aC (aP ak x0) (aB c1 (aI bh x0 i0 az (aC Tryz.call26 (aF (AH _ _ _ h5) (aT aN))))))) ?_;refine aZ H1 (fun c2 H2 => ?_) (fun c3 H3 => ?_)
   ·refine bV 0 (ps:=[(x0.map ak).length≤9223372036854775807]) (by kernel_rfl) (fun l0 => ?_);have l1:x0.length≤9223372036854775807:=by simpa only [cI,LI] using l0
    clear l0;obtain rfl:=sI H2;exact pB 4 [.eqT 17 bF,V3] [.only [0,1,4,5] []] (od x0 x1 (i0+1) ()) (aM c2 (aH i0 aN))
   ·obtain rfl:=sI H3;obtain rfl:=aS h4;obtain rfl:=sI (aJ H0);exact pR 5 [.eqT 17 bT,V1] [] [] (aM c3 aN)
 ·subst e0;have H4:=bq H0;obtain rfl:=sI H4;exact pR 3 [r0 [.v,.e (nI x0.length),.v,.v,.v]] [] [] (aT (aC (aP ak x0) aN))
def my (x0:Linear) (x1:List Value):Option (Int×Int) :=
 (gm x0).bind fun y0 =>
 bif y0 then (
  (eH (σ:=Int) (ε:=Int) (ρ:=(Int×Int)) (fun i0 s0 =>
   (eH (σ:=Unit) (ε:=Nat) (ρ:=Empty) (fun i1 s1 =>
    bif (((x1.getD i1 kl).Var)==((x0.Terms.getD i0 ay).Var)) then (
     some (.brk i1)
    ) else (
     some (.go ())
    )
   ) (fun i1 s1=>i1) (x1.length-0) 0 ()).bind <| dI fun u0 =>
   bif (((u0:Nat):Int)==((x1.length:Nat):Int)) then (
    some (.ret (0,7))
   ) else (
    bM (u0<x1.length) <|
    bif decide (((x1.getD u0 kl).N)<(-1000000000)) then (
     some (.ret (0,2))
    ) else (
     bif decide (((x1.getD u0 kl).N)>1000000000) then (
      some (.ret (0,2))
     ) else (
      some (.go (aL (s0+(aL (((x0.Terms.getD i0 ay).C)*((x1.getD u0 kl).N))))))
     )
    )
   )
  ) (fun i0 s0=>s0) (x0.Terms.length-0) 0 x0.Const).bind <| aft fun u1 =>
  some (u1,0)
 ) else (
  some (0,1)
 )
def nD (x0:Linear) (x1:List Value) (i0:Nat) (s0:Int):AS:=⟨68,[(1,dS ff x1),(2,.hptr 2 0),(4,iI 0),(5,iI 0),(6,iI s0),(7,nI i0)],[(2,.cells 34 [iI x0.Const,dS ao x0.Terms])]⟩
def qS (u2:Int):AS:=⟨68,[(4,iI 0),(5,iI 0),(6,iI u2)],[]⟩
def mS (x0:Linear) (x1:List Value) (i0:Nat) (s0:Int) (i1:Nat) (s1:Unit):AS:=⟨68,[(1,dS ff x1),(2,.hptr 2 0),(4,iI 0),(5,iI 0),(6,iI s0),(7,nI i0),(8,nI i1)],[(2,.cells 34 [iI x0.Const,dS ao x0.Terms])]⟩
def nc (x0:Linear) (x1:List Value) (i0:Nat) (s0:Int) (u3:Nat):AS:=⟨68,[(1,dS ff x1),(2,.hptr 2 0),(4,iI 0),(5,iI 0),(6,iI s0),(7,nI i0),(8,nI u3)],[(2,.cells 34 [iI x0.Const,dS ao x0.Terms])]⟩
theorem yD (x0:Linear) (x1:List Value) (r:Int×Int) (H:my x0 x1=some r):bQ Tryz.prog 40 [.agg [iI x0.Const,dS ao x0.Terms],dS ff x1] (.tup [iI r.1,iI r.2]):=by
 unfold my at H;refine aX Tryz.func40 68 [.tmp 4,.tmp 5] ?_;refine aQ H fun y0 h0 H0 => ?_;refine aZ H0 (fun c0 H1 => ?_) (fun c1 H2 => ?_)
 ·refine pA 14 [.rg 0 [] [.m,.v,.v],.rg 0 [] [.v,.c true (.bool y0),.v],.eqT 12 bF,.rg 0 [] [.v,.v,.v],.rg 0 [] [.v]] [.only [1,2,4,5,6,7] [2]] 13 [false] (nD x0 x1 0 x0.Const) (aC Tryz.call36 (aF (gZ _ _ h0) (aT (aM c0 aN)))) ?_;refine aQ H1 fun R0 h1 H3 => ?_;refine pJ 1 (qS) R0 ?_ (fun u1 e0 => ?_)
  ·refine pC (nD x0 x1) h1 (fun i0 s0 h2 e1 => ?_) (fun i0 s0 h3 q0 h4 h5 => ?_)
   ·have c2:=lF i0 x0.Terms.length (by omega);subst e1;exact pB 5 [r0 [.v,.v,.v,.e (nI x0.Terms.length),.e bF]] [.only [4,5,6] []] (qS s0) (aT (aC (aP ao x0.Terms) (aB c2 aN)))
   ·have c3:=lT i0 x0.Terms.length (by omega);refine pA 11 [r0 [.v,.v,.v,.e (nI x0.Terms.length),.e bT],V1] [.only [1,2,4,5,6,7,8] [2]] 11 [true] (mS x0 x1 i0 s0 0 ()) (aT (aC (aP ao x0.Terms) (aB c3 aN))) ?_;refine aQ h4 fun R1 h6 H4 => ?_;refine pJ 1 (nc x0 x1 i0 s0) R1 ?_ (fun u0 e2 => ?_)
    ·refine pC (mS x0 x1 i0 s0) h6 (fun i1 s1 h7 e3 => ?_) (fun i1 s1 h8 q1 h9 h10 => ?_)
     ·have c4:=lF i1 x1.length (by omega);subst e3;exact pB 5 [.rg 16 [.v,.v,.e (nI x1.length),.e bF,.v,.s,.s,.s,.s,.s,.s,.s,.s,.s,.s,.s] [.s,.v]] [.only [1,2,4,5,6,7,8] [2]] (nc x0 x1 i0 s0 i1) (aT (aC (aP ff x1) (aB c4 aN)))
     ·have c5:=lT i1 x1.length (by omega);refine pD 3 [.rg 16 [.v,.v,.e (nI x1.length),.e bT,.v,.v,.v,.e (.dptr (ff (x1.getD i1 kl))),.v,.v,.v,.v,.v,.e (.dptr (ao (x0.Terms.getD i0 ay))),.v,.v] [.v,.v]] [.only [1,2,4,5,6,7,8,39] [2]] 3 [] (aT (aC (aP ff x1) (aB c5 (aI rh x1 i1 kl (aI bf x0.Terms i0 ay aN))))) ?_;refine aZ h9 (fun c6 H5 => ?_) (fun c7 H6 => ?_)
      ·obtain rfl:=sI H5;obtain rfl:=iU h10;exact pB 3 [.eqT 39 bF] [.only [1,2,4,5,6,7,8] [2]] (nc x0 x1 i0 s0 i1) (aM c6 aN)
      ·refine bV 1 (ps:=[(x1.map ff).length≤9223372036854775807]) (by kernel_rfl) (fun l0 => ?_);have l1:x1.length≤9223372036854775807:=by simpa only [cI,LI] using l0
       clear l0;obtain rfl:=sI H6;exact pB 5 [.eqT 39 bT,V3] [.only [1,2,4,5,6,7,8] [2]] (mS x0 x1 i0 s0 (i1+1) ()) (aM c7 (aH i1 aN))
    ·subst e2;have H7:=bG H4;refine aZ H7 (fun c8 H8 => ?_) (fun c9 H9 => ?_)
     ·obtain rfl:=sI H8;obtain rfl:=aS h5;obtain rfl:=sI (aJ H3);exact pR 8 [r0 [.v,.v,.e (nI x1.length),.v],.eqT 45 bT,V2] [] [] (aT (aC (aP ff x1) (aB c8 aN)))
     ·refine aK H9 fun g0 H10 => ?_;refine aZ H10 (fun c10 H11 => ?_) (fun c11 H12 => ?_)
      ·have c10p:=LF c10;obtain rfl:=sI H11;obtain rfl:=aS h5;obtain rfl:=sI (aJ H3);exact pR 15 [r0 [.v,.v,.e (nI x1.length),.v],.eqT 45 bF,r0 [.v,.v,.e (.dptr (ff (x1.getD u0 kl))),.v,.v,.v],r0 [.v,.e bT,.v,.s,.s,.v],V2] [] [] (aT (aC (aP ff x1) (aB c9 (aI rh x1 u0 kl (aB c10 aN)))))
      ·have c11p:=LD c11;refine pD 11 [r0 [.v,.v,.e (nI x1.length),.v],.eqT 45 bF,r0 [.v,.v,.e (.dptr (ff (x1.getD u0 kl))),.v,.v,.v],r0 [.v,.e bF,.v,.v,.v,.v]] [.only [1,2,4,5,6,7,9,56] [2]] 10 [false] (aT (aC (aP ff x1) (aB c9 (aI rh x1 u0 kl (aB c11 aN))))) ?_;refine aZ H12 (fun c12 H13 => ?_) (fun c13 H14 => ?_)
       ·obtain rfl:=sI H13;obtain rfl:=aS h5;obtain rfl:=sI (aJ H3);exact pR 5 [.eqT 56 bT,V2] [] [] (aB c12 aN)
       ·have c13p:=LD c13;refine mJ 2 1 (ps:=[(x0.Terms.map ao).length≤9223372036854775807]) (by kernel_rfl) (fun l2 => ?_);have l3:x0.Terms.length≤9223372036854775807:=by simpa only [cI,LI] using l2
        clear l2;obtain rfl:=sI H14;exact pB 5 [.eqT 56 bF,r0 (V 4 [.e (.dptr (ao (x0.Terms.getD i0 ay))),.v,.v,.v,.w,.w,.v]),V3] [.only [1,2,4,5,6,7] [2]] (nD x0 x1 (i0+1) (aL (s0+(aL (((x0.Terms.getD i0 ay).C)*((x1.getD u0 kl).N)))))) (aB c13 (aI bf x0.Terms i0 ay (aH i0 aN)))
  ·subst e0;have H15:=bq H3;obtain rfl:=sI H15;exact pR 3 [V3] [] [] aN
 ·obtain rfl:=sI H2;exact pR 10 [r0 [.m,.v,.v],r0 [.v,.c true (.bool y0),.v],.eqT 12 bT,V2] [] [] (aC Tryz.call36 (aF (gZ _ _ h0) (aT (aM c1 aN))))
def j7 (x0:List Linear) (x1:List Value):Option Bool :=
 (eH (σ:=Unit) (ε:=Unit) (ρ:=Bool) (fun i0 s0 =>
  (my (Linear.mk ((x0.getD i0 az).Const) ((x0.getD i0 az).Terms)) x1).bind fun y0 =>
  bif (y0.2==0) then (
   bif (y0.1==0) then (
    some (.go ())
   ) else (
    some (.ret false)
   )
  ) else (
   some (.ret false)
  )
 ) (fun i0 s0=>()) (x0.length-0) 0 ()).bind <| aft fun u0 =>
 some true
def lE (x0:List Linear) (x1:List Value) (i0:Nat) (s0:Unit):AS:=⟨29,[(0,dS ak x0),(1,dS ff x1),(4,.bool false),(5,nI i0)],[]⟩
def po (u1:Unit):AS:=⟨29,[(4,.bool false)],[]⟩
theorem w7 (x0:List Linear) (x1:List Value) (r:Bool) (H:j7 x0 x1=some r):bQ Tryz.prog 15 [dS ak x0,dS ff x1] (.bool r):=by
 unfold j7 at H;refine aX Tryz.func15 29 [.tmp 4] ?_;refine pA 6 [V1,V1] [.only [0,1,4,5] []] 6 [] (lE x0 x1 0 ()) aN ?_;refine aQ H fun R0 h0 H0 => ?_;refine pJ 1 (po) R0 ?_ (fun u0 e0 => ?_)
 ·refine pC (lE x0 x1) h0 (fun i0 s0 h1 e1 => ?_) (fun i0 s0 h2 q0 h3 h4 => ?_)
  ·have c0:=lF i0 x0.length (by omega);subst e1;exact pB 5 [r0 [.v,.v,.e (nI x0.length),.e bF]] [.only [4] []] (po ()) (aT (aC (aP ak x0) (aB c0 aN)))
  ·have c1:=lT i0 x0.length (by omega);refine aQ h3 fun y0 h5 H1 => ?_;refine pD 10 [r0 [.v,.v,.e (nI x0.length),.e bT],r0 [.v,.v,.e (.dptr (ak (x0.getD i0 az))),.v,.v,.c true (.tup [iI y0.1,iI y0.2]),.v,.v,.v,.v,.v]] [.only [0,1,4,5,6,7] []] 10 [true] (aT (aC (aP ak x0) (aB c1 (aI bh x0 i0 az (aC Tryz.call40 (aF (yD _ _ _ h5) aN)))))) ?_;refine aZ H1 (fun c2 H2 => ?_) (fun c3 H3 => ?_)
   ·refine aZ H2 (fun c4 H4 => ?_) (fun c5 H5 => ?_)
    ·refine bV 0 (ps:=[(x0.map ak).length≤9223372036854775807]) (by kernel_rfl) (fun l0 => ?_);have l1:x0.length≤9223372036854775807:=by simpa only [cI,LI] using l0
     clear l0;obtain rfl:=sI H4;exact pB 5 [r0 [.v,.e bF,.v,.v,.v,.v],.eqT 28 bF,V3] [.only [0,1,4,5] []] (lE x0 x1 (i0+1) ()) (aM c2 (aM c4 (aH i0 aN)))
    ·obtain rfl:=sI H5;obtain rfl:=aS h4;obtain rfl:=sI (aJ H0);exact pR 6 [r0 [.v,.e bF,.v,.v,.v,.v],.eqT 28 bT,V1] [] [] (aM c2 (aM c5 aN))
   ·obtain rfl:=sI H3;obtain rfl:=aS h4;obtain rfl:=sI (aJ H0);exact pR 5 [r0 [.v,.e bT,.v,.s,.s,.v],V1] [] [] (aM c3 aN)
 ·subst e0;have H6:=bq H0;obtain rfl:=sI H6;exact pR 3 [V1] [] [] aN
def ki (x0:List Linear) (x1:Int):Option Bool :=
 (eH (σ:=Unit) (ε:=Unit) (ρ:=Bool) (fun i0 s0 =>
  bif decide (((x0.getD i0 az).Const)<(aL (0-x1))) then (
   some (.ret false)
  ) else (
   bif decide (((x0.getD i0 az).Const)>x1) then (
    some (.ret false)
   ) else (
    (kz (σ:=Int) (ε:=Unit) (ρ:=(gC Unit Unit Bool)) (fun s1 =>
     bif decide (s1<((((x0.getD i0 az).Terms).length:Nat):Int)) then (
      bM (0≤s1∧s1<(((x0.getD i0 az).Terms).length:Int)) <|
      bif decide (((((x0.getD i0 az).Terms).getD s1.toNat ay).C)<(aL (0-x1))) then (
       some (.ret (.ret false))
      ) else (
       bif decide (((((x0.getD i0 az).Terms).getD s1.toNat ay).C)>x1) then (
        some (.ret (.ret false))
       ) else (
        some (.go (aL (s1+1)))
       )
      )
     ) else (
      some (.brk ())
     )
    ) 4294967296 0).bind <| aft fun u0 =>
    some (.go ())
   )
  )
 ) (fun i0 s0=>()) (x0.length-0) 0 ()).bind <| aft fun u1 =>
 some true
def mz (x0:List Linear) (x1:Int) (i0:Nat) (s0:Unit):AS:=⟨59,[(0,dS ak x0),(1,iI x1),(4,.bool false),(5,nI i0)],[]⟩
def pM (u2:Unit):AS:=⟨59,[(4,.bool false)],[]⟩
def lq (x0:List Linear) (x1:Int) (i0:Nat) (s1:Int):AS:=⟨59,[(0,dS ak x0),(1,iI x1),(4,.bool false),(5,nI i0),(6,iI s1)],[]⟩
def pc (x0:List Linear) (x1:Int) (i0:Nat) (u3:Unit):AS:=⟨59,[(0,dS ak x0),(1,iI x1),(4,.bool false),(5,nI i0)],[]⟩
theorem qO (x0:List Linear) (x1:Int) (r:Bool) (H:ki x0 x1=some r):bQ Tryz.prog 14 [dS ak x0,iI x1] (.bool r):=by
 unfold ki at H;refine aX Tryz.func14 59 [.tmp 4] ?_;refine pA 6 [V1,V1] [.only [0,1,4,5] []] 6 [] (mz x0 x1 0 ()) aN ?_;refine aQ H fun R0 h0 H0 => ?_;refine pJ 1 (pM) R0 ?_ (fun u1 e0 => ?_)
 ·refine pC (mz x0 x1) h0 (fun i0 s0 h1 e1 => ?_) (fun i0 s0 h2 q0 h3 h4 => ?_)
  ·have c0:=lF i0 x0.length (by omega);subst e1;exact pB 5 [r0 [.v,.v,.e (nI x0.length),.e bF]] [.only [4] []] (pM ()) (aT (aC (aP ak x0) (aB c0 aN)))
  ·have c1:=lT i0 x0.length (by omega);refine aZ h3 (fun c2 H1 => ?_) (fun c3 H2 => ?_)
   ·have c2p:=LF c2;obtain rfl:=sI H1;obtain rfl:=aS h4;obtain rfl:=sI (aJ H0);exact pR 14 [r0 [.v,.v,.e (nI x0.length),.e bT],r0 [.v,.v,.e (.dptr (ak (x0.getD i0 az))),.v,.v,.v,.w,.e bT,.v,.s,.s,.s,.s,.s,.s,.s,.v],V1] [] [] (aT (aC (aP ak x0) (aB c1 (aI bh x0 i0 az (aB c2 aN)))))
   ·have c3p:=LD c3;refine pD 10 [r0 [.v,.v,.e (nI x0.length),.e bT],r0 [.v,.v,.e (.dptr (ak (x0.getD i0 az))),.v,.v,.v,.w,.e bF,.v,.v,.v,.e (.dptr (ak (x0.getD i0 az))),.v,.v,.v,.v,.v]] [.only [0,1,4,5,30] []] 10 [true] (aT (aC (aP ak x0) (aB c1 (aI bh x0 i0 az (aB c3 (aI bh x0 i0 az aN)))))) ?_;refine aZ H2 (fun c4 H3 => ?_) (fun c5 H4 => ?_)
    ·obtain rfl:=sI H3;obtain rfl:=aS h4;obtain rfl:=sI (aJ H0);exact pR 5 [.eqT 30 bT,V1] [] [] (aB c4 aN)
    ·have c5p:=LD c5;refine pA 6 [.eqT 30 bF,V1] [.only [0,1,4,5,6] []] 5 [false] (lq x0 x1 i0 0) (aB c5 aN) ?_;refine aQ H4 fun R1 h5 H5 => ?_;refine pJ 2 (pc x0 x1 i0) R1 ?_ (fun u0 e2 => ?_)
     ·refine qU (lq x0 x1 i0) (by kernel_rfl) h5 (fun s1 q1 h6 h7 => ?_)
      ·refine aZ h6 (fun c6 H6 => ?_) (fun c7 H7 => ?_)
       ·have c6p:=LF c6;refine aK H6 fun g0 H8 => ?_;refine pD 11 [r0 [.v,.v,.v,.e (.dptr (ak (x0.getD i0 az))),.v,.v,.e (iI ((((x0.getD i0 az).Terms).length:Nat):Int)),.v],.eqT 38 bT,r0 [.v,.v,.e (.dptr (ak (x0.getD i0 az))),.v,.v,.v,.e (.dptr (ao (((x0.getD i0 az).Terms).getD s1.toNat ay))),.v,.v,.v]] [.only [0,1,4,5,6,7] []] 10 [true] (aI bh x0 i0 az (aT (aC (aP ao ((x0.getD i0 az).Terms)) (aB c6 (aI bh x0 i0 az (b9 (Kj (f:=ao) (l:=((x0.getD i0 az).Terms)) (n:=s1) ay bf (by decide) (by exact g0)) aN)))))) ?_;refine aZ H8 (fun c8 H9 => ?_) (fun c9 H10 => ?_)
        ·obtain rfl:=sI H9;obtain rfl:=aS h7;obtain rfl:=sI (aJ H5);obtain rfl:=aS h4;obtain rfl:=sI (aJ H0);exact pR 5 [r0 [.v,.v,.w,.e bT,.v,.s,.s,.s,.v],V1] [] [] (aB c8 aN)
        ·refine aZ H10 (fun c10 H11 => ?_) (fun c11 H12 => ?_)
         ·obtain rfl:=sI H11;obtain rfl:=aS h7;obtain rfl:=sI (aJ H5);obtain rfl:=aS h4;obtain rfl:=sI (aJ H0);exact pR 6 [r0 [.v,.v,.w,.e bF,.v,.v,.v,.v,.v],.eqT 58 bT,V1] [] [] (aB c9 (aB c10 aN))
         ·obtain rfl:=sI H12;exact pB 5 [r0 [.v,.v,.w,.e bF,.v,.v,.v,.v,.v],.eqT 58 bF,r0 [.v,.w,.v]] [.only [0,1,4,5,6] []] (lq x0 x1 i0 (aL (s1+1))) (aB c9 (aB c11 aN))
       ·have c7p:=LD c7;obtain rfl:=sI H7;obtain rfl:=iU h7;exact pB 6 [r0 [.v,.v,.v,.e (.dptr (ak (x0.getD i0 az))),.v,.v,.e (iI ((((x0.getD i0 az).Terms).length:Nat):Int)),.v],.eqT 38 bF] [.only [0,1,4,5] []] (pc x0 x1 i0 ()) (aI bh x0 i0 az (aT (aC (aP ao ((x0.getD i0 az).Terms)) (aB c7 aN))))
     ·subst e2;have H13:=bq H5;refine bV 0 (ps:=[(x0.map ak).length≤9223372036854775807]) (by kernel_rfl) (fun l0 => ?_);have l1:x0.length≤9223372036854775807:=by simpa only [cI,LI] using l0
      clear l0;obtain rfl:=sI H13;exact pB 1 [V3] [.only [0,1,4,5] []] (mz x0 x1 (i0+1) ()) (aH i0 aN)
 ·subst e0;have H14:=bq H0;obtain rfl:=sI H14;exact pR 3 [V1] [] [] aN
noncomputable def dK (x0:List Linear) (x1:ah) (x2:List Value):Option Bool :=
 (iP).bind fun y0 =>
 bif y0 then (
  (nS x0 6).bind fun y1 =>
  bif y1 then (
   (iK x0).bind fun y2 =>
   bif y2 then (
    bif decide (((x1.Mults.length:Nat):Int)>8) then (
     some true
    ) else (
     bif decide (((x2.length:Nat):Int)>10) then (
      some true
     ) else (
      (j7 x0 x2).bind fun y3 =>
      (cM x0 x1).bind fun y4 =>
      ((
       bif y4 then (
        bif y3 then (
         some (.ret false)
        ) else (
         some (.brk ())
        )
       ) else (
        some (.brk ())
       )
      ):Option (Out Unit Bool)).bind (aft fun u0 =>
       (bc x0 1000).bind fun y5 =>
       bif (y5.2.2.2==9) then (
        bif y3 then (
         some false
        ) else (
         bif decide (((x0.length:Nat):Int)>4) then (
          some true
         ) else (
          (ki x0 9).bind fun y6 =>
          bif y6 then (
           (cM x0 y5.2.2.1).bind fun y7 =>
           some y7
          ) else (
           some true
          )
         )
        )
       ) else (
        some true
       )
      )
     )
    )
   ) else (
    some true
   )
  ) else (
   some true
  )
 ) else (
  some false
 )
def eE (x0:List Linear) (y3:Bool) (u0:Unit):AS:=⟨68,[(0,dS ak x0),(6,.bool false),(7,.bool y3)],[]⟩
theorem mU (x0:List Linear) (x1:ah) (x2:List Value) (r:Bool) (H:dK x0 x1 x2=some r):bQ Tryz.prog 5 [dS ak x0,.agg [dS aj x1.Mults,iI x1.Mod],dS ff x2] (.bool r):=by
 unfold dK at H;refine aX Tryz.func5 68 [.tmp 6] ?_;refine aQ H fun y0 h0 H0 => ?_;refine aZ H0 (fun c0 H1 => ?_) (fun c1 H2 => ?_)
 ·refine aQ H1 fun y1 h1 H3 => ?_;refine aZ H3 (fun c2 H4 => ?_) (fun c3 H5 => ?_)
  ·refine aQ H4 fun y2 h2 H6 => ?_;refine aZ H6 (fun c4 H7 => ?_) (fun c5 H8 => ?_)
   ·refine aZ H7 (fun c6 H9 => ?_) (fun c7 H10 => ?_)
    ·obtain rfl:=sI H9;exact pR 15 [r0 [.m,.v],r0 [.c true (.bool y0),.v],.eqT 13 bF,r0 [.v,.c true bT,.v,.v,.v,.c true bT,.v,.v,.v,.v,.v,.e (nI x1.Mults.length),.e bT,.v,.v,.s,.s,.s,.v],V1] [] [] (aC Tryz.call7 (aF (hJ _ h0) (aT (aM c0 (aC Tryz.call8 (aC (bQ.eq (mN _ _ _ h1) (cB c2)) (aT (aC Tryz.call13 (aC (bQ.eq (dM _ _ h2) (cB c4)) (aT (aT (aC (aP aj x1.Mults) (aB c6 aN)))))))))))))
    ·refine pD 11 [.rg 0 [] [.m,.v],.rg 0 [] [.c true (.bool y0),.v],.eqT 13 bF,.rg 0 [] [.v,.c true bT,.v,.v,.v,.c true bT,.v,.v,.v,.v,.v,.e (.int .i64 ((x1.Mults.length:Nat):Int)),.e bF,.v,.v,.v,.e (.int .i64 ((x2.length:Nat):Int)),.v,.v]] [.only [0,2,4,6,32] [4]] 10 [false] (aC Tryz.call7 (aF (hJ _ h0) (aT (aM c0 (aC Tryz.call8 (aC (bQ.eq (mN _ _ _ h1) (cB c2)) (aT (aC Tryz.call13 (aC (bQ.eq (dM _ _ h2) (cB c4)) (aT (aT (aC (aP aj x1.Mults) (aB c7 (aT (aC (aP ff x2) aN))))))))))))))) ?_;refine aZ H10 (fun c8 H11 => ?_) (fun c9 H12 => ?_)
     ·obtain rfl:=sI H11;exact pR 5 [.eqT 32 bT,V1] [] [] (aB c8 aN)
     ·refine aQ H12 fun y3 h3 H13 => ?_;refine aQ H13 fun y4 h4 H14 => ?_;refine pD 7 [.eqT 32 bF,r0 [.v,.v,.c true (.bool y3),.v]] [.only [0,4,6,7] [4]] 6 [false] (aB c9 (aC Tryz.call15 (aF (w7 _ _ _ h3) aN))) ?_;refine aQ H14 fun v0 h5 H15 => ?_;refine pJ 1 (eE x0 y3) v0 ?_ (fun u0 e0 => ?_)
      ·refine aZ h5 (fun c10 H16 => ?_) (fun c11 H17 => ?_)
       ·refine aZ H16 (fun c12 H18 => ?_) (fun c13 H19 => ?_)
        ·obtain rfl:=sI H18;obtain rfl:=sI (aJ H15);exact pR 6 [r0 [.v,.v,.c true bT,.v,.v,.v],.eqT 41 bT,V1] [] [] (aC Tryz.call19 (aC (bQ.eq (cG _ _ _ h4) (cB c10)) (aB c12 aN)))
        ·obtain rfl:=sI H19;exact pB 4 [r0 [.v,.v,.c true bT,.v,.v,.v],.eqT 41 bF] [.only [0,6,7] []] (eE x0 y3 ()) (aC Tryz.call19 (aC (bQ.eq (cG _ _ _ h4) (cB c10)) (aB c13 aN)))
       ·obtain rfl:=sI H17;exact pB 3 [r0 [.v,.v,.c true bF,.v,.s,.v]] [.only [0,6,7] []] (eE x0 y3 ()) (aC Tryz.call19 (aC (bQ.eq (cG _ _ _ h4) (cB c11)) aN))
      ·subst e0;have H20:=bq H15;refine aQ H20 fun y5 h6 H21 => ?_;refine aZ H21 (fun c14 H22 => ?_) (fun c15 H23 => ?_)
       ·refine aZ H22 (fun c16 H24 => ?_) (fun c17 H25 => ?_)
        ·obtain rfl:=sI H24;exact pR 12 [r0 [.v,.c true (.tup [dS aA y5.1,iI y5.2.1,.agg [dS aj y5.2.2.1.Mults,iI y5.2.2.1.Mod],iI y5.2.2.2]),.v,.v,.v,.v,.v,.m,.v,.v,.m,.v],V2,.eqT 50 bF,.eqT 7 bT,r0 [.v,.v,.v,.s,.s,.s,.s,.s,.s,.s,.s,.s,.s,.s,.s,.s,.v,.v]] [] [] (aC Tryz.call9 (aF (db _ _ _ h6) (aM c14 (aB c16 (aT aN)))))
        ·refine pD 10 [.rg 0 [] [.v,.c true (.tup [.dslice (y5.1.map aA),.int .i64 y5.2.1,.agg [.dslice (y5.2.2.1.Mults.map aj),.int .i64 y5.2.2.1.Mod],.int .i64 y5.2.2.2]),.v,.v,.v,.v,.v,.m,.v,.v,.m,.v],.rg 0 [] [.v,.v],.eqT 50 bF,.eqT 7 bF] [.only [0,6,7,10] [10]] 8 [false] (aC Tryz.call9 (aF (db _ _ _ h6) (aM c14 (aB c17 aN)))) ?_;refine aZ H25 (fun c18 H26 => ?_) (fun c19 H27 => ?_)
         ·obtain rfl:=sI H26;exact pR 2 [r0 (V 4 [.e (nI x0.length),.e bT,.v,.s,.s,.s,.v,.v,.s,.s,.s,.v,.v,.v])] [] [] (aT (aT (aC (aP ak x0) (aB c18 aN))))
         ·refine aQ H27 fun y6 h7 H28 => ?_;refine aZ H28 (fun c20 H29 => ?_) (fun c21 H30 => ?_)
          ·refine aQ H29 fun y7 h8 H31 => ?_;refine cR H31 fun e1 => ?_;subst e1;exact pR 2 [r0 (V 4 [.e (nI x0.length),.e bF,.v,.v,.c true bT,.v,.v,.v,.v,.v,.c true (.bool y7),.v,.v,.v])] [] [] (aT (aT (aC (aP ak x0) (aB c19 (aC Tryz.call14 (aC (bQ.eq (qO _ _ _ h7) (cB c20)) (aT (aC Tryz.call19 (aF (cG _ _ _ h8) aN)))))))))
          ·obtain rfl:=sI H30;exact pR 2 [r0 (V 4 [.e (nI x0.length),.e bF,.v,.v,.c true bF,.v,.v,.v,.s,.s,.s,.v,.v,.v])] [] [] (aT (aT (aC (aP ak x0) (aB c19 (aC Tryz.call14 (aC (bQ.eq (qO _ _ _ h7) (cB c21)) (aT aN)))))))
       ·obtain rfl:=sI H23;exact pR 10 [r0 [.v,.c true (.tup [dS aA y5.1,iI y5.2.1,.agg [dS aj y5.2.2.1.Mults,iI y5.2.2.1.Mod],iI y5.2.2.2]),.v,.v,.v,.v,.v,.m,.v,.v,.m,.v],V2,.eqT 50 bT,V1] [] [] (aC Tryz.call9 (aF (db _ _ _ h6) (aM c15 aN)))
   ·obtain rfl:=sI H8;exact pR 15 [r0 [.m,.v],r0 [.c true (.bool y0),.v],.eqT 13 bF,r0 [.v,.c true bT,.v,.v,.v,.c true bF,.v,.v,.v,.s,.s,.s,.s,.v,.v,.s,.s,.s,.v],V1] [] [] (aC Tryz.call7 (aF (hJ _ h0) (aT (aM c0 (aC Tryz.call8 (aC (bQ.eq (mN _ _ _ h1) (cB c2)) (aT (aC Tryz.call13 (aC (bQ.eq (dM _ _ h2) (cB c5)) (aT aN))))))))))
  ·obtain rfl:=sI H5;exact pR 15 [r0 [.m,.v],r0 [.c true (.bool y0),.v],.eqT 13 bF,r0 [.v,.c true bF,.v,.v,.s,.s,.s,.v,.v,.s,.s,.s,.s,.v,.v,.s,.s,.s,.v],V1] [] [] (aC Tryz.call7 (aF (hJ _ h0) (aT (aM c0 (aC Tryz.call8 (aC (bQ.eq (mN _ _ _ h1) (cB c3)) (aT aN)))))))
 ·obtain rfl:=sI H2;exact pR 10 [r0 [.m,.v],r0 [.c true (.bool y0),.v],.eqT 13 bT,V1] [] [] (aC Tryz.call7 (aF (hJ _ h0) (aT (aM c1 aN))))
end Go.Proofs.YtlhcekghjfjajaaGreatDoor
