/- What functions of the program compute, walked: each as a plain function, with the theorem that the code computes it wherever that answers. Printed by a program, part 3. -/
import Derived.Test.YtlhcekghjfjajaaGreatDoorWkbEquationsComplete
set_option linter.unusedSimpArgs false
set_option linter.unusedVariables false
namespace Go.Proofs.YtlhcekghjfjajaaGreatDoor
open Go.RowKit Go.Ab Go.Sh
noncomputable def gw (x0:List Linear) (x1:al):Option Bool :=
 (ck x0).bind fun y0 =>
 bif y0 then (
  bif decide (((x0.length:Nat):Int)>6000) then (
   some false
  ) else (
   bif (((x1.Mults.length:Nat):Int)==((x0.length:Nat):Int)) then (
    bif decide (x1.Mod<0) then (
     some false
    ) else (
     bif decide (x1.Mod>1099511627776) then (
      some false
     ) else (
      bf (8*x0.length≤140737488355328) <|
      (dn (σ:=(List Int)) (ε:=(List Int)) (ρ:=Bool) (fun i0 s0 =>
       bf (i0<x1.Mults.length) <|
       (bY (x1.Mults.getD i0 0) 0).bind fun y1 =>
       bif y1 then (
        bf (i0<s0.length) <|
        some (.go (s0.set i0 ((x0.getD i0 aG).Const)))
       ) else (
        some (.ret false)
       )
      ) (fun i0 s0=>s0) (x0.length-0) 0 (List.replicate x0.length (0:Int))).bind <| aft fun u0 =>
      (bB x0).bind fun y2 =>
      (dn (σ:=Unit) (ε:=Unit) (ρ:=Bool) (fun i1 s1 =>
       (dn (σ:=(List Int)) (ε:=(List Int)) (ρ:=Empty) (fun i2 s2 =>
        (cU (Linear.mk ((x0.getD i2 aG).Const) ((x0.getD i2 aG).Terms)) (y2.getD i1 [])).bind fun y3 =>
        bf (i2<s2.length) <|
        some (.go (s2.set i2 y3))
       ) (fun i2 s2=>s2) (x0.length-0) 0 (List.replicate x0.length (0:Int))).bind <| ca fun u1 =>
       (fv x1.Mults u1).bind fun y4 =>
       bif (y4.2==0) then (
        (dx y4.1 x1.Mod).bind fun y5 =>
        bif y5 then (
         some (.go ())
        ) else (
         some (.ret false)
        )
       ) else (
        some (.ret false)
       )
      ) (fun i1 s1=>()) (y2.length-0) 0 ()).bind <| aft fun u2 =>
      (fv x1.Mults u0).bind fun y6 =>
      bif (y6.2==0) then (
       (dx y6.1 x1.Mod).bind fun y7 =>
       some (!y7)
      ) else (
       some false
      )
     )
    )
   ) else (
    some false
   )
  )
 ) else (
  some false
 )
def jt (x0:List Linear) (x1:al) (i0:Nat) (s0:List Int):AS:=⟨123,[(0,dS aw x0),(3,.hptr 3 0),(4,.bool false),(5,.rslice 45),(46,dS aw x0),(47,nI x0.length),(48,nI i0)],[(3,.cells 28 [dS ao x1.Mults,iI x1.Mod]),(45,.row 3 1 (s0.map ao))]⟩
def oe (x0:List Linear) (x1:al) (u3:List Int):AS:=⟨123,[(0,dS aw x0),(3,.hptr 3 0),(4,.bool false),(5,.rslice 45)],[(3,.cells 28 [dS ao x1.Mults,iI x1.Mod]),(45,.row 3 1 (u3.map ao))]⟩
def jo (x0:List Linear) (x1:al) (u0:List Int) (y2:List aJ) (i1:Nat) (s1:Unit):AS:=⟨123,[(0,dS aw x0),(3,.hptr 3 0),(4,.bool false),(5,.rslice 45),(67,dS bq y2),(68,nI y2.length),(69,nI i1)],[(3,.cells 28 [dS ao x1.Mults,iI x1.Mod]),(45,.row 3 1 (u0.map ao))]⟩
def nT (x1:al) (u0:List Int) (u4:Unit):AS:=⟨123,[(3,.hptr 3 0),(4,.bool false),(5,.rslice 45)],[(3,.cells 28 [dS ao x1.Mults,iI x1.Mod]),(45,.row 3 1 (u0.map ao))]⟩
def jr (x0:List Linear) (x1:al) (u0:List Int) (y2:List aJ) (i1 i2:Nat) (s2:List Int):AS:=⟨123,[(0,dS aw x0),(3,.hptr 3 0),(4,.bool false),(5,.rslice 45),(9,.str (y2.getD i1 [])),(10,.rslice 75),(67,dS bq y2),(68,nI y2.length),(69,nI i1),(76,dS aw x0),(77,nI x0.length),(78,nI i2)],[(3,.cells 28 [dS ao x1.Mults,iI x1.Mod]),(45,.row 3 1 (u0.map ao)),(75,.row 3 1 (s2.map ao))]⟩
def oc (x0:List Linear) (x1:al) (u0:List Int) (y2:List aJ) (i1:Nat) (u5:List Int):AS:=⟨123,[(0,dS aw x0),(3,.hptr 3 0),(4,.bool false),(5,.rslice 45),(10,.rslice 75),(67,dS bq y2),(68,nI y2.length),(69,nI i1)],[(3,.cells 28 [dS ao x1.Mults,iI x1.Mod]),(45,.row 3 1 (u0.map ao)),(75,.row 3 1 (u5.map ao))]⟩
theorem gV (x0:List Linear) (x1:al) (r:Bool) (H:gw x0 x1=some r):bG Tryz.prog 19 [dS aw x0,.agg [dS ao x1.Mults,iI x1.Mod]] (.bool r):=by
 unfold gw at H;refine aX Tryz.func19 123 [.tmp 4] ?_;refine aR H fun y0 h0 H0 => ?_;refine aV H0 (fun c0 H1 => ?_) (fun c1 H2 => ?_)
 ·refine aV H1 (fun c2 H3 => ?_) (fun c3 H4 => ?_)
  ·obtain rfl:=sI H3;exact pR 9 [r0 [.m,.v],r0 [.v,.c true bT,.v,.v,.v,.e (nI x0.length),.e bT,.v,.v,.s,.s,.s,.s,.s,.s,.v,.v,.s,.s,.s,.v,.v,.s,.s,.s,.v],V1] [] [] (aC Tryz.call27 (aC (bG.eq (be _ _ h0) (cB c0)) (aT (aT (aC (aQ aw x0) (aB c2 aN))))))
  ·have c3p:=MI c3;refine aV H4 (fun c4 H5 => ?_) (fun c5 H6 => ?_)
   ·refine aV H5 (fun c6 H7 => ?_) (fun c7 H8 => ?_)
    ·obtain rfl:=sI H7;exact pR 9 [r0 [.m,.v],r0 [.v,.c true bT,.v,.v,.v,.e (nI x0.length),.e bF,.v,.v,.v,.v,.e (nI x1.Mults.length),.v,.e (nI x0.length),.e bF,.v,.v,.v,.v,.e bT,.v,.v,.s,.s,.s,.v],V1] [] [] (aC Tryz.call27 (aC (bG.eq (be _ _ h0) (cB c0)) (aT (aT (aC (aQ aw x0) (aB c3 (aT (aC (aQ ao x1.Mults) (aT (aC (aQ aw x0) (aM c4 (aB c6 aN))))))))))))
    ·have c7p:=MI c7;refine pD 5 [r0 [.m,.v],r0 [.v,.c true bT,.v,.v,.v,.e (nI x0.length),.e bF,.v,.v,.v,.v,.e (nI x1.Mults.length),.v,.e (nI x0.length),.e bF,.v,.v,.v,.v,.e bF,.v,.v,.v,.v,.v,.v]] [.only [0,3,4,42] [3]] 5 [] (aC Tryz.call27 (aC (bG.eq (be _ _ h0) (cB c0)) (aT (aT (aC (aQ aw x0) (aB c3 (aT (aC (aQ ao x1.Mults) (aT (aC (aQ aw x0) (aM c4 (aB c7 aN)))))))))))) ?_;refine aV H8 (fun c8 H9 => ?_) (fun c9 H10 => ?_)
     ·obtain rfl:=sI H9;exact pR 5 [.eqT 42 bT,V1] [] [] (aB c8 aN)
     ·have c9p:=MI c9;refine aL H10 fun g0 H11 => ?_;refine pA 9 [.eqT 42 bF,r0 [.v,.e (nI x0.length),.mk x0.length,.rwH 45 (.row 3 1 ((List.replicate x0.length (0:Int)).map ao)),.v],r0 [.v,.e (nI x0.length),.v]] [.only [0,3,4,5,46,47,48] [3,45]] 8 [false] (jt x0 x1 0 (List.replicate x0.length (0:Int))) (aB c9 (aT (aC (aQ aw x0) (aC (show ((x0.length:Nat):Int)=((x0.length:Nat):Int)∧((x0.length:Nat):Int)=((x0.length:Nat):Int)∧8*x0.length≤140737488355328∧x0.length≤9223372036854775807 from ⟨rfl,rfl,by omega,by omega⟩) (aC (xY (z:=zQ Tryz.prog 3) ao (0:Int) x0.length 3 1 (by kernel_rfl)) (aT (aC (aQ aw x0) aN))))))) ?_;refine aR H11 fun R0 h1 H12 => ?_;refine pJ 1 (oe x0 x1) R0 ?_ (fun u0 e0 => ?_)
      ·refine pC (jt x0 x1) h1 (fun i0 s0 h2 e1 => ?_) (fun i0 s0 h3 q0 h4 h5 => ?_)
       ·have c10:=lF i0 x0.length (by omega);subst e1;exact pB 5 [r0 [.e bF]] [.only [0,3,4,5] [3,45]] (oe x0 x1 s0) (aB c10 aN)
       ·have c11:=lT i0 x0.length (by omega);refine aL h4 fun g1 H13 => ?_;refine aR H13 fun y1 h6 H14 => ?_;refine pD 12 [r0 [.e bT],r0 [.v,.e (.dptr (aw (x0.getD i0 aG))),.v,.m,.v,.m],r0 [.v,.v,.v,.e (.dptr [iI (x1.Mults.getD i0 0)]),.v,.c true (.bool y1),.v]] [.only [0,3,4,5,6,7,46,47,48,59] [3,7,45]] 12 [true] (aB c11 (aI bo x0 i0 aG (aI bK x1.Mults i0 0 (aC Tryz.call45 (aF (dc _ _ _ h6) (aT aN)))))) ?_;refine aV H14 (fun c12 H15 => ?_) (fun c13 H16 => ?_)
        ·refine aL H15 fun g2 H17 => ?_;refine bO 0 (ps:=[(x0.map aw).length≤9223372036854775807]) (by kernel_rfl) (fun l0 => ?_);have l1:x0.length≤9223372036854775807:=by simpa only [cu,MM] using l0
         clear l0;obtain rfl:=sI H17;exact pB 5 [.eqT 59 bF,r0 (V 5 [.rs i0 0,.rwH 45 (.row 3 1 ((s0.set i0 ((x0.getD i0 aG).Const)).map ao))]),V2] [.only [0,3,4,5,46,47,48] [3,45]] (jt x0 x1 (i0+1) (s0.set i0 ((x0.getD i0 aG).Const))) (aM c12 (aC (show (0:Int)≤((i0:Nat):Int)∧((i0:Nat):Int)<((s0.map ao).length:Int) from by rw [MM];omega) (aC (dI (f:=ao) (l:=s0) (n:=i0) 1 0 1 (by omega) (by decide)) (aC (qS (f:=ao) 3 1 s0 i0 0 ((x0.getD i0 aG).Const) 0 [iI ((x0.getD i0 aG).Const)] (by omega) rfl) (aH i0 aN)))))
        ·obtain rfl:=sI H16;obtain rfl:=aW h5;obtain rfl:=sI (aP H12);exact pR 5 [.eqT 59 bT,V1] [] [] (aM c13 aN)
      ·subst e0;have H18:=bl H12;refine aR H18 fun y2 h7 H19 => ?_;refine pA 4 [r0 [.v,.c true (dS bq y2),.e (nI y2.length),.v]] [.only [0,3,4,5,67,68,69] [3,45]] 4 [] (jo x0 x1 u0 y2 0 ()) (aC Tryz.call31 (aF (dp _ _ h7) (aT (aC (aQ bq y2) aN)))) ?_;refine aR H19 fun R1 h8 H20 => ?_;refine pJ 1 (nT x1 u0) R1 ?_ (fun u2 e2 => ?_)
       ·refine pC (jo x0 x1 u0 y2) h8 (fun i1 s1 h9 e3 => ?_) (fun i1 s1 h10 q1 h11 h12 => ?_)
        ·have c14:=lF i1 y2.length (by omega);subst e3;exact pB 5 [r0 [.e bF]] [.only [3,4,5] [3,45]] (nT x1 u0 ()) (aB c14 aN)
        ·have c15:=lT i1 y2.length (by omega);refine pA 15 [r0 [.e bT],r0 [.e (.dptr [.str (y2.getD i1 [])]),.v,.v],r0 [.v,.e (nI x0.length),.mk x0.length,.rwH 75 (.row 3 1 ((List.replicate x0.length (0:Int)).map ao)),.v],r0 [.v,.e (nI x0.length),.v]] [.only [0,3,4,5,9,10,67,68,69,76,77,78] [3,45,75]] 15 [true] (jr x0 x1 u0 y2 i1 0 (List.replicate x0.length (0:Int))) (aB c15 (aI mY y2 i1 [] (aT (aC (aQ aw x0) (aC (show ((x0.length:Nat):Int)=((x0.length:Nat):Int)∧((x0.length:Nat):Int)=((x0.length:Nat):Int)∧8*x0.length≤140737488355328∧x0.length≤9223372036854775807 from ⟨rfl,rfl,by omega,by omega⟩) (aC (xY (z:=zQ Tryz.prog 3) ao (0:Int) x0.length 3 1 (by kernel_rfl)) (aT (aC (aQ aw x0) aN)))))))) ?_;refine aR h11 fun R2 h13 H21 => ?_;refine pJ 1 (oc x0 x1 u0 y2 i1) R2 ?_ (fun u1 e4 => ?_)
         ·refine pC (jr x0 x1 u0 y2 i1) h13 (fun i2 s2 h14 e5 => ?_) (fun i2 s2 h15 q2 h16 h17 => ?_)
          ·have c16:=lF i2 x0.length (by omega);subst e5;exact pB 5 [r0 [.e bF]] [.only [0,3,4,5,10,67,68,69] [3,45,75]] (oc x0 x1 u0 y2 i1 s2) (aB c16 aN)
          ·have c17:=lT i2 x0.length (by omega);refine aR h16 fun y3 h18 H22 => ?_;refine aL H22 fun g3 H23 => ?_;refine bO 0 (ps:=[(x0.map aw).length≤9223372036854775807]) (by kernel_rfl) (fun l2 => ?_);have l3:x0.length≤9223372036854775807:=by simpa only [cu,MM] using l2
           clear l2;obtain rfl:=sI H23;exact pB 11 [r0 [.e bT],r0 [.v,.e (.dptr (aw (x0.getD i2 aG))),.v,.m,.v,.m],r0 (V 4 [.c true (iI y3),.v,.rs i2 0,.rwH 75 (.row 3 1 ((s2.set i2 y3).map ao))]),V2] [.only [0,3,4,5,9,10,67,68,69,76,77,78] [3,45,75]] (jr x0 x1 u0 y2 i1 (i2+1) (s2.set i2 y3)) (aB c17 (aI bo x0 i2 aG (aC Tryz.call46 (aF (jb _ _ _ h18) (aC (show (0:Int)≤((i2:Nat):Int)∧((i2:Nat):Int)<((s2.map ao).length:Int) from by rw [MM];omega) (aC (dI (f:=ao) (l:=s2) (n:=i2) 1 0 1 (by omega) (by decide)) (aC (qS (f:=ao) 3 1 s2 i2 0 y3 0 [iI y3] (by omega) rfl) (aH i2 aN))))))))
         ·subst e4;have H24:=a8 H21;refine aR H24 fun y4 h19 H25 => ?_;refine aV H25 (fun c18 H26 => ?_) (fun c19 H27 => ?_)
          ·refine aR H26 fun y5 h20 H28 => ?_;refine pD 4 [r0 [.v,.v,.v,.c false (.tup [iI y4.1,iI y4.2]),.v,.v,.v,.v,.v],r0 [.v,.e bF,.v,.v,.v,.v,.c true (.bool y5),.v,.v]] [.only [0,3,4,5,67,68,69,105] [3,45]] 4 [] (aC Tryz.call47 (aF (iS _ _ _ h19) (aM c18 (aC Tryz.call48 (aF (ln _ _ _ h20) (aT aN)))))) ?_;refine aV H28 (fun c20 H29 => ?_) (fun c21 H30 => ?_)
           ·refine bO 67 (ps:=[(y2.map bq).length≤9223372036854775807]) (by kernel_rfl) (fun l4 => ?_);have l5:y2.length≤9223372036854775807:=by simpa only [cu,MM] using l4
            clear l4;obtain rfl:=sI H29;exact pB 4 [.eqT 105 bF,V2] [.only [0,3,4,5,67,68,69] [3,45]] (jo x0 x1 u0 y2 (i1+1) ()) (aM c20 (aH i1 aN))
           ·obtain rfl:=sI H30;obtain rfl:=aW h12;obtain rfl:=sI (aP H20);exact pR 5 [.eqT 105 bT,V1] [] [] (aM c21 aN)
          ·obtain rfl:=sI H27;obtain rfl:=aW h12;obtain rfl:=sI (aP H20);exact pR 8 [r0 [.v,.v,.v,.c false (.tup [iI y4.1,iI y4.2]),.v,.v,.v,.v,.v],r0 [.v,.e bT,.v,.s,.s,.s,.s,.s,.v],V1] [] [] (aC Tryz.call47 (aF (iS _ _ _ h19) (aM c19 aN)))
       ·subst e2;have H31:=bl H20;refine aR H31 fun y6 h21 H32 => ?_;refine aV H32 (fun c22 H33 => ?_) (fun c23 H34 => ?_)
        ·refine aR H33 fun y7 h22 H35 => ?_;obtain rfl:=sI H35;exact pR 5 [r0 [.v,.v,.v,.c false (.tup [iI y6.1,iI y6.2]),.v,.v,.v,.v,.v],r0 [.v,.e bT,.v,.v,.v,.v,.c true (.bool y7),.v,.v,.v]] [] [] (aC Tryz.call47 (aF (iS _ _ _ h21) (aB c22 (aC Tryz.call48 (aF (ln _ _ _ h22) (aT aN))))))
        ·obtain rfl:=sI H34;exact pR 5 [r0 [.v,.v,.v,.c false (.tup [iI y6.1,iI y6.2]),.v,.v,.v,.v,.v],r0 [.v,.e bF,.v,.s,.s,.s,.s,.s,.v,.v]] [] [] (aC Tryz.call47 (aF (iS _ _ _ h21) (aB c23 aN)))
   ·obtain rfl:=sI H6;exact pR 9 [r0 [.m,.v],r0 [.v,.c true bT,.v,.v,.v,.e (nI x0.length),.e bF,.v,.v,.v,.v,.e (nI x1.Mults.length),.v,.e (nI x0.length),.e bT,.v,.v,.s,.s,.s,.v,.v,.s,.s,.s,.v],V1] [] [] (aC Tryz.call27 (aC (bG.eq (be _ _ h0) (cB c0)) (aT (aT (aC (aQ aw x0) (aB c3 (aT (aC (aQ ao x1.Mults) (aT (aC (aQ aw x0) (aM c5 aN)))))))))))
 ·obtain rfl:=sI H2;exact pR 9 [r0 [.m,.v],r0 [.v,.c true bF,.v,.v,.s,.s,.s,.v,.v,.s,.s,.s,.s,.s,.s,.v,.v,.s,.s,.s,.v,.v,.s,.s,.s,.v],V1] [] [] (aC Tryz.call27 (aC (bG.eq (be _ _ h0) (cB c1)) (aT aN)))
noncomputable def jP   : Option Bool :=
 (gC 2 3 (-1)).bind fun y0 =>
 (bJ [y0] 1).bind fun y1 =>
 (gC 2 (-4) 1).bind fun y2 =>
 (bJ [y2,(Linear.mk 0 [])] 1).bind fun y3 =>
 (gF [107]).bind fun y4 =>
 (gC 1 0 1).bind fun y5 =>
 (gC 1 1 0).bind fun y6 =>
 (cW (Linear.mk 0 []) y4 3).bind fun y7 =>
 (gq [y5,y6] [y4,y7]).bind fun y8 =>
 bif (y1.2.2.2==0) then (
  bif (y3.2.2.2==9) then (
   bif (y8.2==0) then (
    bif (y1.2.1==2) then (
     bif (((y1.1.length:Nat):Int)==2) then (
      bf (0<y1.1.length) <|
      bif (((y1.1.getD 0 ax).Var)==[109]) then (
       (dV (Linear.mk (((y1.1.getD 0 ax).Dim).Const) (((y1.1.getD 0 ax).Dim).Terms))).bind fun y9 =>
       bif (y9==[45,50,95,49,45,49]) then (
        bf (1<y1.1.length) <|
        (dV (Linear.mk (((y1.1.getD 1 ax).Dim).Const) (((y1.1.getD 1 ax).Dim).Terms))).bind fun y10 =>
        bif (y10==[51,95,49,43,50]) then (
         (ow [y2,(Linear.mk 0 [])] y3.2.2.1).bind fun y11 =>
         bif y11 then (
          (gw [y2,(Linear.mk 0 [])] (al.mk [1,0] 2)).bind fun y12 =>
          bif y12 then (
           bif (((y8.1.length:Nat):Int)==2) then (
            bf (0<y8.1.length) <|
            (dV (Linear.mk (((y8.1.getD 0 ax).Dim).Const) (((y8.1.getD 0 ax).Dim).Terms))).bind fun y13 =>
            bif (y13==[50,107,43,49]) then (
             bf (1<y8.1.length) <|
             (dV (Linear.mk (((y8.1.getD 1 ax).Dim).Const) (((y8.1.getD 1 ax).Dim).Terms))).bind fun y14 =>
             some (y14==[107,45,49])
            ) else (
             some false
            )
           ) else (
            some false
           )
          ) else (
           some false
          )
         ) else (
          some false
         )
        ) else (
         some false
        )
       ) else (
        some false
       )
      ) else (
       some false
      )
     ) else (
      some false
     )
    ) else (
     some false
    )
   ) else (
    some false
   )
  ) else (
   some false
  )
 ) else (
  some false
 )
theorem kZ   (r:Bool) (H:jP  = some r):bG Tryz.prog 7 [] (.bool r):=by
 unfold jP at H;refine aX Tryz.func7 118 [.tmp 0] ?_;refine aR H fun y0 h0 H0 => ?_;refine aR H0 fun y1 h1 H1 => ?_;refine aR H1 fun y2 h2 H2 => ?_;refine aR H2 fun y3 h3 H3 => ?_;refine aR H3 fun y4 h4 H4 => ?_;refine aR H4 fun y5 h5 H5 => ?_;refine aR H5 fun y6 h6 H6 => ?_;refine aR H6 fun y7 h7 H7 => ?_;refine aR H7 fun y8 h8 H8 => ?_;refine pD 13 [V1,r0 [.c true (.agg [iI y0.Const,dS aq y0.Terms]),.b,.c true (.tup [dS az y1.1,iI y1.2.1,.agg [dS ao y1.2.2.1.Mults,iI y1.2.2.1.Mod],iI y1.2.2.2]),.v,.v,.v,.v,.v,.m,.v,.v,.m,.v],r0 [.c true (.agg [iI y2.Const,dS aq y2.Terms]),.b,.b,.wk 23 [(1,1)],.v],r0 [.v,.c true (.tup [dS az y3.1,iI y3.2.1,.agg [dS ao y3.2.2.1.Mults,iI y3.2.2.1.Mod],iI y3.2.2.2]),.v,.v,.v,.v,.v,.m,.v,.v,.m,.v],r0 [.c true (.agg [iI y4.Const,dS aq y4.Terms]),.m,.m],.rg 13 [.c true (.agg [iI y5.Const,dS aq y5.Terms]),.c true (.agg [iI y6.Const,dS aq y6.Terms]),.b,.v,.b,.v,.cw true [(0,[(1,0)])] (.agg [iI y7.Const,dS aq y7.Terms]),.b,.c true (.tup [dS az y8.1,iI y8.2]),.v,.v,.v,.v] [.v]] [.only [0,1,2,4,5,8,9,11,12] [8]] 13 [] (aC Tryz.call21 (aF (oA _ _ _ _ h0) (aC Tryz.call9 (aF (dL _ _ _ h1) (aC Tryz.call21 (aF (oA _ _ _ _ h2) (aC Tryz.call9 (aF (dL _ _ _ h3) (aC Tryz.call22 (aF (lI _ _ h4) (aC Tryz.call21 (aF (oA _ _ _ _ h5) (aC Tryz.call21 (aF (oA _ _ _ _ h6) (aC Tryz.call16 (aF (kY _ _ _ _ h7) (aC Tryz.call23 (aF (ua _ _ _ h8) aN)))))))))))))))))) ?_;refine aV H8 (fun c0 H9 => ?_) (fun c1 H10 => ?_)
 ·refine aV H9 (fun c2 H11 => ?_) (fun c3 H12 => ?_)
  ·refine aV H11 (fun c4 H13 => ?_) (fun c5 H14 => ?_)
   ·refine aV H13 (fun c6 H15 => ?_) (fun c7 H16 => ?_)
    ·refine aV H15 (fun c8 H17 => ?_) (fun c9 H18 => ?_)
     ·refine aL H17 fun g0 H19 => ?_;refine aV H19 (fun c10 H20 => ?_) (fun c11 H21 => ?_)
      ·refine aR H20 fun y9 h9 H22 => ?_;refine aV H22 (fun c12 H23 => ?_) (fun c13 H24 => ?_)
       ·refine aL H23 fun g1 H25 => ?_;refine aR H25 fun y10 h10 H26 => ?_;refine aV H26 (fun c14 H27 => ?_) (fun c15 H28 => ?_)
        ·refine aR H27 fun y11 h11 H29 => ?_;refine aV H29 (fun c16 H30 => ?_) (fun c17 H31 => ?_)
         ·refine aR H30 fun y12 h12 H32 => ?_;refine aV H32 (fun c18 H33 => ?_) (fun c19 H34 => ?_)
          ·refine aV H33 (fun c20 H35 => ?_) (fun c21 H36 => ?_)
           ·refine aL H35 fun g2 H37 => ?_;refine aR H37 fun y13 h13 H38 => ?_;refine aV H38 (fun c22 H39 => ?_) (fun c23 H40 => ?_)
            ·refine aL H39 fun g3 H41 => ?_;refine aR H41 fun y14 h14 H42 => ?_;obtain rfl:=sI H42;exact pR 2 [r0 [.v,.e bT,.v,.v,.e bT,.v,.v,.v,.e bT,.v,.v,.v,.e bT,.v,.v,.v,.e (nI y1.1.length),.e bT,.v,.v,.v,.e (.dptr (az (y1.1.getD 0 ax))),.v,.v,.e bT,.v,.v,.v,.e (.dptr (az (y1.1.getD 0 ax))),.v,.v,.c true (.str y9),.e bT,.v,.v,.v,.e (.dptr (az (y1.1.getD 1 ax))),.v,.v,.c true (.str y10),.e bT,.v,.v,.v,.v,.c true bT,.v,.v,.v,.b,.b,.c true bT,.v,.v,.v,.e (nI y8.1.length),.e bT,.v,.v,.v,.e (.dptr (az (y8.1.getD 0 ax))),.v,.v,.c true (.str y13),.e bT,.v,.v,.v,.e (.dptr (az (y8.1.getD 1 ax))),.v,.v,.c true (.str y14),.v,.v,.v]] [] [] (aB c0 (aB c2 (aB c4 (aB c6 (aT (aC (aQ az y1.1) (aB c8 (aI bb y1.1 0 ax (aB c10 (aI bb y1.1 0 ax (aC Tryz.call24 (aF (bM _ _ h9) (aB c12 (aI bb y1.1 1 ax (aC Tryz.call24 (aF (bM _ _ h10) (aB c14 (aC Tryz.call25 (aC (bG.eq (iO _ _ _ h11) (cB c16)) (aC Tryz.call19 (aC (bG.eq (gV _ _ _ h12) (cB c18)) (aT (aC (aQ az y8.1) (aB c20 (aI bb y8.1 0 ax (aC Tryz.call24 (aF (bM _ _ h13) (aB c22 (aI bb y8.1 1 ax (aC Tryz.call24 (aF (bM _ _ h14) aN)))))))))))))))))))))))))))))))
            ·obtain rfl:=sI H40;exact pR 2 [r0 [.v,.e bT,.v,.v,.e bT,.v,.v,.v,.e bT,.v,.v,.v,.e bT,.v,.v,.v,.e (nI y1.1.length),.e bT,.v,.v,.v,.e (.dptr (az (y1.1.getD 0 ax))),.v,.v,.e bT,.v,.v,.v,.e (.dptr (az (y1.1.getD 0 ax))),.v,.v,.c true (.str y9),.e bT,.v,.v,.v,.e (.dptr (az (y1.1.getD 1 ax))),.v,.v,.c true (.str y10),.e bT,.v,.v,.v,.v,.c true bT,.v,.v,.v,.b,.b,.c true bT,.v,.v,.v,.e (nI y8.1.length),.e bT,.v,.v,.v,.e (.dptr (az (y8.1.getD 0 ax))),.v,.v,.c true (.str y13),.e bF,.v,.v,.s,.s,.s,.s,.s,.s,.v,.v]] [] [] (aB c0 (aB c2 (aB c4 (aB c6 (aT (aC (aQ az y1.1) (aB c8 (aI bb y1.1 0 ax (aB c10 (aI bb y1.1 0 ax (aC Tryz.call24 (aF (bM _ _ h9) (aB c12 (aI bb y1.1 1 ax (aC Tryz.call24 (aF (bM _ _ h10) (aB c14 (aC Tryz.call25 (aC (bG.eq (iO _ _ _ h11) (cB c16)) (aC Tryz.call19 (aC (bG.eq (gV _ _ _ h12) (cB c18)) (aT (aC (aQ az y8.1) (aB c20 (aI bb y8.1 0 ax (aC Tryz.call24 (aF (bM _ _ h13) (aB c23 aN))))))))))))))))))))))))))))
           ·obtain rfl:=sI H36;exact pR 2 [r0 [.v,.e bT,.v,.v,.e bT,.v,.v,.v,.e bT,.v,.v,.v,.e bT,.v,.v,.v,.e (nI y1.1.length),.e bT,.v,.v,.v,.e (.dptr (az (y1.1.getD 0 ax))),.v,.v,.e bT,.v,.v,.v,.e (.dptr (az (y1.1.getD 0 ax))),.v,.v,.c true (.str y9),.e bT,.v,.v,.v,.e (.dptr (az (y1.1.getD 1 ax))),.v,.v,.c true (.str y10),.e bT,.v,.v,.v,.v,.c true bT,.v,.v,.v,.b,.b,.c true bT,.v,.v,.v,.e (nI y8.1.length),.e bF,.v,.v,.s,.s,.s,.s,.s,.s,.v,.v,.s,.s,.s,.s,.s,.s,.v,.v]] [] [] (aB c0 (aB c2 (aB c4 (aB c6 (aT (aC (aQ az y1.1) (aB c8 (aI bb y1.1 0 ax (aB c10 (aI bb y1.1 0 ax (aC Tryz.call24 (aF (bM _ _ h9) (aB c12 (aI bb y1.1 1 ax (aC Tryz.call24 (aF (bM _ _ h10) (aB c14 (aC Tryz.call25 (aC (bG.eq (iO _ _ _ h11) (cB c16)) (aC Tryz.call19 (aC (bG.eq (gV _ _ _ h12) (cB c18)) (aT (aC (aQ az y8.1) (aB c21 aN))))))))))))))))))))))))
          ·obtain rfl:=sI H34;exact pR 2 [r0 [.v,.e bT,.v,.v,.e bT,.v,.v,.v,.e bT,.v,.v,.v,.e bT,.v,.v,.v,.e (nI y1.1.length),.e bT,.v,.v,.v,.e (.dptr (az (y1.1.getD 0 ax))),.v,.v,.e bT,.v,.v,.v,.e (.dptr (az (y1.1.getD 0 ax))),.v,.v,.c true (.str y9),.e bT,.v,.v,.v,.e (.dptr (az (y1.1.getD 1 ax))),.v,.v,.c true (.str y10),.e bT,.v,.v,.v,.v,.c true bT,.v,.v,.v,.b,.b,.c true bF,.v,.v,.s,.s,.s,.v,.v,.s,.s,.s,.s,.s,.s,.v,.v,.s,.s,.s,.s,.s,.s,.v,.v]] [] [] (aB c0 (aB c2 (aB c4 (aB c6 (aT (aC (aQ az y1.1) (aB c8 (aI bb y1.1 0 ax (aB c10 (aI bb y1.1 0 ax (aC Tryz.call24 (aF (bM _ _ h9) (aB c12 (aI bb y1.1 1 ax (aC Tryz.call24 (aF (bM _ _ h10) (aB c14 (aC Tryz.call25 (aC (bG.eq (iO _ _ _ h11) (cB c16)) (aC Tryz.call19 (aC (bG.eq (gV _ _ _ h12) (cB c19)) aN)))))))))))))))))))))
         ·obtain rfl:=sI H31;exact pR 2 [r0 [.v,.e bT,.v,.v,.e bT,.v,.v,.v,.e bT,.v,.v,.v,.e bT,.v,.v,.v,.e (nI y1.1.length),.e bT,.v,.v,.v,.e (.dptr (az (y1.1.getD 0 ax))),.v,.v,.e bT,.v,.v,.v,.e (.dptr (az (y1.1.getD 0 ax))),.v,.v,.c true (.str y9),.e bT,.v,.v,.v,.e (.dptr (az (y1.1.getD 1 ax))),.v,.v,.c true (.str y10),.e bT,.v,.v,.v,.v,.c true bF,.v,.v,.s,.s,.s,.s,.v,.v,.s,.s,.s,.v,.v,.s,.s,.s,.s,.s,.s,.v,.v,.s,.s,.s,.s,.s,.s,.v,.v]] [] [] (aB c0 (aB c2 (aB c4 (aB c6 (aT (aC (aQ az y1.1) (aB c8 (aI bb y1.1 0 ax (aB c10 (aI bb y1.1 0 ax (aC Tryz.call24 (aF (bM _ _ h9) (aB c12 (aI bb y1.1 1 ax (aC Tryz.call24 (aF (bM _ _ h10) (aB c14 (aC Tryz.call25 (aC (bG.eq (iO _ _ _ h11) (cB c17)) aN)))))))))))))))))))
        ·obtain rfl:=sI H28;exact pR 2 [r0 [.v,.e bT,.v,.v,.e bT,.v,.v,.v,.e bT,.v,.v,.v,.e bT,.v,.v,.v,.e (nI y1.1.length),.e bT,.v,.v,.v,.e (.dptr (az (y1.1.getD 0 ax))),.v,.v,.e bT,.v,.v,.v,.e (.dptr (az (y1.1.getD 0 ax))),.v,.v,.c true (.str y9),.e bT,.v,.v,.v,.e (.dptr (az (y1.1.getD 1 ax))),.v,.v,.c true (.str y10),.e bF,.v,.v,.s,.s,.s,.v,.v,.s,.s,.s,.s,.v,.v,.s,.s,.s,.v,.v,.s,.s,.s,.s,.s,.s,.v,.v,.s,.s,.s,.s,.s,.s,.v,.v]] [] [] (aB c0 (aB c2 (aB c4 (aB c6 (aT (aC (aQ az y1.1) (aB c8 (aI bb y1.1 0 ax (aB c10 (aI bb y1.1 0 ax (aC Tryz.call24 (aF (bM _ _ h9) (aB c12 (aI bb y1.1 1 ax (aC Tryz.call24 (aF (bM _ _ h10) (aB c15 aN)))))))))))))))))
       ·obtain rfl:=sI H24;exact pR 2 [r0 [.v,.e bT,.v,.v,.e bT,.v,.v,.v,.e bT,.v,.v,.v,.e bT,.v,.v,.v,.e (nI y1.1.length),.e bT,.v,.v,.v,.e (.dptr (az (y1.1.getD 0 ax))),.v,.v,.e bT,.v,.v,.v,.e (.dptr (az (y1.1.getD 0 ax))),.v,.v,.c true (.str y9),.e bF,.v,.v,.s,.s,.s,.s,.s,.s,.v,.v,.s,.s,.s,.v,.v,.s,.s,.s,.s,.v,.v,.s,.s,.s,.v,.v,.s,.s,.s,.s,.s,.s,.v,.v,.s,.s,.s,.s,.s,.s,.v,.v]] [] [] (aB c0 (aB c2 (aB c4 (aB c6 (aT (aC (aQ az y1.1) (aB c8 (aI bb y1.1 0 ax (aB c10 (aI bb y1.1 0 ax (aC Tryz.call24 (aF (bM _ _ h9) (aB c13 aN)))))))))))))
      ·obtain rfl:=sI H21;exact pR 2 [r0 [.v,.e bT,.v,.v,.e bT,.v,.v,.v,.e bT,.v,.v,.v,.e bT,.v,.v,.v,.e (nI y1.1.length),.e bT,.v,.v,.v,.e (.dptr (az (y1.1.getD 0 ax))),.v,.v,.e bF,.v,.v,.s,.s,.s,.s,.s,.s,.v,.v,.s,.s,.s,.s,.s,.s,.v,.v,.s,.s,.s,.v,.v,.s,.s,.s,.s,.v,.v,.s,.s,.s,.v,.v,.s,.s,.s,.s,.s,.s,.v,.v,.s,.s,.s,.s,.s,.s,.v,.v]] [] [] (aB c0 (aB c2 (aB c4 (aB c6 (aT (aC (aQ az y1.1) (aB c8 (aI bb y1.1 0 ax (aB c11 aN)))))))))
     ·obtain rfl:=sI H18;exact pR 2 [r0 [.v,.e bT,.v,.v,.e bT,.v,.v,.v,.e bT,.v,.v,.v,.e bT,.v,.v,.v,.e (nI y1.1.length),.e bF,.v,.v,.s,.s,.s,.s,.s,.v,.v,.s,.s,.s,.s,.s,.s,.v,.v,.s,.s,.s,.s,.s,.s,.v,.v,.s,.s,.s,.v,.v,.s,.s,.s,.s,.v,.v,.s,.s,.s,.v,.v,.s,.s,.s,.s,.s,.s,.v,.v,.s,.s,.s,.s,.s,.s,.v,.v]] [] [] (aB c0 (aB c2 (aB c4 (aB c6 (aT (aC (aQ az y1.1) (aB c9 aN)))))))
    ·obtain rfl:=sI H16;exact pR 2 [r0 [.v,.e bT,.v,.v,.e bT,.v,.v,.v,.e bT,.v,.v,.v,.e bF,.v,.v,.s,.s,.s,.v,.v,.s,.s,.s,.s,.s,.v,.v,.s,.s,.s,.s,.s,.s,.v,.v,.s,.s,.s,.s,.s,.s,.v,.v,.s,.s,.s,.v,.v,.s,.s,.s,.s,.v,.v,.s,.s,.s,.v,.v,.s,.s,.s,.s,.s,.s,.v,.v,.s,.s,.s,.s,.s,.s,.v,.v]] [] [] (aB c0 (aB c2 (aB c4 (aB c7 aN))))
   ·obtain rfl:=sI H14;exact pR 2 [r0 [.v,.e bT,.v,.v,.e bT,.v,.v,.v,.e bF,.v,.v,.s,.s,.v,.v,.s,.s,.s,.v,.v,.s,.s,.s,.s,.s,.v,.v,.s,.s,.s,.s,.s,.s,.v,.v,.s,.s,.s,.s,.s,.s,.v,.v,.s,.s,.s,.v,.v,.s,.s,.s,.s,.v,.v,.s,.s,.s,.v,.v,.s,.s,.s,.s,.s,.s,.v,.v,.s,.s,.s,.s,.s,.s,.v,.v]] [] [] (aB c0 (aB c2 (aB c5 aN)))
  ·obtain rfl:=sI H12;exact pR 2 [r0 [.v,.e bT,.v,.v,.e bF,.v,.v,.s,.s,.v,.v,.s,.s,.v,.v,.s,.s,.s,.v,.v,.s,.s,.s,.s,.s,.v,.v,.s,.s,.s,.s,.s,.s,.v,.v,.s,.s,.s,.s,.s,.s,.v,.v,.s,.s,.s,.v,.v,.s,.s,.s,.s,.v,.v,.s,.s,.s,.v,.v,.s,.s,.s,.s,.s,.s,.v,.v,.s,.s,.s,.s,.s,.s,.v,.v]] [] [] (aB c0 (aB c3 aN))
 ·obtain rfl:=sI H10;exact pR 2 [r0 [.v,.e bF,.v,.s,.s,.v,.v,.s,.s,.v,.v,.s,.s,.v,.v,.s,.s,.s,.v,.v,.s,.s,.s,.s,.s,.v,.v,.s,.s,.s,.s,.s,.s,.v,.v,.s,.s,.s,.s,.s,.s,.v,.v,.s,.s,.s,.v,.v,.s,.s,.s,.s,.v,.v,.s,.s,.s,.v,.v,.s,.s,.s,.s,.s,.s,.v,.v,.s,.s,.s,.s,.s,.s,.v,.v]] [] [] (aB c1 aN)
def qe (x0:Linear) (x1:Int):Option Bool :=
 (dn (σ:=Unit) (ε:=Unit) (ρ:=Bool) (fun i0 s0 =>
  bif decide (((((x0.Terms.getD i0 ay).Var).length:Nat):Int)>40) then (
   some (.ret false)
  ) else (
   some (.go ())
  )
 ) (fun i0 s0=>()) (x0.Terms.length-0) 0 ()).bind <| aft fun u0 =>
 some (decide (((x0.Terms.length:Nat):Int)≤x1))
def ql (x0:Linear) (x1:Int) (i0:Nat) (s0:Unit):AS:=⟨26,[(1,iI x1),(2,.hptr 2 0),(4,.bool false),(5,nI i0)],[(2,.cells 34 [iI x0.Const,dS aq x0.Terms])]⟩
def ux (x0:Linear) (x1:Int) (u1:Unit):AS:=⟨26,[(1,iI x1),(2,.hptr 2 0),(4,.bool false)],[(2,.cells 34 [iI x0.Const,dS aq x0.Terms])]⟩
theorem BI (x0:Linear) (x1:Int) (r:Bool) (H:qe x0 x1=some r):bG Tryz.prog 26 [.agg [iI x0.Const,dS aq x0.Terms],iI x1] (.bool r):=by
 unfold qe at H;refine aX Tryz.func26 26 [.tmp 4] ?_;refine pA 6 [r0 [.m,.v],V1] [.only [1,2,4,5] [2]] 6 [] (ql x0 x1 0 ()) aN ?_;refine aR H fun R0 h0 H0 => ?_;refine pJ 1 (ux x0 x1) R0 ?_ (fun u0 e0 => ?_)
 ·refine pC (ql x0 x1) h0 (fun i0 s0 h1 e1 => ?_) (fun i0 s0 h2 q0 h3 h4 => ?_)
  ·have c0:=lF i0 x0.Terms.length (by omega);subst e1;exact pB 5 [r0 [.v,.v,.v,.e (nI x0.Terms.length),.e bF]] [.only [1,2,4] [2]] (ux x0 x1 ()) (aT (aC (aQ aq x0.Terms) (aB c0 aN)))
  ·have c1:=lT i0 x0.Terms.length (by omega);refine pD 9 [r0 [.v,.v,.v,.e (nI x0.Terms.length),.e bT],r0 [.v,.v,.v,.e (.dptr (aq (x0.Terms.getD i0 ay))),.v,.v,.v,.v]] [.only [1,2,4,5,20] [2]] 9 [true] (aT (aC (aQ aq x0.Terms) (aB c1 (aI aZ x0.Terms i0 ay (aT aN))))) ?_;refine aV h3 (fun c2 H1 => ?_) (fun c3 H2 => ?_)
   ·obtain rfl:=sI H1;obtain rfl:=aW h4;obtain rfl:=sI (aP H0);exact pR 5 [.eqT 20 bT,V1] [] [] (aB c2 aN)
   ·have c3p:=MI c3;refine gX 2 1 (ps:=[(x0.Terms.map aq).length≤9223372036854775807]) (by kernel_rfl) (fun l0 => ?_);have l1:x0.Terms.length≤9223372036854775807:=by simpa only [cu,MM] using l0
    clear l0;obtain rfl:=sI H2;exact pB 4 [.eqT 20 bF,V3] [.only [1,2,4,5] [2]] (ql x0 x1 (i0+1) ()) (aB c3 (aH i0 aN))
 ·subst e0;have H3:=bl H0;obtain rfl:=sI H3;exact pR 3 [r0 [.v,.v,.e (nI x0.Terms.length),.v,.v,.v]] [] [] (aT (aC (aQ aq x0.Terms) aN))
def pP (x0:List Linear) (x1:Int):Option Bool :=
 (dn (σ:=Unit) (ε:=Unit) (ρ:=Bool) (fun i0 s0 =>
  (qe (Linear.mk ((x0.getD i0 aG).Const) ((x0.getD i0 aG).Terms)) 6).bind fun y0 =>
  bif y0 then (
   some (.go ())
  ) else (
   some (.ret false)
  )
 ) (fun i0 s0=>()) (x0.length-0) 0 ()).bind <| aft fun u0 =>
 some (decide (((x0.length:Nat):Int)≤x1))
def qF (x0:List Linear) (x1:Int) (i0:Nat) (s0:Unit):AS:=⟨22,[(0,dS aw x0),(1,iI x1),(4,.bool false),(5,nI i0)],[]⟩
def uz (x0:List Linear) (x1:Int) (u1:Unit):AS:=⟨22,[(0,dS aw x0),(1,iI x1),(4,.bool false)],[]⟩
theorem q9 (x0:List Linear) (x1:Int) (r:Bool) (H:pP x0 x1=some r):bG Tryz.prog 8 [dS aw x0,iI x1] (.bool r):=by
 unfold pP at H;refine aX Tryz.func8 22 [.tmp 4] ?_;refine pA 6 [V1,V1] [.only [0,1,4,5] []] 6 [] (qF x0 x1 0 ()) aN ?_;refine aR H fun R0 h0 H0 => ?_;refine pJ 1 (uz x0 x1) R0 ?_ (fun u0 e0 => ?_)
 ·refine pC (qF x0 x1) h0 (fun i0 s0 h1 e1 => ?_) (fun i0 s0 h2 q0 h3 h4 => ?_)
  ·have c0:=lF i0 x0.length (by omega);subst e1;exact pB 5 [r0 [.v,.v,.e (nI x0.length),.e bF]] [.only [0,1,4] []] (uz x0 x1 ()) (aT (aC (aQ aw x0) (aB c0 aN)))
  ·have c1:=lT i0 x0.length (by omega);refine aR h3 fun y0 h5 H1 => ?_;refine pD 9 [r0 [.v,.v,.e (nI x0.length),.e bT],r0 [.v,.v,.e (.dptr (aw (x0.getD i0 aG))),.v,.c true (.bool y0),.v]] [.only [0,1,4,5,17] []] 9 [true] (aT (aC (aQ aw x0) (aB c1 (aI bo x0 i0 aG (aC Tryz.call26 (aF (BI _ _ _ h5) (aT aN))))))) ?_;refine aV H1 (fun c2 H2 => ?_) (fun c3 H3 => ?_)
   ·refine bO 0 (ps:=[(x0.map aw).length≤9223372036854775807]) (by kernel_rfl) (fun l0 => ?_);have l1:x0.length≤9223372036854775807:=by simpa only [cu,MM] using l0
    clear l0;obtain rfl:=sI H2;exact pB 4 [.eqT 17 bF,V3] [.only [0,1,4,5] []] (qF x0 x1 (i0+1) ()) (aM c2 (aH i0 aN))
   ·obtain rfl:=sI H3;obtain rfl:=aW h4;obtain rfl:=sI (aP H0);exact pR 5 [.eqT 17 bT,V1] [] [] (aM c3 aN)
 ·subst e0;have H4:=bl H0;obtain rfl:=sI H4;exact pR 3 [r0 [.v,.e (nI x0.length),.v,.v,.v]] [] [] (aT (aC (aQ aw x0) aN))
def lu (x0:List Linear) (x1:Int):Option Bool :=
 (dn (σ:=Unit) (ε:=Unit) (ρ:=Bool) (fun i0 s0 =>
  bif decide (((x0.getD i0 aG).Const)<(aK (0-x1))) then (
   some (.ret false)
  ) else (
   bif decide (((x0.getD i0 aG).Const)>x1) then (
    some (.ret false)
   ) else (
    (gn (σ:=Int) (ε:=Unit) (ρ:=(eR Unit Unit Bool)) (fun s1 =>
     bif decide (s1<((((x0.getD i0 aG).Terms).length:Nat):Int)) then (
      bf (0≤s1∧s1<(((x0.getD i0 aG).Terms).length:Int)) <|
      bif decide (((((x0.getD i0 aG).Terms).getD s1.toNat ay).C)<(aK (0-x1))) then (
       some (.ret (.ret false))
      ) else (
       bif decide (((((x0.getD i0 aG).Terms).getD s1.toNat ay).C)>x1) then (
        some (.ret (.ret false))
       ) else (
        some (.go (aK (s1+1)))
       )
      )
     ) else (
      some (.brk ())
     )
    ) 4294967296 0).bind <| aft fun u0 =>
    some (.go ())
   )
  )
 ) (fun i0 s0=>()) (x0.length-0) 0 ()).bind <| aft fun u1 =>
 some true
def nF (x0:List Linear) (x1:Int) (i0:Nat) (s0:Unit):AS:=⟨59,[(0,dS aw x0),(1,iI x1),(4,.bool false),(5,nI i0)],[]⟩
def r8 (u2:Unit):AS:=⟨59,[(4,.bool false)],[]⟩
def oh (x0:List Linear) (x1:Int) (i0:Nat) (s1:Int):AS:=⟨59,[(0,dS aw x0),(1,iI x1),(4,.bool false),(5,nI i0),(6,iI s1)],[]⟩
def rq (x0:List Linear) (x1:Int) (i0:Nat) (u3:Unit):AS:=⟨59,[(0,dS aw x0),(1,iI x1),(4,.bool false),(5,nI i0)],[]⟩
theorem yM (x0:List Linear) (x1:Int) (r:Bool) (H:lu x0 x1=some r):bG Tryz.prog 14 [dS aw x0,iI x1] (.bool r):=by
 unfold lu at H;refine aX Tryz.func14 59 [.tmp 4] ?_;refine pA 6 [V1,V1] [.only [0,1,4,5] []] 6 [] (nF x0 x1 0 ()) aN ?_;refine aR H fun R0 h0 H0 => ?_;refine pJ 1 (r8) R0 ?_ (fun u1 e0 => ?_)
 ·refine pC (nF x0 x1) h0 (fun i0 s0 h1 e1 => ?_) (fun i0 s0 h2 q0 h3 h4 => ?_)
  ·have c0:=lF i0 x0.length (by omega);subst e1;exact pB 5 [r0 [.v,.v,.e (nI x0.length),.e bF]] [.only [4] []] (r8 ()) (aT (aC (aQ aw x0) (aB c0 aN)))
  ·have c1:=lT i0 x0.length (by omega);refine aV h3 (fun c2 H1 => ?_) (fun c3 H2 => ?_)
   ·have c2p:=MJ c2;obtain rfl:=sI H1;obtain rfl:=aW h4;obtain rfl:=sI (aP H0);exact pR 14 [r0 [.v,.v,.e (nI x0.length),.e bT],r0 [.v,.v,.e (.dptr (aw (x0.getD i0 aG))),.v,.v,.v,.w,.e bT,.v,.s,.s,.s,.s,.s,.s,.s,.v],V1] [] [] (aT (aC (aQ aw x0) (aB c1 (aI bo x0 i0 aG (aB c2 aN)))))
   ·have c3p:=MI c3;refine pD 10 [r0 [.v,.v,.e (nI x0.length),.e bT],r0 [.v,.v,.e (.dptr (aw (x0.getD i0 aG))),.v,.v,.v,.w,.e bF,.v,.v,.v,.e (.dptr (aw (x0.getD i0 aG))),.v,.v,.v,.v,.v]] [.only [0,1,4,5,30] []] 10 [true] (aT (aC (aQ aw x0) (aB c1 (aI bo x0 i0 aG (aB c3 (aI bo x0 i0 aG aN)))))) ?_;refine aV H2 (fun c4 H3 => ?_) (fun c5 H4 => ?_)
    ·obtain rfl:=sI H3;obtain rfl:=aW h4;obtain rfl:=sI (aP H0);exact pR 5 [.eqT 30 bT,V1] [] [] (aB c4 aN)
    ·have c5p:=MI c5;refine pA 6 [.eqT 30 bF,V1] [.only [0,1,4,5,6] []] 5 [false] (oh x0 x1 i0 0) (aB c5 aN) ?_;refine aR H4 fun R1 h5 H5 => ?_;refine pJ 2 (rq x0 x1 i0) R1 ?_ (fun u0 e2 => ?_)
     ·refine lB (oh x0 x1 i0) (by kernel_rfl) h5 (fun s1 q1 h6 h7 => ?_)
      ·refine aV h6 (fun c6 H6 => ?_) (fun c7 H7 => ?_)
       ·have c6p:=MJ c6;refine aL H6 fun g0 H8 => ?_;refine pD 11 [r0 [.v,.v,.v,.e (.dptr (aw (x0.getD i0 aG))),.v,.v,.e (iI ((((x0.getD i0 aG).Terms).length:Nat):Int)),.v],.eqT 38 bT,r0 [.v,.v,.e (.dptr (aw (x0.getD i0 aG))),.v,.v,.v,.e (.dptr (aq (((x0.getD i0 aG).Terms).getD s1.toNat ay))),.v,.v,.v]] [.only [0,1,4,5,6,7] []] 10 [true] (aI bo x0 i0 aG (aT (aC (aQ aq ((x0.getD i0 aG).Terms)) (aB c6 (aI bo x0 i0 aG (bp (IZ (f:=aq) (l:=((x0.getD i0 aG).Terms)) (n:=s1) ay aZ (by decide) (by exact g0)) aN)))))) ?_;refine aV H8 (fun c8 H9 => ?_) (fun c9 H10 => ?_)
        ·obtain rfl:=sI H9;obtain rfl:=aW h7;obtain rfl:=sI (aP H5);obtain rfl:=aW h4;obtain rfl:=sI (aP H0);exact pR 5 [r0 [.v,.v,.w,.e bT,.v,.s,.s,.s,.v],V1] [] [] (aB c8 aN)
        ·refine aV H10 (fun c10 H11 => ?_) (fun c11 H12 => ?_)
         ·obtain rfl:=sI H11;obtain rfl:=aW h7;obtain rfl:=sI (aP H5);obtain rfl:=aW h4;obtain rfl:=sI (aP H0);exact pR 6 [r0 [.v,.v,.w,.e bF,.v,.v,.v,.v,.v],.eqT 58 bT,V1] [] [] (aB c9 (aB c10 aN))
         ·obtain rfl:=sI H12;exact pB 5 [r0 [.v,.v,.w,.e bF,.v,.v,.v,.v,.v],.eqT 58 bF,r0 [.v,.w,.v]] [.only [0,1,4,5,6] []] (oh x0 x1 i0 (aK (s1+1))) (aB c9 (aB c11 aN))
       ·have c7p:=MI c7;obtain rfl:=sI H7;obtain rfl:=dM h7;exact pB 6 [r0 [.v,.v,.v,.e (.dptr (aw (x0.getD i0 aG))),.v,.v,.e (iI ((((x0.getD i0 aG).Terms).length:Nat):Int)),.v],.eqT 38 bF] [.only [0,1,4,5] []] (rq x0 x1 i0 ()) (aI bo x0 i0 aG (aT (aC (aQ aq ((x0.getD i0 aG).Terms)) (aB c7 aN))))
     ·subst e2;have H13:=bl H5;refine bO 0 (ps:=[(x0.map aw).length≤9223372036854775807]) (by kernel_rfl) (fun l0 => ?_);have l1:x0.length≤9223372036854775807:=by simpa only [cu,MM] using l0
      clear l0;obtain rfl:=sI H13;exact pB 1 [V3] [.only [0,1,4,5] []] (nF x0 x1 (i0+1) ()) (aH i0 aN)
 ·subst e0;have H14:=bl H0;obtain rfl:=sI H14;exact pR 3 [V1] [] [] aN
def nX (x0:Linear) (x1:List Value):Option (Int×Int) :=
 (dj x0).bind fun y0 =>
 bif y0 then (
  (dn (σ:=Int) (ε:=Int) (ρ:=(Int×Int)) (fun i0 s0 =>
   (dn (σ:=Unit) (ε:=Nat) (ρ:=Empty) (fun i1 s1 =>
    bif (((x1.getD i1 bu).Var)==((x0.Terms.getD i0 ay).Var)) then (
     some (.brk i1)
    ) else (
     some (.go ())
    )
   ) (fun i1 s1=>i1) (x1.length-0) 0 ()).bind <| ca fun u0 =>
   bif (((u0:Nat):Int)==((x1.length:Nat):Int)) then (
    some (.ret (0,7))
   ) else (
    bf (u0<x1.length) <|
    bif decide (((x1.getD u0 bu).N)<(-1000000000)) then (
     some (.ret (0,2))
    ) else (
     bif decide (((x1.getD u0 bu).N)>1000000000) then (
      some (.ret (0,2))
     ) else (
      some (.go (aK (s0+(aK (((x0.Terms.getD i0 ay).C)*((x1.getD u0 bu).N))))))
     )
    )
   )
  ) (fun i0 s0=>s0) (x0.Terms.length-0) 0 x0.Const).bind <| aft fun u1 =>
  some (u1,0)
 ) else (
  some (0,1)
 )
def oR (x0:Linear) (x1:List Value) (i0:Nat) (s0:Int):AS:=⟨68,[(1,dS bj x1),(2,.hptr 2 0),(4,iI 0),(5,iI 0),(6,iI s0),(7,nI i0)],[(2,.cells 34 [iI x0.Const,dS aq x0.Terms])]⟩
def sZ (u2:Int):AS:=⟨68,[(4,iI 0),(5,iI 0),(6,iI u2)],[]⟩
def oQ (x0:Linear) (x1:List Value) (i0:Nat) (s0:Int) (i1:Nat) (s1:Unit):AS:=⟨68,[(1,dS bj x1),(2,.hptr 2 0),(4,iI 0),(5,iI 0),(6,iI s0),(7,nI i0),(8,nI i1)],[(2,.cells 34 [iI x0.Const,dS aq x0.Terms])]⟩
def pe (x0:Linear) (x1:List Value) (i0:Nat) (s0:Int) (u3:Nat):AS:=⟨68,[(1,dS bj x1),(2,.hptr 2 0),(4,iI 0),(5,iI 0),(6,iI s0),(7,nI i0),(8,nI u3)],[(2,.cells 34 [iI x0.Const,dS aq x0.Terms])]⟩
theorem Ai (x0:Linear) (x1:List Value) (r:Int×Int) (H:nX x0 x1=some r):bG Tryz.prog 40 [.agg [iI x0.Const,dS aq x0.Terms],dS bj x1] (.tup [iI r.1,iI r.2]):=by
 unfold nX at H;refine aX Tryz.func40 68 [.tmp 4,.tmp 5] ?_;refine aR H fun y0 h0 H0 => ?_;refine aV H0 (fun c0 H1 => ?_) (fun c1 H2 => ?_)
 ·refine pA 14 [.rg 0 [] [.m,.v,.v],.rg 0 [] [.v,.c true (.bool y0),.v],.eqT 12 bF,.rg 0 [] [.v,.v,.v],.rg 0 [] [.v]] [.only [1,2,4,5,6,7] [2]] 13 [false] (oR x0 x1 0 x0.Const) (aC Tryz.call36 (aF (bU _ _ h0) (aT (aM c0 aN)))) ?_;refine aR H1 fun R0 h1 H3 => ?_;refine pJ 1 (sZ) R0 ?_ (fun u1 e0 => ?_)
  ·refine pC (oR x0 x1) h1 (fun i0 s0 h2 e1 => ?_) (fun i0 s0 h3 q0 h4 h5 => ?_)
   ·have c2:=lF i0 x0.Terms.length (by omega);subst e1;exact pB 5 [r0 [.v,.v,.v,.e (nI x0.Terms.length),.e bF]] [.only [4,5,6] []] (sZ s0) (aT (aC (aQ aq x0.Terms) (aB c2 aN)))
   ·have c3:=lT i0 x0.Terms.length (by omega);refine pA 11 [r0 [.v,.v,.v,.e (nI x0.Terms.length),.e bT],V1] [.only [1,2,4,5,6,7,8] [2]] 11 [true] (oQ x0 x1 i0 s0 0 ()) (aT (aC (aQ aq x0.Terms) (aB c3 aN))) ?_;refine aR h4 fun R1 h6 H4 => ?_;refine pJ 1 (pe x0 x1 i0 s0) R1 ?_ (fun u0 e2 => ?_)
    ·refine pC (oQ x0 x1 i0 s0) h6 (fun i1 s1 h7 e3 => ?_) (fun i1 s1 h8 q1 h9 h10 => ?_)
     ·have c4:=lF i1 x1.length (by omega);subst e3;exact pB 5 [.rg 16 [.v,.v,.e (nI x1.length),.e bF,.v,.s,.s,.s,.s,.s,.s,.s,.s,.s,.s,.s] [.s,.v]] [.only [1,2,4,5,6,7,8] [2]] (pe x0 x1 i0 s0 i1) (aT (aC (aQ bj x1) (aB c4 aN)))
     ·have c5:=lT i1 x1.length (by omega);refine pD 3 [.rg 16 [.v,.v,.e (nI x1.length),.e bT,.v,.v,.v,.e (.dptr (bj (x1.getD i1 bu))),.v,.v,.v,.v,.v,.e (.dptr (aq (x0.Terms.getD i0 ay))),.v,.v] [.v,.v]] [.only [1,2,4,5,6,7,8,39] [2]] 3 [] (aT (aC (aQ bj x1) (aB c5 (aI ti x1 i1 bu (aI aZ x0.Terms i0 ay aN))))) ?_;refine aV h9 (fun c6 H5 => ?_) (fun c7 H6 => ?_)
      ·obtain rfl:=sI H5;obtain rfl:=dM h10;exact pB 3 [.eqT 39 bF] [.only [1,2,4,5,6,7,8] [2]] (pe x0 x1 i0 s0 i1) (aM c6 aN)
      ·refine bO 1 (ps:=[(x1.map bj).length≤9223372036854775807]) (by kernel_rfl) (fun l0 => ?_);have l1:x1.length≤9223372036854775807:=by simpa only [cu,MM] using l0
       clear l0;obtain rfl:=sI H6;exact pB 5 [.eqT 39 bT,V3] [.only [1,2,4,5,6,7,8] [2]] (oQ x0 x1 i0 s0 (i1+1) ()) (aM c7 (aH i1 aN))
    ·subst e2;have H7:=a8 H4;refine aV H7 (fun c8 H8 => ?_) (fun c9 H9 => ?_)
     ·obtain rfl:=sI H8;obtain rfl:=aW h5;obtain rfl:=sI (aP H3);exact pR 8 [r0 [.v,.v,.e (nI x1.length),.v],.eqT 45 bT,V2] [] [] (aT (aC (aQ bj x1) (aB c8 aN)))
     ·refine aL H9 fun g0 H10 => ?_;refine aV H10 (fun c10 H11 => ?_) (fun c11 H12 => ?_)
      ·have c10p:=MJ c10;obtain rfl:=sI H11;obtain rfl:=aW h5;obtain rfl:=sI (aP H3);exact pR 15 [r0 [.v,.v,.e (nI x1.length),.v],.eqT 45 bF,r0 [.v,.v,.e (.dptr (bj (x1.getD u0 bu))),.v,.v,.v],r0 [.v,.e bT,.v,.s,.s,.v],V2] [] [] (aT (aC (aQ bj x1) (aB c9 (aI ti x1 u0 bu (aB c10 aN)))))
      ·have c11p:=MI c11;refine pD 11 [r0 [.v,.v,.e (nI x1.length),.v],.eqT 45 bF,r0 [.v,.v,.e (.dptr (bj (x1.getD u0 bu))),.v,.v,.v],r0 [.v,.e bF,.v,.v,.v,.v]] [.only [1,2,4,5,6,7,9,56] [2]] 10 [false] (aT (aC (aQ bj x1) (aB c9 (aI ti x1 u0 bu (aB c11 aN))))) ?_;refine aV H12 (fun c12 H13 => ?_) (fun c13 H14 => ?_)
       ·obtain rfl:=sI H13;obtain rfl:=aW h5;obtain rfl:=sI (aP H3);exact pR 5 [.eqT 56 bT,V2] [] [] (aB c12 aN)
       ·have c13p:=MI c13;refine gX 2 1 (ps:=[(x0.Terms.map aq).length≤9223372036854775807]) (by kernel_rfl) (fun l2 => ?_);have l3:x0.Terms.length≤9223372036854775807:=by simpa only [cu,MM] using l2
        clear l2;obtain rfl:=sI H14;exact pB 5 [.eqT 56 bF,r0 (V 4 [.e (.dptr (aq (x0.Terms.getD i0 ay))),.v,.v,.v,.w,.w,.v]),V3] [.only [1,2,4,5,6,7] [2]] (oR x0 x1 (i0+1) (aK (s0+(aK (((x0.Terms.getD i0 ay).C)*((x1.getD u0 bu).N)))))) (aB c13 (aI aZ x0.Terms i0 ay (aH i0 aN)))
  ·subst e0;have H15:=bl H3;obtain rfl:=sI H15;exact pR 3 [V3] [] [] aN
 ·obtain rfl:=sI H2;exact pR 10 [r0 [.m,.v,.v],r0 [.v,.c true (.bool y0),.v],.eqT 12 bT,V2] [] [] (aC Tryz.call36 (aF (bU _ _ h0) (aT (aM c1 aN))))
def la (x0:List Linear) (x1:List Value):Option Bool :=
 (dn (σ:=Unit) (ε:=Unit) (ρ:=Bool) (fun i0 s0 =>
  (nX (Linear.mk ((x0.getD i0 aG).Const) ((x0.getD i0 aG).Terms)) x1).bind fun y0 =>
  bif (y0.2==0) then (
   bif (y0.1==0) then (
    some (.go ())
   ) else (
    some (.ret false)
   )
  ) else (
   some (.ret false)
  )
 ) (fun i0 s0=>()) (x0.length-0) 0 ()).bind <| aft fun u0 =>
 some true
def mL (x0:List Linear) (x1:List Value) (i0:Nat) (s0:Unit):AS:=⟨29,[(0,dS aw x0),(1,dS bj x1),(4,.bool false),(5,nI i0)],[]⟩
def sj (u1:Unit):AS:=⟨29,[(4,.bool false)],[]⟩
theorem yR (x0:List Linear) (x1:List Value) (r:Bool) (H:la x0 x1=some r):bG Tryz.prog 15 [dS aw x0,dS bj x1] (.bool r):=by
 unfold la at H;refine aX Tryz.func15 29 [.tmp 4] ?_;refine pA 6 [V1,V1] [.only [0,1,4,5] []] 6 [] (mL x0 x1 0 ()) aN ?_;refine aR H fun R0 h0 H0 => ?_;refine pJ 1 (sj) R0 ?_ (fun u0 e0 => ?_)
 ·refine pC (mL x0 x1) h0 (fun i0 s0 h1 e1 => ?_) (fun i0 s0 h2 q0 h3 h4 => ?_)
  ·have c0:=lF i0 x0.length (by omega);subst e1;exact pB 5 [r0 [.v,.v,.e (nI x0.length),.e bF]] [.only [4] []] (sj ()) (aT (aC (aQ aw x0) (aB c0 aN)))
  ·have c1:=lT i0 x0.length (by omega);refine aR h3 fun y0 h5 H1 => ?_;refine pD 10 [r0 [.v,.v,.e (nI x0.length),.e bT],r0 [.v,.v,.e (.dptr (aw (x0.getD i0 aG))),.v,.v,.c true (.tup [iI y0.1,iI y0.2]),.v,.v,.v,.v,.v]] [.only [0,1,4,5,6,7] []] 10 [true] (aT (aC (aQ aw x0) (aB c1 (aI bo x0 i0 aG (aC Tryz.call40 (aF (Ai _ _ _ h5) aN)))))) ?_;refine aV H1 (fun c2 H2 => ?_) (fun c3 H3 => ?_)
   ·refine aV H2 (fun c4 H4 => ?_) (fun c5 H5 => ?_)
    ·refine bO 0 (ps:=[(x0.map aw).length≤9223372036854775807]) (by kernel_rfl) (fun l0 => ?_);have l1:x0.length≤9223372036854775807:=by simpa only [cu,MM] using l0
     clear l0;obtain rfl:=sI H4;exact pB 5 [r0 [.v,.e bF,.v,.v,.v,.v],.eqT 28 bF,V3] [.only [0,1,4,5] []] (mL x0 x1 (i0+1) ()) (aM c2 (aM c4 (aH i0 aN)))
    ·obtain rfl:=sI H5;obtain rfl:=aW h4;obtain rfl:=sI (aP H0);exact pR 6 [r0 [.v,.e bF,.v,.v,.v,.v],.eqT 28 bT,V1] [] [] (aM c2 (aM c5 aN))
   ·obtain rfl:=sI H3;obtain rfl:=aW h4;obtain rfl:=sI (aP H0);exact pR 5 [r0 [.v,.e bT,.v,.s,.s,.v],V1] [] [] (aM c3 aN)
 ·subst e0;have H6:=bl H0;obtain rfl:=sI H6;exact pR 3 [V1] [] [] aN
def dh (x0:aJ):Option Int :=
 (kF x0).bind fun y0 =>
 bif y0 then (
  bf (0<x0.length) <|
  bif (((x0.getD 0 0).toNat:Int)==95) then (
   (dn (σ:=Int) (ε:=Int) (ρ:=Empty) (fun i0 s0 =>
    some (.go (aK ((aK (10*s0))+(((x0.getD i0 0-48)).toNat:Int))))
   ) (fun i0 s0=>s0) (x0.length-1) 1 0).bind <| ca fun u0 =>
   some u0
  ) else (
   some 0
  )
 ) else (
  some 0
 )
def nw (x0:aJ) (i0:Nat) (s0:Int):AS:=⟨28,[(0,.str x0),(2,iI 0),(3,iI s0),(4,nI i0)],[]⟩
def rD (u1:Int):AS:=⟨28,[(2,iI 0),(3,iI u1)],[]⟩
theorem oS (x0:aJ) (r:Int) (H:dh x0=some r):bG Tryz.prog 71 [.str x0] (iI r):=by
 unfold dh at H;refine aX Tryz.func71 28 [.tmp 2] ?_;refine aR H fun y0 h0 H0 => ?_;refine aV H0 (fun c0 H1 => ?_) (fun c1 H2 => ?_)
 ·refine aL H1 fun g0 H3 => ?_;refine aV H3 (fun c2 H4 => ?_) (fun c3 H5 => ?_)
  ·refine pA 14 [.rg 0 [] [.v],.rg 0 [] [.v,.c true bT,.v,.v,.v,.v,.v,.v],.eqT 12 bF,.rg 0 [] [.v],.rg 0 [] [.v]] [.only [0,2,3,4] []] 13 [false] (nw x0 1 0) (aC Tryz.call70 (aC (bG.eq (fh _ _ h0) (cB c0)) (aT (aC (show (0:Int)≤0∧0<(x0.length:Int) from by omega) (aM c2 aN))))) ?_;refine aR H4 fun R0 h1 H6 => ?_;refine pJ 1 (rD) R0 ?_ (fun u0 e0 => ?_)
   ·refine pC (nw x0) h1 (fun i0 s0 h2 e1 => ?_) (fun i0 s0 h3 q0 h4 h5 => ?_)
    ·have c4:=lF i0 x0.length (by omega);subst e1;exact pB 5 [r0 [.v,.v,.v,.e bF]] [.only [2,3] []] (rD s0) (aT (aB c4 aN))
    ·have c5:=lT i0 x0.length (by omega);refine bO 0 (ps:=[x0.length≤9223372036854775807]) (by kernel_rfl) (fun l0 => ?_);have l1:x0.length≤9223372036854775807:=by simpa only [cu,MM] using l0
     clear l0;obtain rfl:=sI h4;exact pB 9 [r0 [.v,.v,.v,.e bT],r0 [.v,.w,.v,.v,.v,.e (.int .u8 (((x0.getD i0 0-48)).toNat:Int)),.e (iI (((x0.getD i0 0-48)).toNat:Int)),.w,.v],V3] [.only [0,2,3,4] []] (nw x0 (i0+1) (aK ((aK (10*s0))+(((x0.getD i0 0-48)).toNat:Int)))) (aT (aB c5 (aC (show (0:Int)≤((i0:Nat):Int)∧((i0:Nat):Int)<(x0.length:Int) from by omega) (aT (aC (KY (x0.getD i0 0) 48) (aT (aC (congrArg (AV.int .i64) (wrap_u8 (x0.getD i0 0-48))) (aH i0 aN))))))))
   ·subst e0;have H7:=a8 H6;refine bZ H7 fun e2 => ?_;subst e2;exact pR 3 [V2] [] [] aN
  ·obtain rfl:=sI H5;exact pR 10 [V1,r0 [.v,.c true bT,.v,.v,.v,.v,.v,.v],.eqT 12 bT,V1] [] [] (aC Tryz.call70 (aC (bG.eq (fh _ _ h0) (cB c0)) (aT (aC (show (0:Int)≤0∧0<(x0.length:Int) from by omega) (aM c3 aN)))))
 ·obtain rfl:=sI H2;exact pR 9 [V1,r0 [.v,.c true bF,.v,.v,.s,.s,.s,.v],V1] [] [] (aC Tryz.call70 (aC (bG.eq (fh _ _ h0) (cB c1)) (aT aN)))
def ig (x0:List Linear):Option Int :=
 (ju x0).bind fun y0 =>
 (dn (σ:=Int) (ε:=Int) (ρ:=Empty) (fun i0 s0 =>
  (dh (y0.getD i0 [])).bind fun y1 =>
  some (.go (if y1>s0 then y1 else s0))
 ) (fun i0 s0=>s0) (y0.length-0) 0 0).bind <| ca fun u0 =>
 some u0
def jY (y0:List aJ) (i0:Nat) (s0:Int):AS:=⟨22,[(2,iI 0),(3,iI s0),(4,dS bq y0),(5,nI i0)],[]⟩
def oE (u1:Int):AS:=⟨22,[(2,iI 0),(3,iI u1)],[]⟩
theorem vb (x0:List Linear) (r:Int) (H:ig x0=some r):bG Tryz.prog 41 [dS aw x0] (iI r):=by
 unfold ig at H;refine aX Tryz.func41 22 [.tmp 2] ?_;refine aR H fun y0 h0 H0 => ?_;refine pA 10 [V1,V1,r0 [.v,.c true (dS bq y0),.v],V1] [.only [2,3,4,5] []] 10 [] (jY y0 0 0) (aC Tryz.call44 (aF (qj _ _ h0) aN)) ?_;refine aR H0 fun R0 h1 H1 => ?_;refine pJ 1 (oE) R0 ?_ (fun u0 e0 => ?_)
 ·refine pC (jY y0) h1 (fun i0 s0 h2 e1 => ?_) (fun i0 s0 h3 q0 h4 h5 => ?_)
  ·have c0:=lF i0 y0.length (by omega);subst e1;exact pB 5 [r0 [.v,.v,.e (nI y0.length),.e bF]] [.only [2,3] []] (oE s0) (aT (aC (aQ bq y0) (aB c0 aN)))
  ·have c1:=lT i0 y0.length (by omega);refine aR h4 fun y1 h6 H2 => ?_;refine bO 4 (ps:=[(y0.map bq).length≤9223372036854775807]) (by kernel_rfl) (fun l0 => ?_);have l1:y0.length≤9223372036854775807:=by simpa only [cu,MM] using l0
   clear l0;obtain rfl:=sI H2;exact pB 9 [r0 [.v,.v,.e (nI y0.length),.e bT],r0 [.v,.v,.v,.e (.dptr [.str (y0.getD i0 [])]),.v,.c true (iI y1),.v,.v],V3] [.only [2,3,4,5] []] (jY y0 (i0+1) (if y1>s0 then y1 else s0)) (aT (aC (aQ bq y0) (aB c1 (aI mY y0 i0 [] (aC Tryz.call71 (aF (oS _ _ h6) (aT (aH i0 aN))))))))
 ·subst e0;have H3:=a8 H1;refine bZ H3 fun e2 => ?_;subst e2;exact pR 3 [V2] [] [] aN
def k7 (x0 x1:Linear):Option Int :=
 (dn (σ:=Unit) (ε:=Unit) (ρ:=Int) (fun i0 s0 =>
  bif decide (((i0:Nat):Int)<((x1.Terms.length:Nat):Int)) then (
   ((
    bif (Op.bytesLess ((x0.Terms.getD i0 ay).Var) ((x1.Terms.getD i0 ay).Var)) then (
     some (.ret (.ret (-1)))
    ) else (
     bif (((x0.Terms.getD i0 ay).Var)==((x1.Terms.getD i0 ay).Var)) then (
      bif decide (((x0.Terms.getD i0 ay).C)<((x1.Terms.getD i0 ay).C)) then (
       some (.ret (.ret (-1)))
      ) else (
       bif ((((x0.Terms.getD i0 ay).Var)==((x1.Terms.getD i0 ay).Var))&&((((x0.Terms.getD i0 ay).C)==((x1.Terms.getD i0 ay).C))&&true)) then (
        some (.brk ())
       ) else (
        some (.ret (.ret 1))
       )
      )
     ) else (
      bif ((((x0.Terms.getD i0 ay).Var)==((x1.Terms.getD i0 ay).Var))&&((((x0.Terms.getD i0 ay).C)==((x1.Terms.getD i0 ay).C))&&true)) then (
       some (.brk ())
      ) else (
       some (.ret (.ret 1))
      )
     )
    )
   ):Option (Out Unit (eR Unit Unit Int))).bind (aft fun u0 =>
    some (.go ())
   )
  ) else (
   some (.brk ())
  )
 ) (fun i0 s0=>()) (x0.Terms.length-0) 0 ()).bind <| aft fun u1 =>
 bif decide (((x0.Terms.length:Nat):Int)<((x1.Terms.length:Nat):Int)) then (
  some (-1)
 ) else (
  bif (((x0.Terms.length:Nat):Int)==((x1.Terms.length:Nat):Int)) then (
   bif decide (x0.Const<x1.Const) then (
    some (-1)
   ) else (
    bif decide (((x0.Terms.length:Nat):Int)>((x1.Terms.length:Nat):Int)) then (
     some 1
    ) else (
     bif decide (x0.Const>x1.Const) then (
      some 1
     ) else (
      some 0
     )
    )
   )
  ) else (
   bif decide (((x0.Terms.length:Nat):Int)>((x1.Terms.length:Nat):Int)) then (
    some 1
   ) else (
    bif decide (x0.Const>x1.Const) then (
     some 1
    ) else (
     some 0
    )
   )
  )
 )
def kV (x0 x1:Linear) (i0:Nat) (s0:Unit):AS:=⟨95,[(2,.hptr 2 0),(3,.hptr 3 0),(4,iI 0),(5,nI i0)],[(2,.cells 34 [iI x0.Const,dS aq x0.Terms]),(3,.cells 34 [iI x1.Const,dS aq x1.Terms])]⟩
def kX (x0 x1:Linear) (u2:Unit):AS:=⟨95,[(2,.hptr 2 0),(3,.hptr 3 0),(4,iI 0)],[(2,.cells 34 [iI x0.Const,dS aq x0.Terms]),(3,.cells 34 [iI x1.Const,dS aq x1.Terms])]⟩
def kL (x0 x1:Linear) (i0:Nat) (u0:Unit):AS:=⟨95,[(2,.hptr 2 0),(3,.hptr 3 0),(4,iI 0),(5,nI i0)],[(2,.cells 34 [iI x0.Const,dS aq x0.Terms]),(3,.cells 34 [iI x1.Const,dS aq x1.Terms])]⟩
theorem wo (x0 x1:Linear) (r:Int) (H:k7 x0 x1=some r):bG Tryz.prog 39 [.agg [iI x0.Const,dS aq x0.Terms],.agg [iI x1.Const,dS aq x1.Terms]] (iI r):=by
 unfold k7 at H;refine aX Tryz.func39 95 [.tmp 4] ?_;refine pA 6 [r0 [.m,.m,.v],V1] [.only [2,3,4,5] [2,3]] 6 [] (kV x0 x1 0 ()) aN ?_;refine aR H fun R0 h0 H0 => ?_;refine pJ 1 (kX x0 x1) R0 ?_ (fun u1 e0 => ?_)
 ·refine pC (kV x0 x1) h0 (fun i0 s0 h1 e1 => ?_) (fun i0 s0 h2 q0 h3 h4 => ?_)
  ·have c0:=lF i0 x0.Terms.length (by omega);subst e1;exact pB 5 [r0 [.v,.v,.v,.e (nI x0.Terms.length),.e bF,.v,.s,.s,.s,.s,.s,.v]] [.only [2,3,4] [2,3]] (kX x0 x1 ()) (aT (aC (aQ aq x0.Terms) (aB c0 aN)))
  ·have c1:=lT i0 x0.Terms.length (by omega);refine aV h3 (fun c2 H1 => ?_) (fun c3 H2 => ?_)
   ·have c2p:=MJ c2;refine pD 12 [r0 [.v,.v,.v,.e (nI x0.Terms.length),.e bT,.v,.v,.v,.v,.e (nI x1.Terms.length),.v,.v],.eqT 19 bT,.rg 13 [.v,.v,.v,.e (.dptr (aq (x0.Terms.getD i0 ay))),.v,.v,.v,.v,.e (.dptr (aq (x1.Terms.getD i0 ay))),.v,.m,.m,.m] [.m]] [.only [2,3,4,5,6,7] [2,3,6,7]] 11 [true] (aT (aC (aQ aq x0.Terms) (aB c1 (aT (aC (aQ aq x1.Terms) (aB c2 (aI aZ x0.Terms i0 ay (aI aZ x1.Terms i0 ay aN)))))))) ?_;refine aR H1 fun v0 h5 H3 => ?_;refine pJ 3 (kL x0 x1 i0) v0 ?_ (fun u0 e2 => ?_)
    ·refine aV h5 (fun c4 H4 => ?_) (fun c5 H5 => ?_)
     ·obtain rfl:=sI H4;obtain rfl:=sI (aP H3);obtain rfl:=aW h4;obtain rfl:=sI (aP H0);exact pR 5 [r0 (V 4 [.e bT,.v,.s,.s,.s,.s,.s,.s,.s,.s,.s,.s,.s,.s,.v,.v]),V1] [] [] (aB c4 aN)
     ·refine aV H5 (fun c6 H6 => ?_) (fun c7 H7 => ?_)
      ·refine aV H6 (fun c8 H8 => ?_) (fun c9 H9 => ?_)
       ·obtain rfl:=sI H8;obtain rfl:=sI (aP H3);obtain rfl:=aW h4;obtain rfl:=sI (aP H0);exact pR 6 [r0 (V 4 [.e bF,.v,.v,.v,.v,.v,.e bT,.v,.v,.v,.v,.v,.v,.v,.v,.v]),.eqT 32 bT,V1] [] [] (aB c5 (aB c6 (aB c8 aN)))
       ·refine aV H9 (fun c10 H10 => ?_) (fun c11 H11 => ?_)
        ·obtain rfl:=sI H10;exact pB 8 [r0 (V 4 [.e bF,.v,.v,.v,.v,.v,.e bT,.v,.v,.v,.v,.v,.v,.v,.v,.v]),.eqT 32 bF,r0 [.v,.v,.w,.v],.eqT 52 bF] [.only [2,3,4,5] [2,3]] (kL x0 x1 i0 ()) (aB c5 (aB c6 (aB c9 (aM c10 aN))))
        ·obtain rfl:=sI H11;obtain rfl:=sI (aP H3);obtain rfl:=aW h4;obtain rfl:=sI (aP H0);exact pR 10 [r0 (V 4 [.e bF,.v,.v,.v,.v,.v,.e bT,.v,.v,.v,.v,.v,.v,.v,.v,.v]),.eqT 32 bF,r0 [.v,.v,.w,.v],.eqT 52 bT,V1] [] [] (aB c5 (aB c6 (aB c9 (aM c11 aN))))
      ·refine aV H7 (fun c12 H12 => ?_) (fun c13 H13 => ?_)
       ·obtain rfl:=sI H12;exact pB 7 [r0 (V 4 [.e bF,.v,.v,.v,.v,.v,.e bF,.v,.s,.s,.s,.s,.s,.v,.v,.v]),r0 [.v,.v,.w,.v],.eqT 52 bF] [.only [2,3,4,5] [2,3]] (kL x0 x1 i0 ()) (aB c5 (aB c7 (aM c12 aN)))
       ·obtain rfl:=sI H13;obtain rfl:=sI (aP H3);obtain rfl:=aW h4;obtain rfl:=sI (aP H0);exact pR 9 [r0 (V 4 [.e bF,.v,.v,.v,.v,.v,.e bF,.v,.s,.s,.s,.s,.s,.v,.v,.v]),r0 [.v,.v,.w,.v],.eqT 52 bT,V1] [] [] (aB c5 (aB c7 (aM c13 aN)))
    ·subst e2;have H14:=bl H3;refine gX 2 1 (ps:=[(x0.Terms.map aq).length≤9223372036854775807]) (by kernel_rfl) (fun l0 => ?_);have l1:x0.Terms.length≤9223372036854775807:=by simpa only [cu,MM] using l0
     clear l0;obtain rfl:=sI H14;exact pB 1 [V3] [.only [2,3,4,5] [2,3]] (kV x0 x1 (i0+1) ()) (aH i0 aN)
   ·obtain rfl:=sI H2;obtain rfl:=dM h4;exact pB 6 [r0 [.v,.v,.v,.e (nI x0.Terms.length),.e bT,.v,.v,.v,.v,.e (nI x1.Terms.length),.v,.v],.eqT 19 bF] [.only [2,3,4] [2,3]] (kX x0 x1 ()) (aT (aC (aQ aq x0.Terms) (aB c1 (aT (aC (aQ aq x1.Terms) (aB c3 aN))))))
 ·subst e0;have H15:=bl H0;refine aV H15 (fun c14 H16 => ?_) (fun c15 H17 => ?_)
  ·obtain rfl:=sI H16;exact pR 8 [r0 [.v,.v,.e (nI x0.Terms.length),.v,.v,.e (nI x1.Terms.length),.e bT,.v,.s,.s,.s,.s,.s,.s,.s,.s,.s,.s,.s,.s,.s,.s,.v,.v],V1] [] [] (aT (aC (aQ aq x0.Terms) (aT (aC (aQ aq x1.Terms) (aB c14 aN)))))
  ·refine aV H17 (fun c16 H18 => ?_) (fun c17 H19 => ?_)
   ·refine pD 4 [.rg 0 [] [.v,.v,.e (.int .i64 ((x0.Terms.length:Nat):Int)),.v,.v,.e (.int .i64 ((x1.Terms.length:Nat):Int)),.e bF,.v,.v,.v,.e (.int .i64 ((x0.Terms.length:Nat):Int)),.v,.v,.e (.int .i64 ((x1.Terms.length:Nat):Int)),.e bT,.v,.v,.v,.v,.v,.v,.v,.v,.v]] [.only [2,3,4,56] [2,3]] 4 [] (aT (aC (aQ aq x0.Terms) (aT (aC (aQ aq x1.Terms) (aB c15 (aT (aC (aQ aq x0.Terms) (aT (aC (aQ aq x1.Terms) (aB c16 aN)))))))))) ?_;refine aV H18 (fun c18 H20 => ?_) (fun c19 H21 => ?_)
    ·obtain rfl:=sI H20;exact pR 5 [.eqT 56 bT,V1] [] [] (aB c18 aN)
    ·refine aV H21 (fun c20 H22 => ?_) (fun c21 H23 => ?_)
     ·obtain rfl:=sI H22;exact pR 8 [.eqT 56 bF,r0 [.v,.v,.e (nI x0.Terms.length),.v,.v,.e (nI x1.Terms.length),.e bT,.v,.s,.s,.s,.s,.s,.v,.v],V1] [] [] (aB c19 (aT (aC (aQ aq x0.Terms) (aT (aC (aQ aq x1.Terms) (aB c20 aN))))))
     ·refine aV H23 (fun c22 H24 => ?_) (fun c23 H25 => ?_)
      ·obtain rfl:=sI H24;exact pR 9 [.eqT 56 bF,r0 [.v,.v,.e (nI x0.Terms.length),.v,.v,.e (nI x1.Terms.length),.e bF,.v,.v,.v,.v,.v,.v,.v,.v],.eqT 80 bT,V1] [] [] (aB c19 (aT (aC (aQ aq x0.Terms) (aT (aC (aQ aq x1.Terms) (aB c21 (aB c22 aN)))))))
      ·obtain rfl:=sI H25;exact pR 10 [.eqT 56 bF,r0 [.v,.v,.e (nI x0.Terms.length),.v,.v,.e (nI x1.Terms.length),.e bF,.v,.v,.v,.v,.v,.v,.v,.v],.eqT 80 bF,V1] [] [] (aB c19 (aT (aC (aQ aq x0.Terms) (aT (aC (aQ aq x1.Terms) (aB c21 (aB c23 aN)))))))
   ·refine pD 6 [.rg 0 [] [.v,.v,.e (.int .i64 ((x0.Terms.length:Nat):Int)),.v,.v,.e (.int .i64 ((x1.Terms.length:Nat):Int)),.e bF,.v,.v,.v,.e (.int .i64 ((x0.Terms.length:Nat):Int)),.v,.v,.e (.int .i64 ((x1.Terms.length:Nat):Int)),.e bF,.v,.s,.s,.s,.s,.s,.v,.v,.v]] [.only [2,3,4] [2,3]] 6 [false] (aT (aC (aQ aq x0.Terms) (aT (aC (aQ aq x1.Terms) (aB c15 (aT (aC (aQ aq x0.Terms) (aT (aC (aQ aq x1.Terms) (aB c17 aN)))))))))) ?_;refine aV H19 (fun c24 H26 => ?_) (fun c25 H27 => ?_)
    ·obtain rfl:=sI H26;exact pR 5 [r0 [.v,.v,.e (nI x0.Terms.length),.v,.v,.e (nI x1.Terms.length),.e bT,.v,.s,.s,.s,.s,.s,.v,.v],V1] [] [] (aT (aC (aQ aq x0.Terms) (aT (aC (aQ aq x1.Terms) (aB c24 aN)))))
    ·refine aV H27 (fun c26 H28 => ?_) (fun c27 H29 => ?_)
     ·obtain rfl:=sI H28;exact pR 6 [r0 [.v,.v,.e (nI x0.Terms.length),.v,.v,.e (nI x1.Terms.length),.e bF,.v,.v,.v,.v,.v,.v,.v,.v],.eqT 80 bT,V1] [] [] (aT (aC (aQ aq x0.Terms) (aT (aC (aQ aq x1.Terms) (aB c25 (aB c26 aN))))))
     ·obtain rfl:=sI H29;exact pR 7 [r0 [.v,.v,.e (nI x0.Terms.length),.v,.v,.e (nI x1.Terms.length),.e bF,.v,.v,.v,.v,.v,.v,.v,.v],.eqT 80 bF,V1] [] [] (aT (aC (aQ aq x0.Terms) (aT (aC (aQ aq x1.Terms) (aB c25 (aB c27 aN))))))
def fj (x0 x1:Linear):Option Bool :=
 (k7 x0 x1).bind fun y0 =>
 some (y0==0)
theorem sW (x0 x1:Linear) (r:Bool) (H:fj x0 x1=some r):bG Tryz.prog 11 [.agg [iI x0.Const,dS aq x0.Terms],.agg [iI x1.Const,dS aq x1.Terms]] (.bool r):=by unfold fj at H;refine aX Tryz.func11 9 [.tmp 4] ?_;refine aR H fun y0 h0 H0 => ?_;obtain rfl:=sI H0;exact pR 5 [r0 [.m,.m,.v],r0 [.v,.v,.c true (iI y0),.v,.v]] [] [] (aC Tryz.call39 (aF (wo _ _ _ h0) aN))
def iQ (x0:Linear):Option Int :=
 (dj x0).bind fun y0 =>
 bif y0 then (
  (dn (σ:=Int) (ε:=Int) (ρ:=Empty) (fun i0 s0 =>
   ((
    bif decide (((x0.Terms.getD i0 ay).C)<0) then (
     some (aK (0-((x0.Terms.getD i0 ay).C)))
    ) else (
     some ((x0.Terms.getD i0 ay).C)
    )
   ):Option Int).bind fun v0 =>
   (gn (σ:=(Int×Int)) (ε:=Int) (ρ:=Empty) (fun s1 =>
    bif decide (s1.2>0) then (
     bf ((s1.2:Int)≠0) <|
     some (.go (s1.2,(s1.1.tmod s1.2)))
    ) else (
     some (.brk s1.1)
    )
   ) 4294967296 (s0,v0)).bind <| ca fun u0 =>
   some (.go u0)
  ) (fun i0 s0=>s0) (x0.Terms.length-0) 0 0).bind <| ca fun u1 =>
  some u1
 ) else (
  some 0
 )
def kQ (x0:Linear) (i0:Nat) (s0:Int):AS:=⟨36,[(1,.hptr 1 0),(2,iI 0),(3,iI s0),(4,nI i0)],[(1,.cells 34 [iI x0.Const,dS aq x0.Terms])]⟩
def pN (u2:Int):AS:=⟨36,[(2,iI 0),(3,iI u2)],[]⟩
def kO (x0:Linear) (i0:Nat) (s0 v0:Int):AS:=⟨36,[(1,.hptr 1 0),(2,iI 0),(3,iI s0),(4,nI i0),(5,iI s0),(6,iI v0)],[(1,.cells 34 [iI x0.Const,dS aq x0.Terms])]⟩
def kD (x0:Linear) (i0:Nat) (s0:Int) (s1:Int×Int):AS:=⟨36,[(1,.hptr 1 0),(2,iI 0),(3,iI s0),(4,nI i0),(5,iI s1.1),(6,iI s1.2)],[(1,.cells 34 [iI x0.Const,dS aq x0.Terms])]⟩
def pM (x0:Linear) (i0:Nat) (s0 u3:Int):AS:=⟨36,[(1,.hptr 1 0),(2,iI 0),(3,iI s0),(4,nI i0),(5,iI u3)],[(1,.cells 34 [iI x0.Const,dS aq x0.Terms])]⟩
theorem wy (x0:Linear) (r:Int) (H:iQ x0=some r):bG Tryz.prog 72 [.agg [iI x0.Const,dS aq x0.Terms]] (iI r):=by
 unfold iQ at H;refine aX Tryz.func72 36 [.tmp 2] ?_;refine aR H fun y0 h0 H0 => ?_;refine aV H0 (fun c0 H1 => ?_) (fun c1 H2 => ?_)
 ·refine pA 14 [.rg 0 [] [.m,.v],.rg 0 [] [.v,.c true (.bool y0),.v],.eqT 9 bF,.rg 0 [] [.v],.rg 0 [] [.v]] [.only [1,2,3,4] [1]] 13 [false] (kQ x0 0 0) (aC Tryz.call36 (aF (bU _ _ h0) (aT (aM c0 aN)))) ?_;refine aR H1 fun R0 h1 H3 => ?_;refine pJ 1 (pN) R0 ?_ (fun u1 e0 => ?_)
  ·refine pC (kQ x0) h1 (fun i0 s0 h2 e1 => ?_) (fun i0 s0 h3 q0 h4 h5 => ?_)
   ·have c2:=lF i0 x0.Terms.length (by omega);subst e1;exact pB 5 [r0 [.v,.v,.v,.e (nI x0.Terms.length),.e bF]] [.only [2,3] []] (pN s0) (aT (aC (aQ aq x0.Terms) (aB c2 aN)))
   ·have c3:=lT i0 x0.Terms.length (by omega);refine pD 12 [r0 [.v,.v,.v,.e (nI x0.Terms.length),.e bT],.rg 8 (V 4 [.e (.dptr (aq (x0.Terms.getD i0 ay))),.v,.v,.v]) [.v],V2] [.only [1,2,3,4,5,6,25] [1]] 12 [true] (aT (aC (aQ aq x0.Terms) (aB c3 (aI aZ x0.Terms i0 ay aN)))) ?_;refine aR h4 fun v0 h6 H4 => ?_;refine bV 0 (kO x0 i0 s0 v0) (by kernel_rfl) ?_ ?_
    ·refine aV h6 (fun c4 H5 => ?_) (fun c5 H6 => ?_)
     ·obtain rfl:=sI H5;exact pB 3 [.eqT 25 bT,r0 [.v,.w,.v]] [.only [1,2,3,4,5,6] [1]] (kO x0 i0 s0 (aK (0-((x0.Terms.getD i0 ay).C)))) (aB c4 aN)
     ·obtain rfl:=sI H6;exact pB 3 [.eqT 25 bF] [.only [1,2,3,4,5,6] [1]] (kO x0 i0 s0 ((x0.Terms.getD i0 ay).C)) (aB c5 aN)
    ·refine pA 2 [] [.only [1,2,3,4,5,6] [1]] 2 [] (kD x0 i0 s0 (s0,v0)) aN ?_;refine aR H4 fun R1 h7 H7 => ?_;refine pJ 1 (pM x0 i0 s0) R1 ?_ (fun u0 e2 => ?_)
     ·refine lB (kD x0 i0 s0) (by kernel_rfl) h7 (fun s1 q1 h8 h9 => ?_)
      ·refine aV h8 (fun c6 H8 => ?_) (fun c7 H9 => ?_)
       ·refine aL H8 fun g0 H10 => ?_;obtain rfl:=sI H10;exact pB 8 [V2,.eqT 29 bT,.rg 5 (V 5 []) [.v]] [.only [1,2,3,4,5,6] [1]] (kD x0 i0 s0 (s1.2,(s1.1.tmod s1.2))) (aB c6 (aC (show (s1.2:Int)≠0 from g0) aN))
       ·obtain rfl:=sI H9;obtain rfl:=dM h9;exact pB 6 [V2,.eqT 29 bF] [.only [1,2,3,4,5] [1]] (pM x0 i0 s0 s1.1) (aB c7 aN)
     ·subst e2;have H11:=a8 H7;refine gX 1 1 (ps:=[(x0.Terms.map aq).length≤9223372036854775807]) (by kernel_rfl) (fun l0 => ?_);have l1:x0.Terms.length≤9223372036854775807:=by simpa only [cu,MM] using l0
      clear l0;obtain rfl:=sI H11;exact pB 2 [V2,V3] [.only [1,2,3,4] [1]] (kQ x0 (i0+1) u0) (aH i0 aN)
  ·subst e0;have H12:=a8 H3;refine bZ H12 fun e3 => ?_;subst e3;exact pR 3 [V2] [] [] aN
 ·obtain rfl:=sI H2;exact pR 10 [r0 [.m,.v],r0 [.v,.c true (.bool y0),.v],.eqT 9 bT,V1] [] [] (aC Tryz.call36 (aF (bU _ _ h0) (aT (aM c1 aN))))
def gG (x0:Int):Option Int :=
 bif decide (x0<0) then (
  some (aK (0-x0))
 ) else (
  some x0
 )
theorem fY (x0 r:Int) (H:gG x0=some r):bG Tryz.prog 116 [iI x0] (iI r):=by
 unfold gG at H;refine aX Tryz.func116 8 [.tmp 2] ?_;refine aV H (fun c0 H0 => ?_) (fun c1 H1 => ?_)
 ·obtain rfl:=sI H0;exact pR 10 [V1,V2,.eqT 4 bT,r0 [.v,.w,.v]] [] [] (aB c0 aN)
 ·refine bZ H1 fun e0 => ?_;subst e0;exact pR 11 [V1,V2,.eqT 4 bF,V2] [] [] (aB c1 aN)
def dZ (x0 x1:Int):Option (Int×Int) :=
 (da x0).bind fun y0 =>
 bif y0 then (
  (da x1).bind fun y1 =>
  bif y1 then (
   bif (x0==0) then (
    some (0,0)
   ) else (
    bif (x1==0) then (
     some (0,0)
    ) else (
     (gG x0).bind fun y2 =>
     (gG x1).bind fun y3 =>
     bf ((y3:Int)≠0) <|
     bif decide (y2>(aK ((4611686018427387904:Int).tdiv y3))) then (
      some (0,2)
     ) else (
      some ((aK (x0*x1)),0)
     )
    )
   )
  ) else (
   some (0,2)
  )
 ) else (
  some (0,2)
 )
theorem fe (x0 x1:Int) (r:Int×Int) (H:dZ x0 x1=some r):bG Tryz.prog 74 [iI x0,iI x1] (.tup [iI r.1,iI r.2]):=by
 unfold dZ at H;refine aX Tryz.func74 29 [.tmp 4,.tmp 5] ?_;refine aR H fun y0 h0 H0 => ?_;refine aV H0 (fun c0 H1 => ?_) (fun c1 H2 => ?_)
 ·refine aR H1 fun y1 h1 H3 => ?_;refine aV H3 (fun c2 H4 => ?_) (fun c3 H5 => ?_)
  ·refine aV H4 (fun c4 H6 => ?_) (fun c5 H7 => ?_)
   ·obtain rfl:=sI H6;exact pR 15 [V2,r0 [.v,.c true bT,.v,.v,.v,.c true (.bool y1),.v,.v],.eqT 13 bF,r0 [.v,.e bT,.v,.s,.s,.v],V2] [] [] (aC Tryz.call85 (aC (bG.eq (aY _ _ h0) (cB c0)) (aT (aC Tryz.call85 (aF (aY _ _ h1) (aT (aM c2 (aB c4 aN))))))))
   ·refine pD 11 [.rg 0 [] [.v,.v],.rg 0 [] [.v,.c true bT,.v,.v,.v,.c true (.bool y1),.v,.v],.eqT 13 bF,.rg 0 [] [.v,.e bF,.v,.v,.v,.v]] [.only [0,1,4,5,19] []] 10 [false] (aC Tryz.call85 (aC (bG.eq (aY _ _ h0) (cB c0)) (aT (aC Tryz.call85 (aF (aY _ _ h1) (aT (aM c2 (aB c5 aN)))))))) ?_;refine aV H7 (fun c6 H8 => ?_) (fun c7 H9 => ?_)
    ·obtain rfl:=sI H8;exact pR 5 [.eqT 19 bT,V2] [] [] (aB c6 aN)
    ·refine aR H9 fun y2 h2 H10 => ?_;refine aR H10 fun y3 h3 H11 => ?_;refine aL H11 fun g0 H12 => ?_;refine aV H12 (fun c8 H13 => ?_) (fun c9 H14 => ?_)
     ·obtain rfl:=sI H13;exact pR 11 [.eqT 19 bF,r0 [.v,.c true (iI y2),.v,.c true (iI y3),.w,.v],.eqT 25 bT,V2] [] [] (aB c7 (aC Tryz.call116 (aF (fY _ _ h2) (aC Tryz.call116 (aF (fY _ _ h3) (aC (show (y3:Int)≠0 from g0) (aB c8 aN)))))))
     ·obtain rfl:=sI H14;exact pR 12 [.eqT 19 bF,r0 [.v,.c true (iI y2),.v,.c true (iI y3),.w,.v],.eqT 25 bF,r0 [.v,.v,.w,.v,.v]] [] [] (aB c7 (aC Tryz.call116 (aF (fY _ _ h2) (aC Tryz.call116 (aF (fY _ _ h3) (aC (show (y3:Int)≠0 from g0) (aB c9 aN)))))))
  ·obtain rfl:=sI H5;exact pR 10 [V2,r0 [.v,.c true bT,.v,.v,.v,.c true (.bool y1),.v,.v],.eqT 13 bT,V2] [] [] (aC Tryz.call85 (aC (bG.eq (aY _ _ h0) (cB c0)) (aT (aC Tryz.call85 (aF (aY _ _ h1) (aT (aM c3 aN)))))))
 ·obtain rfl:=sI H2;exact pR 9 [V2,r0 [.v,.c true bF,.v,.v,.s,.s,.s,.v],V2] [] [] (aC Tryz.call85 (aC (bG.eq (aY _ _ h0) (cB c1)) (aT aN)))
def j7 (x0:ak) (x1:Int):Option al :=
 (dZ x0.scale x1).bind fun y0 =>
 bif x0.big then (
  some (al.mk [] 0)
 ) else (
  bif (y0.2==0) then (
   bif decide (y0.1>1099511627776) then (
    some (al.mk [] 0)
   ) else (
    some (al.mk x0.mults y0.1)
   )
  ) else (
   some (al.mk [] 0)
  )
 )
theorem xF (x0:ak) (x1:Int) (r:al) (H:j7 x0 x1=some r):bG Tryz.prog 73 [.agg [iI x0.q.Const,dS aq x0.q.Terms,dS ao x0.mults,iI x0.scale,.bool x0.big],iI x1] (.agg [dS ao r.Mults,iI r.Mod]):=by
 unfold j7 at H;refine aX Tryz.func73 29 [.cell 4 53] ?_;refine aR H fun y0 h0 H0 => ?_;refine aV H0 (fun c0 H1 => ?_) (fun c1 H2 => ?_)
 ·obtain rfl:=sI H1;exact pR 11 [r0 [.m,.m],r0 [.v,.v,.v,.c true (.tup [iI y0.1,iI y0.2]),.v,.v,.v,.v,.v],r0 [.v,.e bT,.v,.s,.s,.v,.v,.s,.s,.v],r0 [.b,.m]] [.wkH 4 0 []] [] (aC Tryz.call74 (aF (fe _ _ _ h0) (aB c0 aN)))
 ·refine aV H2 (fun c2 H3 => ?_) (fun c3 H4 => ?_)
  ·refine aV H3 (fun c4 H5 => ?_) (fun c5 H6 => ?_)
   ·obtain rfl:=sI H5;exact pR 12 [r0 [.m,.m],r0 [.v,.v,.v,.c true (.tup [iI y0.1,iI y0.2]),.v,.v,.v,.v,.v],r0 [.v,.e bF,.v,.v,.e bF,.v,.v,.v,.v,.v],.eqT 23 bT,r0 [.b,.m]] [.wkH 4 0 []] [] (aC Tryz.call74 (aF (fe _ _ _ h0) (aB c1 (aM c2 (aB c4 aN)))))
   ·obtain rfl:=sI H6;exact pR 13 [r0 [.m,.m],r0 [.v,.v,.v,.c true (.tup [iI y0.1,iI y0.2]),.v,.v,.v,.v,.v],r0 [.v,.e bF,.v,.v,.e bF,.v,.v,.v,.v,.v],.eqT 23 bF,r0 [.v,.v,.v,.b,.m]] [] [] (aC Tryz.call74 (aF (fe _ _ _ h0) (aB c1 (aM c2 (aB c5 aN)))))
  ·obtain rfl:=sI H4;exact pR 11 [r0 [.m,.m],r0 [.v,.v,.v,.c true (.tup [iI y0.1,iI y0.2]),.v,.v,.v,.v,.v],r0 [.v,.e bF,.v,.v,.e bT,.v,.v,.s,.s,.v],r0 [.b,.m]] [.wkH 4 0 []] [] (aC Tryz.call74 (aF (fe _ _ _ h0) (aB c1 (aM c3 aN))))
def kf (x0:Linear):Option au :=
 bf (0<x0.Terms.length) <|
 (dn (σ:=(aJ×Int)) (ε:=(aJ×Int)) (ρ:=Empty) (fun i0 s0 =>
  ((
   bif decide (((x0.Terms.getD i0 ay).C)<0) then (
    some (aK (0-((x0.Terms.getD i0 ay).C)))
   ) else (
    some ((x0.Terms.getD i0 ay).C)
   )
  ):Option Int).bind fun v0 =>
  ((
   bif decide (s0.2<0) then (
    some (aK (0-s0.2))
   ) else (
    some s0.2
   )
  ):Option Int).bind fun v1 =>
  (dh ((x0.Terms.getD i0 ay).Var)).bind fun y0 =>
  (dh s0.1).bind fun y1 =>
  ((
   bif decide (v0<v1) then (
    some true
   ) else (
    bif (v0==v1) then (
     bif decide (y0>y1) then (
      some true
     ) else (
      bif (y0==0) then (
       some (y1==0)
      ) else (
       some false
      )
     )
    ) else (
     some false
    )
   )
  ):Option Bool).bind fun v2 =>
  ((
   bif v2 then (
    some (((x0.Terms.getD i0 ay).Var),((x0.Terms.getD i0 ay).C))
   ) else (
    some (s0.1,s0.2)
   )
  ):Option (aJ×Int)).bind fun v3 =>
  some (.go (v3.1,v3.2))
 ) (fun i0 s0=>(s0.1,s0.2)) (x0.Terms.length-1) 1 (((x0.Terms.getD 0 ay).Var),((x0.Terms.getD 0 ay).C))).bind <| ca fun u0 =>
 some (au.mk u0.1 u0.2)
def lR (x0:Linear) (i0:Nat) (s0:aJ×Int):AS:=⟨67,[(1,.hptr 1 0),(2,.hptr 2 0),(3,.hptr 3 0),(4,nI i0)],[(1,.cells 34 [iI x0.Const,dS aq x0.Terms]),(2,.cells 88 [.str [],iI 0]),(3,.cells 88 [.str s0.1,iI s0.2])]⟩
def qQ (u1:aJ×Int):AS:=⟨67,[(2,.hptr 2 0),(3,.hptr 3 0)],[(2,.cells 88 [.str [],iI 0]),(3,.cells 88 [.str u1.1,iI u1.2])]⟩
def lP (x0:Linear) (i0:Nat) (s0:aJ×Int) (v0:Int):AS:=⟨67,[(1,.hptr 1 0),(2,.hptr 2 0),(3,.hptr 3 0),(4,nI i0),(5,.hptr 5 0),(6,iI v0),(7,iI s0.2)],[(1,.cells 34 [iI x0.Const,dS aq x0.Terms]),(2,.cells 88 [.str [],iI 0]),(3,.cells 88 [.str s0.1,iI s0.2]),(5,.cells 88 [.str ((x0.Terms.getD i0 ay).Var),iI ((x0.Terms.getD i0 ay).C)])]⟩
def ma (x0:Linear) (i0:Nat) (s0:aJ×Int) (v0 v1:Int):AS:=⟨67,[(1,.hptr 1 0),(2,.hptr 2 0),(3,.hptr 3 0),(4,nI i0),(5,.hptr 5 0),(6,iI v0),(7,iI v1)],[(1,.cells 34 [iI x0.Const,dS aq x0.Terms]),(2,.cells 88 [.str [],iI 0]),(3,.cells 88 [.str s0.1,iI s0.2]),(5,.cells 88 [.str ((x0.Terms.getD i0 ay).Var),iI ((x0.Terms.getD i0 ay).C)])]⟩
def eZ (x0:Linear) (i0:Nat) (s0:aJ×Int) (v2:Bool):AS:=⟨67,[(1,.hptr 1 0),(2,.hptr 2 0),(3,.hptr 3 0),(4,nI i0),(5,.hptr 5 0),(64,.bool v2)],[(1,.cells 34 [iI x0.Const,dS aq x0.Terms]),(2,.cells 88 [.str [],iI 0]),(3,.cells 88 [.str s0.1,iI s0.2]),(5,.cells 88 [.str ((x0.Terms.getD i0 ay).Var),iI ((x0.Terms.getD i0 ay).C)])]⟩
def lM (x0:Linear) (i0:Nat) (v3:aJ×Int):AS:=⟨67,[(1,.hptr 1 0),(2,.hptr 2 0),(3,.hptr 3 0),(4,nI i0)],[(1,.cells 34 [iI x0.Const,dS aq x0.Terms]),(2,.cells 88 [.str [],iI 0]),(3,.cells 88 [.str v3.1,iI v3.2])]⟩
theorem yh (x0:Linear) (r:au) (H:kf x0=some r):bG Tryz.prog 75 [.agg [iI x0.Const,dS aq x0.Terms]] (.agg [.str r.Var,iI r.C]):=by
 unfold kf at H;refine aX Tryz.func75 67 [.cell 2 88] ?_;refine aL H fun g0 H0 => ?_;refine pA 8 [r0 [.m,.m],r0 [.v,.v,.e (.dptr (aq (x0.Terms.getD 0 ay))),.v,.m,.m],V1] [.only [1,2,3,4] [1,2,3]] 8 [] (lR x0 1 (((x0.Terms.getD 0 ay).Var),((x0.Terms.getD 0 ay).C))) (aI aZ x0.Terms 0 ay aN) ?_;refine aR H0 fun R0 h0 H1 => ?_;refine pJ 1 (qQ) R0 ?_ (fun u0 e0 => ?_)
 ·refine pC (lR x0) h0 (fun i0 s0 h1 e1 => ?_) (fun i0 s0 h2 q0 h3 h4 => ?_)
  ·have c0:=lF i0 x0.Terms.length (by omega);subst e1;exact pB 5 [r0 [.v,.v,.v,.e (nI x0.Terms.length),.e bF]] [.only [2,3] [2,3]] (qQ (s0.1,s0.2)) (aT (aC (aQ aq x0.Terms) (aB c0 aN)))
  ·have c1:=lT i0 x0.Terms.length (by omega);refine pD 14 [r0 [.v,.v,.v,.e (nI x0.Terms.length),.e bT],r0 [.v,.v,.v,.e (.dptr (aq (x0.Terms.getD i0 ay))),.v,.m,.m],.rg 5 (V 5 []) [.v],V2] [.only [1,2,3,4,5,6,7,31] [1,2,3,5]] 14 [true] (aT (aC (aQ aq x0.Terms) (aB c1 (aI aZ x0.Terms i0 ay aN)))) ?_;refine aR h3 fun v0 h5 H2 => ?_;refine bV 0 (lP x0 i0 s0 v0) (by kernel_rfl) ?_ ?_
   ·refine aV h5 (fun c2 H3 => ?_) (fun c3 H4 => ?_)
    ·obtain rfl:=sI H3;exact pB 3 [.eqT 31 bT,r0 [.v,.w,.v]] [.only [1,2,3,4,5,6,7] [1,2,3,5]] (lP x0 i0 s0 (aK (0-((x0.Terms.getD i0 ay).C)))) (aB c2 aN)
    ·obtain rfl:=sI H4;exact pB 3 [.eqT 31 bF] [.only [1,2,3,4,5,6,7] [1,2,3,5]] (lP x0 i0 s0 ((x0.Terms.getD i0 ay).C)) (aB c3 aN)
   ·refine pD 3 [.rg 0 [] [.v,.v]] [.only [1,2,3,4,5,6,7,35] [1,2,3,5]] 3 [] aN ?_;refine aR H2 fun v1 h6 H5 => ?_;refine bV 0 (ma x0 i0 s0 v0 v1) (by kernel_rfl) ?_ ?_
    ·refine aV h6 (fun c4 H6 => ?_) (fun c5 H7 => ?_)
     ·obtain rfl:=sI H6;exact pB 3 [.eqT 35 bT,r0 [.v,.w,.v]] [.only [1,2,3,4,5,6,7] [1,2,3,5]] (ma x0 i0 s0 v0 (aK (0-s0.2))) (aB c4 aN)
     ·obtain rfl:=sI H7;exact pB 3 [.eqT 35 bF] [.only [1,2,3,4,5,6,7] [1,2,3,5]] (ma x0 i0 s0 v0 s0.2) (aB c5 aN)
    ·refine aR H5 fun y0 h7 H8 => ?_;refine aR H8 fun y1 h8 H9 => ?_;refine pD 3 [.rg 5 [.v,.v,.c true (iI y0),.v,.v] [.c true (iI y1),.v,.v]] [.only [1,2,3,4,5,6,7,8,9] [1,2,3,5]] 3 [] (aC Tryz.call71 (aF (oS _ _ h7) (aC Tryz.call71 (aF (oS _ _ h8) aN)))) ?_;refine aR H9 fun v2 h9 H10 => ?_;refine bV 0 (eZ x0 i0 s0 v2) (by kernel_rfl) ?_ ?_
     ·refine aV h9 (fun c6 H11 => ?_) (fun c7 H12 => ?_)
      ·obtain rfl:=sI H11;exact pB 1 [r0 [.v,.v,.e bT,.v,.s,.s,.s,.s,.s,.s,.s,.s,.s,.s,.s,.s,.s,.s,.s,.s,.v]] [.only [1,2,3,4,5,64] [1,2,3,5]] (eZ x0 i0 s0 true) (aB c6 aN)
      ·refine aV H12 (fun c8 H13 => ?_) (fun c9 H14 => ?_)
       ·refine aV H13 (fun c10 H15 => ?_) (fun c11 H16 => ?_)
        ·obtain rfl:=sI H15;exact pB 1 [r0 [.v,.v,.e bF,.v,.v,.v,.e bT,.v,.v,.v,.e bT,.v,.s,.s,.s,.s,.s,.s,.v,.v,.v]] [.only [1,2,3,4,5,64] [1,2,3,5]] (eZ x0 i0 s0 true) (aB c7 (aB c8 (aB c10 aN)))
        ·refine aV H16 (fun c12 H17 => ?_) (fun c13 H18 => ?_)
         ·obtain rfl:=sI H17;exact pB 1 [r0 [.v,.v,.e bF,.v,.v,.v,.e bT,.v,.v,.v,.e bF,.v,.v,.e bT,.v,.v,.v,.v,.v,.v,.v]] [.only [1,2,3,4,5,64] [1,2,3,5]] (eZ x0 i0 s0 (y1==0)) (aB c7 (aB c8 (aB c11 (aB c12 aN))))
         ·obtain rfl:=sI H18;exact pB 1 [r0 [.v,.v,.e bF,.v,.v,.v,.e bT,.v,.v,.v,.e bF,.v,.v,.e bF,.v,.s,.s,.v,.v,.v,.v]] [.only [1,2,3,4,5,64] [1,2,3,5]] (eZ x0 i0 s0 false) (aB c7 (aB c8 (aB c11 (aB c13 aN))))
       ·obtain rfl:=sI H14;exact pB 1 [r0 [.v,.v,.e bF,.v,.v,.v,.e bF,.v,.s,.s,.s,.s,.s,.s,.s,.s,.s,.s,.s,.v,.v]] [.only [1,2,3,4,5,64] [1,2,3,5]] (eZ x0 i0 s0 false) (aB c7 (aB c9 aN))
     ·refine aR H10 fun v3 h10 H19 => ?_;refine bV 1 (lM x0 i0 v3) (by kernel_rfl) ?_ ?_
      ·refine aV h10 (fun c14 H20 => ?_) (fun c15 H21 => ?_)
       ·obtain rfl:=sI H20;exact pB 3 [.eqT 64 bT,r0 [.v,.m]] [.only [1,2,3,4] [1,2,3]] (lM x0 i0 (((x0.Terms.getD i0 ay).Var),((x0.Terms.getD i0 ay).C))) (aB c14 aN)
       ·obtain rfl:=sI H21;exact pB 3 [.eqT 64 bF] [.only [1,2,3,4] [1,2,3]] (lM x0 i0 (s0.1,s0.2)) (aB c15 aN)
      ·refine gX 1 1 (ps:=[(x0.Terms.map aq).length≤9223372036854775807]) (by kernel_rfl) (fun l0 => ?_);have l1:x0.Terms.length≤9223372036854775807:=by simpa only [cu,MM] using l0
       clear l0;obtain rfl:=sI H19;exact pB 1 [V3] [.only [1,2,3,4] [1,2,3]] (lR x0 (i0+1) (v3.1,v3.2)) (aH i0 aN)
 ·subst e0;have H22:=a8 H1;obtain rfl:=sI H22;exact pR 3 [r0 [.v,.m]] [] [] aN
def pY (x0 x1:Int):Option (Int×Int) :=
 (da x0).bind fun y0 =>
 bif y0 then (
  (da x1).bind fun y1 =>
  bif y1 then (
   (gG x0).bind fun y2 =>
   (gG x1).bind fun y3 =>
   (gn (σ:=(Int×Int)) (ε:=Int) (ρ:=Empty) (fun s0 =>
    bif decide (s0.2>0) then (
     bf ((s0.2:Int)≠0) <|
     some (.go (s0.2,(s0.1.tmod s0.2)))
    ) else (
     some (.brk s0.1)
    )
   ) 4294967296 (y2,y3)).bind <| ca fun u0 =>
   some (u0,0)
  ) else (
   some (0,2)
  )
 ) else (
  some (0,2)
 )
def qA (s0:Int×Int):AS:=⟨25,[(0,iI s0.1),(1,iI s0.2),(4,iI 0),(5,iI 0)],[]⟩
def uy (u1:Int):AS:=⟨25,[(0,iI u1),(4,iI 0),(5,iI 0)],[]⟩
theorem BG (x0 x1:Int) (r:Int×Int) (H:pY x0 x1=some r):bG Tryz.prog 146 [iI x0,iI x1] (.tup [iI r.1,iI r.2]):=by
 unfold pY at H;refine aX Tryz.func146 25 [.tmp 4,.tmp 5] ?_;refine aR H fun y0 h0 H0 => ?_;refine aV H0 (fun c0 H1 => ?_) (fun c1 H2 => ?_)
 ·refine aR H1 fun y1 h1 H3 => ?_;refine aV H3 (fun c2 H4 => ?_) (fun c3 H5 => ?_)
  ·refine aR H4 fun y2 h2 H6 => ?_;refine aR H6 fun y3 h3 H7 => ?_;refine pA 12 [V2,r0 [.v,.c true bT,.v,.v,.v,.c true (.bool y1),.v,.v],.eqT 13 bF,r0 [.v,.c true (iI y2),.v,.c true (iI y3),.v,.v]] [.only [0,1,4,5] []] 11 [false] (qA (y2,y3)) (aC Tryz.call85 (aC (bG.eq (aY _ _ h0) (cB c0)) (aT (aC Tryz.call85 (aF (aY _ _ h1) (aT (aM c2 (aC Tryz.call116 (aF (fY _ _ h2) (aC Tryz.call116 (aF (fY _ _ h3) aN))))))))))) ?_;refine aR H7 fun R0 h4 H8 => ?_;refine pJ 1 (uy) R0 ?_ (fun u0 e0 => ?_)
   ·refine lB (qA) (by kernel_rfl) h4 (fun s0 q0 h5 h6 => ?_)
    ·refine aV h5 (fun c4 H9 => ?_) (fun c5 H10 => ?_)
     ·refine aL H9 fun g0 H11 => ?_;obtain rfl:=sI H11;exact pB 8 [V2,.eqT 19 bT,.rg 5 (V 5 []) [.v]] [.only [0,1,4,5] []] (qA (s0.2,(s0.1.tmod s0.2))) (aB c4 (aC (show (s0.2:Int)≠0 from g0) aN))
     ·obtain rfl:=sI H10;obtain rfl:=dM h6;exact pB 6 [V2,.eqT 19 bF] [.only [0,4,5] []] (uy s0.1) (aB c5 aN)
   ·subst e0;have H12:=a8 H8;obtain rfl:=sI H12;exact pR 3 [V3] [] [] aN
  ·obtain rfl:=sI H5;exact pR 10 [V2,r0 [.v,.c true bT,.v,.v,.v,.c true (.bool y1),.v,.v],.eqT 13 bT,V2] [] [] (aC Tryz.call85 (aC (bG.eq (aY _ _ h0) (cB c0)) (aT (aC Tryz.call85 (aF (aY _ _ h1) (aT (aM c3 aN)))))))
 ·obtain rfl:=sI H2;exact pR 9 [V2,r0 [.v,.c true bF,.v,.v,.s,.s,.s,.v],V2] [] [] (aC Tryz.call85 (aC (bG.eq (aY _ _ h0) (cB c1)) (aT aN)))
def pT (x0 x1:Int):Option (Int×Int) :=
 (da x0).bind fun y0 =>
 bif y0 then (
  (da x1).bind fun y1 =>
  bif y1 then (
   bif (x0==0) then (
    some (0,0)
   ) else (
    bif (x1==0) then (
     some (0,0)
    ) else (
     (pY x0 x1).bind fun y2 =>
     (gG x0).bind fun y3 =>
     bf ((y2.1:Int)≠0) <|
     (gG x1).bind fun y4 =>
     (dZ (aK (y3.tdiv y2.1)) y4).bind fun y5 =>
     some (y5.1,y5.2)
    )
   )
  ) else (
   some (0,2)
  )
 ) else (
  some (0,2)
 )
theorem sd (x0 x1:Int) (r:Int×Int) (H:pT x0 x1=some r):bG Tryz.prog 117 [iI x0,iI x1] (.tup [iI r.1,iI r.2]):=by
 unfold pT at H;refine aX Tryz.func117 37 [.tmp 4,.tmp 5] ?_;refine aR H fun y0 h0 H0 => ?_;refine aV H0 (fun c0 H1 => ?_) (fun c1 H2 => ?_)
 ·refine aR H1 fun y1 h1 H3 => ?_;refine aV H3 (fun c2 H4 => ?_) (fun c3 H5 => ?_)
  ·refine aV H4 (fun c4 H6 => ?_) (fun c5 H7 => ?_)
   ·obtain rfl:=sI H6;exact pR 15 [V2,r0 [.v,.c true bT,.v,.v,.v,.c true (.bool y1),.v,.v],.eqT 15 bF,r0 [.v,.e bT,.v,.s,.s,.v],V2] [] [] (aC Tryz.call85 (aC (bG.eq (aY _ _ h0) (cB c0)) (aT (aC Tryz.call85 (aF (aY _ _ h1) (aT (aM c2 (aB c4 aN))))))))
   ·refine pD 11 [.rg 0 [] [.v,.v],.rg 0 [] [.v,.c true bT,.v,.v,.v,.c true (.bool y1),.v,.v],.eqT 15 bF,.rg 0 [] [.v,.e bF,.v,.v,.v,.v]] [.only [0,1,4,5,21] []] 10 [false] (aC Tryz.call85 (aC (bG.eq (aY _ _ h0) (cB c0)) (aT (aC Tryz.call85 (aF (aY _ _ h1) (aT (aM c2 (aB c5 aN)))))))) ?_;refine aV H7 (fun c6 H8 => ?_) (fun c7 H9 => ?_)
    ·obtain rfl:=sI H8;exact pR 5 [.eqT 21 bT,V2] [] [] (aB c6 aN)
    ·refine aR H9 fun y2 h2 H10 => ?_;refine aR H10 fun y3 h3 H11 => ?_;refine aL H11 fun g0 H12 => ?_;refine aR H12 fun y4 h4 H13 => ?_;refine aR H13 fun y5 h5 H14 => ?_;obtain rfl:=sI H14;exact pR 8 [.eqT 21 bF,r0 [.v,.v,.c true (.tup [iI y2.1,iI y2.2]),.v,.v,.v,.v,.v],.rg 9 [.v,.c true (iI y3),.v,.w,.v,.c true (iI y4),.c true (.tup [iI y5.1,iI y5.2]),.v,.v] [.v,.v]] [] [] (aB c7 (aC Tryz.call146 (aF (BG _ _ _ h2) (aC Tryz.call116 (aF (fY _ _ h3) (aC (show (y2.1:Int)≠0 from g0) (aC Tryz.call116 (aF (fY _ _ h4) (aC Tryz.call74 (aF (fe _ _ _ h5) aN))))))))))
  ·obtain rfl:=sI H5;exact pR 10 [V2,r0 [.v,.c true bT,.v,.v,.v,.c true (.bool y1),.v,.v],.eqT 15 bT,V2] [] [] (aC Tryz.call85 (aC (bG.eq (aY _ _ h0) (cB c0)) (aT (aC Tryz.call85 (aF (aY _ _ h1) (aT (aM c3 aN)))))))
 ·obtain rfl:=sI H2;exact pR 9 [V2,r0 [.v,.c true bF,.v,.v,.s,.s,.s,.v],V2] [] [] (aC Tryz.call85 (aC (bG.eq (aY _ _ h0) (cB c1)) (aT aN)))
def qc (x0 x1:Int):Option (Int×Int) :=
 (da x0).bind fun y0 =>
 bif y0 then (
  (da x1).bind fun y1 =>
  bif y1 then (
   ((
    bif decide (x0>0) then (
     bif decide (x1>(aK (4611686018427387904-x0))) then (
      some (.ret (0,2))
     ) else (
      bif decide (x0<0) then (
       bif decide (x1<(aK ((-4611686018427387904)-x0))) then (
        some (.ret (0,2))
       ) else (
        some (.brk ())
       )
      ) else (
       some (.brk ())
      )
     )
    ) else (
     bif decide (x0<0) then (
      bif decide (x1<(aK ((-4611686018427387904)-x0))) then (
       some (.ret (0,2))
      ) else (
       some (.brk ())
      )
     ) else (
      some (.brk ())
     )
    )
   ):Option (Out Unit (Int×Int))).bind (aft fun u0 =>
    some ((aK (x0+x1)),0)
   )
  ) else (
   some (0,2)
  )
 ) else (
  some (0,2)
 )
def j9 (x0 x1:Int) (u0:Unit):AS:=⟨35,[(0,iI x0),(1,iI x1),(4,iI 0),(5,iI 0)],[]⟩
theorem B1 (x0 x1:Int) (r:Int×Int) (H:qc x0 x1=some r):bG Tryz.prog 147 [iI x0,iI x1] (.tup [iI r.1,iI r.2]):=by
 unfold qc at H;refine aX Tryz.func147 35 [.tmp 4,.tmp 5] ?_;refine aR H fun y0 h0 H0 => ?_;refine aV H0 (fun c0 H1 => ?_) (fun c1 H2 => ?_)
 ·refine aR H1 fun y1 h1 H3 => ?_;refine aV H3 (fun c2 H4 => ?_) (fun c3 H5 => ?_)
  ·refine pD 10 [.rg 0 [] [.v,.v],.rg 0 [] [.v,.c true bT,.v,.v,.v,.c true (.bool y1),.v,.v],.eqT 13 bF] [.only [0,1,4,5] []] 9 [false] (aC Tryz.call85 (aC (bG.eq (aY _ _ h0) (cB c0)) (aT (aC Tryz.call85 (aF (aY _ _ h1) (aT (aM c2 aN))))))) ?_;refine aR H4 fun v0 h2 H6 => ?_;refine pJ 1 (j9 x0 x1) v0 ?_ (fun u0 e0 => ?_)
   ·refine aV h2 (fun c4 H7 => ?_) (fun c5 H8 => ?_)
    ·refine aV H7 (fun c6 H9 => ?_) (fun c7 H10 => ?_)
     ·obtain rfl:=sI H9;obtain rfl:=sI (aP H6);exact pR 5 [r0 [.v,.e bT,.v,.v,.v,.w,.e bT,.v,.v,.s,.s,.s,.s,.s,.s,.s,.s,.v],V2] [] [] (aB c4 (aB c6 aN))
     ·refine aV H10 (fun c8 H11 => ?_) (fun c9 H12 => ?_)
      ·refine aV H11 (fun c10 H13 => ?_) (fun c11 H14 => ?_)
       ·obtain rfl:=sI H13;obtain rfl:=sI (aP H6);exact pR 6 [r0 [.v,.e bT,.v,.v,.v,.w,.e bF,.v,.v,.v,.e bT,.v,.v,.v,.w,.v,.v,.v],.eqT 31 bT,V2] [] [] (aB c4 (aB c7 (aB c8 (aB c10 aN))))
       ·obtain rfl:=sI H14;exact pB 4 [r0 [.v,.e bT,.v,.v,.v,.w,.e bF,.v,.v,.v,.e bT,.v,.v,.v,.w,.v,.v,.v],.eqT 31 bF] [.only [0,1,4,5] []] (j9 x0 x1 ()) (aB c4 (aB c7 (aB c8 (aB c11 aN))))
      ·obtain rfl:=sI H12;exact pB 3 [r0 [.v,.e bT,.v,.v,.v,.w,.e bF,.v,.v,.v,.e bF,.v,.s,.s,.s,.s,.v,.v]] [.only [0,1,4,5] []] (j9 x0 x1 ()) (aB c4 (aB c7 (aB c9 aN)))
    ·refine aV H8 (fun c12 H15 => ?_) (fun c13 H16 => ?_)
     ·refine aV H15 (fun c14 H17 => ?_) (fun c15 H18 => ?_)
      ·obtain rfl:=sI H17;obtain rfl:=sI (aP H6);exact pR 6 [r0 [.v,.e bF,.v,.s,.s,.s,.s,.v,.v,.v,.e bT,.v,.v,.v,.w,.v,.v,.v],.eqT 31 bT,V2] [] [] (aB c5 (aB c12 (aB c14 aN)))
      ·obtain rfl:=sI H18;exact pB 4 [r0 [.v,.e bF,.v,.s,.s,.s,.s,.v,.v,.v,.e bT,.v,.v,.v,.w,.v,.v,.v],.eqT 31 bF] [.only [0,1,4,5] []] (j9 x0 x1 ()) (aB c5 (aB c12 (aB c15 aN)))
     ·obtain rfl:=sI H16;exact pB 3 [r0 [.v,.e bF,.v,.s,.s,.s,.s,.v,.v,.v,.e bF,.v,.s,.s,.s,.s,.v,.v]] [.only [0,1,4,5] []] (j9 x0 x1 ()) (aB c5 (aB c13 aN))
   ·subst e0;have H19:=bl H6;obtain rfl:=sI H19;exact pR 3 [r0 [.v,.v,.w,.v,.v]] [] [] aN
  ·obtain rfl:=sI H5;exact pR 10 [V2,r0 [.v,.c true bT,.v,.v,.v,.c true (.bool y1),.v,.v],.eqT 13 bT,V2] [] [] (aC Tryz.call85 (aC (bG.eq (aY _ _ h0) (cB c0)) (aT (aC Tryz.call85 (aF (aY _ _ h1) (aT (aM c3 aN)))))))
 ·obtain rfl:=sI H2;exact pR 9 [V2,r0 [.v,.c true bF,.v,.v,.s,.s,.s,.v],V2] [] [] (aC Tryz.call85 (aC (bG.eq (aY _ _ h0) (cB c1)) (aT aN)))
def my (x0 x1:Int):Option (Int×Int) :=
 (da x0).bind fun y0 =>
 bif y0 then (
  (da x1).bind fun y1 =>
  bif y1 then (
   (qc x0 (aK (0-x1))).bind fun y2 =>
   some (y2.1,y2.2)
  ) else (
   some (0,2)
  )
 ) else (
  some (0,2)
 )
theorem Bs (x0 x1:Int) (r:Int×Int) (H:my x0 x1=some r):bG Tryz.prog 118 [iI x0,iI x1] (.tup [iI r.1,iI r.2]):=by
 unfold my at H;refine aX Tryz.func118 20 [.tmp 4,.tmp 5] ?_;refine aR H fun y0 h0 H0 => ?_;refine aV H0 (fun c0 H1 => ?_) (fun c1 H2 => ?_)
 ·refine aR H1 fun y1 h1 H3 => ?_;refine aV H3 (fun c2 H4 => ?_) (fun c3 H5 => ?_)
  ·refine aR H4 fun y2 h2 H6 => ?_;obtain rfl:=sI H6;exact pR 11 [V2,r0 [.v,.c true bT,.v,.v,.v,.c true (.bool y1),.v,.v],.eqT 13 bF,r0 [.v,.v,.w,.c true (.tup [iI y2.1,iI y2.2]),.v,.v,.v,.v]] [] [] (aC Tryz.call85 (aC (bG.eq (aY _ _ h0) (cB c0)) (aT (aC Tryz.call85 (aF (aY _ _ h1) (aT (aM c2 (aC Tryz.call147 (aF (B1 _ _ _ h2) aN)))))))))
  ·obtain rfl:=sI H5;exact pR 10 [V2,r0 [.v,.c true bT,.v,.v,.v,.c true (.bool y1),.v,.v],.eqT 13 bT,V2] [] [] (aC Tryz.call85 (aC (bG.eq (aY _ _ h0) (cB c0)) (aT (aC Tryz.call85 (aF (aY _ _ h1) (aT (aM c3 aN)))))))
 ·obtain rfl:=sI H2;exact pR 9 [V2,r0 [.v,.c true bF,.v,.v,.s,.s,.s,.v],V2] [] [] (aC Tryz.call85 (aC (bG.eq (aY _ _ h0) (cB c1)) (aT aN)))
def kW (x0 x1:ak) (x2:Int):Option ak :=
 ((
  bif x0.big then (
   some true
  ) else (
   some x1.big
  )
 ):Option Bool).bind fun v0 =>
 (pT x0.scale x1.scale).bind fun y0 =>
 bif (y0.2==0) then (
  bif decide (y0.1>1099511627776) then (
   some (ak.mk x0.q [] 0 true)
  ) else (
   (dn (σ:=((List Int)×Bool)) (ε:=((List Int)×Bool)) (ρ:=Empty) (fun i0 s0 =>
    bif s0.2 then (
     some (.brk (s0.1,s0.2))
    ) else (
     bf ((x0.scale:Int)≠0) <|
     (dZ (x0.mults.getD i0 0) (aK (y0.1.tdiv x0.scale))).bind fun y1 =>
     bf (i0<x1.mults.length) <|
     bf ((x1.scale:Int)≠0) <|
     (dZ (x1.mults.getD i0 0) (aK (y0.1.tdiv x1.scale))).bind fun y2 =>
     (dZ y2.1 x2).bind fun y3 =>
     (my y1.1 y3.1).bind fun y4 =>
     ((
      bif (y1.2==0) then (
       bif (y2.2==0) then (
        bif (y3.2==0) then (
         bif (y4.2==0) then (
          bif decide (y4.1>1099511627776) then (
           some true
          ) else (
           some (decide (y4.1<(-1099511627776)))
          )
         ) else (
          some true
         )
        ) else (
         some true
        )
       ) else (
        some true
       )
      ) else (
       some true
      )
     ):Option Bool).bind fun v1 =>
     bf ((s0.1.length+1)*8≤140737488355328) <|
     some (.go ((s0.1++[y4.1]),v1))
    )
   ) (fun i0 s0=>(s0.1,s0.2)) (x0.mults.length-0) 0 ([],v0)).bind <| ca fun u0 =>
   some (ak.mk x0.q u0.1 y0.1 u0.2)
  )
 ) else (
  some (ak.mk x0.q [] 0 true)
 )
def oL (x0 x1:ak) (x2:Int) (v0:Bool):AS:=⟨126,[(2,iI x2),(3,.hptr 3 0),(4,.hptr 4 0),(6,.hptr 6 0),(7,.hptr 7 0)],[(3,.cells 100 [iI x0.q.Const,dS aq x0.q.Terms,dS ao x0.mults,iI x0.scale,.bool x0.big]),(4,.cells 100 [iI x1.q.Const,dS aq x1.q.Terms,dS ao x1.mults,iI x1.scale,.bool x1.big]),(6,.cells 100 [iI 0,.eslice,.eslice,iI 0,.bool false]),(7,.cells 100 [iI x0.q.Const,dS aq x0.q.Terms,.eslice,iI 0,.bool v0])]⟩
def oV (x0 x1:ak) (x2:Int) (y0:Int×Int) (i0:Nat) (s0:(List Int)×Bool):AS:=⟨126,[(2,iI x2),(3,.hptr 3 0),(4,.hptr 4 0),(6,.hptr 6 0),(7,.hptr 7 0),(8,iI y0.1),(10,nI i0)],[(3,.cells 100 [iI x0.q.Const,dS aq x0.q.Terms,dS ao x0.mults,iI x0.scale,.bool x0.big]),(4,.cells 100 [iI x1.q.Const,dS aq x1.q.Terms,dS ao x1.mults,iI x1.scale,.bool x1.big]),(6,.cells 100 [iI 0,.eslice,.eslice,iI 0,.bool false]),(7,.cells 100 [iI x0.q.Const,dS aq x0.q.Terms,.rslice 123,iI y0.1,.bool s0.2]),(123,.row 3 1 (s0.1.map ao))]⟩
def pk (x0:ak) (y0:Int×Int) (u1:(List Int)×Bool):AS:=⟨126,[(6,.hptr 6 0),(7,.hptr 7 0)],[(6,.cells 100 [iI 0,.eslice,.eslice,iI 0,.bool false]),(7,.cells 100 [iI x0.q.Const,dS aq x0.q.Terms,.rslice 123,iI y0.1,.bool u1.2]),(123,.row 3 1 (u1.1.map ao))]⟩
def fx (x0 x1:ak) (x2:Int) (y0:Int×Int) (i0:Nat) (s0:(List Int)×Bool) (y4:Int×Int) (v1:Bool):AS:=⟨126,[(2,iI x2),(3,.hptr 3 0),(4,.hptr 4 0),(6,.hptr 6 0),(7,.hptr 7 0),(8,iI y0.1),(10,nI i0),(17,iI y4.1)],[(3,.cells 100 [iI x0.q.Const,dS aq x0.q.Terms,dS ao x0.mults,iI x0.scale,.bool x0.big]),(4,.cells 100 [iI x1.q.Const,dS aq x1.q.Terms,dS ao x1.mults,iI x1.scale,.bool x1.big]),(6,.cells 100 [iI 0,.eslice,.eslice,iI 0,.bool false]),(7,.cells 100 [iI x0.q.Const,dS aq x0.q.Terms,.rslice 123,iI y0.1,.bool v1]),(123,.row 3 1 (s0.1.map ao))]⟩
theorem A8 (x0 x1:ak) (x2:Int) (r:ak) (H:kW x0 x1 x2=some r):bG Tryz.prog 76 [.agg [iI x0.q.Const,dS aq x0.q.Terms,dS ao x0.mults,iI x0.scale,.bool x0.big],.agg [iI x1.q.Const,dS aq x1.q.Terms,dS ao x1.mults,iI x1.scale,.bool x1.big],iI x2] (.agg [iI r.q.Const,dS aq r.q.Terms,dS ao r.mults,iI r.scale,.bool r.big]):=by
 unfold kW at H;refine aX Tryz.func76 126 [.cell 6 100] ?_;refine pD 3 [r0 [.m,.m,.m]] [.only [2,3,4,6] [3,4,6]] 3 [] aN ?_;refine aR H fun v0 h0 H0 => ?_;refine bV 0 (oL x0 x1 x2 v0) (by kernel_rfl) ?_ ?_
 ·refine aV h0 (fun c0 H1 => ?_) (fun c1 H2 => ?_)
  ·obtain rfl:=sI H1;exact pB 1 [r0 [.v,.v,.v,.e bT,.v,.s,.s,.v,.b,.m,.m]] [.only [2,3,4,6,7] [3,4,6,7]] (oL x0 x1 x2 true) (aB c0 aN)
  ·obtain rfl:=sI H2;exact pB 1 [r0 [.v,.v,.v,.e bF,.v,.v,.v,.v,.b,.m,.m]] [.only [2,3,4,6,7] [3,4,6,7]] (oL x0 x1 x2 x1.big) (aB c1 aN)
 ·refine aR H0 fun y0 h1 H3 => ?_;refine aV H3 (fun c2 H4 => ?_) (fun c3 H5 => ?_)
  ·refine aV H4 (fun c4 H6 => ?_) (fun c5 H7 => ?_)
   ·obtain rfl:=sI H6;exact pR 12 [r0 (V 4 [.c true (.tup [iI y0.1,iI y0.2]),.v,.v,.v,.v,.v]),r0 [.v,.e bF,.v,.v,.v,.v],.eqT 41 bT,r0 [.v,.m],r0 [.v,.m]] [.wkH 6 2 []] [] (aC Tryz.call117 (aF (sd _ _ _ h1) (aM c2 (aB c4 aN))))
   ·have c5p:=MI c5;refine pA 14 [r0 (V 4 [.c true (.tup [iI y0.1,iI y0.2]),.v,.v,.v,.v,.v]),r0 [.v,.e bF,.v,.v,.v,.v],.eqT 41 bF,r0 [.v,.v,.m],V1] [.erH 7 2 123 3 1,.only [2,3,4,6,7,8,10] [3,4,6,7,123]] 13 [false] (oV x0 x1 x2 y0 0 ([],v0)) (aC Tryz.call117 (aF (sd _ _ _ h1) (aM c2 (aB c5 aN)))) ?_;refine aR H7 fun R0 h2 H8 => ?_;refine pJ 1 (pk x0 y0) R0 ?_ (fun u0 e0 => ?_)
    ·refine pC (oV x0 x1 x2 y0) h2 (fun i0 s0 h3 e1 => ?_) (fun i0 s0 h4 q0 h5 h6 => ?_)
     ·have c6:=lF i0 x0.mults.length (by omega);subst e1;exact pB 5 [r0 [.v,.v,.v,.e (nI x0.mults.length),.e bF,.v,.s,.s,.s,.v]] [.only [6,7] [6,7,123]] (pk x0 y0 (s0.1,s0.2)) (aT (aC (aQ ao x0.mults) (aB c6 aN)))
     ·have c7:=lT i0 x0.mults.length (by omega);refine aV h5 (fun c8 H9 => ?_) (fun c9 H10 => ?_)
      ·obtain rfl:=sI H9;obtain rfl:=dM h6;exact pB 6 [r0 [.v,.v,.v,.e (nI x0.mults.length),.e bT,.v,.v,.v,.v,.v],.eqT 55 bF] [.only [6,7] [6,7,123]] (pk x0 y0 (s0.1,s0.2)) (aT (aC (aQ ao x0.mults) (aB c7 (aT (aM c8 aN)))))
      ·refine aL H10 fun g0 H11 => ?_;refine aR H11 fun y1 h7 H12 => ?_;refine aL H12 fun g1 H13 => ?_;refine aL H13 fun g2 H14 => ?_;refine aR H14 fun y2 h8 H15 => ?_;refine aR H15 fun y3 h9 H16 => ?_;refine aR H16 fun y4 h10 H17 => ?_;refine pD 17 [r0 [.v,.v,.v,.e (nI x0.mults.length),.e bT,.v,.v,.v,.v,.v],.eqT 55 bT,.rg 14 [.v,.v,.v,.e (.dptr [iI (x0.mults.getD i0 0)]),.v,.v,.v,.v,.w,.c true (.tup [iI y1.1,iI y1.2]),.v,.v,.v,.v] [.v],.rg 14 [.v,.v,.v,.e (.dptr [iI (x1.mults.getD i0 0)]),.v,.v,.v,.v,.w,.c true (.tup [iI y2.1,iI y2.2]),.v,.v,.v,.v] [.v],r0 [.v,.v,.c true (.tup [iI y3.1,iI y3.2]),.v,.v,.v,.v,.v],r0 [.v,.v,.c true (.tup [iI y4.1,iI y4.2]),.v,.v,.v,.v,.v]] [.only [2,3,4,6,7,8,10,12,14,16,17,18] [3,4,6,7,123]] 16 [true] (aT (aC (aQ ao x0.mults) (aB c7 (aT (aM c9 (aI bK x0.mults i0 0 (aC (show (x0.scale:Int)≠0 from g0) (aC Tryz.call74 (aF (fe _ _ _ h7) (aI bK x1.mults i0 0 (aC (show (x1.scale:Int)≠0 from g2) (aC Tryz.call74 (aF (fe _ _ _ h8) (aC Tryz.call74 (aF (fe _ _ _ h9) (aC Tryz.call118 (aF (Bs _ _ _ h10) aN))))))))))))))))) ?_;refine aR H17 fun v1 h11 H18 => ?_;refine bV 0 (fx x0 x1 x2 y0 i0 s0 y4 v1) (by kernel_rfl) ?_ ?_
       ·refine aV h11 (fun c10 H19 => ?_) (fun c11 H20 => ?_)
        ·refine aV H19 (fun c12 H21 => ?_) (fun c13 H22 => ?_)
         ·refine aV H21 (fun c14 H23 => ?_) (fun c15 H24 => ?_)
          ·refine aV H23 (fun c16 H25 => ?_) (fun c17 H26 => ?_)
           ·refine aV H25 (fun c18 H27 => ?_) (fun c19 H28 => ?_)
            ·obtain rfl:=sI H27;exact pB 1 [r0 [.v,.e bF,.v,.v,.e bF,.v,.v,.v,.e bF,.v,.v,.v,.e bF,.v,.v,.v,.e bT,.v,.v,.s,.s,.v,.v,.m]] [.only [2,3,4,6,7,8,10,17] [3,4,6,7,123]] (fx x0 x1 x2 y0 i0 s0 y4 true) (aM c10 (aM c12 (aM c14 (aM c16 (aB c18 aN)))))
            ·obtain rfl:=sI H28;exact pB 1 [r0 [.v,.e bF,.v,.v,.e bF,.v,.v,.v,.e bF,.v,.v,.v,.e bF,.v,.v,.v,.e bF,.v,.v,.v,.v,.v,.v,.m]] [.only [2,3,4,6,7,8,10,17] [3,4,6,7,123]] (fx x0 x1 x2 y0 i0 s0 y4 (decide (y4.1<(-1099511627776)))) (aM c10 (aM c12 (aM c14 (aM c16 (aB c19 aN)))))
           ·obtain rfl:=sI H26;exact pB 1 [r0 [.v,.e bF,.v,.v,.e bF,.v,.v,.v,.e bF,.v,.v,.v,.e bT,.v,.v,.s,.s,.v,.v,.s,.s,.v,.v,.m]] [.only [2,3,4,6,7,8,10,17] [3,4,6,7,123]] (fx x0 x1 x2 y0 i0 s0 y4 true) (aM c10 (aM c12 (aM c14 (aM c17 aN))))
          ·obtain rfl:=sI H24;exact pB 1 [r0 [.v,.e bF,.v,.v,.e bF,.v,.v,.v,.e bT,.v,.v,.s,.s,.v,.v,.s,.s,.v,.v,.s,.s,.v,.v,.m]] [.only [2,3,4,6,7,8,10,17] [3,4,6,7,123]] (fx x0 x1 x2 y0 i0 s0 y4 true) (aM c10 (aM c12 (aM c15 aN)))
         ·obtain rfl:=sI H22;exact pB 1 [r0 [.v,.e bF,.v,.v,.e bT,.v,.v,.s,.s,.v,.v,.s,.s,.v,.v,.s,.s,.v,.v,.s,.s,.v,.v,.m]] [.only [2,3,4,6,7,8,10,17] [3,4,6,7,123]] (fx x0 x1 x2 y0 i0 s0 y4 true) (aM c10 (aM c13 aN))
        ·obtain rfl:=sI H20;exact pB 1 [r0 [.v,.e bT,.v,.s,.s,.v,.v,.s,.s,.v,.v,.s,.s,.v,.v,.s,.s,.v,.v,.s,.s,.v,.v,.m]] [.only [2,3,4,6,7,8,10,17] [3,4,6,7,123]] (fx x0 x1 x2 y0 i0 s0 y4 true) (aM c11 aN)
       ·refine aL H18 fun g3 H29 => ?_;refine gX 3 2 (ps:=[(x0.mults.map ao).length≤9223372036854775807]) (by kernel_rfl) (fun l0 => ?_);have l1:x0.mults.length≤9223372036854775807:=by simpa only [cu,MM] using l0
        clear l0;obtain rfl:=sI H29;exact pB 2 [r0 [.v,.v,.v,.b,.ap,.rwH 123 (.row 3 1 ((s0.1++[y4.1]).map ao)),.v,.m],V3] [.only [2,3,4,6,7,8,10] [3,4,6,7,123]] (oV x0 x1 x2 y0 (i0+1) ((s0.1++[y4.1]),v1)) (bp (tT (c:=ao) hU s0.1 [y4.1] 8 (by decide) (by first | (simp;done) | simpa using g3)) (aC (wA 3 1 ao s0.1 [y4.1]) (aH i0 aN)))
    ·subst e0;have H30:=a8 H8;obtain rfl:=sI H30;exact pR 3 [r0 [.v,.m]] [.fz 123] [] aN
  ·obtain rfl:=sI H5;exact pR 11 [r0 (V 4 [.c true (.tup [iI y0.1,iI y0.2]),.v,.v,.v,.v,.v]),r0 [.v,.e bT,.v,.s,.s,.v],r0 [.v,.m],r0 [.v,.m]] [.wkH 6 2 []] [] (aC Tryz.call117 (aF (sd _ _ _ h1) (aM c3 aN)))
def lH (x0:List Bind) (x1:aJ):Option (Linear×Bool) :=
 (dn (σ:=Unit) (ε:=Unit) (ρ:=(Linear×Bool)) (fun i0 s0 =>
  ((
   bif (((x0.getD i0 ax).Kind)==1) then (
    some (((x0.getD i0 ax).Var)==x1)
   ) else (
    some false
   )
  ):Option Bool).bind fun v0 =>
  bif v0 then (
   some (.ret ((Linear.mk (((x0.getD i0 ax).Dim).Const) (((x0.getD i0 ax).Dim).Terms)),true))
  ) else (
   some (.go ())
  )
 ) (fun i0 s0=>()) (x0.length-0) 0 ()).bind <| aft fun u0 =>
 some ((Linear.mk 0 []),false)
def nE (x0:List Bind) (x1:aJ) (i0:Nat) (s0:Unit):AS:=⟨34,[(0,dS az x0),(1,.str x1),(4,.hptr 4 0),(5,.bool false),(6,nI i0)],[(4,.cells 34 [iI 0,.eslice])]⟩
def ra (u1:Unit):AS:=⟨34,[(4,.hptr 4 0),(5,.bool false)],[(4,.cells 34 [iI 0,.eslice])]⟩
def mW (x0:List Bind) (x1:aJ) (i0:Nat) (v0:Bool):AS:=⟨34,[(0,dS az x0),(1,.str x1),(4,.hptr 4 0),(5,.bool false),(6,nI i0),(27,.bool v0)],[(4,.cells 34 [iI 0,.eslice])]⟩
theorem yT (x0:List Bind) (x1:aJ) (r:Linear×Bool) (H:lH x0 x1=some r):bG Tryz.prog 37 [dS az x0,.str x1] (.tup [.agg [iI r.1.Const,dS aq r.1.Terms],.bool r.2]):=by
 unfold lH at H;refine aX Tryz.func37 34 [.cell 4 34,.tmp 5] ?_;refine pA 6 [r0 [.m,.v],V1] [.only [0,1,4,5,6] [4]] 6 [] (nE x0 x1 0 ()) aN ?_;refine aR H fun R0 h0 H0 => ?_;refine pJ 1 (ra) R0 ?_ (fun u0 e0 => ?_)
 ·refine pC (nE x0 x1) h0 (fun i0 s0 h1 e1 => ?_) (fun i0 s0 h2 q0 h3 h4 => ?_)
  ·have c0:=lF i0 x0.length (by omega);subst e1;exact pB 5 [r0 [.v,.v,.e (nI x0.length),.e bF]] [.only [4,5] [4]] (ra ()) (aT (aC (aQ az x0) (aB c0 aN)))
  ·have c1:=lT i0 x0.length (by omega);refine pD 8 [r0 [.v,.v,.e (nI x0.length),.e bT]] [.only [0,1,4,5,6] [4]] 8 [true] (aT (aC (aQ az x0) (aB c1 aN))) ?_;refine aR h3 fun v0 h5 H1 => ?_;refine bV 0 (mW x0 x1 i0 v0) (by kernel_rfl) ?_ ?_
   ·refine aV h5 (fun c2 H2 => ?_) (fun c3 H3 => ?_)
    ·obtain rfl:=sI H2;exact pB 1 [r0 [.v,.v,.e (.dptr (az (x0.getD i0 ax))),.v,.v,.e bT,.v,.v,.v,.e (.dptr (az (x0.getD i0 ax))),.v,.v,.v,.v,.v]] [.only [0,1,4,5,6,27] [4]] (mW x0 x1 i0 (((x0.getD i0 ax).Var)==x1)) (aI bb x0 i0 ax (aB c2 (aI bb x0 i0 ax aN)))
    ·obtain rfl:=sI H3;exact pB 1 [r0 [.v,.v,.e (.dptr (az (x0.getD i0 ax))),.v,.v,.e bF,.v,.s,.s,.s,.s,.s,.s,.s,.v]] [.only [0,1,4,5,6,27] [4]] (mW x0 x1 i0 false) (aI bb x0 i0 ax (aB c3 aN))
   ·refine aV H1 (fun c4 H4 => ?_) (fun c5 H5 => ?_)
    ·obtain rfl:=sI H4;obtain rfl:=aW h4;obtain rfl:=sI (aP H0);exact pR 5 [.eqT 27 bT,r0 [.v,.v,.e (.dptr (az (x0.getD i0 ax))),.v,.v,.m,.v]] [] [] (aB c4 (aI bb x0 i0 ax aN))
    ·refine bO 0 (ps:=[(x0.map az).length≤9223372036854775807]) (by kernel_rfl) (fun l0 => ?_);have l1:x0.length≤9223372036854775807:=by simpa only [cu,MM] using l0
     clear l0;obtain rfl:=sI H5;exact pB 4 [.eqT 27 bF,V3] [.only [0,1,4,5,6] [4]] (nE x0 x1 (i0+1) ()) (aB c5 (aH i0 aN))
 ·subst e0;have H6:=bl H0;obtain rfl:=sI H6;exact pR 3 [r0 [.b,.m,.v]] [.wkH 4 1 []] [] aN
def jd (x0:Linear):Option (Linear×Int) :=
 (dj x0).bind fun y0 =>
 bif y0 then (
  some (x0,0)
 ) else (
  some ((Linear.mk 0 []),3)
 )
theorem wB (x0:Linear) (r:Linear×Int) (H:jd x0=some r):bG Tryz.prog 38 [.agg [iI x0.Const,dS aq x0.Terms]] (.tup [.agg [iI r.1.Const,dS aq r.1.Terms],iI r.2]):=by
 unfold jd at H;refine aX Tryz.func38 9 [.cell 2 34,.tmp 3] ?_;refine aR H fun y0 h0 H0 => ?_;refine aV H0 (fun c0 H1 => ?_) (fun c1 H2 => ?_)
 ·obtain rfl:=sI H1;exact pR 11 [r0 [.m,.m,.v],r0 [.v,.c true (.bool y0),.v],.eqT 6 bF,r0 [.v,.m,.v]] [] [] (aC Tryz.call36 (aF (bU _ _ h0) (aT (aM c0 aN))))
 ·obtain rfl:=sI H2;exact pR 10 [r0 [.m,.m,.v],r0 [.v,.c true (.bool y0),.v],.eqT 6 bT,r0 [.b,.m,.v]] [.wkH 2 1 []] [] (aC Tryz.call36 (aF (bU _ _ h0) (aT (aM c1 aN))))
def fZ (x0:Linear) (x1:List Bind):Option (Linear×Int) :=
 (dj x0).bind fun y0 =>
 bif y0 then (
  (dn (σ:=(Int×(List au))) (ε:=(Int×(List au))) (ρ:=(Linear×Int)) (fun i0 s0 =>
   (lH x1 ((x0.Terms.getD i0 ay).Var)).bind fun y1 =>
   ((
    bif y1.2 then (
     some (y1.1.Const,y1.1.Terms)
    ) else (
     (gF ((x0.Terms.getD i0 ay).Var)).bind fun y2 =>
     some (y2.Const,y2.Terms)
    )
   ):Option (Int×(List au))).bind fun v0 =>
   (dj (Linear.mk v0.1 v0.2)).bind fun y3 =>
   bif y3 then (
    (cW (Linear.mk s0.1 s0.2) (Linear.mk v0.1 v0.2) ((x0.Terms.getD i0 ay).C)).bind fun y4 =>
    some (.go (y4.Const,y4.Terms))
   ) else (
    some (.ret ((Linear.mk 0 []),1))
   )
  ) (fun i0 s0=>(s0.1,s0.2)) (x0.Terms.length-0) 0 (x0.Const,[])).bind <| aft fun u0 =>
  (jd (Linear.mk u0.1 u0.2)).bind fun y5 =>
  some (y5.1,y5.2)
 ) else (
  some ((Linear.mk 0 []),1)
 )
def nP (x0:Linear) (x1:List Bind) (i0:Nat) (s0:Int×(List au)):AS:=⟨55,[(1,dS az x1),(2,.hptr 2 0),(4,.hptr 4 0),(5,iI 0),(6,.hptr 6 0),(7,nI i0)],[(2,.cells 34 [iI x0.Const,dS aq x0.Terms]),(4,.cells 34 [iI 0,.eslice]),(6,.cells 34 [iI s0.1,dS aq s0.2])]⟩
def rh (u1:Int×(List au)):AS:=⟨55,[(4,.hptr 4 0),(5,iI 0),(6,.hptr 6 0)],[(4,.cells 34 [iI 0,.eslice]),(6,.cells 34 [iI u1.1,dS aq u1.2])]⟩
def nN (x0:Linear) (x1:List Bind) (i0:Nat) (s0 v0:Int×(List au)):AS:=⟨55,[(1,dS az x1),(2,.hptr 2 0),(4,.hptr 4 0),(5,iI 0),(6,.hptr 6 0),(7,nI i0),(8,.hptr 8 0),(9,.hptr 9 0)],[(2,.cells 34 [iI x0.Const,dS aq x0.Terms]),(4,.cells 34 [iI 0,.eslice]),(6,.cells 34 [iI s0.1,dS aq s0.2]),(8,.cells 88 [.str ((x0.Terms.getD i0 ay).Var),iI ((x0.Terms.getD i0 ay).C)]),(9,.cells 34 [iI v0.1,dS aq v0.2])]⟩
theorem te (x0:Linear) (x1:List Bind) (r:Linear×Int) (H:fZ x0 x1=some r):bG Tryz.prog 10 [.agg [iI x0.Const,dS aq x0.Terms],dS az x1] (.tup [.agg [iI r.1.Const,dS aq r.1.Terms],iI r.2]):=by
 unfold fZ at H;refine aX Tryz.func10 55 [.cell 4 34,.tmp 5] ?_;refine aR H fun y0 h0 H0 => ?_;refine aV H0 (fun c0 H1 => ?_) (fun c1 H2 => ?_)
 ·refine pA 14 [.rg 0 [] [.m,.m,.v],.rg 0 [] [.v,.c true (.bool y0),.v],.eqT 13 bF,.rg 0 [] [.v,.v,.b,.m,.m],.rg 0 [] [.v]] [.wkH 6 1 [],.only [1,2,4,5,6,7] [2,4,6]] 13 [false] (nP x0 x1 0 (x0.Const,[])) (aC Tryz.call36 (aF (bU _ _ h0) (aT (aM c0 aN)))) ?_;refine aR H1 fun R0 h1 H3 => ?_;refine pJ 1 (rh) R0 ?_ (fun u0 e0 => ?_)
  ·refine pC (nP x0 x1) h1 (fun i0 s0 h2 e1 => ?_) (fun i0 s0 h3 q0 h4 h5 => ?_)
   ·have c2:=lF i0 x0.Terms.length (by omega);subst e1;exact pB 5 [r0 [.v,.v,.v,.e (nI x0.Terms.length),.e bF]] [.only [4,5,6] [4,6]] (rh (s0.1,s0.2)) (aT (aC (aQ aq x0.Terms) (aB c2 aN)))
   ·have c3:=lT i0 x0.Terms.length (by omega);refine aR h4 fun y1 h6 H4 => ?_;refine pD 14 [r0 [.v,.v,.v,.e (nI x0.Terms.length),.e bT],r0 [.v,.v,.v,.e (.dptr (aq (x0.Terms.getD i0 ay))),.v,.m,.m],r0 [.v,.v,.v,.c true (.tup [.agg [iI y1.1.Const,dS aq y1.1.Terms],.bool y1.2]),.v,.v,.v,.m,.m,.v],V2] [.only [1,2,4,5,6,7,8,9,38] [2,4,6,8,9]] 14 [true] (aT (aC (aQ aq x0.Terms) (aB c3 (aI aZ x0.Terms i0 ay (aC Tryz.call37 (aF (yT _ _ _ h6) (aT aN))))))) ?_;refine aR H4 fun v0 h7 H5 => ?_;refine bV 0 (nN x0 x1 i0 s0 v0) (by kernel_rfl) ?_ ?_
    ·refine aV h7 (fun c4 H6 => ?_) (fun c5 H7 => ?_)
     ·obtain rfl:=sI H6;exact pB 3 [.eqT 38 bF] [.only [1,2,4,5,6,7,8,9] [2,4,6,8,9]] (nN x0 x1 i0 s0 (y1.1.Const,y1.1.Terms)) (aM c4 aN)
     ·refine aR H7 fun y2 h8 H8 => ?_;obtain rfl:=sI H8;exact pB 3 [.eqT 38 bT,r0 [.v,.v,.c true (.agg [iI y2.Const,dS aq y2.Terms]),.m]] [.only [1,2,4,5,6,7,8,9] [2,4,6,8,9]] (nN x0 x1 i0 s0 (y2.Const,y2.Terms)) (aM c5 (aC Tryz.call22 (aF (lI _ _ h8) aN)))
    ·refine aR H5 fun y3 h9 H9 => ?_;refine aV H9 (fun c6 H10 => ?_) (fun c7 H11 => ?_)
     ·refine aR H10 fun y4 h10 H12 => ?_;refine gX 2 1 (ps:=[(x0.Terms.map aq).length≤9223372036854775807]) (by kernel_rfl) (fun l0 => ?_);have l1:x0.Terms.length≤9223372036854775807:=by simpa only [cu,MM] using l0
      clear l0;obtain rfl:=sI H12;exact pB 8 [r0 [.v,.c true (.bool y3),.v],.eqT 44 bF,r0 (V 4 [.c true (.agg [iI y4.Const,dS aq y4.Terms]),.m]),V3] [.only [1,2,4,5,6,7] [2,4,6]] (nP x0 x1 (i0+1) (y4.Const,y4.Terms)) (aC Tryz.call36 (aF (bU _ _ h9) (aT (aM c6 (aC Tryz.call16 (aF (kY _ _ _ _ h10) (aH i0 aN)))))))
     ·obtain rfl:=sI H11;obtain rfl:=aW h5;obtain rfl:=sI (aP H3);exact pR 8 [r0 [.v,.c true (.bool y3),.v],.eqT 44 bT,r0 [.b,.m,.v]] [.wkH 4 1 []] [] (aC Tryz.call36 (aF (bU _ _ h9) (aT (aM c7 aN))))
  ·subst e0;have H13:=bl H3;refine aR H13 fun y5 h11 H14 => ?_;obtain rfl:=sI H14;exact pR 3 [r0 [.v,.c true (.tup [.agg [iI y5.1.Const,dS aq y5.1.Terms],iI y5.2]),.v,.v,.m,.v]] [] [] (aC Tryz.call38 (aF (wB _ _ h11) aN))
 ·obtain rfl:=sI H2;exact pR 10 [r0 [.m,.m,.v],r0 [.v,.c true (.bool y0),.v],.eqT 13 bT,r0 [.b,.m,.v]] [.wkH 4 1 []] [] (aC Tryz.call36 (aF (bU _ _ h0) (aT (aM c1 aN))))
def dq (x0:aJ) (x1:Linear) (x2 x3:Int) (x4:List ak) (x5 x6:List Bind):Option (Int×(List ak)×(List Bind)) :=
 (dj x1).bind fun y0 =>
 bif y0 then (
  (gn (σ:=(Nat×(List Bind))) (ε:=(List Bind)) (ρ:=(Int×(List ak)×(List Bind))) (fun s0 =>
   bif decide (((s0.1:Nat):Int)<((s0.2.length:Nat):Int)) then (
    (fZ (Linear.mk (((s0.2.getD s0.1 ax).Dim).Const) (((s0.2.getD s0.1 ax).Dim).Terms)) [(Bind.mk 1 x0 x1 (Shape.mk [] []) [])]).bind fun y1 =>
    bif (y1.2==0) then (
     some (.go ((s0.1+1),(s0.2.set s0.1 (Bind.mk ((s0.2.getD s0.1 ax).Kind) ((s0.2.getD s0.1 ax).Var) y1.1 (Shape.mk (((s0.2.getD s0.1 ax).Row).Row) (((s0.2.getD s0.1 ax).Row).Dims)) ((s0.2.getD s0.1 ax).Elem)))))
    ) else (
     some (.ret (y1.2,x4,s0.2))
    )
   ) else (
    some (.brk s0.2)
   )
  ) 4294967296 (0,x5)).bind <| aft fun u0 =>
  (gn (σ:=(Int×(List ak))) (ε:=(List ak)) (ρ:=(Int×(List ak)×(List Bind))) (fun s1 =>
   bif decide (s1.1<((s1.2.length:Nat):Int)) then (
    bf (0≤s1.1∧s1.1<(s1.2.length:Int)) <|
    bf (s1.1.toNat<s1.2.length) <|
    (fZ (Linear.mk (((s1.2.getD s1.1.toNat ae).q).Const) (((s1.2.getD s1.1.toNat ae).q).Terms)) [(Bind.mk 1 x0 x1 (Shape.mk [] []) [])]).bind fun y2 =>
    bif (y2.2==0) then (
     some (.go ((aK (s1.1+1)),(s1.2.set s1.1.toNat (ak.mk y2.1 ((s1.2.getD s1.1.toNat ae).mults) ((s1.2.getD s1.1.toNat ae).scale) ((s1.2.getD s1.1.toNat ae).big)))))
    ) else (
     some (.ret (y2.2,s1.2,u0))
    )
   ) else (
    some (.brk s1.2)
   )
  ) 4294967296 (x2,x4)).bind <| aft fun u1 =>
  bf ((u0.length+1)*112≤140737488355328) <|
  some (0,u1,(u0++[(Bind.mk 1 x0 x1 (Shape.mk [] []) [])]))
 ) else (
  some (3,x4,x5)
 )
def iL (x0:aJ) (x1:Linear) (x2 x3:Int) (x4:List ak) (x6:List Bind) (s0:Nat×(List Bind)):AS:=⟨99,[(0,.hptr 1000 0),(3,iI x2),(8,iI 0),(9,.dslice ([(Bind.mk 1 x0 x1 (Shape.mk [] []) [])].map az)),(10,nI s0.1)],[(1000,.cells 98 [.rslice 1001,.rslice 1002,.rslice 1003,iI x3]),(1001,.row 100 5 (x4.map ai)),(1002,.row 41 7 (s0.2.map az)),(1003,.row 41 7 (x6.map az))]⟩
def mg (x0:aJ) (x1:Linear) (x2 x3:Int) (x4:List ak) (x6 u2:List Bind):AS:=⟨99,[(0,.hptr 1000 0),(3,iI x2),(8,iI 0),(9,.dslice ([(Bind.mk 1 x0 x1 (Shape.mk [] []) [])].map az))],[(1000,.cells 98 [.rslice 1001,.rslice 1002,.rslice 1003,iI x3]),(1001,.row 100 5 (x4.map ai)),(1002,.row 41 7 (u2.map az)),(1003,.row 41 7 (x6.map az))]⟩
def iM (x0:aJ) (x1:Linear) (x3:Int) (x6 u0:List Bind) (s1:Int×(List ak)):AS:=⟨99,[(0,.hptr 1000 0),(8,iI 0),(9,.dslice ([(Bind.mk 1 x0 x1 (Shape.mk [] []) [])].map az)),(13,iI s1.1)],[(1000,.cells 98 [.rslice 1001,.rslice 1002,.rslice 1003,iI x3]),(1001,.row 100 5 (s1.2.map ai)),(1002,.row 41 7 (u0.map az)),(1003,.row 41 7 (x6.map az))]⟩
def mj (x0:aJ) (x1:Linear) (x3:Int) (x6 u0:List Bind) (u3:List ak):AS:=⟨99,[(0,.hptr 1000 0),(8,iI 0),(9,.dslice ([(Bind.mk 1 x0 x1 (Shape.mk [] []) [])].map az))],[(1000,.cells 98 [.rslice 1001,.rslice 1002,.rslice 1003,iI x3]),(1001,.row 100 5 (u3.map ai)),(1002,.row 41 7 (u0.map az)),(1003,.row 41 7 (x6.map az))]⟩
theorem mN (x0:aJ) (x1:Linear) (x2 x3:Int) (x4:List ak) (x5 x6:List Bind) (r:Int×(List ak)×(List Bind)) (H:dq x0 x1 x2 x3 x4 x5 x6=some r):cg Tryz.prog 77 [.hptr 1000 0,.str x0,.agg [iI x1.Const,dS aq x1.Terms],iI x2] [(1000,.cells 98 [.rslice 1001,.rslice 1002,.rslice 1003,iI x3]),(1001,.row 100 5 (x4.map ai)),(1002,.row 41 7 (x5.map az)),(1003,.row 41 7 (x6.map az))] (fun r2 h0=>r2=(iI r.1)∧h0=[(0,.row 41 7 (r.2.2.map az)),(1000,.cells 98 [.rslice 1001,.rslice 0,.rslice 1003,iI x3]),(1001,.row 100 5 (r.2.1.map ai)),(1003,.row 41 7 (x6.map az))]):=by
 unfold dq at H;refine aX Tryz.func77 99 [.tmp 8] ?_;refine aR H fun y0 h1 H0 => ?_;refine aV H0 (fun c0 H1 => ?_) (fun c1 H2 => ?_)
 ·refine pA 14 [.rg 0 [] [.m,.v],.rg 0 [] [.v,.v,.b,.b,.wk 19 [(0,5)],.v],.rg 0 [] [.v,.c true (.bool y0),.v],.eqT 22 bF,.rg 0 [] [.v]] [.only [0,3,8,9,10] [1000,1001,1002,1003]] 13 [false] (iL x0 x1 x2 x3 x4 x6 (0,x5)) (aC Tryz.call36 (aF (bU _ _ h1) (aT (aM c0 aN)))) ?_;refine aR H1 fun R0 h2 H3 => ?_;refine pJ 1 (mg x0 x1 x2 x3 x4 x6) R0 ?_ (fun u0 e0 => ?_)
  ·refine lB (iL x0 x1 x2 x3 x4 x6) (by kernel_rfl) h2 (fun s0 q0 h3 h4 => ?_)
   ·refine aV h3 (fun c2 H4 => ?_) (fun c3 H5 => ?_)
    ·have c2p:=MJ c2;refine aR H4 fun y1 h5 H6 => ?_;refine pD 13 [r0 (V 5 [.e (nI s0.2.length),.v]),.eqT 29 bT,r0 (V 7 [.rl s0.1 2 (.agg (aw ((s0.2.getD s0.1 ax).Dim))),.v,.c true (.tup [.agg [iI y1.1.Const,dS aq y1.1.Terms],iI y1.2]),.v,.v,.v,.m,.m,.v]),V2] [.only [0,3,8,9,10,11,12,46] [11,1000,1001,1002,1003]] 12 [true] (aT (aC (aQ az s0.2) (aB c2 (aC (show (0:Int)≤((s0.1:Nat):Int)∧((s0.1:Nat):Int)<((s0.2.map az).length:Int) from by rw [MM];omega) (aC (dI (f:=az) (l:=s0.2) (n:=s0.1) 7 2 2 (by omega) (by decide)) (aC (yK (f:=az) (l:=s0.2) (n:=s0.1) ax 2 2 (by omega)) (aC Tryz.call10 (aF (te _ _ _ h5) aN)))))))) ?_;refine aV H6 (fun c4 H7 => ?_) (fun c5 H8 => ?_)
     ·refine oF 1002 (n:=(s0.2.map az).length) (by kernel_rfl) (fun l0 => ?_);have l1:s0.2.length≤9223372036854775807:=by simpa only [MM] using l0
      clear l0;obtain rfl:=sI H7;exact pB 5 [.eqT 46 bF,.rg 6 (V 6 []) [.v,.v,.rs s0.1 2,.rwH 1002 (.row 41 7 ((s0.2.set s0.1 (Bind.mk ((s0.2.getD s0.1 ax).Kind) ((s0.2.getD s0.1 ax).Var) y1.1 (Shape.mk (((s0.2.getD s0.1 ax).Row).Row) (((s0.2.getD s0.1 ax).Row).Dims)) ((s0.2.getD s0.1 ax).Elem))).map az))],V3] [.only [0,3,8,9,10] [1000,1001,1002,1003]] (iL x0 x1 x2 x3 x4 x6 ((s0.1+1),(s0.2.set s0.1 (Bind.mk ((s0.2.getD s0.1 ax).Kind) ((s0.2.getD s0.1 ax).Var) y1.1 (Shape.mk (((s0.2.getD s0.1 ax).Row).Row) (((s0.2.getD s0.1 ax).Row).Dims)) ((s0.2.getD s0.1 ax).Elem))))) (aM c4 (aC (show (0:Int)≤((s0.1:Nat):Int)∧((s0.1:Nat):Int)<((s0.2.map az).length:Int) from by rw [MM];omega) (aC (dI (f:=az) (l:=s0.2) (n:=s0.1) 7 2 2 (by omega) (by decide)) (aC (qS (f:=az) 41 7 s0.2 s0.1 ax (Bind.mk ((s0.2.getD s0.1 ax).Kind) ((s0.2.getD s0.1 ax).Var) y1.1 (Shape.mk (((s0.2.getD s0.1 ax).Row).Row) (((s0.2.getD s0.1 ax).Row).Dims)) ((s0.2.getD s0.1 ax).Elem)) 2 [iI y1.1.Const,dS aq y1.1.Terms] (by omega) rfl) (aO (((s0.1:Nat):Int)+1) aN)))))
     ·obtain rfl:=sI H8;obtain rfl:=aW h4;obtain rfl:=sI (aP H3);exact pR 5 [.eqT 46 bT,V2] [.ren [(1002,0),(1000,1000),(1001,1001),(1003,1003)]] [0,1000,1001,1003] (aM c5 aN)
    ·obtain rfl:=sI H5;obtain rfl:=dM h4;exact pB 6 [r0 (V 5 [.e (nI s0.2.length),.v]),.eqT 29 bF] [.only [0,3,8,9] [1000,1001,1002,1003]] (mg x0 x1 x2 x3 x4 x6 s0.2) (aT (aC (aQ az s0.2) (aB c3 aN)))
  ·subst e0;have H9:=bl H3;refine pA 4 [V2] [.only [0,8,9,13] [1000,1001,1002,1003]] 4 [] (iM x0 x1 x3 x6 u0 (x2,x4)) aN ?_;refine aR H9 fun R1 h6 H10 => ?_;refine pJ 1 (mj x0 x1 x3 x6 u0) R1 ?_ (fun u1 e1 => ?_)
   ·refine lB (iM x0 x1 x3 x6 u0) (by kernel_rfl) h6 (fun s1 q1 h7 h8 => ?_)
    ·refine aV h7 (fun c6 H11 => ?_) (fun c7 H12 => ?_)
     ·have c6p:=MJ c6;refine aL H11 fun g0 H13 => ?_;refine aL H13 fun g1 H14 => ?_;refine aR H14 fun y2 h9 H15 => ?_;refine pD 13 [r0 (V 5 [.e (nI s1.2.length),.v]),.eqT 63 bT,r0 (V 7 [.rl s1.1.toNat 0 (.agg (aw ((s1.2.getD s1.1.toNat ae).q))),.v,.c true (.tup [.agg [iI y2.1.Const,dS aq y2.1.Terms],iI y2.2]),.v,.v,.v,.m,.m,.v]),V2] [.only [0,8,9,13,14,15,80] [14,1000,1001,1002,1003]] 12 [true] (aT (aC (aQ ai s1.2) (aB c6 (aC (show (0:Int)≤s1.1∧s1.1<((s1.2.map ai).length:Int) from by rw [MM];exact g0) (aC (dI (f:=ai) (l:=s1.2) (n:=s1.1.toNat) 5 0 2 (by omega) (by decide)) (aC (yK (f:=ai) (l:=s1.2) (n:=s1.1.toNat) ae 0 2 (by omega)) (aC Tryz.call10 (aF (te _ _ _ h9) aN)))))))) ?_;refine aV H15 (fun c8 H16 => ?_) (fun c9 H17 => ?_)
      ·obtain rfl:=sI H16;exact pB 5 [.eqT 80 bF,.rg 6 (V 6 []) [.v,.v,.rs s1.1.toNat 0,.rwH 1001 (.row 100 5 ((s1.2.set s1.1.toNat (ak.mk y2.1 ((s1.2.getD s1.1.toNat ae).mults) ((s1.2.getD s1.1.toNat ae).scale) ((s1.2.getD s1.1.toNat ae).big))).map ai))],r0 [.v,.w,.v]] [.only [0,8,9,13] [1000,1001,1002,1003]] (iM x0 x1 x3 x6 u0 ((aK (s1.1+1)),(s1.2.set s1.1.toNat (ak.mk y2.1 ((s1.2.getD s1.1.toNat ae).mults) ((s1.2.getD s1.1.toNat ae).scale) ((s1.2.getD s1.1.toNat ae).big))))) (aM c8 (aC (show (0:Int)≤s1.1∧s1.1<((s1.2.map ai).length:Int) from by rw [MM];exact g0) (aC (dI (f:=ai) (l:=s1.2) (n:=s1.1.toNat) 5 0 2 (by omega) (by decide)) (aC (qS (f:=ai) 100 5 s1.2 s1.1.toNat ae (ak.mk y2.1 ((s1.2.getD s1.1.toNat ae).mults) ((s1.2.getD s1.1.toNat ae).scale) ((s1.2.getD s1.1.toNat ae).big)) 0 [iI y2.1.Const,dS aq y2.1.Terms] (by omega) rfl) aN))))
      ·obtain rfl:=sI H17;obtain rfl:=aW h8;obtain rfl:=sI (aP H10);exact pR 5 [.eqT 80 bT,V2] [.ren [(1002,0),(1000,1000),(1001,1001),(1003,1003)]] [0,1000,1001,1003] (aM c9 aN)
     ·obtain rfl:=sI H12;obtain rfl:=dM h8;exact pB 6 [r0 (V 5 [.e (nI s1.2.length),.v]),.eqT 63 bF] [.only [0,8,9] [1000,1001,1002,1003]] (mj x0 x1 x3 x6 u0 s1.2) (aT (aC (aQ ai s1.2) (aB c7 aN)))
   ·subst e1;have H18:=bl H10;refine aL H18 fun g2 H19 => ?_;obtain rfl:=sI H19;exact pR 5 [r0 (V 6 [.ap,.rwH 96 (.row 41 7 ((u0++[(Bind.mk 1 x0 x1 (Shape.mk [] []) [])]).map az)),.v,.v,.m]),V1] [.ren [(96,0),(1000,1000),(1001,1001),(1003,1003)]] [0,1000,1001,1003] (bp (tT (c:=az) ru u0 [(Bind.mk 1 x0 x1 (Shape.mk [] []) [])] 112 (by decide) (by first | (simp;done) | simpa using g2)) (aC (wA 41 7 az u0 [(Bind.mk 1 x0 x1 (Shape.mk [] []) [])]) aN))
 ·obtain rfl:=sI H2;exact pR 12 [r0 [.m,.v],r0 [.v,.v,.b,.b,.wk 19 [(0,5)],.v],r0 [.v,.c true (.bool y0),.v],.eqT 22 bT,V1] [.ren [(1002,0),(1000,1000),(1001,1001),(1003,1003)]] [0,1000,1001,1003] (aC Tryz.call36 (aF (bU _ _ h1) (aT (aM c1 aN))))
def cM (x0 x1:Int) (x2:List ak) (x3 x4:List Bind):Option ((al×Int)×Int×(List ak)×(List Bind)×(List Bind)) :=
 bf (0≤x0∧x0<(x2.length:Int)) <|
 bf (x0.toNat<x2.length) <|
 (iQ (Linear.mk (((x2.getD x0.toNat ae).q).Const) (((x2.getD x0.toNat ae).q).Terms))).bind fun y0 =>
 ((
  bif (y0==0) then (
   some true
  ) else (
   bf ((y0:Int)≠0) <|
   some (((((x2.getD x0.toNat ae).q).Const).tmod y0) != 0)
  )
 ):Option Bool).bind fun v0 =>
 bif v0 then (
  (j7 (ak.mk (Linear.mk (((x2.getD x0.toNat ae).q).Const) (((x2.getD x0.toNat ae).q).Terms)) ((x2.getD x0.toNat ae).mults) ((x2.getD x0.toNat ae).scale) ((x2.getD x0.toNat ae).big)) y0).bind fun y1 =>
  some ((y1,9),x1,x2,x3,x4)
 ) else (
  bf ((y0:Int)≠0) <|
  (gn (σ:=(Int×(List au))) (ε:=(List au)) (ρ:=Empty) (fun s0 =>
   bif decide (s0.1<(((((x2.getD x0.toNat ae).q).Terms).length:Nat):Int)) then (
    bf (0≤s0.1∧s0.1<((((x2.getD x0.toNat ae).q).Terms).length:Int)) <|
    bf ((s0.2.length+1)*24≤140737488355328) <|
    some (.go ((aK (s0.1+1)),(s0.2++[(au.mk (((((x2.getD x0.toNat ae).q).Terms).getD s0.1.toNat ay).Var) (aK ((((((x2.getD x0.toNat ae).q).Terms).getD s0.1.toNat ay).C).tdiv y0)))])))
   ) else (
    some (.brk s0.2)
   )
  ) 4294967296 (0,[])).bind <| ca fun u0 =>
  (dZ ((x2.getD x0.toNat ae).scale) y0).bind fun y2 =>
  ((
   bif ((x2.getD x0.toNat ae).big) then (
    (some (x2.set x0.toNat (ak.mk (Linear.mk (aK ((((x2.getD x0.toNat ae).q).Const).tdiv y0)) u0) ((x2.getD x0.toNat ae).mults) ((x2.getD x0.toNat ae).scale) ((x2.getD x0.toNat ae).big)))).bind fun y3 =>
    bf (x0.toNat<y3.length) <|
    (some (y3.set x0.toNat (ak.mk (Linear.mk (((y3.getD x0.toNat ae).q).Const) (((y3.getD x0.toNat ae).q).Terms)) ((y3.getD x0.toNat ae).mults) y2.1 ((y3.getD x0.toNat ae).big)))).bind fun y4 =>
    bf (x0.toNat<y4.length) <|
    (some (y4.set x0.toNat (ak.mk (Linear.mk (((y4.getD x0.toNat ae).q).Const) (((y4.getD x0.toNat ae).q).Terms)) ((y4.getD x0.toNat ae).mults) ((y4.getD x0.toNat ae).scale) true))).bind fun y5 =>
    some y5
   ) else (
    bif (y2.2==0) then (
     (some (x2.set x0.toNat (ak.mk (Linear.mk (aK ((((x2.getD x0.toNat ae).q).Const).tdiv y0)) u0) ((x2.getD x0.toNat ae).mults) ((x2.getD x0.toNat ae).scale) ((x2.getD x0.toNat ae).big)))).bind fun y6 =>
     bf (x0.toNat<y6.length) <|
     (some (y6.set x0.toNat (ak.mk (Linear.mk (((y6.getD x0.toNat ae).q).Const) (((y6.getD x0.toNat ae).q).Terms)) ((y6.getD x0.toNat ae).mults) y2.1 ((y6.getD x0.toNat ae).big)))).bind fun y7 =>
     bf (x0.toNat<y7.length) <|
     (some (y7.set x0.toNat (ak.mk (Linear.mk (((y7.getD x0.toNat ae).q).Const) (((y7.getD x0.toNat ae).q).Terms)) ((y7.getD x0.toNat ae).mults) ((y7.getD x0.toNat ae).scale) (decide (y2.1>1099511627776))))).bind fun y8 =>
     some y8
    ) else (
     (some (x2.set x0.toNat (ak.mk (Linear.mk (aK ((((x2.getD x0.toNat ae).q).Const).tdiv y0)) u0) ((x2.getD x0.toNat ae).mults) ((x2.getD x0.toNat ae).scale) ((x2.getD x0.toNat ae).big)))).bind fun y9 =>
     bf (x0.toNat<y9.length) <|
     (some (y9.set x0.toNat (ak.mk (Linear.mk (((y9.getD x0.toNat ae).q).Const) (((y9.getD x0.toNat ae).q).Terms)) ((y9.getD x0.toNat ae).mults) y2.1 ((y9.getD x0.toNat ae).big)))).bind fun y10 =>
     bf (x0.toNat<y10.length) <|
     (some (y10.set x0.toNat (ak.mk (Linear.mk (((y10.getD x0.toNat ae).q).Const) (((y10.getD x0.toNat ae).q).Terms)) ((y10.getD x0.toNat ae).mults) ((y10.getD x0.toNat ae).scale) true))).bind fun y11 =>
     some y11
    )
   )
  ):Option (List ak)).bind fun v1 =>
  (kf (Linear.mk (aK ((((x2.getD x0.toNat ae).q).Const).tdiv y0)) u0)).bind fun y12 =>
  ((
   bif (y12.C==1) then (
    some true
   ) else (
    some (y12.C==(-1))
   )
  ):Option Bool).bind fun v2 =>
  bif v2 then (
   (gF y12.Var).bind fun y13 =>
   (cW y13 (Linear.mk (aK ((((x2.getD x0.toNat ae).q).Const).tdiv y0)) u0) (aK (0-y12.C))).bind fun y14 =>
   (gn (σ:=(Int×(List ak))) (ε:=(List ak)) (ρ:=Empty) (fun s1 =>
    bif decide (s1.1<((s1.2.length:Nat):Int)) then (
     bf (0≤s1.1∧s1.1<(s1.2.length:Int)) <|
     bf (s1.1.toNat<s1.2.length) <|
     (cr (Linear.mk (((s1.2.getD s1.1.toNat ae).q).Const) (((s1.2.getD s1.1.toNat ae).q).Terms)) y12.Var).bind fun y15 =>
     ((
      bif (y15==0) then (
       some s1.2
      ) else (
       bf (x0.toNat<s1.2.length) <|
       (kW (ak.mk (Linear.mk (((s1.2.getD s1.1.toNat ae).q).Const) (((s1.2.getD s1.1.toNat ae).q).Terms)) ((s1.2.getD s1.1.toNat ae).mults) ((s1.2.getD s1.1.toNat ae).scale) ((s1.2.getD s1.1.toNat ae).big)) (ak.mk (Linear.mk (((s1.2.getD x0.toNat ae).q).Const) (((s1.2.getD x0.toNat ae).q).Terms)) ((s1.2.getD x0.toNat ae).mults) ((s1.2.getD x0.toNat ae).scale) ((s1.2.getD x0.toNat ae).big)) (aK (y15*y12.C))).bind fun y16 =>
       (some (s1.2.set s1.1.toNat y16)).bind fun y17 =>
       some y17
      )
     ):Option (List ak)).bind fun v3 =>
     some (.go ((aK (s1.1+1)),v3))
    ) else (
     some (.brk s1.2)
    )
   ) 4294967296 ((aK (x0+1)),v1)).bind <| ca fun u1 =>
   (dq y12.Var y14 x0 x1 u1 x3 x4).bind fun y18 =>
   some (((al.mk [] 0),y18.1),x1,y18.2.1,y18.2.2,x4)
  ) else (
   (fC 64 x1).bind fun y19 =>
   bf ([95].length+y19.length≤9223372036854775807) <|
   (gF ([95]++y19)).bind fun y20 =>
   (gF y12.Var).bind fun y21 =>
   bif decide ((aK (x1+1))≥1000000000) then (
    some (((al.mk [] 0),3),(aK (x1+1)),v1,x3,x4)
   ) else (
    (dn (σ:=(Int×(List au)×Int×(List au))) (ε:=(Int×(List au)×Int×(List au))) (ρ:=Empty) (fun i0 s2 =>
     ((
      bif (((u0.getD i0 ay).Var)==y12.Var) then (
       some (s2.1,s2.2.1,s2.2.2.1,s2.2.2.2)
      ) else (
       (dN ((u0.getD i0 ay).C) y12.C).bind fun y22 =>
       (bQ (Linear.mk s2.1 s2.2.1) ((u0.getD i0 ay).Var) (aK (0-y22.1))).bind fun y23 =>
       (bQ (Linear.mk s2.2.2.1 s2.2.2.2) ((u0.getD i0 ay).Var) y22.1).bind fun y24 =>
       some (y23.Const,y23.Terms,y24.Const,y24.Terms)
      )
     ):Option (Int×(List au)×Int×(List au))).bind fun v4 =>
     some (.go (v4.1,v4.2.1,v4.2.2.1,v4.2.2.2))
    ) (fun i0 s2=>(s2.1,s2.2.1,s2.2.2.1,s2.2.2.2)) (u0.length-0) 0 (y20.Const,y20.Terms,y21.Const,y21.Terms)).bind <| ca fun u2 =>
    (dN (aK ((((x2.getD x0.toNat ae).q).Const).tdiv y0)) y12.C).bind fun y25 =>
    bf ((x4.length+1)*112≤140737488355328) <|
    (dq y12.Var (Linear.mk (aK (u2.1-y25.1)) u2.2.1) x0 (aK (x1+1)) v1 x3 (x4++[(Bind.mk 1 ([95]++y19) (Linear.mk (aK (u2.2.2.1+y25.1)) u2.2.2.2) (Shape.mk [] []) [])])).bind fun y26 =>
    some (((al.mk [] 0),y26.1),(aK (x1+1)),y26.2.1,y26.2.2,(x4++[(Bind.mk 1 ([95]++y19) (Linear.mk (aK (u2.2.2.1+y25.1)) u2.2.2.2) (Shape.mk [] []) [])]))
   )
  )
 )
def iv (x0 x1:Int) (x2:List ak) (x3 x4:List Bind) (y0:Int) (v0:Bool):AS:=⟨306,[(0,.hptr 1000 0),(1,iI x0),(4,.hptr 4 0),(5,iI 0),(6,.hptr 1001 (x0.toNat*5)),(7,iI y0),(46,.bool v0)],[(4,.cells 53 [.eslice,iI 0]),(1000,.cells 98 [.rslice 1001,.rslice 1002,.rslice 1003,iI x1]),(1001,.row 100 5 (x2.map ai)),(1002,.row 41 7 (x3.map az)),(1003,.row 41 7 (x4.map az))]⟩
def iy (x0 x1:Int) (x2:List ak) (x3 x4:List Bind) (y0:Int) (s0:Int×(List au)):AS:=⟨306,[(0,.hptr 1000 0),(1,iI x0),(4,.hptr 4 0),(5,iI 0),(6,.hptr 1001 (x0.toNat*5)),(7,iI y0),(8,.hptr 8 0),(9,iI s0.1)],[(4,.cells 53 [.eslice,iI 0]),(8,.cells 34 [iI (aK ((((x2.getD x0.toNat ae).q).Const).tdiv y0)),.rslice 94]),(94,.row 88 2 (s0.2.map aq)),(1000,.cells 98 [.rslice 1001,.rslice 1002,.rslice 1003,iI x1]),(1001,.row 100 5 (x2.map ai)),(1002,.row 41 7 (x3.map az)),(1003,.row 41 7 (x4.map az))]⟩
def lb (x0 x1:Int) (x2:List ak) (x3 x4:List Bind) (y0:Int) (u3:List au):AS:=⟨306,[(0,.hptr 1000 0),(1,iI x0),(4,.hptr 4 0),(5,iI 0),(6,.hptr 1001 (x0.toNat*5)),(7,iI y0),(8,.hptr 8 0)],[(4,.cells 53 [.eslice,iI 0]),(8,.cells 34 [iI (aK ((((x2.getD x0.toNat ae).q).Const).tdiv y0)),.rslice 94]),(94,.row 88 2 (u3.map aq)),(1000,.cells 98 [.rslice 1001,.rslice 1002,.rslice 1003,iI x1]),(1001,.row 100 5 (x2.map ai)),(1002,.row 41 7 (x3.map az)),(1003,.row 41 7 (x4.map az))]⟩
def fk (x0 x1:Int) (x2:List ak) (x3 x4:List Bind) (y0:Int) (u0:List au) (v1:List ak):AS:=⟨306,[(0,.hptr 1000 0),(1,iI x0),(4,.hptr 4 0),(5,iI 0),(6,.hptr 1001 (x0.toNat*5)),(8,.hptr 8 0)],[(4,.cells 53 [.eslice,iI 0]),(8,.cells 34 [iI (aK ((((x2.getD x0.toNat ae).q).Const).tdiv y0)),dS aq u0]),(1000,.cells 98 [.rslice 1001,.rslice 1002,.rslice 1003,iI x1]),(1001,.row 100 5 (v1.map ai)),(1002,.row 41 7 (x3.map az)),(1003,.row 41 7 (x4.map az))]⟩
def iA (x0 x1:Int) (x2:List ak) (x3 x4:List Bind) (y0:Int) (u0:List au) (v1:List ak) (y12:au) (v2:Bool):AS:=⟨306,[(0,.hptr 1000 0),(1,iI x0),(4,.hptr 4 0),(5,iI 0),(6,.hptr 1001 (x0.toNat*5)),(8,.hptr 8 0),(12,.hptr 12 0),(137,.bool v2)],[(4,.cells 53 [.eslice,iI 0]),(8,.cells 34 [iI (aK ((((x2.getD x0.toNat ae).q).Const).tdiv y0)),dS aq u0]),(12,.cells 88 [.str y12.Var,iI y12.C]),(1000,.cells 98 [.rslice 1001,.rslice 1002,.rslice 1003,iI x1]),(1001,.row 100 5 (v1.map ai)),(1002,.row 41 7 (x3.map az)),(1003,.row 41 7 (x4.map az))]⟩
def iq (x0 x1:Int) (x2:List ak) (x3 x4:List Bind) (y0:Int) (u0:List au) (y12:au) (y14:Linear) (s1:Int×(List ak)):AS:=⟨306,[(0,.hptr 1000 0),(1,iI x0),(4,.hptr 4 0),(5,iI 0),(6,.hptr 1001 (x0.toNat*5)),(8,.hptr 8 0),(12,.hptr 12 0),(13,.hptr 13 0),(14,iI s1.1)],[(4,.cells 53 [.eslice,iI 0]),(8,.cells 34 [iI (aK ((((x2.getD x0.toNat ae).q).Const).tdiv y0)),dS aq u0]),(12,.cells 88 [.str y12.Var,iI y12.C]),(13,.cells 34 [iI y14.Const,dS aq y14.Terms]),(1000,.cells 98 [.rslice 1001,.rslice 1002,.rslice 1003,iI x1]),(1001,.row 100 5 (s1.2.map ai)),(1002,.row 41 7 (x3.map az)),(1003,.row 41 7 (x4.map az))]⟩
def lK (x0 x1:Int) (x2:List ak) (x3 x4:List Bind) (y0:Int) (u0:List au) (y12:au) (y14:Linear) (u4:List ak):AS:=⟨306,[(0,.hptr 1000 0),(1,iI x0),(4,.hptr 4 0),(5,iI 0),(8,.hptr 8 0),(12,.hptr 12 0),(13,.hptr 13 0)],[(4,.cells 53 [.eslice,iI 0]),(8,.cells 34 [iI (aK ((((x2.getD x0.toNat ae).q).Const).tdiv y0)),dS aq u0]),(12,.cells 88 [.str y12.Var,iI y12.C]),(13,.cells 34 [iI y14.Const,dS aq y14.Terms]),(1000,.cells 98 [.rslice 1001,.rslice 1002,.rslice 1003,iI x1]),(1001,.row 100 5 (u4.map ai)),(1002,.row 41 7 (x3.map az)),(1003,.row 41 7 (x4.map az))]⟩
def hJ (x0 x1:Int) (x2:List ak) (x3 x4:List Bind) (y0:Int) (u0:List au) (y12:au) (y14:Linear) (s1:Int×(List ak)) (v3:List ak):AS:=⟨306,[(0,.hptr 1000 0),(1,iI x0),(4,.hptr 4 0),(5,iI 0),(6,.hptr 1001 (x0.toNat*5)),(8,.hptr 8 0),(12,.hptr 12 0),(13,.hptr 13 0),(14,iI s1.1)],[(4,.cells 53 [.eslice,iI 0]),(8,.cells 34 [iI (aK ((((x2.getD x0.toNat ae).q).Const).tdiv y0)),dS aq u0]),(12,.cells 88 [.str y12.Var,iI y12.C]),(13,.cells 34 [iI y14.Const,dS aq y14.Terms]),(1000,.cells 98 [.rslice 1001,.rslice 1002,.rslice 1003,iI x1]),(1001,.row 100 5 (v3.map ai)),(1002,.row 41 7 (x3.map az)),(1003,.row 41 7 (x4.map az))]⟩
def iz (x0 x1:Int) (x2:List ak) (x3 x4:List Bind) (y0:Int) (u0:List au) (v1:List ak) (y12:au) (y19:aJ) (i0:Nat) (s2:Int×(List au)×Int×(List au)):AS:=⟨306,[(0,.hptr 1000 0),(1,iI x0),(4,.hptr 4 0),(5,iI 0),(8,.hptr 8 0),(12,.hptr 12 0),(16,.str ([95]++y19)),(17,.hptr 17 0),(18,.hptr 18 0),(19,nI i0)],[(4,.cells 53 [.eslice,iI 0]),(8,.cells 34 [iI (aK ((((x2.getD x0.toNat ae).q).Const).tdiv y0)),dS aq u0]),(12,.cells 88 [.str y12.Var,iI y12.C]),(17,.cells 34 [iI s2.1,dS aq s2.2.1]),(18,.cells 34 [iI s2.2.2.1,dS aq s2.2.2.2]),(1000,.cells 98 [.rslice 1001,.rslice 1002,.rslice 1003,iI (aK (x1+1))]),(1001,.row 100 5 (v1.map ai)),(1002,.row 41 7 (x3.map az)),(1003,.row 41 7 (x4.map az))]⟩
def kA (x0 x1:Int) (x2:List ak) (x3 x4:List Bind) (y0:Int) (u0:List au) (v1:List ak) (y12:au) (y19:aJ) (u5:Int×(List au)×Int×(List au)):AS:=⟨306,[(0,.hptr 1000 0),(1,iI x0),(4,.hptr 4 0),(5,iI 0),(8,.hptr 8 0),(12,.hptr 12 0),(16,.str ([95]++y19)),(17,.hptr 17 0),(18,.hptr 18 0)],[(4,.cells 53 [.eslice,iI 0]),(8,.cells 34 [iI (aK ((((x2.getD x0.toNat ae).q).Const).tdiv y0)),dS aq u0]),(12,.cells 88 [.str y12.Var,iI y12.C]),(17,.cells 34 [iI u5.1,dS aq u5.2.1]),(18,.cells 34 [iI u5.2.2.1,dS aq u5.2.2.2]),(1000,.cells 98 [.rslice 1001,.rslice 1002,.rslice 1003,iI (aK (x1+1))]),(1001,.row 100 5 (v1.map ai)),(1002,.row 41 7 (x3.map az)),(1003,.row 41 7 (x4.map az))]⟩
def gJ (x0 x1:Int) (x2:List ak) (x3 x4:List Bind) (y0:Int) (u0:List au) (v1:List ak) (y12:au) (y19:aJ) (i0:Nat) (v4:Int×(List au)×Int×(List au)):AS:=⟨306,[(0,.hptr 1000 0),(1,iI x0),(4,.hptr 4 0),(5,iI 0),(8,.hptr 8 0),(12,.hptr 12 0),(16,.str ([95]++y19)),(17,.hptr 17 0),(18,.hptr 18 0),(19,nI i0)],[(4,.cells 53 [.eslice,iI 0]),(8,.cells 34 [iI (aK ((((x2.getD x0.toNat ae).q).Const).tdiv y0)),dS aq u0]),(12,.cells 88 [.str y12.Var,iI y12.C]),(17,.cells 34 [iI v4.1,dS aq v4.2.1]),(18,.cells 34 [iI v4.2.2.1,dS aq v4.2.2.2]),(1000,.cells 98 [.rslice 1001,.rslice 1002,.rslice 1003,iI (aK (x1+1))]),(1001,.row 100 5 (v1.map ai)),(1002,.row 41 7 (x3.map az)),(1003,.row 41 7 (x4.map az))]⟩
theorem sQ (x0 x1:Int) (x2:List ak) (x3 x4:List Bind) (r:(al×Int)×Int×(List ak)×(List Bind)×(List Bind)) (H:cM x0 x1 x2 x3 x4=some r):cg Tryz.prog 42 [.hptr 1000 0,iI x0] [(1000,.cells 98 [.rslice 1001,.rslice 1002,.rslice 1003,iI x1]),(1001,.row 100 5 (x2.map ai)),(1002,.row 41 7 (x3.map az)),(1003,.row 41 7 (x4.map az))] (fun r2 h0=>r2=(.tup [.agg [dS ao r.1.1.Mults,iI r.1.1.Mod],iI r.1.2])∧h0=[(0,.row 41 7 (r.2.2.2.1.map az)),(1,.row 41 7 (r.2.2.2.2.map az)),(1000,.cells 98 [.rslice 1001,.rslice 0,.rslice 1,iI r.2.1]),(1001,.row 100 5 (r.2.2.1.map ai))]):=by
 unfold cM at H;refine aX Tryz.func42 306 [.cell 4 53,.tmp 5] ?_;refine aL H fun g0 H0 => ?_;refine aL H0 fun g1 H1 => ?_;refine aR H1 fun y0 h1 H2 => ?_;refine pD 8 [r0 [.m,.v],r0 (V 7 []),r0 [.v,.v,.v,.rl x0.toNat 0 (.agg (aw ((x2.getD x0.toNat ae).q))),.c true (iI y0),.v]] [.only [0,1,4,5,6,7] [4,1000,1001,1002,1003]] 8 [] (aC (show (0:Int)≤x0∧x0<((x2.map ai).length:Int) from by rw [MM];exact g0) (aC (dI (f:=ai) (l:=x2) (n:=x0.toNat) 5 0 2 (by omega) (by decide)) (aC (yK (f:=ai) (l:=x2) (n:=x0.toNat) ae 0 2 (by omega)) (aC Tryz.call72 (aF (wy _ _ h1) aN))))) ?_;refine aR H2 fun v0 h2 H3 => ?_;refine bV 0 (iv x0 x1 x2 x3 x4 y0 v0) (by kernel_rfl) ?_ ?_
 ·refine aV h2 (fun c0 H4 => ?_) (fun c1 H5 => ?_)
  ·obtain rfl:=sI H4;exact pB 1 [r0 [.v,.e bT,.v,.s,.s,.s,.s,.s,.s,.s,.s,.v]] [.only [0,1,4,5,6,7,46] [4,1000,1001,1002,1003]] (iv x0 x1 x2 x3 x4 y0 true) (aB c0 aN)
  ·refine aL H5 fun g2 H6 => ?_;obtain rfl:=sI H6;exact pB 1 [r0 [.v,.e bF,.v,.v,.v,.v,.v,.rl x0.toNat 0 (iI (((x2.getD x0.toNat ae).q).Const)),.v,.v,.v,.v]] [.only [0,1,4,5,6,7,46] [4,1000,1001,1002,1003]] (iv x0 x1 x2 x3 x4 y0 (((((x2.getD x0.toNat ae).q).Const).tmod y0) != 0)) (aB c1 (aC (dI (f:=ai) (l:=x2) (n:=x0.toNat) 5 0 1 (by omega) (by decide)) (aC (ot (f:=ai) (l:=x2) (n:=x0.toNat) ae 0 (by omega)) (aC (show (y0:Int)≠0 from g2) aN))))
 ·refine aV H3 (fun c2 H7 => ?_) (fun c3 H8 => ?_)
  ·refine aR H7 fun y1 h3 H9 => ?_;obtain rfl:=sI H9;exact pR 5 [.eqT 46 bT,r0 [.v,.v,.rl x0.toNat 0 (.agg [iI (((x2.getD x0.toNat ae).q).Const),.dslice ((((x2.getD x0.toNat ae).q).Terms).map aq),.dslice (((x2.getD x0.toNat ae).mults).map ao),iI ((x2.getD x0.toNat ae).scale),.bool ((x2.getD x0.toNat ae).big)]),.v,.c true (.agg [dS ao y1.Mults,iI y1.Mod]),.m,.v]] [.ren [(1002,0),(1003,1),(4,4),(1000,1000),(1001,1001)]] [0,1,1000,1001] (aB c2 (aC (dI (f:=ai) (l:=x2) (n:=x0.toNat) 5 0 5 (by omega) (by decide)) (aC (yK (f:=ai) (l:=x2) (n:=x0.toNat) ae 0 5 (by omega)) (aC Tryz.call73 (aF (xF _ _ _ h3) aN)))))
  ·refine aL H8 fun g3 H10 => ?_;refine pA 9 [.eqT 46 bF,r0 (V 4 [.rl x0.toNat 0 (iI (((x2.getD x0.toNat ae).q).Const)),.v,.w,.b,.m,.m]),V1] [.erH 8 1 94 88 2,.only [0,1,4,5,6,7,8,9] [4,8,94,1000,1001,1002,1003]] 8 [false] (iy x0 x1 x2 x3 x4 y0 (0,[])) (aB c3 (aC (dI (f:=ai) (l:=x2) (n:=x0.toNat) 5 0 1 (by omega) (by decide)) (aC (ot (f:=ai) (l:=x2) (n:=x0.toNat) ae 0 (by omega)) (aC (show (y0:Int)≠0 from g3) aN)))) ?_;refine aR H10 fun R0 h4 H11 => ?_;refine pJ 1 (lb x0 x1 x2 x3 x4 y0) R0 ?_ (fun u0 e0 => ?_)
   ·refine lB (iy x0 x1 x2 x3 x4 y0) (by kernel_rfl) h4 (fun s0 q0 h5 h6 => ?_)
    ·refine pD 3 [.rg 0 [] (V 5 [.rl x0.toNat 1 (.dslice ((((x2.getD x0.toNat ae).q).Terms).map aq)),.e (.int .i64 (((((x2.getD x0.toNat ae).q).Terms).length:Nat):Int)),.v])] [.only [0,1,4,5,6,7,8,9,67] [4,8,94,1000,1001,1002,1003]] 3 [] (aC (dI (f:=ai) (l:=x2) (n:=x0.toNat) 5 1 1 (by omega) (by decide)) (aC (ot (f:=ai) (l:=x2) (n:=x0.toNat) ae 1 (by omega)) (aT (aC (aQ aq (((x2.getD x0.toNat ae).q).Terms)) aN)))) ?_;refine aV h5 (fun c4 H12 => ?_) (fun c5 H13 => ?_)
     ·have c4p:=MJ c4;refine aL H12 fun g4 H14 => ?_;refine aL H14 fun g5 H15 => ?_;obtain rfl:=sI H15;exact pB 7 [.eqT 67 bT,.rg 24 (V 6 [.rl x0.toNat 1 (.dslice ((((x2.getD x0.toNat ae).q).Terms).map aq)),.v,.e (.dptr (aq ((((x2.getD x0.toNat ae).q).Terms).getD s0.1.toNat ay))),.v,.v,.v,.v,.v,.v,.rl x0.toNat 1 (.dslice ((((x2.getD x0.toNat ae).q).Terms).map aq)),.v,.e (.dptr (aq ((((x2.getD x0.toNat ae).q).Terms).getD s0.1.toNat ay))),.v,.v,.v,.w,.b,.b]) [.ap,.rwH 94 (.row 88 2 ((s0.2++[(au.mk (((((x2.getD x0.toNat ae).q).Terms).getD s0.1.toNat ay).Var) (aK ((((((x2.getD x0.toNat ae).q).Terms).getD s0.1.toNat ay).C).tdiv y0)))]).map aq)),.v,.m],r0 [.v,.w,.v]] [.only [0,1,4,5,6,7,8,9] [4,8,94,1000,1001,1002,1003]] (iy x0 x1 x2 x3 x4 y0 ((aK (s0.1+1)),(s0.2++[(au.mk (((((x2.getD x0.toNat ae).q).Terms).getD s0.1.toNat ay).Var) (aK ((((((x2.getD x0.toNat ae).q).Terms).getD s0.1.toNat ay).C).tdiv y0)))]))) (aB c4 (aC (dI (f:=ai) (l:=x2) (n:=x0.toNat) 5 1 1 (by omega) (by decide)) (aC (ot (f:=ai) (l:=x2) (n:=x0.toNat) ae 1 (by omega)) (bp (IZ (f:=aq) (l:=(((x2.getD x0.toNat ae).q).Terms)) (n:=s0.1) ay aZ (by decide) (by exact g4)) (aC (dI (f:=ai) (l:=x2) (n:=x0.toNat) 5 1 1 (by omega) (by decide)) (aC (ot (f:=ai) (l:=x2) (n:=x0.toNat) ae 1 (by omega)) (bp (IZ (f:=aq) (l:=(((x2.getD x0.toNat ae).q).Terms)) (n:=s0.1) ay aZ (by decide) (by exact g4)) (aC (show (y0:Int)≠0 from g3) (bp (tT (c:=aq) iw s0.2 [(au.mk (((((x2.getD x0.toNat ae).q).Terms).getD s0.1.toNat ay).Var) (aK ((((((x2.getD x0.toNat ae).q).Terms).getD s0.1.toNat ay).C).tdiv y0)))] 24 (by decide) (by first | (simp;done) | simpa using g5)) (aC (wA 88 2 aq s0.2 [(au.mk (((((x2.getD x0.toNat ae).q).Terms).getD s0.1.toNat ay).Var) (aK ((((((x2.getD x0.toNat ae).q).Terms).getD s0.1.toNat ay).C).tdiv y0)))]) aN))))))))))
     ·obtain rfl:=sI H13;obtain rfl:=dM h6;exact pB 3 [.eqT 67 bF] [.only [0,1,4,5,6,7,8] [4,8,94,1000,1001,1002,1003]] (lb x0 x1 x2 x3 x4 y0 s0.2) (aB c5 aN)
   ·subst e0;have H16:=a8 H11;refine aR H16 fun y2 h7 H17 => ?_;refine pD 3 [r0 [.v,.v,.v,.rl x0.toNat 3 (iI ((x2.getD x0.toNat ae).scale)),.v,.c true (.tup [iI y2.1,iI y2.2]),.v,.v,.v,.v,.fz 94,.v]] [.only [0,1,4,5,6,8,10,11] [4,8,1000,1001,1002,1003]] 3 [] (aC (dI (f:=ai) (l:=x2) (n:=x0.toNat) 5 3 1 (by omega) (by decide)) (aC (ot (f:=ai) (l:=x2) (n:=x0.toNat) ae 3 (by omega)) (aC Tryz.call74 (aF (fe _ _ _ h7) aN)))) ?_;refine aR H17 fun v1 h8 H18 => ?_;refine bV 0 (fk x0 x1 x2 x3 x4 y0 u0 v1) (by kernel_rfl) ?_ ?_
    ·refine aV h8 (fun c6 H19 => ?_) (fun c7 H20 => ?_)
     ·refine aR H19 fun y3 h9 H21 => ?_;refine aL H21 fun g6 H22 => ?_;refine aR H22 fun y4 h10 H23 => ?_;refine aL H23 fun g7 H24 => ?_;refine aR H24 fun y5 h11 H25 => ?_;refine bZ H25 fun e1 => ?_;subst e1;exact pB 1 [.rg 23 (V 8 [.rl x0.toNat 4 (.bool ((x2.getD x0.toNat ae).big)),.e bT,.s,.s,.v,.v,.s,.s,.v,.v,.v,.rsx x0.toNat 0 (.row 100 5 (y3.map ai)),.v,.v,.rsx x0.toNat 3 (.row 100 5 (y4.map ai))]) [.v,.v,.rs x0.toNat 4,.rwH 1001 (.row 100 5 (y5.map ai))]] [.only [0,1,4,5,6,8] [4,8,1000,1001,1002,1003]] (fk x0 x1 x2 x3 x4 y0 u0 y5) (aC (dI (f:=ai) (l:=x2) (n:=x0.toNat) 5 4 1 (by omega) (by decide)) (aC (ot (f:=ai) (l:=x2) (n:=x0.toNat) ae 4 (by omega)) (aB c6 (aC (dI (f:=ai) (l:=x2) (n:=x0.toNat) 5 0 2 (by omega) (by decide)) (aC ((qS (f:=ai) 100 5 x2 x0.toNat ae (ak.mk (Linear.mk (aK ((((x2.getD x0.toNat ae).q).Const).tdiv y0)) u0) ((x2.getD x0.toNat ae).mults) ((x2.getD x0.toNat ae).scale) ((x2.getD x0.toNat ae).big)) 0 [iI (aK ((((x2.getD x0.toNat ae).q).Const).tdiv y0)),dS aq u0] (by omega) rfl).trans (congrArg (fun l=>AO.row 100 5 (l.map ai)) (MQ h9))) (aC (dI (f:=ai) (l:=y3) (n:=x0.toNat) 5 3 1 (by omega) (by decide)) (aC ((qS (f:=ai) 100 5 y3 x0.toNat ae (ak.mk (Linear.mk (((y3.getD x0.toNat ae).q).Const) (((y3.getD x0.toNat ae).q).Terms)) ((y3.getD x0.toNat ae).mults) y2.1 ((y3.getD x0.toNat ae).big)) 3 [iI y2.1] (by omega) rfl).trans (congrArg (fun l=>AO.row 100 5 (l.map ai)) (MQ h10))) (aC (dI (f:=ai) (l:=y4) (n:=x0.toNat) 5 4 1 (by omega) (by decide)) (aC ((qS (f:=ai) 100 5 y4 x0.toNat ae (ak.mk (Linear.mk (((y4.getD x0.toNat ae).q).Const) (((y4.getD x0.toNat ae).q).Terms)) ((y4.getD x0.toNat ae).mults) ((y4.getD x0.toNat ae).scale) true) 4 [.bool true] (by omega) rfl).trans (congrArg (fun l=>AO.row 100 5 (l.map ai)) (MQ h11))) aN)))))))))
     ·refine aV H20 (fun c8 H26 => ?_) (fun c9 H27 => ?_)
      ·refine aR H26 fun y6 h12 H28 => ?_;refine aL H28 fun g8 H29 => ?_;refine aR H29 fun y7 h13 H30 => ?_;refine aL H30 fun g9 H31 => ?_;refine aR H31 fun y8 h14 H32 => ?_;refine bZ H32 fun e2 => ?_;subst e2;exact pB 1 [.rg 23 (V 8 [.rl x0.toNat 4 (.bool ((x2.getD x0.toNat ae).big)),.e bF,.v,.e bF,.v,.v,.v,.v,.v,.v,.v,.rsx x0.toNat 0 (.row 100 5 (y6.map ai)),.v,.v,.rsx x0.toNat 3 (.row 100 5 (y7.map ai))]) [.v,.v,.rs x0.toNat 4,.rwH 1001 (.row 100 5 (y8.map ai))]] [.only [0,1,4,5,6,8] [4,8,1000,1001,1002,1003]] (fk x0 x1 x2 x3 x4 y0 u0 y8) (aC (dI (f:=ai) (l:=x2) (n:=x0.toNat) 5 4 1 (by omega) (by decide)) (aC (ot (f:=ai) (l:=x2) (n:=x0.toNat) ae 4 (by omega)) (aB c7 (aM c8 (aC (dI (f:=ai) (l:=x2) (n:=x0.toNat) 5 0 2 (by omega) (by decide)) (aC ((qS (f:=ai) 100 5 x2 x0.toNat ae (ak.mk (Linear.mk (aK ((((x2.getD x0.toNat ae).q).Const).tdiv y0)) u0) ((x2.getD x0.toNat ae).mults) ((x2.getD x0.toNat ae).scale) ((x2.getD x0.toNat ae).big)) 0 [iI (aK ((((x2.getD x0.toNat ae).q).Const).tdiv y0)),dS aq u0] (by omega) rfl).trans (congrArg (fun l=>AO.row 100 5 (l.map ai)) (MQ h12))) (aC (dI (f:=ai) (l:=y6) (n:=x0.toNat) 5 3 1 (by omega) (by decide)) (aC ((qS (f:=ai) 100 5 y6 x0.toNat ae (ak.mk (Linear.mk (((y6.getD x0.toNat ae).q).Const) (((y6.getD x0.toNat ae).q).Terms)) ((y6.getD x0.toNat ae).mults) y2.1 ((y6.getD x0.toNat ae).big)) 3 [iI y2.1] (by omega) rfl).trans (congrArg (fun l=>AO.row 100 5 (l.map ai)) (MQ h13))) (aC (dI (f:=ai) (l:=y7) (n:=x0.toNat) 5 4 1 (by omega) (by decide)) (aC ((qS (f:=ai) 100 5 y7 x0.toNat ae (ak.mk (Linear.mk (((y7.getD x0.toNat ae).q).Const) (((y7.getD x0.toNat ae).q).Terms)) ((y7.getD x0.toNat ae).mults) ((y7.getD x0.toNat ae).scale) (decide (y2.1>1099511627776))) 4 [.bool (decide (y2.1>1099511627776))] (by omega) rfl).trans (congrArg (fun l=>AO.row 100 5 (l.map ai)) (MQ h14))) aN))))))))))
      ·refine aR H27 fun y9 h15 H33 => ?_;refine aL H33 fun g10 H34 => ?_;refine aR H34 fun y10 h16 H35 => ?_;refine aL H35 fun g11 H36 => ?_;refine aR H36 fun y11 h17 H37 => ?_;refine bZ H37 fun e3 => ?_;subst e3;exact pB 1 [.rg 23 (V 8 [.rl x0.toNat 4 (.bool ((x2.getD x0.toNat ae).big)),.e bF,.v,.e bT,.v,.v,.s,.s,.v,.v,.v,.rsx x0.toNat 0 (.row 100 5 (y9.map ai)),.v,.v,.rsx x0.toNat 3 (.row 100 5 (y10.map ai))]) [.v,.v,.rs x0.toNat 4,.rwH 1001 (.row 100 5 (y11.map ai))]] [.only [0,1,4,5,6,8] [4,8,1000,1001,1002,1003]] (fk x0 x1 x2 x3 x4 y0 u0 y11) (aC (dI (f:=ai) (l:=x2) (n:=x0.toNat) 5 4 1 (by omega) (by decide)) (aC (ot (f:=ai) (l:=x2) (n:=x0.toNat) ae 4 (by omega)) (aB c7 (aM c9 (aC (dI (f:=ai) (l:=x2) (n:=x0.toNat) 5 0 2 (by omega) (by decide)) (aC ((qS (f:=ai) 100 5 x2 x0.toNat ae (ak.mk (Linear.mk (aK ((((x2.getD x0.toNat ae).q).Const).tdiv y0)) u0) ((x2.getD x0.toNat ae).mults) ((x2.getD x0.toNat ae).scale) ((x2.getD x0.toNat ae).big)) 0 [iI (aK ((((x2.getD x0.toNat ae).q).Const).tdiv y0)),dS aq u0] (by omega) rfl).trans (congrArg (fun l=>AO.row 100 5 (l.map ai)) (MQ h15))) (aC (dI (f:=ai) (l:=y9) (n:=x0.toNat) 5 3 1 (by omega) (by decide)) (aC ((qS (f:=ai) 100 5 y9 x0.toNat ae (ak.mk (Linear.mk (((y9.getD x0.toNat ae).q).Const) (((y9.getD x0.toNat ae).q).Terms)) ((y9.getD x0.toNat ae).mults) y2.1 ((y9.getD x0.toNat ae).big)) 3 [iI y2.1] (by omega) rfl).trans (congrArg (fun l=>AO.row 100 5 (l.map ai)) (MQ h16))) (aC (dI (f:=ai) (l:=y10) (n:=x0.toNat) 5 4 1 (by omega) (by decide)) (aC ((qS (f:=ai) 100 5 y10 x0.toNat ae (ak.mk (Linear.mk (((y10.getD x0.toNat ae).q).Const) (((y10.getD x0.toNat ae).q).Terms)) ((y10.getD x0.toNat ae).mults) ((y10.getD x0.toNat ae).scale) true) 4 [.bool true] (by omega) rfl).trans (congrArg (fun l=>AO.row 100 5 (l.map ai)) (MQ h17))) aN))))))))))
    ·refine aR H18 fun y12 h18 H38 => ?_;refine pD 4 [r0 [.v,.c true (.agg [.str y12.Var,iI y12.C]),.m,.m]] [.only [0,1,4,5,6,8,12] [4,8,12,1000,1001,1002,1003]] 4 [] (aC Tryz.call75 (aF (yh _ _ h18) aN)) ?_;refine aR H38 fun v2 h19 H39 => ?_;refine bV 0 (iA x0 x1 x2 x3 x4 y0 u0 v1 y12 v2) (by kernel_rfl) ?_ ?_
     ·refine aV h19 (fun c10 H40 => ?_) (fun c11 H41 => ?_)
      ·obtain rfl:=sI H40;exact pB 1 [r0 [.v,.v,.e bT,.v,.s,.s,.s,.v]] [.only [0,1,4,5,6,8,12,137] [4,8,12,1000,1001,1002,1003]] (iA x0 x1 x2 x3 x4 y0 u0 v1 y12 true) (aB c10 aN)
      ·obtain rfl:=sI H41;exact pB 1 [r0 [.v,.v,.e bF,.v,.v,.v,.v,.v]] [.only [0,1,4,5,6,8,12,137] [4,8,12,1000,1001,1002,1003]] (iA x0 x1 x2 x3 x4 y0 u0 v1 y12 (y12.C==(-1))) (aB c11 aN)
     ·refine aV H39 (fun c12 H42 => ?_) (fun c13 H43 => ?_)
      ·refine aR H42 fun y13 h20 H44 => ?_;refine aR H44 fun y14 h21 H45 => ?_;refine pA 8 [.eqT 137 bT,.rg 9 [.v,.v,.c true (.agg [iI y13.Const,dS aq y13.Terms]),.v,.v,.v,.w,.c true (.agg [iI y14.Const,dS aq y14.Terms]),.m] [.m],r0 [.v,.w,.v]] [.only [0,1,4,5,6,8,12,13,14] [4,8,12,13,1000,1001,1002,1003]] 7 [true] (iq x0 x1 x2 x3 x4 y0 u0 y12 y14 ((aK (x0+1)),v1)) (aB c12 (aC Tryz.call22 (aF (lI _ _ h20) (aC Tryz.call16 (aF (kY _ _ _ _ h21) aN))))) ?_;refine aR H45 fun R1 h22 H46 => ?_;refine pJ 1 (lK x0 x1 x2 x3 x4 y0 u0 y12 y14) R1 ?_ (fun u1 e4 => ?_)
       ·refine lB (iq x0 x1 x2 x3 x4 y0 u0 y12 y14) (by kernel_rfl) h22 (fun s1 q1 h23 h24 => ?_)
        ·refine aV h23 (fun c14 H47 => ?_) (fun c15 H48 => ?_)
         ·have c14p:=MJ c14;refine aL H47 fun g12 H49 => ?_;refine aL H49 fun g13 H50 => ?_;refine aR H50 fun y15 h25 H51 => ?_;refine pD 12 [r0 (V 5 [.e (nI s1.2.length),.v]),.eqT 154 bT,.rg 10 (V 7 [.rl s1.1.toNat 0 (.agg (aw ((s1.2.getD s1.1.toNat ae).q))),.v,.v]) [.c true (iI y15),.v],V2] [.only [0,1,4,5,6,8,12,13,14,15,169] [4,8,12,13,1000,1001,1002,1003]] 11 [true] (aT (aC (aQ ai s1.2) (aB c14 (aC (show (0:Int)≤s1.1∧s1.1<((s1.2.map ai).length:Int) from by rw [MM];exact g12) (aC (dI (f:=ai) (l:=s1.2) (n:=s1.1.toNat) 5 0 2 (by omega) (by decide)) (aC (yK (f:=ai) (l:=s1.2) (n:=s1.1.toNat) ae 0 2 (by omega)) (aC Tryz.call12 (aF (gi _ _ _ h25) aN)))))))) ?_;refine aR H51 fun v3 h26 H52 => ?_;refine bV 1 (hJ x0 x1 x2 x3 x4 y0 u0 y12 y14 s1 v3) (by kernel_rfl) ?_ ?_
          ·refine aV h26 (fun c16 H53 => ?_) (fun c17 H54 => ?_)
           ·obtain rfl:=sI H53;exact pB 3 [.eqT 169 bF] [.only [0,1,4,5,6,8,12,13,14] [4,8,12,13,1000,1001,1002,1003]] (hJ x0 x1 x2 x3 x4 y0 u0 y12 y14 s1 s1.2) (aM c16 aN)
           ·refine aL H54 fun g14 H55 => ?_;refine aR H55 fun y16 h27 H56 => ?_;refine aR H56 fun y17 h28 H57 => ?_;refine bZ H57 fun e5 => ?_;subst e5;exact pB 3 [.eqT 169 bT,.rg 20 (V 11 [.rl s1.1.toNat 0 (.agg [iI (((s1.2.getD s1.1.toNat ae).q).Const),.dslice ((((s1.2.getD s1.1.toNat ae).q).Terms).map aq),.dslice (((s1.2.getD s1.1.toNat ae).mults).map ao),iI ((s1.2.getD s1.1.toNat ae).scale),.bool ((s1.2.getD s1.1.toNat ae).big)]),.v,.v,.rl x0.toNat 0 (.agg [iI (((s1.2.getD x0.toNat ae).q).Const),.dslice ((((s1.2.getD x0.toNat ae).q).Terms).map aq),.dslice (((s1.2.getD x0.toNat ae).mults).map ao),iI ((s1.2.getD x0.toNat ae).scale),.bool ((s1.2.getD x0.toNat ae).big)]),.v,.v,.v,.w,.c true (.agg [iI y16.q.Const,dS aq y16.q.Terms,dS ao y16.mults,iI y16.scale,.bool y16.big])]) [.v,.rs s1.1.toNat 0,.rwH 1001 (.row 100 5 (y17.map ai))]] [.only [0,1,4,5,6,8,12,13,14] [4,8,12,13,1000,1001,1002,1003]] (hJ x0 x1 x2 x3 x4 y0 u0 y12 y14 s1 y17) (aM c17 (aC (show (0:Int)≤s1.1∧s1.1<((s1.2.map ai).length:Int) from by rw [MM];exact g12) (aC (dI (f:=ai) (l:=s1.2) (n:=s1.1.toNat) 5 0 5 (by omega) (by decide)) (aC (yK (f:=ai) (l:=s1.2) (n:=s1.1.toNat) ae 0 5 (by omega)) (aC (dI (f:=ai) (l:=s1.2) (n:=x0.toNat) 5 0 5 (by omega) (by decide)) (aC (yK (f:=ai) (l:=s1.2) (n:=x0.toNat) ae 0 5 (by omega)) (aC Tryz.call76 (aF (A8 _ _ _ _ h27) (aC (show (0:Int)≤s1.1∧s1.1<((s1.2.map ai).length:Int) from by rw [MM];exact g12) (aC (dI (f:=ai) (l:=s1.2) (n:=s1.1.toNat) 5 0 5 (by omega) (by decide)) (aC ((qS (f:=ai) 100 5 s1.2 s1.1.toNat ae y16 0 [iI y16.q.Const,dS aq y16.q.Terms,dS ao y16.mults,iI y16.scale,.bool y16.big] (by omega) rfl).trans (congrArg (fun l=>AO.row 100 5 (l.map ai)) (MQ h28))) aN)))))))))))
          ·obtain rfl:=sI H52;exact pB 1 [r0 [.v,.w,.v]] [.only [0,1,4,5,6,8,12,13,14] [4,8,12,13,1000,1001,1002,1003]] (iq x0 x1 x2 x3 x4 y0 u0 y12 y14 ((aK (s1.1+1)),v3)) aN
         ·obtain rfl:=sI H48;obtain rfl:=dM h24;exact pB 6 [r0 (V 5 [.e (nI s1.2.length),.v]),.eqT 154 bF] [.only [0,1,4,5,8,12,13] [4,8,12,13,1000,1001,1002,1003]] (lK x0 x1 x2 x3 x4 y0 u0 y12 y14 s1.2) (aT (aC (aQ ai s1.2) (aB c15 aN)))
       ·subst e4;have H58:=a8 H46;refine aR H58 fun y18 h29 H59 => ?_;obtain rfl:=sI H59;exact pR 3 [r0 [.b,.v,.v,.v,.v,.v,.hM [(1000,1000),(1001,1001),(1002,1002),(1003,1003)] [(0,900)] (iI y18.1) [(0,.row 41 7 (y18.2.2.map az)),(1000,.cells 98 [.rslice 1001,.rslice 0,.rslice 1003,iI x1]),(1001,.row 100 5 (y18.2.1.map ai)),(1003,.row 41 7 (x4.map az))],.m,.v]] [.wkH 4 0 [],.ren [(900,0),(1003,1),(4,4),(1000,1000),(1001,1001)]] [0,1,1000,1001] (aC Tryz.call77 (aC (mN _ _ _ _ _ _ _ _ h29) aN))
      ·refine aR H43 fun y19 h30 H60 => ?_;refine aL H60 fun g15 H61 => ?_;refine aR H61 fun y20 h31 H62 => ?_;refine aR H62 fun y21 h32 H63 => ?_;refine pD 12 [.eqT 137 bF,r0 (V 4 [.c true (.str y19),.v,.v]),.rg 7 [.v,.c true (.agg [iI y20.Const,dS aq y20.Terms]),.v,.v,.c true (.agg [iI y21.Const,dS aq y21.Terms]),.m,.m] [.m,.m],r0 (V 4 [.w,.v,.v,.m]),V5] [.only [0,1,4,5,8,12,16,17,18,220] [4,8,12,17,18,1000,1001,1002,1003]] 11 [false] (aB c13 (aC Tryz.call51 (aF (mv _ _ _ h30) (aC (show [95].length+y19.length≤9223372036854775807 from g15) (aC Tryz.call22 (aF (lI _ _ h31) (aC Tryz.call22 (aF (lI _ _ h32) aN)))))))) ?_;refine aV H63 (fun c18 H64 => ?_) (fun c19 H65 => ?_)
       ·obtain rfl:=sI H64;exact pR 5 [.eqT 220 bT,r0 [.b,.m,.v]] [.wkH 4 0 [],.ren [(1002,0),(1003,1),(4,4),(1000,1000),(1001,1001)]] [0,1,1000,1001] (aB c18 aN)
       ·have c19p:=MI c19;refine pA 7 [.eqT 220 bF,V1] [.only [0,1,4,5,8,12,16,17,18,19] [4,8,12,17,18,1000,1001,1002,1003]] 6 [false] (iz x0 x1 x2 x3 x4 y0 u0 v1 y12 y19 0 (y20.Const,y20.Terms,y21.Const,y21.Terms)) (aB c19 aN) ?_;refine aR H65 fun R2 h33 H66 => ?_;refine pJ 1 (kA x0 x1 x2 x3 x4 y0 u0 v1 y12 y19) R2 ?_ (fun u2 e6 => ?_)
        ·refine pC (iz x0 x1 x2 x3 x4 y0 u0 v1 y12 y19) h33 (fun i0 s2 h34 e7 => ?_) (fun i0 s2 h35 q2 h36 h37 => ?_)
         ·have c20:=lF i0 u0.length (by omega);subst e7;exact pB 5 [r0 [.v,.v,.v,.e (nI u0.length),.e bF]] [.only [0,1,4,5,8,12,16,17,18] [4,8,12,17,18,1000,1001,1002,1003]] (kA x0 x1 x2 x3 x4 y0 u0 v1 y12 y19 (s2.1,s2.2.1,s2.2.2.1,s2.2.2.2)) (aT (aC (aQ aq u0) (aB c20 aN)))
         ·have c21:=lT i0 u0.length (by omega);refine pD 9 [r0 [.v,.v,.v,.e (nI u0.length),.e bT],.rg 8 [.v,.v,.v,.e (.dptr (aq (u0.getD i0 ay))),.v,.v,.v,.v] [.v]] [.only [0,1,4,5,8,12,16,17,18,19,237] [4,8,12,17,18,1000,1001,1002,1003]] 9 [true] (aT (aC (aQ aq u0) (aB c21 (aI aZ u0 i0 ay aN)))) ?_;refine aR h36 fun v4 h38 H67 => ?_;refine bV 1 (gJ x0 x1 x2 x3 x4 y0 u0 v1 y12 y19 i0 v4) (by kernel_rfl) ?_ ?_
          ·refine aV h38 (fun c22 H68 => ?_) (fun c23 H69 => ?_)
           ·obtain rfl:=sI H68;exact pB 3 [.eqT 237 bF] [.only [0,1,4,5,8,12,16,17,18,19] [4,8,12,17,18,1000,1001,1002,1003]] (gJ x0 x1 x2 x3 x4 y0 u0 v1 y12 y19 i0 (s2.1,s2.2.1,s2.2.2.1,s2.2.2.2)) (aM c22 aN)
           ·refine aR H69 fun y22 h39 H70 => ?_;refine aR H70 fun y23 h40 H71 => ?_;refine aR H71 fun y24 h41 H72 => ?_;obtain rfl:=sI H72;exact pB 5 [.eqT 237 bT,.rg 13 [.v,.v,.v,.e (.dptr (aq (u0.getD i0 ay))),.v,.v,.v,.v,.c true (.tup [iI y22.1,iI y22.2]),.v,.v,.v,.v] [.v],.rg 18 (V 4 [.e (.dptr (aq (u0.getD i0 ay))),.v,.v,.v,.w,.c true (.agg [iI y23.Const,dS aq y23.Terms]),.v,.v,.v,.v,.e (.dptr (aq (u0.getD i0 ay))),.v,.v,.v]) [.c true (.agg [iI y24.Const,dS aq y24.Terms]),.m,.m]] [.only [0,1,4,5,8,12,16,17,18,19] [4,8,12,17,18,1000,1001,1002,1003]] (gJ x0 x1 x2 x3 x4 y0 u0 v1 y12 y19 i0 (y23.Const,y23.Terms,y24.Const,y24.Terms)) (aM c23 (aI aZ u0 i0 ay (aC Tryz.call78 (aF (fq _ _ _ h39) (aI aZ u0 i0 ay (aC Tryz.call17 (aF (dy _ _ _ _ h40) (aI aZ u0 i0 ay (aC Tryz.call17 (aF (dy _ _ _ _ h41) aN))))))))))
          ·refine gX 8 1 (ps:=[(u0.map aq).length≤9223372036854775807]) (by kernel_rfl) (fun l0 => ?_);have l1:u0.length≤9223372036854775807:=by simpa only [cu,MM] using l0
           clear l0;obtain rfl:=sI H67;exact pB 1 [V3] [.only [0,1,4,5,8,12,16,17,18,19] [4,8,12,17,18,1000,1001,1002,1003]] (iz x0 x1 x2 x3 x4 y0 u0 v1 y12 y19 (i0+1) (v4.1,v4.2.1,v4.2.2.1,v4.2.2.2)) (aH i0 aN)
        ·subst e6;have H73:=a8 H66;refine aR H73 fun y25 h42 H74 => ?_;refine aL H74 fun g16 H75 => ?_;refine aR H75 fun y26 h43 H76 => ?_;obtain rfl:=sI H76;exact pR 11 [r0 (V 4 [.c true (.tup [iI y25.1,iI y25.2]),.v,.v,.v,.v,.v]),r0 [.v,.v,.v,.w,.v,.m],r0 [.v,.v,.v,.w,.v,.m],.rg 10 (V 4 [.lt,.v,.v,.b,.bw [[(0,5)]],.apx ((x4++[(Bind.mk 1 ([95]++y19) (Linear.mk (aK (u2.2.2.1+y25.1)) u2.2.2.2) (Shape.mk [] []) [])]).map az)]) [.v,.v,.m],r0 [.b,.v,.v,.v,.v,.v,.hM [(1000,1000),(1001,1001),(1002,1002),(296,1003)] [(0,900)] (iI y26.1) [(0,.row 41 7 (y26.2.2.map az)),(1000,.cells 98 [.rslice 1001,.rslice 0,.rslice 1003,iI (aK (x1+1))]),(1001,.row 100 5 (y26.2.1.map ai)),(1003,.row 41 7 ((x4++[(Bind.mk 1 ([95]++y19) (Linear.mk (aK (u2.2.2.1+y25.1)) u2.2.2.2) (Shape.mk [] []) [])]).map az))],.m,.v]] [.wkH 4 0 [],.ren [(900,0),(296,1),(4,4),(1000,1000),(1001,1001)]] [0,1,1000,1001] (aC Tryz.call78 (aF (fq _ _ _ h42) (bp (Ig (c:=az) ru x4 [(Bind.mk 1 ([95]++y19) (Linear.mk (aK (u2.2.2.1+y25.1)) u2.2.2.2) (Shape.mk [] []) [])] 112 (by decide) (by first | (simp;done) | simpa using g16) List.map_append.symm) (aC Tryz.call77 (aC (mN _ _ _ _ _ _ _ _ h43) aN)))))
def mq (x0:al) (x1:List Int) (x2:Int):Option al :=
 bif (((x0.Mults.length:Nat):Int)==0) then (
  some x0
 ) else (
  bf (0≤x2) <|
  bf (8*(x2.toNat)≤140737488355328) <|
  (dn (σ:=(List Int)) (ε:=(List Int)) (ρ:=Empty) (fun i0 s0 =>
   bf (i0<x0.Mults.length) <|
   bf (0≤(x1.getD i0 0)∧(x1.getD i0 0)<(s0.length:Int)) <|
   bf ((x1.getD i0 0).toNat<s0.length) <|
   some (.go (s0.set ((x1.getD i0 0).toNat) (x0.Mults.getD i0 0)))
  ) (fun i0 s0=>s0) (x1.length-0) 0 (List.replicate (x2.toNat) (0:Int))).bind <| ca fun u0 =>
  some (al.mk u0 x0.Mod)
 )
def lL (x0:al) (x1:List Int) (i0:Nat) (s0:List Int):AS:=⟨38,[(1,dS ao x1),(3,.hptr 3 0),(6,.hptr 6 0),(7,.hptr 7 0),(8,nI i0)],[(3,.cells 53 [dS ao x0.Mults,iI x0.Mod]),(6,.cells 53 [.eslice,iI 0]),(7,.cells 53 [.rslice 15,iI x0.Mod]),(15,.row 3 1 (s0.map ao))]⟩
def qK (x0:al) (u1:List Int):AS:=⟨38,[(6,.hptr 6 0),(7,.hptr 7 0)],[(6,.cells 53 [.eslice,iI 0]),(7,.cells 53 [.rslice 15,iI x0.Mod]),(15,.row 3 1 (u1.map ao))]⟩
theorem xd (x0:al) (x1:List Int) (x2:Int) (r:al) (H:mq x0 x1 x2=some r):bG Tryz.prog 43 [.agg [dS ao x0.Mults,iI x0.Mod],dS ao x1,iI x2] (.agg [dS ao r.Mults,iI r.Mod]):=by
 unfold mq at H;refine aX Tryz.func43 38 [.cell 6 53] ?_;refine aV H (fun c0 H0 => ?_) (fun c1 H1 => ?_)
 ·refine bZ H0 fun e0 => ?_;subst e0;exact pR 10 [r0 [.m,.m],r0 [.v,.v,.e (nI x0.Mults.length),.v],.eqT 12 bT,r0 [.v,.m]] [] [] (aT (aC (aQ ao x0.Mults) (aB c0 aN)))
 ·refine aL H1 fun g0 H2 => ?_;refine aL H2 fun g1 H3 => ?_;refine pA 14 [r0 [.m,.m],r0 [.v,.v,.e (nI x0.Mults.length),.v],.eqT 12 bF,.rg 6 [.v,.mkx (x2.toNat) ((List.replicate (x2.toNat) (0:Int)).map ao),.v,.v,.b,.m] [.m],V1] [.only [1,3,6,7,8] [3,6,7,15]] 13 [false] (lL x0 x1 0 (List.replicate (x2.toNat) (0:Int))) (aT (aC (aQ ao x0.Mults) (aB c1 (aC (show (x2=(((x2.toNat):Nat):Int)∧x2=(((x2.toNat):Nat):Int)∧8*(x2.toNat)≤140737488355328∧(x2.toNat)≤9223372036854775807)∧List.replicate (x2.toNat) (zQ Tryz.prog 3)=(List.replicate (x2.toNat) (0:Int)).map ao from ⟨⟨by omega,by omega,by omega,by omega⟩,IA ao (0:Int) (x2.toNat) (by kernel_rfl)⟩) aN)))) ?_;refine aR H3 fun R0 h0 H4 => ?_;refine pJ 1 (qK x0) R0 ?_ (fun u0 e1 => ?_)
  ·refine pC (lL x0 x1) h0 (fun i0 s0 h1 e2 => ?_) (fun i0 s0 h2 q0 h3 h4 => ?_)
   ·have c2:=lF i0 x1.length (by omega);subst e2;exact pB 5 [r0 [.v,.v,.e (nI x1.length),.e bF]] [.only [6,7] [6,7,15]] (qK x0 s0) (aT (aC (aQ ao x1) (aB c2 aN)))
   ·have c3:=lT i0 x1.length (by omega);refine aL h3 fun g2 H5 => ?_;refine aL H5 fun g3 H6 => ?_;refine aL H6 fun g4 H7 => ?_;refine bO 1 (ps:=[(x1.map ao).length≤9223372036854775807]) (by kernel_rfl) (fun l0 => ?_);have l1:x1.length≤9223372036854775807:=by simpa only [cu,MM] using l0
    clear l0;obtain rfl:=sI H7;exact pB 9 [r0 [.v,.v,.e (nI x1.length),.e bT],.rg 11 (V 4 [.e (.dptr [iI (x1.getD i0 0)]),.v,.v,.v,.v,.e (.dptr [iI (x0.Mults.getD i0 0)]),.v]) [.v,.rs ((x1.getD i0 0).toNat) 0,.rwH 15 (.row 3 1 ((s0.set ((x1.getD i0 0).toNat) (x0.Mults.getD i0 0)).map ao))],V3] [.only [1,3,6,7,8] [3,6,7,15]] (lL x0 x1 (i0+1) (s0.set ((x1.getD i0 0).toNat) (x0.Mults.getD i0 0))) (aT (aC (aQ ao x1) (aB c3 (aI bK x1 i0 0 (aI bK x0.Mults i0 0 (aC (show (0:Int)≤(x1.getD i0 0)∧(x1.getD i0 0)<((s0.map ao).length:Int) from by rw [MM];exact g3) (aC (dI (f:=ao) (l:=s0) (n:=(x1.getD i0 0).toNat) 1 0 1 (by omega) (by decide)) (aC (qS (f:=ao) 3 1 s0 ((x1.getD i0 0).toNat) 0 (x0.Mults.getD i0 0) 0 [iI (x0.Mults.getD i0 0)] (by omega) rfl) (aH i0 aN)))))))))
  ·subst e1;have H8:=a8 H4;obtain rfl:=sI H8;exact pR 3 [r0 [.v,.m]] [.fz 15] [] aN
end Go.Proofs.YtlhcekghjfjajaaGreatDoor
