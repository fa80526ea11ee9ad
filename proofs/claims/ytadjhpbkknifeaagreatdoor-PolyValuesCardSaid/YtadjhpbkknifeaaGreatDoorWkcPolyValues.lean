/- What functions of the program compute, walked: each as a plain function, with the theorem that the code computes it wherever that answers. Printed by a program, part 3. -/
import Derived.Test.YtadjhpbkknifeaaGreatDoorWkbPolyValues
set_option linter.unusedSimpArgs false
set_option linter.unusedVariables false
namespace Go.Proofs.YtadjhpbkknifeaaGreatDoor
open Go.RowKit Go.Ab Go.Sh
def gL (x0 x1:List Int):Option (Int×Int) :=
 bif (((x0.length:Nat):Int)==((x1.length:Nat):Int)) then (
  bif decide (((x0.length:Nat):Int)>10000) then (
   some (0,3)
  ) else (
   (cV (σ:=Unit) (ε:=Unit) (ρ:=(Int×Int)) (fun i0 s0 =>
    (fI (x0.getD i0 0)).bind fun y0 =>
    bif y0 then (
     bR (i0<x1.length) <|
     (fI (x1.getD i0 0)).bind fun y1 =>
     bif y1 then (
      some (.go ())
     ) else (
      some (.ret (0,2))
     )
    ) else (
     some (.ret (0,2))
    )
   ) (fun i0 s0=>()) (x0.length-0) 0 ()).bind <| aft fun u0 =>
   (cV (σ:=(Int×Int×Int×Int×Int)) (ε:=(Int×Int×Int×Int×Int)) (ρ:=Empty) (fun i1 s1 =>
    (cH (x0.getD i1 0)).bind fun y2 =>
    bR (i1<x1.length) <|
    (cH (x1.getD i1 0)).bind fun y3 =>
    some (.go ((aW (s1.1+(aW (y2.1*y3.1)))),(aW ((aW (s1.2.1+(aW (y2.1*y3.2.1))))+(aW (y2.2.1*y3.1)))),(aW ((aW ((aW (s1.2.2.1+(aW (y2.1*y3.2.2))))+(aW (y2.2.1*y3.2.1))))+(aW (y2.2.2*y3.1)))),(aW ((aW (s1.2.2.2.1+(aW (y2.2.1*y3.2.2))))+(aW (y2.2.2*y3.2.1)))),(aW (s1.2.2.2.2+(aW (y2.2.2*y3.2.2))))))
   ) (fun i1 s1=>(s1.1,s1.2.1,s1.2.2.1,s1.2.2.2.1,s1.2.2.2.2)) (x0.length-0) 0 (0,0,0,0,0)).bind <| dJ fun u1 =>
   (dN u1.1 2097152).bind fun y4 =>
   (some (aW (u1.1-(aW (y4.1*2097152))))).bind fun y5 =>
   (dN (aW (u1.2.1+y4.1)) 2097152).bind fun y6 =>
   (some (aW ((aW (u1.2.1+y4.1))-(aW (y6.1*2097152))))).bind fun y7 =>
   (dN (aW (u1.2.2.1+y6.1)) 2097152).bind fun y8 =>
   (some (aW ((aW (u1.2.2.1+y6.1))-(aW (y8.1*2097152))))).bind fun y9 =>
   (dN (aW (u1.2.2.2.1+y8.1)) 2097152).bind fun y10 =>
   (some (aW ((aW (u1.2.2.2.1+y8.1))-(aW (y10.1*2097152))))).bind fun y11 =>
   (dN (aW (u1.2.2.2.2+y10.1)) 2097152).bind fun y12 =>
   (some (aW ((aW (u1.2.2.2.2+y10.1))-(aW (y12.1*2097152))))).bind fun y13 =>
   (dN (aW (0+y12.1)) 2097152).bind fun y14 =>
   (some (aW ((aW (0+y12.1))-(aW (y14.1*2097152))))).bind fun y15 =>
   (dN (aW (0+y14.1)) 2097152).bind fun y16 =>
   (some (aW ((aW (0+y14.1))-(aW (y16.1*2097152))))).bind fun y17 =>
   bif decide ((aW (0+(aW (0+y16.1))))>2199023255552) then (
    some (0,2)
   ) else (
    bif decide ((aW (0+(aW (0+y16.1))))<(-2199023255552)) then (
     some (0,2)
    ) else (
     (some (aW ((aW (0+(aW (0+y16.1))))*2097152))).bind fun y18 =>
     bif decide ((aW (y18+y17))>2199023255552) then (
      some (0,2)
     ) else (
      bif decide ((aW (y18+y17))<(-2199023255552)) then (
       some (0,2)
      ) else (
       (some (aW ((aW (y18+y17))*2097152))).bind fun y19 =>
       bif decide ((aW (y19+y15))>2199023255552) then (
        some (0,2)
       ) else (
        bif decide ((aW (y19+y15))<(-2199023255552)) then (
         some (0,2)
        ) else (
         (some (aW ((aW (y19+y15))*2097152))).bind fun y20 =>
         bif decide ((aW (y20+y13))>2199023255552) then (
          some (0,2)
         ) else (
          bif decide ((aW (y20+y13))<(-2199023255552)) then (
           some (0,2)
          ) else (
           (some (aW ((aW (y20+y13))*2097152))).bind fun y21 =>
           bif decide ((aW (y21+y11))>2199023255552) then (
            some (0,2)
           ) else (
            bif decide ((aW (y21+y11))<(-2199023255552)) then (
             some (0,2)
            ) else (
             (some (aW ((aW (y21+y11))*2097152))).bind fun y22 =>
             bif decide ((aW (y22+y9))>2199023255552) then (
              some (0,2)
             ) else (
              bif decide ((aW (y22+y9))<(-2199023255552)) then (
               some (0,2)
              ) else (
               (some (aW ((aW (y22+y9))*2097152))).bind fun y23 =>
               bif decide ((aW (y23+y7))>2199023255552) then (
                some (0,2)
               ) else (
                bif decide ((aW (y23+y7))<(-2199023255552)) then (
                 some (0,2)
                ) else (
                 (some (aW ((aW (y23+y7))*2097152))).bind fun y24 =>
                 (fI (aW (y24+y5))).bind fun y25 =>
                 bif y25 then (
                  some ((aW (y24+y5)),0)
                 ) else (
                  some (0,2)
                 )
                )
               )
              )
             )
            )
           )
          )
         )
        )
       )
      )
     )
    )
   )
  )
 ) else (
  some (0,1)
 )
def mQ (x0 x1:List Int) (i0:Nat) (s0:Unit):AS:=⟨130,[(0,dS ag x0),(1,dS ag x1),(4,iI 0),(5,iI 0),(6,nI i0)],[]⟩
def qL (x0 x1:List Int) (u2:Unit):AS:=⟨130,[(0,dS ag x0),(1,dS ag x1),(4,iI 0),(5,iI 0)],[]⟩
def nF (x0 x1:List Int) (i1:Nat) (s1:Int×Int×Int×Int×Int):AS:=⟨130,[(0,dS ag x0),(1,dS ag x1),(4,iI 0),(5,iI 0),(7,.hptr 7 0),(8,nI i1)],[(7,.cells 144 [iI s1.1,iI s1.2.1,iI s1.2.2.1,iI s1.2.2.2.1,iI s1.2.2.2.2,iI 0,iI 0,iI 0])]⟩
def rG (u3:Int×Int×Int×Int×Int):AS:=⟨130,[(4,iI 0),(5,iI 0),(7,.hptr 7 0)],[(7,.cells 144 [iI u3.1,iI u3.2.1,iI u3.2.2.1,iI u3.2.2.2.1,iI u3.2.2.2.2,iI 0,iI 0,iI 0])]⟩
theorem Bi (x0 x1:List Int) (r:Int×Int) (H:gL x0 x1=some r):bF Tryz.prog 68 [dS ag x0,dS ag x1] (.tup [iI r.1,iI r.2]):=by
 unfold gL at H;refine aX Tryz.func68 130 [.tmp 4,.tmp 5] ?_;refine a7 H (fun c0 H0 => ?_) (fun c1 H1 => ?_)
 ·refine pA 11 [.rg 0 [] [.v,.v],.rg 0 [] [.v,.e (.int .i64 ((x0.length:Nat):Int)),.v,.e (.int .i64 ((x1.length:Nat):Int)),.v],.eqT 22 (.bool false),.rg 0 [] [.v,.e (.int .i64 ((x0.length:Nat):Int)),.v]] [.only [0,1,4,5,25] []] 10 [false] ⟨130,[(0,.dslice (x0.map ag)),(1,.dslice (x1.map ag)),(4,.int .i64 0),(5,.int .i64 0),(25,.bool (decide (((x0.length:Nat):Int)>10000)))],[]⟩ (aT (aC (aV ag x0) (aT (aC (aV ag x1) (aM c0 (aT (aC (aV ag x0) aN))))))) ?_;refine a7 H0 (fun c2 H2 => ?_) (fun c3 H3 => ?_)
  ·obtain rfl:=sI H2;exact pR 5 [.eqT 25 (.bool true),V2] [] [] (aB c2 aN)
  ·have c3p:=KL c3;refine pA 7 [.eqT 25 (.bool false),V1] [.only [0,1,4,5,6] []] 6 [false] (mQ x0 x1 0 ()) (aB c3 aN) ?_;refine aS H3 fun R0 h0 H4 => ?_;refine pJ 1 (qL x0 x1) R0 ?_ (fun u0 e0 => ?_)
   ·refine pC (mQ x0 x1) h0 (fun i0 s0 h1 e1 => ?_) (fun i0 s0 h2 q0 h3 h4 => ?_)
    ·have c4:=lF i0 x0.length (by omega);subst e1;exact pB 5 [r0 [.v,.v,.e (nI x0.length),.e (.bool false)]] [.only [0,1,4,5] []] (qL x0 x1 ()) (aT (aC (aV ag x0) (aB c4 aN)))
    ·have c5:=lT i0 x0.length (by omega);refine aS h3 fun y0 h5 H5 => ?_;refine a7 H5 (fun c6 H6 => ?_) (fun c7 H7 => ?_)
     ·refine aR H6 fun g0 H8 => ?_;refine aS H8 fun y1 h6 H9 => ?_;refine pA 9 [r0 [.v,.v,.e (nI x0.length),.e (.bool true)],r0 [.v,.v,.e (.dptr [iI (x0.getD i0 0)]),.v,.c true (.bool true),.v,.v,.v,.v,.e (.dptr [iI (x1.getD i0 0)]),.v,.c true (.bool y1),.v,.v]] [.only [0,1,4,5,6,45] []] 9 [true] ⟨130,[(0,dS ag x0),(1,dS ag x1),(4,iI 0),(5,iI 0),(6,nI i0),(45,.bool (!y1))],[]⟩ (aT (aC (aV ag x0) (aB c5 (aI bE x0 i0 0 (aC Tryz.call49 (aC (bF.eq (bS _ _ h5) (cB c6)) (aT (aI bE x1 i0 0 (aC Tryz.call49 (aF (bS _ _ h6) (aT aN))))))))))) ?_;refine a7 H9 (fun c8 H10 => ?_) (fun c9 H11 => ?_)
      ·refine bB 0 (ps:=[(x0.map ag).length≤9223372036854775807]) (by kernel_rfl) (fun l0 => ?_);have l1:x0.length≤9223372036854775807:=by simpa only [br,KP] using l0
       clear l0;obtain rfl:=sI H10;exact pB 4 [.eqT 45 (.bool false),V3] [.only [0,1,4,5,6] []] (mQ x0 x1 (i0+1) ()) (aM c8 (aH i0 aN))
      ·obtain rfl:=sI H11;obtain rfl:=aG h4;obtain rfl:=sI (ao H4);exact pR 5 [.eqT 45 (.bool true),V2] [] [] (aM c9 aN)
     ·obtain rfl:=sI H7;obtain rfl:=aG h4;obtain rfl:=sI (ao H4);exact pR 13 [r0 [.v,.v,.e (nI x0.length),.e (.bool true)],r0 [.v,.v,.e (.dptr [iI (x0.getD i0 0)]),.v,.c true (.bool false),.v,.v,.s,.s,.s,.s,.s,.s,.v],V2] [] [] (aT (aC (aV ag x0) (aB c5 (aI bE x0 i0 0 (aC Tryz.call49 (aC (bF.eq (bS _ _ h5) (cB c7)) (aT aN)))))))
   ·subst e0;have H12:=a8 H4;refine pA 6 [r0 [.m],V1] [.only [0,1,4,5,7,8] [7]] 6 [] (nF x0 x1 0 (0,0,0,0,0)) aN ?_;refine aS H12 fun R1 h7 H13 => ?_;refine pJ 1 (rG) R1 ?_ (fun u1 e2 => ?_)
    ·refine pC (nF x0 x1) h7 (fun i1 s1 h8 e3 => ?_) (fun i1 s1 h9 q1 h10 h11 => ?_)
     ·have c10:=lF i1 x0.length (by omega);subst e3;exact pB 5 [r0 [.v,.v,.e (nI x0.length),.e (.bool false)]] [.only [4,5,7] [7]] (rG (s1.1,s1.2.1,s1.2.2.1,s1.2.2.2.1,s1.2.2.2.2)) (aT (aC (aV ag x0) (aB c10 aN)))
     ·have c11:=lT i1 x0.length (by omega);refine aS h10 fun y2 h12 H14 => ?_;refine aR H14 fun g1 H15 => ?_;refine aS H15 fun y3 h13 H16 => ?_;refine bB 0 (ps:=[(x0.map ag).length≤9223372036854775807]) (by kernel_rfl) (fun l2 => ?_);have l3:x0.length≤9223372036854775807:=by simpa only [br,KP] using l2
      clear l2;obtain rfl:=sI H16;exact pB 163 [r0 [.v,.v,.e (nI x0.length),.e (.bool true)],.rg 12 [.v,.v,.e (.dptr [iI (x0.getD i1 0)]),.v,.c true (.agg [iI y2.1,iI y2.2.1,iI y2.2.2]),.v,.v,.e (.dptr [iI (x1.getD i1 0)]),.v,.c true (.agg [iI y3.1,iI y3.2.1,iI y3.2.2]),.m,.m] [.m,.m],V1,.un,V2,V1,.un,V2,.rg 12 (V 11 [.w]) [.w,.v,.m],V3,.cv [.only [0,1,4,5,7,8,9,10,11,12] [7,9,10]],V2,.rg 12 (V 11 [.w]) [.w,.v,.m],V3,.cv [.only [0,1,4,5,7,8,9,10,11,12] [7,9,10]],V2,.rg 12 (V 11 [.w]) [.w,.v,.m],V3,.cv [.only [0,1,4,5,7,8,9,10,11,12] [7,9,10]],V2,V3,.cv [.only [0,1,4,5,7,8,9,10,11] [7,9,10]],V2,V1,.un,V2,.rg 12 (V 11 [.w]) [.w,.v,.m],V3,.cv [.only [0,1,4,5,7,8,9,10,11,12] [7,9,10]],V2,.rg 12 (V 11 [.w]) [.w,.v,.m],V3,.cv [.only [0,1,4,5,7,8,9,10,11,12] [7,9,10]],V2,.rg 12 (V 11 [.w]) [.w,.v,.m],V3,.cv [.only [0,1,4,5,7,8,9,10,11,12] [7,9,10]],V2,V3,.cv [.only [0,1,4,5,7,8,9,10,11] [7,9,10]],V2,V1,.un,V2,.rg 12 (V 11 [.w]) [.w,.v,.m],V3,.cv [.only [0,1,4,5,7,8,9,10,11,12] [7,9,10]],V2,.rg 12 (V 11 [.w]) [.w,.v,.m],V3,.cv [.only [0,1,4,5,7,8,9,10,11,12] [7,9,10]],V2,.rg 12 (V 11 [.w]) [.w,.v,.m],V3,.cv [.only [0,1,4,5,7,8,9,10,11,12] [7,9,10]],V2,V3,.cv [.only [0,1,4,5,7,8,9,10,11] [7,9,10]],V2,V3] [.only [0,1,4,5,7,8] [7]] (nF x0 x1 (i1+1) ((aW (s1.1+(aW (y2.1*y3.1)))),(aW ((aW (s1.2.1+(aW (y2.1*y3.2.1))))+(aW (y2.2.1*y3.1)))),(aW ((aW ((aW (s1.2.2.1+(aW (y2.1*y3.2.2))))+(aW (y2.2.1*y3.2.1))))+(aW (y2.2.2*y3.1)))),(aW ((aW (s1.2.2.2.1+(aW (y2.2.1*y3.2.2))))+(aW (y2.2.2*y3.2.1)))),(aW (s1.2.2.2.2+(aW (y2.2.2*y3.2.2)))))) (aT (aC (aV ag x0) (aB c11 (aI bE x0 i1 0 (aC Tryz.call100 (aF (oT _ _ h12) (aI bE x1 i1 0 (aC Tryz.call100 (aF (oT _ _ h13) (aO (0+0) (aT (aT (aT (aT (aO (0+1) (aO (0+1) (aT (aT (aT (aT (aO (1+1) (aO (0+2) (aT (aT (aT (aT (aO (2+1) (aO (0+1) (aO (1+0) (aT (aT (aT (aT (aO (0+1) (aO (1+1) (aT (aT (aT (aT (aO (1+1) (aO (1+2) (aT (aT (aT (aT (aO (2+1) (aO (1+1) (aO (2+0) (aT (aT (aT (aT (aO (0+1) (aO (2+1) (aT (aT (aT (aT (aO (1+1) (aO (2+2) (aT (aT (aT (aT (aO (2+1) (aO (2+1) (aH i1 aN)))))))))))))))))))))))))))))))))))))))))))))))))))))))))))))))))))
    ·subst e2;have H17:=bI H13;refine aS H17 fun y4 h14 H18 => ?_;refine aS H18 fun y5 h15 H19 => ?_;refine aS H19 fun y6 h16 H20 => ?_;refine aS H20 fun y7 h17 H21 => ?_;refine aS H21 fun y8 h18 H22 => ?_;refine aS H22 fun y9 h19 H23 => ?_;refine aS H23 fun y10 h20 H24 => ?_;refine aS H24 fun y11 h21 H25 => ?_;refine aS H25 fun y12 h22 H26 => ?_;refine aS H26 fun y13 h23 H27 => ?_;refine aS H27 fun y14 h24 H28 => ?_;refine aS H28 fun y15 h25 H29 => ?_;refine aS H29 fun y16 h26 H30 => ?_;refine aS H30 fun y17 h27 H31 => ?_;refine pA 139 [V1,.un,V3,r0 [.v,.v,.v,.c true (.tup [iI y4.1,iI y4.2]),.v,.v,.v,.v,.v],r0 (V 4 [.w,.we (iI y5),.v,.m]),r0 (V 5 [.w,.v,.m]),V3,.cv [.only [4,5,7,13] [7]],V3,r0 [.v,.v,.v,.c true (.tup [iI y6.1,iI y6.2]),.v,.v,.v,.v,.v],r0 (V 4 [.w,.we (iI y7),.v,.m]),r0 (V 5 [.w,.v,.m]),V3,.cv [.only [4,5,7,13] [7]],V3,r0 [.v,.v,.v,.c true (.tup [iI y8.1,iI y8.2]),.v,.v,.v,.v,.v],r0 (V 4 [.w,.we (iI y9),.v,.m]),r0 (V 5 [.w,.v,.m]),V3,.cv [.only [4,5,7,13] [7]],V3,r0 [.v,.v,.v,.c true (.tup [iI y10.1,iI y10.2]),.v,.v,.v,.v,.v],r0 (V 4 [.w,.we (iI y11),.v,.m]),r0 (V 5 [.w,.v,.m]),V3,.cv [.only [4,5,7,13] [7]],V3,r0 [.v,.v,.v,.c true (.tup [iI y12.1,iI y12.2]),.v,.v,.v,.v,.v],r0 (V 4 [.w,.we (iI y13),.v,.m]),r0 (V 5 [.w,.v,.m]),V3,.cv [.only [4,5,7,13] [7]],V3,r0 [.v,.v,.v,.c true (.tup [iI y14.1,iI y14.2]),.v,.v,.v,.v,.v],r0 (V 4 [.w,.we (iI y15),.v,.m]),r0 (V 5 [.w,.v,.m]),V3,.cv [.only [4,5,7,13] [7]],V3,r0 [.v,.v,.v,.c true (.tup [iI y16.1,iI y16.2]),.v,.v,.v,.v,.v],r0 (V 4 [.w,.we (iI y17),.v,.m]),r0 (V 5 [.w,.v,.m]),V3,.cv [.only [4,5,7,13] [7]],V3,V1,V1,.un,V2,V6,r0 (V 5 [.w,.v]),V3,.cv [.only [4,5,7,16,17] [7]],V2] [.only [4,5,7,16,17] [7]] 131 [true,true,true,true,true,true,true,false,true,false,true] ⟨130,[(4,iI 0),(5,iI 0),(7,.hptr 7 0),(16,iI (aW (0+(aW (0+y16.1))))),(17,iI 6)],[(7,.cells 144 [iI y5,iI y7,iI y9,iI y11,iI y13,iI y15,iI y17,iI (aW (0+y16.1))])]⟩ (aO (0+1) (aT (aC Tryz.call101 (aF (fv _ _ _ h14) (aT (aC (congrArg (AV.int .i64) (KT h15)) (aT (aO (0+1) (aT (aT (aO (0+1) (aO (1+1) (aT (aC Tryz.call101 (aF (fv _ _ _ h16) (aT (aC (congrArg (AV.int .i64) (KT h17)) (aT (aO (1+1) (aT (aT (aO (1+1) (aO (2+1) (aT (aC Tryz.call101 (aF (fv _ _ _ h18) (aT (aC (congrArg (AV.int .i64) (KT h19)) (aT (aO (2+1) (aT (aT (aO (2+1) (aO (3+1) (aT (aC Tryz.call101 (aF (fv _ _ _ h20) (aT (aC (congrArg (AV.int .i64) (KT h21)) (aT (aO (3+1) (aT (aT (aO (3+1) (aO (4+1) (aT (aC Tryz.call101 (aF (fv _ _ _ h22) (aT (aC (congrArg (AV.int .i64) (KT h23)) (aT (aO (4+1) (aT (aT (aO (4+1) (aO (5+1) (aT (aC Tryz.call101 (aF (fv _ _ _ h24) (aT (aC (congrArg (AV.int .i64) (KT h25)) (aT (aO (5+1) (aT (aT (aO (5+1) (aO (6+1) (aT (aC Tryz.call101 (aF (fv _ _ _ h26) (aT (aC (congrArg (AV.int .i64) (KT h27)) (aT (aO (6+1) (aT (aT (aO (6+1) (aO (7+1) (aO (0*2097152) (aT (aO (7-1) aN))))))))))))))))))))))))))))))))))))))))))))))))))))))))))))))))))))))))))))))))) ?_;refine a7 H31 (fun c12 H32 => ?_) (fun c13 H33 => ?_)
     ·obtain rfl:=sI H32;exact pR 5 [r0 [.v,.e (.bool true),.v,.s,.s,.v],V2] [] [] (aB c12 aN)
     ·have c13p:=KL c13;refine a7 H33 (fun c14 H34 => ?_) (fun c15 H35 => ?_)
      ·obtain rfl:=sI H34;exact pR 6 [r0 [.v,.e (.bool false),.v,.v,.v,.v],.eqT 119 (.bool true),V2] [] [] (aB c13 (aB c14 aN))
      ·have c15p:=KL c15;refine aS H35 fun y18 h28 H36 => ?_;refine pA 16 [r0 [.v,.e (.bool false),.v,.v,.v,.v],.eqT 119 (.bool false),r0 [.v,.we (iI y18),.v,.v,.v,.w,.v],V3,.cv [.only [4,5,7,16,17] [7]],V2] [.only [4,5,7,16,17] [7]] 14 [false,true] ⟨130,[(4,iI 0),(5,iI 0),(7,.hptr 7 0),(16,iI (aW (y18+y17))),(17,iI 5)],[(7,.cells 144 [iI y5,iI y7,iI y9,iI y11,iI y13,iI y15,iI y17,iI (aW (0+y16.1))])]⟩ (aB c13 (aB c15 (aC (congrArg (AV.int .i64) (KT h28)) (aT (aO (6-1) aN))))) ?_;refine a7 H36 (fun c16 H37 => ?_) (fun c17 H38 => ?_)
       ·obtain rfl:=sI H37;exact pR 5 [r0 [.v,.e (.bool true),.v,.s,.s,.v],V2] [] [] (aB c16 aN)
       ·have c17p:=KL c17;refine a7 H38 (fun c18 H39 => ?_) (fun c19 H40 => ?_)
        ·obtain rfl:=sI H39;exact pR 6 [r0 [.v,.e (.bool false),.v,.v,.v,.v],.eqT 119 (.bool true),V2] [] [] (aB c17 (aB c18 aN))
        ·have c19p:=KL c19;refine aS H40 fun y19 h29 H41 => ?_;refine pA 16 [r0 [.v,.e (.bool false),.v,.v,.v,.v],.eqT 119 (.bool false),r0 [.v,.we (iI y19),.v,.v,.v,.w,.v],V3,.cv [.only [4,5,7,16,17] [7]],V2] [.only [4,5,7,16,17] [7]] 14 [false,true] ⟨130,[(4,iI 0),(5,iI 0),(7,.hptr 7 0),(16,iI (aW (y19+y15))),(17,iI 4)],[(7,.cells 144 [iI y5,iI y7,iI y9,iI y11,iI y13,iI y15,iI y17,iI (aW (0+y16.1))])]⟩ (aB c17 (aB c19 (aC (congrArg (AV.int .i64) (KT h29)) (aT (aO (5-1) aN))))) ?_;refine a7 H41 (fun c20 H42 => ?_) (fun c21 H43 => ?_)
         ·obtain rfl:=sI H42;exact pR 5 [r0 [.v,.e (.bool true),.v,.s,.s,.v],V2] [] [] (aB c20 aN)
         ·have c21p:=KL c21;refine a7 H43 (fun c22 H44 => ?_) (fun c23 H45 => ?_)
          ·obtain rfl:=sI H44;exact pR 6 [r0 [.v,.e (.bool false),.v,.v,.v,.v],.eqT 119 (.bool true),V2] [] [] (aB c21 (aB c22 aN))
          ·have c23p:=KL c23;refine aS H45 fun y20 h30 H46 => ?_;refine pA 16 [r0 [.v,.e (.bool false),.v,.v,.v,.v],.eqT 119 (.bool false),r0 [.v,.we (iI y20),.v,.v,.v,.w,.v],V3,.cv [.only [4,5,7,16,17] [7]],V2] [.only [4,5,7,16,17] [7]] 14 [false,true] ⟨130,[(4,iI 0),(5,iI 0),(7,.hptr 7 0),(16,iI (aW (y20+y13))),(17,iI 3)],[(7,.cells 144 [iI y5,iI y7,iI y9,iI y11,iI y13,iI y15,iI y17,iI (aW (0+y16.1))])]⟩ (aB c21 (aB c23 (aC (congrArg (AV.int .i64) (KT h30)) (aT (aO (4-1) aN))))) ?_;refine a7 H46 (fun c24 H47 => ?_) (fun c25 H48 => ?_)
           ·obtain rfl:=sI H47;exact pR 5 [r0 [.v,.e (.bool true),.v,.s,.s,.v],V2] [] [] (aB c24 aN)
           ·have c25p:=KL c25;refine a7 H48 (fun c26 H49 => ?_) (fun c27 H50 => ?_)
            ·obtain rfl:=sI H49;exact pR 6 [r0 [.v,.e (.bool false),.v,.v,.v,.v],.eqT 119 (.bool true),V2] [] [] (aB c25 (aB c26 aN))
            ·have c27p:=KL c27;refine aS H50 fun y21 h31 H51 => ?_;refine pA 16 [r0 [.v,.e (.bool false),.v,.v,.v,.v],.eqT 119 (.bool false),r0 [.v,.we (iI y21),.v,.v,.v,.w,.v],V3,.cv [.only [4,5,7,16,17] [7]],V2] [.only [4,5,7,16,17] [7]] 14 [false,true] ⟨130,[(4,iI 0),(5,iI 0),(7,.hptr 7 0),(16,iI (aW (y21+y11))),(17,iI 2)],[(7,.cells 144 [iI y5,iI y7,iI y9,iI y11,iI y13,iI y15,iI y17,iI (aW (0+y16.1))])]⟩ (aB c25 (aB c27 (aC (congrArg (AV.int .i64) (KT h31)) (aT (aO (3-1) aN))))) ?_;refine a7 H51 (fun c28 H52 => ?_) (fun c29 H53 => ?_)
             ·obtain rfl:=sI H52;exact pR 5 [r0 [.v,.e (.bool true),.v,.s,.s,.v],V2] [] [] (aB c28 aN)
             ·have c29p:=KL c29;refine a7 H53 (fun c30 H54 => ?_) (fun c31 H55 => ?_)
              ·obtain rfl:=sI H54;exact pR 6 [r0 [.v,.e (.bool false),.v,.v,.v,.v],.eqT 119 (.bool true),V2] [] [] (aB c29 (aB c30 aN))
              ·have c31p:=KL c31;refine aS H55 fun y22 h32 H56 => ?_;refine pA 16 [r0 [.v,.e (.bool false),.v,.v,.v,.v],.eqT 119 (.bool false),r0 [.v,.we (iI y22),.v,.v,.v,.w,.v],V3,.cv [.only [4,5,7,16,17] [7]],V2] [.only [4,5,7,16,17] [7]] 14 [false,true] ⟨130,[(4,iI 0),(5,iI 0),(7,.hptr 7 0),(16,iI (aW (y22+y9))),(17,iI 1)],[(7,.cells 144 [iI y5,iI y7,iI y9,iI y11,iI y13,iI y15,iI y17,iI (aW (0+y16.1))])]⟩ (aB c29 (aB c31 (aC (congrArg (AV.int .i64) (KT h32)) (aT (aO (2-1) aN))))) ?_;refine a7 H56 (fun c32 H57 => ?_) (fun c33 H58 => ?_)
               ·obtain rfl:=sI H57;exact pR 5 [r0 [.v,.e (.bool true),.v,.s,.s,.v],V2] [] [] (aB c32 aN)
               ·have c33p:=KL c33;refine a7 H58 (fun c34 H59 => ?_) (fun c35 H60 => ?_)
                ·obtain rfl:=sI H59;exact pR 6 [r0 [.v,.e (.bool false),.v,.v,.v,.v],.eqT 119 (.bool true),V2] [] [] (aB c33 (aB c34 aN))
                ·have c35p:=KL c35;refine aS H60 fun y23 h33 H61 => ?_;refine pA 16 [r0 [.v,.e (.bool false),.v,.v,.v,.v],.eqT 119 (.bool false),r0 [.v,.we (iI y23),.v,.v,.v,.w,.v],V3,.cv [.only [4,5,7,16,17] [7]],V2] [.only [4,5,7,16,17] [7]] 14 [false,true] ⟨130,[(4,iI 0),(5,iI 0),(7,.hptr 7 0),(16,iI (aW (y23+y7))),(17,iI 0)],[(7,.cells 144 [iI y5,iI y7,iI y9,iI y11,iI y13,iI y15,iI y17,iI (aW (0+y16.1))])]⟩ (aB c33 (aB c35 (aC (congrArg (AV.int .i64) (KT h33)) (aT (aO (1-1) aN))))) ?_;refine a7 H61 (fun c36 H62 => ?_) (fun c37 H63 => ?_)
                 ·obtain rfl:=sI H62;exact pR 5 [r0 [.v,.e (.bool true),.v,.s,.s,.v],V2] [] [] (aB c36 aN)
                 ·have c37p:=KL c37;refine a7 H63 (fun c38 H64 => ?_) (fun c39 H65 => ?_)
                  ·obtain rfl:=sI H64;exact pR 6 [r0 [.v,.e (.bool false),.v,.v,.v,.v],.eqT 119 (.bool true),V2] [] [] (aB c37 (aB c38 aN))
                  ·have c39p:=KL c39;refine aS H65 fun y24 h34 H66 => ?_;refine aS H66 fun y25 h35 H67 => ?_;refine pA 15 [r0 [.v,.e (.bool false),.v,.v,.v,.v],.eqT 119 (.bool false),r0 [.v,.we (iI y24),.v,.v,.v,.w,.v],V3,.cv [.only [4,5,7,16,17] [7]],V2,r0 [.v,.c true (.bool y25),.v]] [.only [4,5,16,128] []] 13 [false,false] ⟨130,[(4,iI 0),(5,iI 0),(16,iI (aW (y24+y5))),(128,.bool (!y25))],[]⟩ (aB c37 (aB c39 (aC (congrArg (AV.int .i64) (KT h34)) (aT (aO (0-1) (aC Tryz.call49 (aF (bS _ _ h35) (aT aN)))))))) ?_;refine a7 H67 (fun c40 H68 => ?_) (fun c41 H69 => ?_)
                   ·obtain rfl:=sI H68;exact pR 6 [.eqT 128 (.bool false),V3] [] [] (aM c40 aN)
                   ·obtain rfl:=sI H69;exact pR 5 [.eqT 128 (.bool true),V2] [] [] (aM c41 aN)
 ·obtain rfl:=sI H1;exact pR 10 [V2,r0 [.v,.e (nI x0.length),.v,.e (nI x1.length),.v],.eqT 22 (.bool true),V2] [] [] (aT (aC (aV ag x0) (aT (aC (aV ag x1) (aM c1 aN)))))
def iF (x0 x1:List aa):Option ((List aa)×Int) :=
 (cz x0).bind fun y0 =>
 bif y0 then (
  (cz x1).bind fun y1 =>
  bif y1 then (
   (cV (σ:=((List (List ai))×(List (List Int))×(List (List Int)))) (ε:=((List (List ai))×(List (List Int))×(List (List Int)))) (ρ:=Empty) (fun i0 s0 =>
    (cV (σ:=((List (List ai))×(List (List Int))×(List (List Int)))) (ε:=((List (List ai))×(List (List Int))×(List (List Int)))) (ρ:=Empty) (fun i1 s1 =>
     (iQ ((x0.getD i0 ⟨0,[]⟩).Vars) ((x1.getD i1 ⟨0,[]⟩).Vars)).bind fun y2 =>
     (cV (σ:=Unit) (ε:=Nat) (ρ:=Empty) (fun i2 s2 =>
      (cZ (s1.1.getD i2 []) y2).bind fun y3 =>
      bif (y3==0) then (
       some (.brk i2)
      ) else (
       some (.go ())
      )
     ) (fun i2 s2=>i2) (s1.1.length-0) 0 ()).bind <| dJ fun u0 =>
     ((
      bif (((u0:Nat):Int)==((s1.1.length:Nat):Int)) then (
       bR ((s1.1.length+1)*24≤140737488355328) <|
       bR ((s1.2.2.length+1)*24≤140737488355328∧s1.2.2.length<1000000) <|
       bR ((s1.2.1.length+1)*24≤140737488355328∧s1.2.1.length<1000000) <|
       some ((s1.1++[y2]),(s1.2.1++[[]]),(s1.2.2++[[]]))
      ) else (
       some (s1.1,s1.2.1,s1.2.2)
      )
     ):Option ((List (List ai))×(List (List Int))×(List (List Int)))).bind fun v0 =>
     bR (u0<v0.2.2.length) <|
     bR (((v0.2.2.getD u0 []).length+[((x0.getD i0 ⟨0,[]⟩).Coef)].length)*8≤140737488355328) <|
     bR (u0<v0.2.1.length) <|
     bR (((v0.2.1.getD u0 []).length+[((x1.getD i1 ⟨0,[]⟩).Coef)].length)*8≤140737488355328) <|
     some (.go (v0.1,(v0.2.1.set u0 ((v0.2.1.getD u0 [])++[((x1.getD i1 ⟨0,[]⟩).Coef)])),(v0.2.2.set u0 ((v0.2.2.getD u0 [])++[((x0.getD i0 ⟨0,[]⟩).Coef)]))))
    ) (fun i1 s1=>(s1.1,s1.2.1,s1.2.2)) (x1.length-0) 0 (s0.1,s0.2.1,s0.2.2)).bind <| dJ fun u1 =>
    some (.go (u1.1,u1.2.1,u1.2.2))
   ) (fun i0 s0=>(s0.1,s0.2.1,s0.2.2)) (x0.length-0) 0 ([],[],[])).bind <| dJ fun u2 =>
   (cV (σ:=(List aa)) (ε:=(List aa)) (ρ:=((List aa)×Int)) (fun i3 s3 =>
    bR (i3<u2.2.2.length) <|
    bR (i3<u2.2.1.length) <|
    (gL (u2.2.2.getD i3 []) (u2.2.1.getD i3 [])).bind fun y4 =>
    bif (y4.2==0) then (
     (bX s3 (aa.mk y4.1 (u2.1.getD i3 []))).bind fun y5 =>
     some (.go y5)
    ) else (
     some (.ret ([],3))
    )
   ) (fun i3 s3=>s3) (u2.1.length-0) 0 []).bind <| aft fun u3 =>
   (cU u3).bind fun y6 =>
   some (y6.1,y6.2)
  ) else (
   some ([],1)
  )
 ) else (
  some ([],1)
 )
def ny (x0 x1:List aa) (i0:Nat) (s0:(List (List ai))×(List (List Int))×(List (List Int))):AS:=⟨137,[(0,dS ab x0),(1,dS ab x1),(4,.eslice),(5,iI 0),(6,.rslice 70),(7,.rslice 7),(8,.rslice 8),(9,nI i0)],[(7,.rrow 81 3 1 (kP ag s0.2.2)),(8,.rrow 81 3 1 (kP ag s0.2.1)),(70,.row 49 1 (s0.1.map az))]⟩
def qF (u4:(List (List ai))×(List (List Int))×(List (List Int))):AS:=⟨137,[(4,.eslice),(5,iI 0),(6,.rslice 70),(7,.rslice 7),(8,.rslice 8)],[(7,.rrow 81 3 1 (kP ag u4.2.2)),(8,.rrow 81 3 1 (kP ag u4.2.1)),(70,.row 49 1 (u4.1.map az))]⟩
def mR (x0 x1:List aa) (i0 i1:Nat) (s1:(List (List ai))×(List (List Int))×(List (List Int))):AS:=⟨137,[(0,dS ab x0),(1,dS ab x1),(4,.eslice),(5,iI 0),(6,.rslice 70),(7,.rslice 7),(8,.rslice 8),(9,nI i0),(10,nI i1)],[(7,.rrow 81 3 1 (kP ag s1.2.2)),(8,.rrow 81 3 1 (kP ag s1.2.1)),(70,.row 49 1 (s1.1.map az))]⟩
def qT (x0 x1:List aa) (i0:Nat) (u5:(List (List ai))×(List (List Int))×(List (List Int))):AS:=⟨137,[(0,dS ab x0),(1,dS ab x1),(4,.eslice),(5,iI 0),(6,.rslice 70),(7,.rslice 7),(8,.rslice 8),(9,nI i0)],[(7,.rrow 81 3 1 (kP ag u5.2.2)),(8,.rrow 81 3 1 (kP ag u5.2.1)),(70,.row 49 1 (u5.1.map az))]⟩
def mP (x0 x1:List aa) (i0 i1:Nat) (s1:(List (List ai))×(List (List Int))×(List (List Int))) (y2:List ai) (i2:Nat) (s2:Unit):AS:=⟨137,[(0,dS ab x0),(1,dS ab x1),(4,.eslice),(5,iI 0),(6,.rslice 70),(7,.rslice 7),(8,.rslice 8),(9,nI i0),(10,nI i1),(11,dS aj y2),(12,nI i2)],[(7,.rrow 81 3 1 (kP ag s1.2.2)),(8,.rrow 81 3 1 (kP ag s1.2.1)),(70,.row 49 1 (s1.1.map az))]⟩
def mY (x0 x1:List aa) (i0 i1:Nat) (s1:(List (List ai))×(List (List Int))×(List (List Int))) (y2:List ai) (u6:Nat):AS:=⟨137,[(0,dS ab x0),(1,dS ab x1),(4,.eslice),(5,iI 0),(6,.rslice 70),(7,.rslice 7),(8,.rslice 8),(9,nI i0),(10,nI i1),(11,dS aj y2),(12,nI u6)],[(7,.rrow 81 3 1 (kP ag s1.2.2)),(8,.rrow 81 3 1 (kP ag s1.2.1)),(70,.row 49 1 (s1.1.map az))]⟩
def nB (x0 x1:List aa) (i0 i1 u0:Nat) (v0:(List (List ai))×(List (List Int))×(List (List Int))):AS:=⟨137,[(0,dS ab x0),(1,dS ab x1),(4,.eslice),(5,iI 0),(6,.rslice 70),(7,.rslice 7),(8,.rslice 8),(9,nI i0),(10,nI i1),(12,nI u0)],[(7,.rrow 81 3 1 (kP ag v0.2.2)),(8,.rrow 81 3 1 (kP ag v0.2.1)),(70,.row 49 1 (v0.1.map az))]⟩
def mZ (u2:(List (List ai))×(List (List Int))×(List (List Int))) (i3:Nat) (s3:List aa):AS:=⟨137,[(4,.eslice),(5,iI 0),(6,.rslice 70),(7,dS ay u2.2.2),(8,dS ay u2.2.1),(13,dS ab s3),(14,nI i3)],[(70,.row 49 1 (u2.1.map az))]⟩
def qW (u7:List aa):AS:=⟨137,[(4,.eslice),(5,iI 0),(13,dS ab u7)],[]⟩
theorem IA (x0 x1:List aa) (r:(List aa)×Int) (H:iF x0 x1=some r):bF Tryz.prog 32 [dS ab x0,dS ab x1] (.tup [dS ab r.1,iI r.2]):=by
 unfold iF at H;refine aX Tryz.func32 137 [.tmp 4,.tmp 5] ?_;refine aS H fun y0 h0 H0 => ?_;refine a7 H0 (fun c0 H1 => ?_) (fun c1 H2 => ?_)
 ·refine aS H1 fun y1 h1 H3 => ?_;refine a7 H3 (fun c2 H4 => ?_) (fun c3 H5 => ?_)
  ·refine pA 16 [.rg 0 [] [.v,.v],.rg 0 [] [.v,.c true (.bool true),.v,.v,.v,.c true (.bool y1),.v,.v],.eqT 24 (.bool false),.rg 0 [] [.v],.rg 0 [] [.v,.ew 7 7 81 3 1,.v,.ew 8 8 81 3 1],.rg 0 [] [.v]] [.er 6 70 49 1,.only [0,1,4,5,6,7,8,9] [7,8,70]] 15 [false] (ny x0 x1 0 ([],[],[])) (aC Tryz.call14 (aC (bF.eq (a6 _ _ h0) (cB c0)) (aT (aC Tryz.call14 (aF (a6 _ _ h1) (aT (aM c2 aN))))))) ?_;refine aS H4 fun R0 h2 H6 => ?_;refine pJ 1 (qF) R0 ?_ (fun u2 e0 => ?_)
   ·refine pC (ny x0 x1) h2 (fun i0 s0 h3 e1 => ?_) (fun i0 s0 h4 q0 h5 h6 => ?_)
    ·have c4:=lF i0 x0.length (by omega);subst e1;exact pB 5 [r0 [.v,.v,.e (nI x0.length),.e (.bool false)]] [.only [4,5,6,7,8] [7,8,70]] (qF (s0.1,s0.2.1,s0.2.2)) (aT (aC (aV ab x0) (aB c4 aN)))
    ·have c5:=lT i0 x0.length (by omega);refine pA 10 [r0 [.v,.v,.e (nI x0.length),.e (.bool true)],V1] [.only [0,1,4,5,6,7,8,9,10] [7,8,70]] 10 [true] (mR x0 x1 i0 0 (s0.1,s0.2.1,s0.2.2)) (aT (aC (aV ab x0) (aB c5 aN))) ?_;refine aS h5 fun R1 h7 H7 => ?_;refine pJ 2 (qT x0 x1 i0) R1 ?_ (fun u1 e2 => ?_)
     ·refine pC (mR x0 x1 i0) h7 (fun i1 s1 h8 e3 => ?_) (fun i1 s1 h9 q1 h10 h11 => ?_)
      ·have c6:=lF i1 x1.length (by omega);subst e3;exact pB 5 [r0 [.v,.v,.e (nI x1.length),.e (.bool false)]] [.only [0,1,4,5,6,7,8,9] [7,8,70]] (qT x0 x1 i0 (s1.1,s1.2.1,s1.2.2)) (aT (aC (aV ab x1) (aB c6 aN)))
      ·have c7:=lT i1 x1.length (by omega);refine aS h10 fun y2 h12 H8 => ?_;refine pA 13 [r0 [.v,.v,.e (nI x1.length),.e (.bool true)],.rg 10 [.v,.v,.e (.dptr (ab (x0.getD i0 ⟨0,[]⟩))),.v,.v,.v,.v,.e (.dptr (ab (x1.getD i1 ⟨0,[]⟩))),.v,.v] [.c true (dS aj y2),.v],V1] [.only [0,1,4,5,6,7,8,9,10,11,12] [7,8,70]] 13 [true] (mP x0 x1 i0 i1 s1 y2 0 ()) (aT (aC (aV ab x1) (aB c7 (aI aw x0 i0 ⟨0,[]⟩ (aI aw x1 i1 ⟨0,[]⟩ (aC Tryz.call67 (aF (yZ _ _ _ h12) aN))))))) ?_;refine aS H8 fun R2 h13 H9 => ?_;refine pJ 1 (mY x0 x1 i0 i1 s1 y2) R2 ?_ (fun u0 e4 => ?_)
       ·refine pC (mP x0 x1 i0 i1 s1 y2) h13 (fun i2 s2 h14 e5 => ?_) (fun i2 s2 h15 q2 h16 h17 => ?_)
        ·have c8:=lF i2 s1.1.length (by omega);subst e5;exact pB 5 [r0 [.v,.v,.e (nI s1.1.length),.e (.bool false),.v,.s,.s,.s,.s,.s,.s,.s,.v]] [.only [0,1,4,5,6,7,8,9,10,11,12] [7,8,70]] (mY x0 x1 i0 i1 s1 y2 i2) (aT (aC (aV az s1.1) (aB c8 aN)))
        ·have c9:=lT i2 s1.1.length (by omega);refine aS h16 fun y3 h18 H10 => ?_;refine pA 3 [r0 [.v,.v,.e (nI s1.1.length),.e (.bool true),.v,.v,.v,.v,.rl i2 0 (.dslice ((s1.1.getD i2 []).map aj)),.v,.c true (iI y3),.v,.v]] [.only [0,1,4,5,6,7,8,9,10,11,12,60] [7,8,70]] 3 [] ⟨137,[(0,dS ab x0),(1,dS ab x1),(4,.eslice),(5,iI 0),(6,.rslice 70),(7,.rslice 7),(8,.rslice 8),(9,nI i0),(10,nI i1),(11,dS aj y2),(12,nI i2),(60,.bool (y3 != 0))],[(7,.rrow 81 3 1 (kP ag s1.2.2)),(8,.rrow 81 3 1 (kP ag s1.2.1)),(70,.row 49 1 (s1.1.map az))]⟩ (aT (aC (aV az s1.1) (aB c9 (aC (show (0:Int)≤((i2:Nat):Int)∧((i2:Nat):Int)<((s1.1.map az).length:Int) from by rw [KP];omega) (aC (Bz (f:=az) (l:=s1.1) (n:=i2) 1 0 1 (by omega) (by decide)) (aC (Bx (f:=az) (l:=s1.1) (n:=i2) [] 0 (by omega)) (aC Tryz.call39 (aF (lK _ _ _ h18) aN)))))))) ?_;refine a7 H10 (fun c10 H11 => ?_) (fun c11 H12 => ?_)
         ·obtain rfl:=sI H11;obtain rfl:=eT h17;exact pB 3 [.eqT 60 (.bool false)] [.only [0,1,4,5,6,7,8,9,10,11,12] [7,8,70]] (mY x0 x1 i0 i1 s1 y2 i2) (aM c10 aN)
         ·refine nu 70 (n:=(s1.1.map az).length) (by kernel_rfl) (fun l0 => ?_);have l1:s1.1.length≤9223372036854775807:=by simpa only [KP] using l0
          clear l0;obtain rfl:=sI H12;exact pB 5 [.eqT 60 (.bool true),V3] [.only [0,1,4,5,6,7,8,9,10,11,12] [7,8,70]] (mP x0 x1 i0 i1 s1 y2 (i2+1) ()) (aM c11 (aH i2 aN))
       ·subst e4;have H13:=bI H9;refine pA 3 [r0 [.v,.v,.e (nI s1.1.length),.v]] [.only [0,1,4,5,6,7,8,9,10,11,12,66] [7,8,70]] 3 [] ⟨137,[(0,dS ab x0),(1,dS ab x1),(4,.eslice),(5,iI 0),(6,.rslice 70),(7,.rslice 7),(8,.rslice 8),(9,nI i0),(10,nI i1),(11,dS aj y2),(12,nI u0),(66,.bool (((u0:Nat):Int)==((s1.1.length:Nat):Int)))],[(7,.rrow 81 3 1 (kP ag s1.2.2)),(8,.rrow 81 3 1 (kP ag s1.2.1)),(70,.row 49 1 (s1.1.map az))]⟩ (aT (aC (aV az s1.1) aN)) ?_;refine aS H13 fun v0 h19 H14 => ?_;refine cQ 0 (nB x0 x1 i0 i1 u0 v0) (by kernel_rfl) ?_ ?_
        ·refine a7 h19 (fun c12 H15 => ?_) (fun c13 H16 => ?_)
         ·refine aR H15 fun g0 H17 => ?_;refine aR H17 fun g1 H18 => ?_;refine aR H18 fun g2 H19 => ?_;obtain rfl:=sI H19;exact pB 3 [.eqT 66 (.bool true),r0 [.v,.v,.b,.ap,.rwH 70 (.row 49 1 ((s1.1++[y2]).map az)),.v,.b,.qo (.apr (kP ag (s1.2.2++[[]]))),.v,.b,.qo (.apr (kP ag (s1.2.1++[[]]))),.v,.v,.v]] [.only [0,1,4,5,6,7,8,9,10,12] [7,8,70]] (nB x0 x1 i0 i1 u0 ((s1.1++[y2]),(s1.2.1++[[]]),(s1.2.2++[[]]))) (aB c12 (aJ (qw (c:=az) wh s1.1 [y2] 24 (by decide) (by simpa using g0)) (aC (rO 49 1 az s1.1 [y2]) (aC (Db ag s1.2.2 g1) (aC (Dh ag s1.2.2) (aC (Db ag s1.2.1 g2) (aC (Dh ag s1.2.1) aN)))))))
         ·obtain rfl:=sI H16;exact pB 3 [.eqT 66 (.bool false)] [.only [0,1,4,5,6,7,8,9,10,12] [7,8,70]] (nB x0 x1 i0 i1 u0 (s1.1,s1.2.1,s1.2.2)) (aB c13 aN)
        ·refine aR H14 fun g3 H20 => ?_;refine aR H20 fun g4 H21 => ?_;refine aR H21 fun g5 H22 => ?_;refine aR H22 fun g6 H23 => ?_;refine bB 1 (ps:=[(x1.map ab).length≤9223372036854775807]) (by kernel_rfl) (fun l2 => ?_);have l3:x1.length≤9223372036854775807:=by simpa only [br,KP] using l2
         clear l2;obtain rfl:=sI H23;exact pB 2 [.rg 28 [.rr,.v,.v,.v,.v,.v,.v,.v,.qo (.tk ((v0.2.2.getD u0 []).map ag) ((kP ag v0.2.2).set u0 none)),.v,.v,.e (.dptr (ab (x0.getD i0 ⟨0,[]⟩))),.v,.v,.b,.apx (((v0.2.2.getD u0 [])++[((x0.getD i0 ⟨0,[]⟩).Coef)]).map ag),.v,.v,.v,.qo (.tk ((v0.2.1.getD u0 []).map ag) ((kP ag v0.2.1).set u0 none)),.v,.v,.e (.dptr (ab (x1.getD i1 ⟨0,[]⟩))),.v,.v,.b,.apx (((v0.2.1.getD u0 [])++[((x1.getD i1 ⟨0,[]⟩).Coef)]).map ag),.v,.qo (.st (kP ag (v0.2.2.set u0 ((v0.2.2.getD u0 [])++[((x0.getD i0 ⟨0,[]⟩).Coef)]))))] [.v,.qo (.st (kP ag (v0.2.1.set u0 ((v0.2.1.getD u0 [])++[((x1.getD i1 ⟨0,[]⟩).Coef)]))))],V3] [.only [0,1,4,5,6,7,8,9,10] [7,8,70]] (mR x0 x1 i0 (i1+1) (v0.1,(v0.2.1.set u0 ((v0.2.1.getD u0 [])++[((x1.getD i1 ⟨0,[]⟩).Coef)])),(v0.2.2.set u0 ((v0.2.2.getD u0 [])++[((x0.getD i0 ⟨0,[]⟩).Coef)])))) (aC (show (0:Int)≤((u0:Nat):Int)∧((u0:Nat):Int)<(((kP ag v0.2.2)).length:Int) from by rw [nh];omega) (aC (GD ag v0.2.2 g3) (aC (DG ag v0.2.2 g3) (aC (Eq.refl ((kP ag v0.2.2).set u0 none)) (aI aw x0 i0 ⟨0,[]⟩ (aJ (wW (c:=ag) gw (v0.2.2.getD u0 []) [((x0.getD i0 ⟨0,[]⟩).Coef)] 8 (by decide) (by simpa using g4) List.map_append.symm) (aC (show (0:Int)≤((u0:Nat):Int)∧((u0:Nat):Int)<(((kP ag v0.2.1)).length:Int) from by rw [nh];omega) (aC (GD ag v0.2.1 g5) (aC (DG ag v0.2.1 g5) (aC (Eq.refl ((kP ag v0.2.1).set u0 none)) (aI aw x1 i1 ⟨0,[]⟩ (aJ (wW (c:=ag) gw (v0.2.1.getD u0 []) [((x1.getD i1 ⟨0,[]⟩).Coef)] 8 (by decide) (by simpa using g6) List.map_append.symm) (aC (show (0:Int)≤((u0:Nat):Int)∧((u0:Nat):Int)<((((kP ag v0.2.2).set u0 none)).length:Int) from by rw [List.length_set,nh];omega) (aC (Dr ag v0.2.2 (i:=u0) g3) (aC (C4 ag v0.2.2 u0 ((v0.2.2.getD u0 [])++[((x0.getD i0 ⟨0,[]⟩).Coef)])) (aC (show (0:Int)≤((u0:Nat):Int)∧((u0:Nat):Int)<((((kP ag v0.2.1).set u0 none)).length:Int) from by rw [List.length_set,nh];omega) (aC (Dr ag v0.2.1 (i:=u0) g5) (aC (C4 ag v0.2.1 u0 ((v0.2.1.getD u0 [])++[((x1.getD i1 ⟨0,[]⟩).Coef)])) (aH i1 aN)))))))))))))))))))
     ·subst e2;have H24:=bI H7;refine bB 0 (ps:=[(x0.map ab).length≤9223372036854775807]) (by kernel_rfl) (fun l4 => ?_);have l5:x0.length≤9223372036854775807:=by simpa only [br,KP] using l4
      clear l4;obtain rfl:=sI H24;exact pB 1 [V3] [.only [0,1,4,5,6,7,8,9] [7,8,70]] (ny x0 x1 (i0+1) (u1.1,u1.2.1,u1.2.2)) (aH i0 aN)
   ·subst e0;have H25:=bI H6;refine pA 6 [r0 [.fw 7,.rwT 7 (dS ay u2.2.2),.fw 8,.rwT 8 (dS ay u2.2.1),.v],V1] [.wk 13 [],.only [4,5,6,7,8,13,14] [70]] 6 [] (mZ u2 0 []) (aC (CP ag u2.2.2) (aC (congrArg AV.dslice (CY ag u2.2.2)) (aC (CP ag u2.2.1) (aC (congrArg AV.dslice (CY ag u2.2.1)) aN)))) ?_;refine aS H25 fun R3 h20 H26 => ?_;refine pJ 1 (qW) R3 ?_ (fun u3 e6 => ?_)
    ·refine pC (mZ u2) h20 (fun i3 s3 h21 e7 => ?_) (fun i3 s3 h22 q3 h23 h24 => ?_)
     ·have c14:=lF i3 u2.1.length (by omega);subst e7;exact pB 5 [r0 [.v,.v,.e (nI u2.1.length),.e (.bool false)]] [.only [4,5,13] []] (qW s3) (aT (aC (aV az u2.1) (aB c14 aN)))
     ·have c15:=lT i3 u2.1.length (by omega);refine aR h23 fun g7 H27 => ?_;refine aR H27 fun g8 H28 => ?_;refine aS H28 fun y4 h25 H29 => ?_;refine pA 12 [r0 [.v,.v,.e (nI u2.1.length),.e (.bool true)],.rg 13 [.v,.v,.e (.dptr [.dslice ((u2.2.2.getD i3 []).map ag)]),.v,.v,.v,.e (.dptr [.dslice ((u2.2.1.getD i3 []).map ag)]),.v,.c true (.tup [iI y4.1,iI y4.2]),.v,.v,.v,.v] [.v],V2] [.only [4,5,6,7,8,13,14,15,124] [70]] 12 [true] ⟨137,[(4,.eslice),(5,iI 0),(6,.rslice 70),(7,dS ay u2.2.2),(8,dS ay u2.2.1),(13,dS ab s3),(14,nI i3),(15,iI y4.1),(124,.bool (y4.2 != 0))],[(70,.row 49 1 (u2.1.map az))]⟩ (aT (aC (aV az u2.1) (aB c15 (aI nJ u2.2.2 i3 [] (aI nJ u2.2.1 i3 [] (aC Tryz.call68 (aF (Bi _ _ _ h25) aN))))))) ?_;refine a7 H29 (fun c16 H30 => ?_) (fun c17 H31 => ?_)
      ·refine aS H30 fun y5 h26 H32 => ?_;refine nu 70 (n:=(u2.1.map az).length) (by kernel_rfl) (fun l6 => ?_);have l7:u2.1.length≤9223372036854775807:=by simpa only [KP] using l6
       clear l6;obtain rfl:=sI H32;exact pB 5 [.eqT 124 (.bool false),r0 (V 5 [.rl i3 0 (.dslice ((u2.1.getD i3 []).map aj)),.b,.c true (dS ab y5),.v]),V3] [.only [4,5,6,7,8,13,14] [70]] (mZ u2 (i3+1) y5) (aM c16 (aC (show (0:Int)≤((i3:Nat):Int)∧((i3:Nat):Int)<((u2.1.map az).length:Int) from by rw [KP];omega) (aC (Bz (f:=az) (l:=u2.1) (n:=i3) 1 0 1 (by omega) (by decide)) (aC (Bx (f:=az) (l:=u2.1) (n:=i3) [] 0 (by omega)) (aC Tryz.call66 (aF (jV _ _ _ h26) (aH i3 aN)))))))
      ·obtain rfl:=sI H31;obtain rfl:=aG h24;obtain rfl:=sI (ao H26);exact pR 5 [.eqT 124 (.bool true),V2] [.wk 4 []] [] (aM c17 aN)
    ·subst e6;have H33:=a8 H26;refine aS H33 fun y6 h27 H34 => ?_;obtain rfl:=sI H34;exact pR 3 [r0 [.v,.c true (.tup [dS ab y6.1,iI y6.2]),.v,.v,.v,.v]] [] [] (aC Tryz.call42 (aF (jy _ _ h27) aN))
  ·obtain rfl:=sI H5;exact pR 10 [V2,r0 [.v,.c true (.bool true),.v,.v,.v,.c true (.bool y1),.v,.v],.eqT 24 (.bool true),V2] [.wk 4 []] [] (aC Tryz.call14 (aC (bF.eq (a6 _ _ h0) (cB c0)) (aT (aC Tryz.call14 (aF (a6 _ _ h1) (aT (aM c3 aN)))))))
 ·obtain rfl:=sI H2;exact pR 9 [V2,r0 [.v,.c true (.bool false),.v,.v,.s,.s,.s,.v],V2] [.wk 4 []] [] (aC Tryz.call14 (aC (bF.eq (a6 _ _ h0) (cB c1)) (aT aN)))
end Go.Proofs.YtadjhpbkknifeaaGreatDoor
