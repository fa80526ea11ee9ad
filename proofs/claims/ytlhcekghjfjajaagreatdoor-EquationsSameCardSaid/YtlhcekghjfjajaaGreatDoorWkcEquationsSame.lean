/- What functions of the program compute, walked: each as a plain function, with the theorem that the code computes it wherever that answers. Printed by a program, part 3. -/
import Derived.Test.YtlhcekghjfjajaaGreatDoorWkbEquationsSame
set_option linter.unusedSimpArgs false
set_option linter.unusedVariables false
namespace Go.Proofs.YtlhcekghjfjajaaGreatDoor
open Go.RowKit Go.Ab Go.Sh
def pz (x0 x1:List Int):Option (Int×Int) :=
 bif (((x0.length:Nat):Int)==((x1.length:Nat):Int)) then (
  bif decide (((x0.length:Nat):Int)>10000) then (
   some (0,3)
  ) else (
   (dZ (σ:=Unit) (ε:=Unit) (ρ:=(Int×Int)) (fun i0 s0 =>
    (kV (x0.getD i0 0)).bind fun y0 =>
    bif y0 then (
     bH (i0<x1.length) <|
     (kV (x1.getD i0 0)).bind fun y1 =>
     bif y1 then (
      some (.go ())
     ) else (
      some (.ret (0,2))
     )
    ) else (
     some (.ret (0,2))
    )
   ) (fun i0 s0=>()) (x0.length-0) 0 ()).bind <| aft fun u0 =>
   (dZ (σ:=(Int×Int×Int×Int×Int)) (ε:=(Int×Int×Int×Int×Int)) (ρ:=Empty) (fun i1 s1 =>
    (ky (x0.getD i1 0)).bind fun y2 =>
    bH (i1<x1.length) <|
    (ky (x1.getD i1 0)).bind fun y3 =>
    some (.go ((aD (s1.1+(aD (y2.1*y3.1)))),(aD ((aD (s1.2.1+(aD (y2.1*y3.2.1))))+(aD (y2.2.1*y3.1)))),(aD ((aD ((aD (s1.2.2.1+(aD (y2.1*y3.2.2))))+(aD (y2.2.1*y3.2.1))))+(aD (y2.2.2*y3.1)))),(aD ((aD (s1.2.2.2.1+(aD (y2.2.1*y3.2.2))))+(aD (y2.2.2*y3.2.1)))),(aD (s1.2.2.2.2+(aD (y2.2.2*y3.2.2))))))
   ) (fun i1 s1=>(s1.1,s1.2.1,s1.2.2.1,s1.2.2.2.1,s1.2.2.2.2)) (x0.length-0) 0 (0,0,0,0,0)).bind <| dG fun u1 =>
   (gj u1.1 2097152).bind fun y4 =>
   (some (aD (u1.1-(aD (y4.1*2097152))))).bind fun y5 =>
   (gj (aD (u1.2.1+y4.1)) 2097152).bind fun y6 =>
   (some (aD ((aD (u1.2.1+y4.1))-(aD (y6.1*2097152))))).bind fun y7 =>
   (gj (aD (u1.2.2.1+y6.1)) 2097152).bind fun y8 =>
   (some (aD ((aD (u1.2.2.1+y6.1))-(aD (y8.1*2097152))))).bind fun y9 =>
   (gj (aD (u1.2.2.2.1+y8.1)) 2097152).bind fun y10 =>
   (some (aD ((aD (u1.2.2.2.1+y8.1))-(aD (y10.1*2097152))))).bind fun y11 =>
   (gj (aD (u1.2.2.2.2+y10.1)) 2097152).bind fun y12 =>
   (some (aD ((aD (u1.2.2.2.2+y10.1))-(aD (y12.1*2097152))))).bind fun y13 =>
   (gj (aD (0+y12.1)) 2097152).bind fun y14 =>
   (some (aD ((aD (0+y12.1))-(aD (y14.1*2097152))))).bind fun y15 =>
   (gj (aD (0+y14.1)) 2097152).bind fun y16 =>
   (some (aD ((aD (0+y14.1))-(aD (y16.1*2097152))))).bind fun y17 =>
   bif decide ((aD (0+(aD (0+y16.1))))>2199023255552) then (
    some (0,2)
   ) else (
    bif decide ((aD (0+(aD (0+y16.1))))<(-2199023255552)) then (
     some (0,2)
    ) else (
     (some (aD ((aD (0+(aD (0+y16.1))))*2097152))).bind fun y18 =>
     bif decide ((aD (y18+y17))>2199023255552) then (
      some (0,2)
     ) else (
      bif decide ((aD (y18+y17))<(-2199023255552)) then (
       some (0,2)
      ) else (
       (some (aD ((aD (y18+y17))*2097152))).bind fun y19 =>
       bif decide ((aD (y19+y15))>2199023255552) then (
        some (0,2)
       ) else (
        bif decide ((aD (y19+y15))<(-2199023255552)) then (
         some (0,2)
        ) else (
         (some (aD ((aD (y19+y15))*2097152))).bind fun y20 =>
         bif decide ((aD (y20+y13))>2199023255552) then (
          some (0,2)
         ) else (
          bif decide ((aD (y20+y13))<(-2199023255552)) then (
           some (0,2)
          ) else (
           (some (aD ((aD (y20+y13))*2097152))).bind fun y21 =>
           bif decide ((aD (y21+y11))>2199023255552) then (
            some (0,2)
           ) else (
            bif decide ((aD (y21+y11))<(-2199023255552)) then (
             some (0,2)
            ) else (
             (some (aD ((aD (y21+y11))*2097152))).bind fun y22 =>
             bif decide ((aD (y22+y9))>2199023255552) then (
              some (0,2)
             ) else (
              bif decide ((aD (y22+y9))<(-2199023255552)) then (
               some (0,2)
              ) else (
               (some (aD ((aD (y22+y9))*2097152))).bind fun y23 =>
               bif decide ((aD (y23+y7))>2199023255552) then (
                some (0,2)
               ) else (
                bif decide ((aD (y23+y7))<(-2199023255552)) then (
                 some (0,2)
                ) else (
                 (some (aD ((aD (y23+y7))*2097152))).bind fun y24 =>
                 (kV (aD (y24+y5))).bind fun y25 =>
                 bif y25 then (
                  some ((aD (y24+y5)),0)
                 ) else (
                  some (0,2)
                 )
                )
               )
              )
             )
            )
           )
          )
         )
        )
       )
      )
     )
    )
   )
  )
 ) else (
  some (0,1)
 )
def nZ (x0 x1:List Int) (i0:Nat) (s0:Unit):AS:=⟨130,[(0,dS ag x0),(1,dS ag x1),(4,iI 0),(5,iI 0),(6,nI i0)],[]⟩
def qL (x0 x1:List Int) (u2:Unit):AS:=⟨130,[(0,dS ag x0),(1,dS ag x1),(4,iI 0),(5,iI 0)],[]⟩
def nT (x0 x1:List Int) (i1:Nat) (s1:Int×Int×Int×Int×Int):AS:=⟨130,[(0,dS ag x0),(1,dS ag x1),(4,iI 0),(5,iI 0),(7,.hptr 7 0),(8,nI i1)],[(7,.cells 136 [iI s1.1,iI s1.2.1,iI s1.2.2.1,iI s1.2.2.2.1,iI s1.2.2.2.2,iI 0,iI 0,iI 0])]⟩
def qU (u3:Int×Int×Int×Int×Int):AS:=⟨130,[(4,iI 0),(5,iI 0),(7,.hptr 7 0)],[(7,.cells 136 [iI u3.1,iI u3.2.1,iI u3.2.2.1,iI u3.2.2.2.1,iI u3.2.2.2.2,iI 0,iI 0,iI 0])]⟩
theorem mb (x0 x1:List Int) (r:Int×Int) (H:pz x0 x1=some r):bW Tryz.prog 52 [dS ag x0,dS ag x1] (.tup [iI r.1,iI r.2]):=by
 unfold pz at H;refine aX Tryz.func52 130 [.tmp 4,.tmp 5] ?_;refine aV H (fun c0 H0 => ?_) (fun c1 H1 => ?_)
 ·refine pA 11 [.rg 0 [] [.v,.v],.rg 0 [] [.v,.e (.int .i64 ((x0.length:Nat):Int)),.v,.e (.int .i64 ((x1.length:Nat):Int)),.v],.eqT 22 (.bool false),.rg 0 [] [.v,.e (.int .i64 ((x0.length:Nat):Int)),.v]] [.only [0,1,4,5,25] []] 10 [false] ⟨130,[(0,.dslice (x0.map ag)),(1,.dslice (x1.map ag)),(4,.int .i64 0),(5,.int .i64 0),(25,.bool (decide (((x0.length:Nat):Int)>10000)))],[]⟩ (aT (aC (aJ ag x0) (aT (aC (aJ ag x1) (aM c0 (aT (aC (aJ ag x0) aN))))))) ?_;refine aV H0 (fun c2 H2 => ?_) (fun c3 H3 => ?_)
  ·obtain rfl:=sI H2;exact pR 5 [.eqT 25 (.bool true),V2] [] [] (aB c2 aN)
  ·have c3p:=Kl c3;refine pA 7 [.eqT 25 (.bool false),V1] [.only [0,1,4,5,6] []] 6 [false] (nZ x0 x1 0 ()) (aB c3 aN) ?_;refine aP H3 fun R0 h0 H4 => ?_;refine pJ 1 (qL x0 x1) R0 ?_ (fun u0 e0 => ?_)
   ·refine pC (nZ x0 x1) h0 (fun i0 s0 h1 e1 => ?_) (fun i0 s0 h2 q0 h3 h4 => ?_)
    ·have c4:=lF i0 x0.length (by omega);subst e1;exact pB 5 [r0 [.v,.v,.e (nI x0.length),.e (.bool false)]] [.only [0,1,4,5] []] (qL x0 x1 ()) (aT (aC (aJ ag x0) (aB c4 aN)))
    ·have c5:=lT i0 x0.length (by omega);refine aP h3 fun y0 h5 H5 => ?_;refine aV H5 (fun c6 H6 => ?_) (fun c7 H7 => ?_)
     ·refine aG H6 fun g0 H8 => ?_;refine aP H8 fun y1 h6 H9 => ?_;refine pA 9 [r0 [.v,.v,.e (nI x0.length),.e (.bool true)],r0 [.v,.v,.e (.dptr [iI (x0.getD i0 0)]),.v,.c true (.bool true),.v,.v,.v,.v,.e (.dptr [iI (x1.getD i0 0)]),.v,.c true (.bool y1),.v,.v]] [.only [0,1,4,5,6,45] []] 9 [true] ⟨130,[(0,dS ag x0),(1,dS ag x1),(4,iI 0),(5,iI 0),(6,nI i0),(45,.bool (!y1))],[]⟩ (aT (aC (aJ ag x0) (aB c5 (aI cb x0 i0 0 (aC Tryz.call85 (aC (bW.eq (dN _ _ h5) (cB c6)) (aT (aI cb x1 i0 0 (aC Tryz.call85 (aF (dN _ _ h6) (aT aN))))))))))) ?_;refine aV H9 (fun c8 H10 => ?_) (fun c9 H11 => ?_)
      ·refine b7 0 (ps:=[(x0.map ag).length≤9223372036854775807]) (by kernel_rfl) (fun l0 => ?_);have l1:x0.length≤9223372036854775807:=by simpa only [bB,Kp] using l0
       clear l0;obtain rfl:=sI H10;exact pB 4 [.eqT 45 (.bool false),V3] [.only [0,1,4,5,6] []] (nZ x0 x1 (i0+1) ()) (aM c8 (aH i0 aN))
      ·obtain rfl:=sI H11;obtain rfl:=aR h4;obtain rfl:=sI (aA H4);exact pR 5 [.eqT 45 (.bool true),V2] [] [] (aM c9 aN)
     ·obtain rfl:=sI H7;obtain rfl:=aR h4;obtain rfl:=sI (aA H4);exact pR 13 [r0 [.v,.v,.e (nI x0.length),.e (.bool true)],r0 [.v,.v,.e (.dptr [iI (x0.getD i0 0)]),.v,.c true (.bool false),.v,.v,.s,.s,.s,.s,.s,.s,.v],V2] [] [] (aT (aC (aJ ag x0) (aB c5 (aI cb x0 i0 0 (aC Tryz.call85 (aC (bW.eq (dN _ _ h5) (cB c7)) (aT aN)))))))
   ·subst e0;have H12:=bp H4;refine pA 6 [r0 [.m],V1] [.only [0,1,4,5,7,8] [7]] 6 [] (nT x0 x1 0 (0,0,0,0,0)) aN ?_;refine aP H12 fun R1 h7 H13 => ?_;refine pJ 1 (qU) R1 ?_ (fun u1 e2 => ?_)
    ·refine pC (nT x0 x1) h7 (fun i1 s1 h8 e3 => ?_) (fun i1 s1 h9 q1 h10 h11 => ?_)
     ·have c10:=lF i1 x0.length (by omega);subst e3;exact pB 5 [r0 [.v,.v,.e (nI x0.length),.e (.bool false)]] [.only [4,5,7] [7]] (qU (s1.1,s1.2.1,s1.2.2.1,s1.2.2.2.1,s1.2.2.2.2)) (aT (aC (aJ ag x0) (aB c10 aN)))
     ·have c11:=lT i1 x0.length (by omega);refine aP h10 fun y2 h12 H14 => ?_;refine aG H14 fun g1 H15 => ?_;refine aP H15 fun y3 h13 H16 => ?_;refine b7 0 (ps:=[(x0.map ag).length≤9223372036854775807]) (by kernel_rfl) (fun l2 => ?_);have l3:x0.length≤9223372036854775807:=by simpa only [bB,Kp] using l2
      clear l2;obtain rfl:=sI H16;exact pB 163 [r0 [.v,.v,.e (nI x0.length),.e (.bool true)],.rg 12 [.v,.v,.e (.dptr [iI (x0.getD i1 0)]),.v,.c true (.agg [iI y2.1,iI y2.2.1,iI y2.2.2]),.v,.v,.e (.dptr [iI (x1.getD i1 0)]),.v,.c true (.agg [iI y3.1,iI y3.2.1,iI y3.2.2]),.m,.m] [.m,.m],V1,.un,V2,V1,.un,V2,.rg 12 (V 11 [.w]) [.w,.v,.m],V3,.cv [.only [0,1,4,5,7,8,9,10,11,12] [7,9,10]],V2,.rg 12 (V 11 [.w]) [.w,.v,.m],V3,.cv [.only [0,1,4,5,7,8,9,10,11,12] [7,9,10]],V2,.rg 12 (V 11 [.w]) [.w,.v,.m],V3,.cv [.only [0,1,4,5,7,8,9,10,11,12] [7,9,10]],V2,V3,.cv [.only [0,1,4,5,7,8,9,10,11] [7,9,10]],V2,V1,.un,V2,.rg 12 (V 11 [.w]) [.w,.v,.m],V3,.cv [.only [0,1,4,5,7,8,9,10,11,12] [7,9,10]],V2,.rg 12 (V 11 [.w]) [.w,.v,.m],V3,.cv [.only [0,1,4,5,7,8,9,10,11,12] [7,9,10]],V2,.rg 12 (V 11 [.w]) [.w,.v,.m],V3,.cv [.only [0,1,4,5,7,8,9,10,11,12] [7,9,10]],V2,V3,.cv [.only [0,1,4,5,7,8,9,10,11] [7,9,10]],V2,V1,.un,V2,.rg 12 (V 11 [.w]) [.w,.v,.m],V3,.cv [.only [0,1,4,5,7,8,9,10,11,12] [7,9,10]],V2,.rg 12 (V 11 [.w]) [.w,.v,.m],V3,.cv [.only [0,1,4,5,7,8,9,10,11,12] [7,9,10]],V2,.rg 12 (V 11 [.w]) [.w,.v,.m],V3,.cv [.only [0,1,4,5,7,8,9,10,11,12] [7,9,10]],V2,V3,.cv [.only [0,1,4,5,7,8,9,10,11] [7,9,10]],V2,V3] [.only [0,1,4,5,7,8] [7]] (nT x0 x1 (i1+1) ((aD (s1.1+(aD (y2.1*y3.1)))),(aD ((aD (s1.2.1+(aD (y2.1*y3.2.1))))+(aD (y2.2.1*y3.1)))),(aD ((aD ((aD (s1.2.2.1+(aD (y2.1*y3.2.2))))+(aD (y2.2.1*y3.2.1))))+(aD (y2.2.2*y3.1)))),(aD ((aD (s1.2.2.2.1+(aD (y2.2.1*y3.2.2))))+(aD (y2.2.2*y3.2.1)))),(aD (s1.2.2.2.2+(aD (y2.2.2*y3.2.2)))))) (aT (aC (aJ ag x0) (aB c11 (aI cb x0 i1 0 (aC Tryz.call86 (aF (oU _ _ h12) (aI cb x1 i1 0 (aC Tryz.call86 (aF (oU _ _ h13) (aO (0+0) (aT (aT (aT (aT (aO (0+1) (aO (0+1) (aT (aT (aT (aT (aO (1+1) (aO (0+2) (aT (aT (aT (aT (aO (2+1) (aO (0+1) (aO (1+0) (aT (aT (aT (aT (aO (0+1) (aO (1+1) (aT (aT (aT (aT (aO (1+1) (aO (1+2) (aT (aT (aT (aT (aO (2+1) (aO (1+1) (aO (2+0) (aT (aT (aT (aT (aO (0+1) (aO (2+1) (aT (aT (aT (aT (aO (1+1) (aO (2+2) (aT (aT (aT (aT (aO (2+1) (aO (2+1) (aH i1 aN)))))))))))))))))))))))))))))))))))))))))))))))))))))))))))))))))))
    ·subst e2;have H17:=bI H13;refine aP H17 fun y4 h14 H18 => ?_;refine aP H18 fun y5 h15 H19 => ?_;refine aP H19 fun y6 h16 H20 => ?_;refine aP H20 fun y7 h17 H21 => ?_;refine aP H21 fun y8 h18 H22 => ?_;refine aP H22 fun y9 h19 H23 => ?_;refine aP H23 fun y10 h20 H24 => ?_;refine aP H24 fun y11 h21 H25 => ?_;refine aP H25 fun y12 h22 H26 => ?_;refine aP H26 fun y13 h23 H27 => ?_;refine aP H27 fun y14 h24 H28 => ?_;refine aP H28 fun y15 h25 H29 => ?_;refine aP H29 fun y16 h26 H30 => ?_;refine aP H30 fun y17 h27 H31 => ?_;refine pA 139 [V1,.un,V3,r0 [.v,.v,.v,.c true (.tup [iI y4.1,iI y4.2]),.v,.v,.v,.v,.v],r0 (V 4 [.w,.we (iI y5),.v,.m]),r0 (V 5 [.w,.v,.m]),V3,.cv [.only [4,5,7,13] [7]],V3,r0 [.v,.v,.v,.c true (.tup [iI y6.1,iI y6.2]),.v,.v,.v,.v,.v],r0 (V 4 [.w,.we (iI y7),.v,.m]),r0 (V 5 [.w,.v,.m]),V3,.cv [.only [4,5,7,13] [7]],V3,r0 [.v,.v,.v,.c true (.tup [iI y8.1,iI y8.2]),.v,.v,.v,.v,.v],r0 (V 4 [.w,.we (iI y9),.v,.m]),r0 (V 5 [.w,.v,.m]),V3,.cv [.only [4,5,7,13] [7]],V3,r0 [.v,.v,.v,.c true (.tup [iI y10.1,iI y10.2]),.v,.v,.v,.v,.v],r0 (V 4 [.w,.we (iI y11),.v,.m]),r0 (V 5 [.w,.v,.m]),V3,.cv [.only [4,5,7,13] [7]],V3,r0 [.v,.v,.v,.c true (.tup [iI y12.1,iI y12.2]),.v,.v,.v,.v,.v],r0 (V 4 [.w,.we (iI y13),.v,.m]),r0 (V 5 [.w,.v,.m]),V3,.cv [.only [4,5,7,13] [7]],V3,r0 [.v,.v,.v,.c true (.tup [iI y14.1,iI y14.2]),.v,.v,.v,.v,.v],r0 (V 4 [.w,.we (iI y15),.v,.m]),r0 (V 5 [.w,.v,.m]),V3,.cv [.only [4,5,7,13] [7]],V3,r0 [.v,.v,.v,.c true (.tup [iI y16.1,iI y16.2]),.v,.v,.v,.v,.v],r0 (V 4 [.w,.we (iI y17),.v,.m]),r0 (V 5 [.w,.v,.m]),V3,.cv [.only [4,5,7,13] [7]],V3,V1,V1,.un,V2,V6,r0 (V 5 [.w,.v]),V3,.cv [.only [4,5,7,16,17] [7]],V2] [.only [4,5,7,16,17] [7]] 131 [true,true,true,true,true,true,true,false,true,false,true] ⟨130,[(4,iI 0),(5,iI 0),(7,.hptr 7 0),(16,iI (aD (0+(aD (0+y16.1))))),(17,iI 6)],[(7,.cells 136 [iI y5,iI y7,iI y9,iI y11,iI y13,iI y15,iI y17,iI (aD (0+y16.1))])]⟩ (aO (0+1) (aT (aC Tryz.call78 (aF (fW _ _ _ h14) (aT (aC (congrArg (AV.int .i64) (Kt h15)) (aT (aO (0+1) (aT (aT (aO (0+1) (aO (1+1) (aT (aC Tryz.call78 (aF (fW _ _ _ h16) (aT (aC (congrArg (AV.int .i64) (Kt h17)) (aT (aO (1+1) (aT (aT (aO (1+1) (aO (2+1) (aT (aC Tryz.call78 (aF (fW _ _ _ h18) (aT (aC (congrArg (AV.int .i64) (Kt h19)) (aT (aO (2+1) (aT (aT (aO (2+1) (aO (3+1) (aT (aC Tryz.call78 (aF (fW _ _ _ h20) (aT (aC (congrArg (AV.int .i64) (Kt h21)) (aT (aO (3+1) (aT (aT (aO (3+1) (aO (4+1) (aT (aC Tryz.call78 (aF (fW _ _ _ h22) (aT (aC (congrArg (AV.int .i64) (Kt h23)) (aT (aO (4+1) (aT (aT (aO (4+1) (aO (5+1) (aT (aC Tryz.call78 (aF (fW _ _ _ h24) (aT (aC (congrArg (AV.int .i64) (Kt h25)) (aT (aO (5+1) (aT (aT (aO (5+1) (aO (6+1) (aT (aC Tryz.call78 (aF (fW _ _ _ h26) (aT (aC (congrArg (AV.int .i64) (Kt h27)) (aT (aO (6+1) (aT (aT (aO (6+1) (aO (7+1) (aO (0*2097152) (aT (aO (7-1) aN))))))))))))))))))))))))))))))))))))))))))))))))))))))))))))))))))))))))))))))))) ?_;refine aV H31 (fun c12 H32 => ?_) (fun c13 H33 => ?_)
     ·obtain rfl:=sI H32;exact pR 5 [r0 [.v,.e (.bool true),.v,.s,.s,.v],V2] [] [] (aB c12 aN)
     ·have c13p:=Kl c13;refine aV H33 (fun c14 H34 => ?_) (fun c15 H35 => ?_)
      ·obtain rfl:=sI H34;exact pR 6 [r0 [.v,.e (.bool false),.v,.v,.v,.v],.eqT 119 (.bool true),V2] [] [] (aB c13 (aB c14 aN))
      ·have c15p:=Kl c15;refine aP H35 fun y18 h28 H36 => ?_;refine pA 16 [r0 [.v,.e (.bool false),.v,.v,.v,.v],.eqT 119 (.bool false),r0 [.v,.we (iI y18),.v,.v,.v,.w,.v],V3,.cv [.only [4,5,7,16,17] [7]],V2] [.only [4,5,7,16,17] [7]] 14 [false,true] ⟨130,[(4,iI 0),(5,iI 0),(7,.hptr 7 0),(16,iI (aD (y18+y17))),(17,iI 5)],[(7,.cells 136 [iI y5,iI y7,iI y9,iI y11,iI y13,iI y15,iI y17,iI (aD (0+y16.1))])]⟩ (aB c13 (aB c15 (aC (congrArg (AV.int .i64) (Kt h28)) (aT (aO (6-1) aN))))) ?_;refine aV H36 (fun c16 H37 => ?_) (fun c17 H38 => ?_)
       ·obtain rfl:=sI H37;exact pR 5 [r0 [.v,.e (.bool true),.v,.s,.s,.v],V2] [] [] (aB c16 aN)
       ·have c17p:=Kl c17;refine aV H38 (fun c18 H39 => ?_) (fun c19 H40 => ?_)
        ·obtain rfl:=sI H39;exact pR 6 [r0 [.v,.e (.bool false),.v,.v,.v,.v],.eqT 119 (.bool true),V2] [] [] (aB c17 (aB c18 aN))
        ·have c19p:=Kl c19;refine aP H40 fun y19 h29 H41 => ?_;refine pA 16 [r0 [.v,.e (.bool false),.v,.v,.v,.v],.eqT 119 (.bool false),r0 [.v,.we (iI y19),.v,.v,.v,.w,.v],V3,.cv [.only [4,5,7,16,17] [7]],V2] [.only [4,5,7,16,17] [7]] 14 [false,true] ⟨130,[(4,iI 0),(5,iI 0),(7,.hptr 7 0),(16,iI (aD (y19+y15))),(17,iI 4)],[(7,.cells 136 [iI y5,iI y7,iI y9,iI y11,iI y13,iI y15,iI y17,iI (aD (0+y16.1))])]⟩ (aB c17 (aB c19 (aC (congrArg (AV.int .i64) (Kt h29)) (aT (aO (5-1) aN))))) ?_;refine aV H41 (fun c20 H42 => ?_) (fun c21 H43 => ?_)
         ·obtain rfl:=sI H42;exact pR 5 [r0 [.v,.e (.bool true),.v,.s,.s,.v],V2] [] [] (aB c20 aN)
         ·have c21p:=Kl c21;refine aV H43 (fun c22 H44 => ?_) (fun c23 H45 => ?_)
          ·obtain rfl:=sI H44;exact pR 6 [r0 [.v,.e (.bool false),.v,.v,.v,.v],.eqT 119 (.bool true),V2] [] [] (aB c21 (aB c22 aN))
          ·have c23p:=Kl c23;refine aP H45 fun y20 h30 H46 => ?_;refine pA 16 [r0 [.v,.e (.bool false),.v,.v,.v,.v],.eqT 119 (.bool false),r0 [.v,.we (iI y20),.v,.v,.v,.w,.v],V3,.cv [.only [4,5,7,16,17] [7]],V2] [.only [4,5,7,16,17] [7]] 14 [false,true] ⟨130,[(4,iI 0),(5,iI 0),(7,.hptr 7 0),(16,iI (aD (y20+y13))),(17,iI 3)],[(7,.cells 136 [iI y5,iI y7,iI y9,iI y11,iI y13,iI y15,iI y17,iI (aD (0+y16.1))])]⟩ (aB c21 (aB c23 (aC (congrArg (AV.int .i64) (Kt h30)) (aT (aO (4-1) aN))))) ?_;refine aV H46 (fun c24 H47 => ?_) (fun c25 H48 => ?_)
           ·obtain rfl:=sI H47;exact pR 5 [r0 [.v,.e (.bool true),.v,.s,.s,.v],V2] [] [] (aB c24 aN)
           ·have c25p:=Kl c25;refine aV H48 (fun c26 H49 => ?_) (fun c27 H50 => ?_)
            ·obtain rfl:=sI H49;exact pR 6 [r0 [.v,.e (.bool false),.v,.v,.v,.v],.eqT 119 (.bool true),V2] [] [] (aB c25 (aB c26 aN))
            ·have c27p:=Kl c27;refine aP H50 fun y21 h31 H51 => ?_;refine pA 16 [r0 [.v,.e (.bool false),.v,.v,.v,.v],.eqT 119 (.bool false),r0 [.v,.we (iI y21),.v,.v,.v,.w,.v],V3,.cv [.only [4,5,7,16,17] [7]],V2] [.only [4,5,7,16,17] [7]] 14 [false,true] ⟨130,[(4,iI 0),(5,iI 0),(7,.hptr 7 0),(16,iI (aD (y21+y11))),(17,iI 2)],[(7,.cells 136 [iI y5,iI y7,iI y9,iI y11,iI y13,iI y15,iI y17,iI (aD (0+y16.1))])]⟩ (aB c25 (aB c27 (aC (congrArg (AV.int .i64) (Kt h31)) (aT (aO (3-1) aN))))) ?_;refine aV H51 (fun c28 H52 => ?_) (fun c29 H53 => ?_)
             ·obtain rfl:=sI H52;exact pR 5 [r0 [.v,.e (.bool true),.v,.s,.s,.v],V2] [] [] (aB c28 aN)
             ·have c29p:=Kl c29;refine aV H53 (fun c30 H54 => ?_) (fun c31 H55 => ?_)
              ·obtain rfl:=sI H54;exact pR 6 [r0 [.v,.e (.bool false),.v,.v,.v,.v],.eqT 119 (.bool true),V2] [] [] (aB c29 (aB c30 aN))
              ·have c31p:=Kl c31;refine aP H55 fun y22 h32 H56 => ?_;refine pA 16 [r0 [.v,.e (.bool false),.v,.v,.v,.v],.eqT 119 (.bool false),r0 [.v,.we (iI y22),.v,.v,.v,.w,.v],V3,.cv [.only [4,5,7,16,17] [7]],V2] [.only [4,5,7,16,17] [7]] 14 [false,true] ⟨130,[(4,iI 0),(5,iI 0),(7,.hptr 7 0),(16,iI (aD (y22+y9))),(17,iI 1)],[(7,.cells 136 [iI y5,iI y7,iI y9,iI y11,iI y13,iI y15,iI y17,iI (aD (0+y16.1))])]⟩ (aB c29 (aB c31 (aC (congrArg (AV.int .i64) (Kt h32)) (aT (aO (2-1) aN))))) ?_;refine aV H56 (fun c32 H57 => ?_) (fun c33 H58 => ?_)
               ·obtain rfl:=sI H57;exact pR 5 [r0 [.v,.e (.bool true),.v,.s,.s,.v],V2] [] [] (aB c32 aN)
               ·have c33p:=Kl c33;refine aV H58 (fun c34 H59 => ?_) (fun c35 H60 => ?_)
                ·obtain rfl:=sI H59;exact pR 6 [r0 [.v,.e (.bool false),.v,.v,.v,.v],.eqT 119 (.bool true),V2] [] [] (aB c33 (aB c34 aN))
                ·have c35p:=Kl c35;refine aP H60 fun y23 h33 H61 => ?_;refine pA 16 [r0 [.v,.e (.bool false),.v,.v,.v,.v],.eqT 119 (.bool false),r0 [.v,.we (iI y23),.v,.v,.v,.w,.v],V3,.cv [.only [4,5,7,16,17] [7]],V2] [.only [4,5,7,16,17] [7]] 14 [false,true] ⟨130,[(4,iI 0),(5,iI 0),(7,.hptr 7 0),(16,iI (aD (y23+y7))),(17,iI 0)],[(7,.cells 136 [iI y5,iI y7,iI y9,iI y11,iI y13,iI y15,iI y17,iI (aD (0+y16.1))])]⟩ (aB c33 (aB c35 (aC (congrArg (AV.int .i64) (Kt h33)) (aT (aO (1-1) aN))))) ?_;refine aV H61 (fun c36 H62 => ?_) (fun c37 H63 => ?_)
                 ·obtain rfl:=sI H62;exact pR 5 [r0 [.v,.e (.bool true),.v,.s,.s,.v],V2] [] [] (aB c36 aN)
                 ·have c37p:=Kl c37;refine aV H63 (fun c38 H64 => ?_) (fun c39 H65 => ?_)
                  ·obtain rfl:=sI H64;exact pR 6 [r0 [.v,.e (.bool false),.v,.v,.v,.v],.eqT 119 (.bool true),V2] [] [] (aB c37 (aB c38 aN))
                  ·have c39p:=Kl c39;refine aP H65 fun y24 h34 H66 => ?_;refine aP H66 fun y25 h35 H67 => ?_;refine pA 15 [r0 [.v,.e (.bool false),.v,.v,.v,.v],.eqT 119 (.bool false),r0 [.v,.we (iI y24),.v,.v,.v,.w,.v],V3,.cv [.only [4,5,7,16,17] [7]],V2,r0 [.v,.c true (.bool y25),.v]] [.only [4,5,16,128] []] 13 [false,false] ⟨130,[(4,iI 0),(5,iI 0),(16,iI (aD (y24+y5))),(128,.bool (!y25))],[]⟩ (aB c37 (aB c39 (aC (congrArg (AV.int .i64) (Kt h34)) (aT (aO (0-1) (aC Tryz.call85 (aF (dN _ _ h35) (aT aN)))))))) ?_;refine aV H67 (fun c40 H68 => ?_) (fun c41 H69 => ?_)
                   ·obtain rfl:=sI H68;exact pR 6 [.eqT 128 (.bool false),V3] [] [] (aM c40 aN)
                   ·obtain rfl:=sI H69;exact pR 5 [.eqT 128 (.bool true),V2] [] [] (aM c41 aN)
 ·obtain rfl:=sI H1;exact pR 10 [V2,r0 [.v,.e (nI x0.length),.v,.e (nI x1.length),.v],.eqT 22 (.bool true),V2] [] [] (aT (aC (aJ ag x0) (aT (aC (aJ ag x1) (aM c1 aN)))))
def iZ (x0 x1:Int):Option Bool :=
 bif (x1==0) then (
  some (x0==0)
 ) else (
  bH ((x1:Int)≠0) <|
  some ((x0.tmod x1)==0)
 )
theorem nw (x0 x1:Int) (r:Bool) (H:iZ x0 x1=some r):bW Tryz.prog 53 [iI x0,iI x1] (.bool r):=by
 unfold iZ at H;refine aX Tryz.func53 13 [.tmp 4] ?_;refine aV H (fun c0 H0 => ?_) (fun c1 H1 => ?_)
 ·obtain rfl:=sI H0;exact pR 10 [V1,V2,.eqT 6 (.bool true),V3] [] [] (aB c0 aN)
 ·refine aG H1 fun g0 H2 => ?_;obtain rfl:=sI H2;exact pR 11 [V1,V2,.eqT 6 (.bool false),V5] [] [] (aB c1 (aC (show (x1:Int)≠0 from g0) aN))
def lV (x0:List Linear) (x1:ah):Option Bool :=
 (iz x0).bind fun y0 =>
 bif y0 then (
  bif decide (((x0.length:Nat):Int)>6000) then (
   some false
  ) else (
   bif (((x1.Mults.length:Nat):Int)==((x0.length:Nat):Int)) then (
    bif decide (x1.Mod<0) then (
     some false
    ) else (
     bif decide (x1.Mod>1099511627776) then (
      some false
     ) else (
      (dZ (σ:=(List Int)) (ε:=(List Int)) (ρ:=Bool) (fun i0 s0 =>
       bH (i0<x1.Mults.length) <|
       bif decide ((x1.Mults.getD i0 0)<(-1099511627776)) then (
        some (.ret false)
       ) else (
        bif decide ((x1.Mults.getD i0 0)>1099511627776) then (
         some (.ret false)
        ) else (
         bH ((s0.length+1)*8≤140737488355328) <|
         some (.go (s0++[((x0.getD i0 ⟨0,[]⟩).Const)]))
        )
       )
      ) (fun i0 s0=>s0) (x0.length-0) 0 []).bind <| aft fun u0 =>
      (qx x0).bind fun y1 =>
      (dZ (σ:=Unit) (ε:=Unit) (ρ:=Bool) (fun i1 s1 =>
       (dZ (σ:=(List Int)) (ε:=(List Int)) (ρ:=Empty) (fun i2 s2 =>
        (nP (Linear.mk ((x0.getD i2 ⟨0,[]⟩).Const) ((x0.getD i2 ⟨0,[]⟩).Terms)) (y1.getD i1 [])).bind fun y2 =>
        bH ((s2.length+1)*8≤140737488355328) <|
        some (.go (s2++[y2]))
       ) (fun i2 s2=>s2) (x0.length-0) 0 []).bind <| dG fun u1 =>
       (pz x1.Mults u1).bind fun y3 =>
       bif (y3.2==0) then (
        (iZ y3.1 x1.Mod).bind fun y4 =>
        bif y4 then (
         some (.go ())
        ) else (
         some (.ret false)
        )
       ) else (
        some (.ret false)
       )
      ) (fun i1 s1=>()) (y1.length-0) 0 ()).bind <| aft fun u2 =>
      (pz x1.Mults u0).bind fun y5 =>
      bif (y5.2==0) then (
       (iZ y5.1 x1.Mod).bind fun y6 =>
       some (!y6)
      ) else (
       some false
      )
     )
    )
   ) else (
    some false
   )
  )
 ) else (
  some false
 )
def lB (x0:List Linear) (x1:ah) (i0:Nat) (s0:List Int):AS:=⟨127,[(0,dS ai x0),(3,.hptr 3 0),(4,.bool false),(5,.rslice 68),(6,nI i0)],[(3,.cells 53 [dS ag x1.Mults,iI x1.Mod]),(68,.row 3 1 (s0.map ag))]⟩
def pf (x0:List Linear) (x1:ah) (u3:List Int):AS:=⟨127,[(0,dS ai x0),(3,.hptr 3 0),(4,.bool false),(5,.rslice 68)],[(3,.cells 53 [dS ag x1.Mults,iI x1.Mod]),(68,.row 3 1 (u3.map ag))]⟩
def kM (x0:List Linear) (x1:ah) (u0:List Int) (y1:List aw) (i1:Nat) (s1:Unit):AS:=⟨127,[(0,dS ai x0),(3,.hptr 3 0),(4,.bool false),(5,.rslice 68),(7,dS bn y1),(8,nI i1)],[(3,.cells 53 [dS ag x1.Mults,iI x1.Mod]),(68,.row 3 1 (u0.map ag))]⟩
def pb (x1:ah) (u0:List Int) (u4:Unit):AS:=⟨127,[(3,.hptr 3 0),(4,.bool false),(5,.rslice 68)],[(3,.cells 53 [dS ag x1.Mults,iI x1.Mod]),(68,.row 3 1 (u0.map ag))]⟩
def kR (x0:List Linear) (x1:ah) (u0:List Int) (y1:List aw) (i1 i2:Nat) (s2:List Int):AS:=⟨127,[(0,dS ai x0),(3,.hptr 3 0),(4,.bool false),(5,.rslice 68),(7,dS bn y1),(8,nI i1),(9,.rslice 94),(10,nI i2)],[(3,.cells 53 [dS ag x1.Mults,iI x1.Mod]),(68,.row 3 1 (u0.map ag)),(94,.row 3 1 (s2.map ag))]⟩
def oX (x0:List Linear) (x1:ah) (u0:List Int) (y1:List aw) (i1:Nat) (u5:List Int):AS:=⟨127,[(0,dS ai x0),(3,.hptr 3 0),(4,.bool false),(5,.rslice 68),(7,dS bn y1),(8,nI i1),(9,.rslice 94)],[(3,.cells 53 [dS ag x1.Mults,iI x1.Mod]),(68,.row 3 1 (u0.map ag)),(94,.row 3 1 (u5.map ag))]⟩
theorem gH (x0:List Linear) (x1:ah) (r:Bool) (H:lV x0 x1=some r):bW Tryz.prog 25 [dS ai x0,.agg [dS ag x1.Mults,iI x1.Mod]] (.bool r):=by
 unfold lV at H;refine aX Tryz.func25 127 [.tmp 4] ?_;refine aP H fun y0 h0 H0 => ?_;refine aV H0 (fun c0 H1 => ?_) (fun c1 H2 => ?_)
 ·refine aV H1 (fun c2 H3 => ?_) (fun c3 H4 => ?_)
  ·obtain rfl:=sI H3;exact pR 9 [r0 [.m,.v],r0 [.v,.c true (.bool true),.v,.v,.v,.e (nI x0.length),.e (.bool true),.v,.v,.s,.s,.s,.s,.s,.s,.v,.v,.s,.s,.s,.v,.v,.s,.s,.s,.v],V1] [] [] (aC Tryz.call13 (aC (bW.eq (dx _ _ h0) (cB c0)) (aT (aT (aC (aJ ai x0) (aB c2 aN))))))
  ·have c3p:=Kl c3;refine aV H4 (fun c4 H5 => ?_) (fun c5 H6 => ?_)
   ·refine aV H5 (fun c6 H7 => ?_) (fun c7 H8 => ?_)
    ·obtain rfl:=sI H7;exact pR 9 [r0 [.m,.v],r0 [.v,.c true (.bool true),.v,.v,.v,.e (nI x0.length),.e (.bool false),.v,.v,.v,.v,.e (nI x1.Mults.length),.v,.e (nI x0.length),.e (.bool false),.v,.v,.v,.v,.e (.bool true),.v,.v,.s,.s,.s,.v],V1] [] [] (aC Tryz.call13 (aC (bW.eq (dx _ _ h0) (cB c0)) (aT (aT (aC (aJ ai x0) (aB c3 (aT (aC (aJ ag x1.Mults) (aT (aC (aJ ai x0) (aM c4 (aB c6 aN))))))))))))
    ·have c7p:=Kl c7;refine pA 5 [r0 [.m,.v],r0 [.v,.c true (.bool true),.v,.v,.v,.e (nI x0.length),.e (.bool false),.v,.v,.v,.v,.e (nI x1.Mults.length),.v,.e (nI x0.length),.e (.bool false),.v,.v,.v,.v,.e (.bool false),.v,.v,.v,.v,.v,.v]] [.only [0,3,4,40] [3]] 5 [] ⟨127,[(0,dS ai x0),(3,.hptr 3 0),(4,.bool false),(40,.bool (decide (x1.Mod>1099511627776)))],[(3,.cells 53 [dS ag x1.Mults,iI x1.Mod])]⟩ (aC Tryz.call13 (aC (bW.eq (dx _ _ h0) (cB c0)) (aT (aT (aC (aJ ai x0) (aB c3 (aT (aC (aJ ag x1.Mults) (aT (aC (aJ ai x0) (aM c4 (aB c7 aN)))))))))))) ?_;refine aV H8 (fun c8 H9 => ?_) (fun c9 H10 => ?_)
     ·obtain rfl:=sI H9;exact pR 5 [.eqT 40 (.bool true),V1] [] [] (aB c8 aN)
     ·have c9p:=Kl c9;refine pA 9 [.eqT 40 (.bool false),V1,V1] [.er 5 68 3 1,.only [0,3,4,5,6] [3,68]] 8 [false] (lB x0 x1 0 []) (aB c9 aN) ?_;refine aP H10 fun R0 h1 H11 => ?_;refine pJ 1 (pf x0 x1) R0 ?_ (fun u0 e0 => ?_)
      ·refine pC (lB x0 x1) h1 (fun i0 s0 h2 e1 => ?_) (fun i0 s0 h3 q0 h4 h5 => ?_)
       ·have c10:=lF i0 x0.length (by omega);subst e1;exact pB 5 [r0 [.v,.v,.e (nI x0.length),.e (.bool false)]] [.only [0,3,4,5] [3,68]] (pf x0 x1 s0) (aT (aC (aJ ai x0) (aB c10 aN)))
       ·have c11:=lT i0 x0.length (by omega);refine aG h4 fun g0 H12 => ?_;refine aV H12 (fun c12 H13 => ?_) (fun c13 H14 => ?_)
        ·have c12p:=Km c12;obtain rfl:=sI H13;obtain rfl:=aR h5;obtain rfl:=sI (aA H11);exact pR 14 [r0 [.v,.v,.e (nI x0.length),.e (.bool true)],r0 [.v,.v,.v,.e (.dptr [iI (x1.Mults.getD i0 0)]),.v,.e (.bool true),.v,.s,.s,.s,.s,.s,.s,.v],V1] [] [] (aT (aC (aJ ai x0) (aB c11 (aI cb x1.Mults i0 0 (aB c12 aN)))))
        ·have c13p:=Kl c13;refine pA 10 [r0 [.v,.v,.e (nI x0.length),.e (.bool true)],r0 [.v,.v,.v,.e (.dptr [iI (x1.Mults.getD i0 0)]),.v,.e (.bool false),.v,.v,.v,.v,.e (.dptr [iI (x1.Mults.getD i0 0)]),.v,.v,.v]] [.only [0,3,4,5,6,60] [3,68]] 10 [true] ⟨127,[(0,dS ai x0),(3,.hptr 3 0),(4,.bool false),(5,.rslice 68),(6,nI i0),(60,.bool (decide ((x1.Mults.getD i0 0)>1099511627776)))],[(3,.cells 53 [dS ag x1.Mults,iI x1.Mod]),(68,.row 3 1 (s0.map ag))]⟩ (aT (aC (aJ ai x0) (aB c11 (aI cb x1.Mults i0 0 (aB c13 (aI cb x1.Mults i0 0 aN)))))) ?_;refine aV H14 (fun c14 H15 => ?_) (fun c15 H16 => ?_)
         ·obtain rfl:=sI H15;obtain rfl:=aR h5;obtain rfl:=sI (aA H11);exact pR 5 [.eqT 60 (.bool true),V1] [] [] (aB c14 aN)
         ·have c15p:=Kl c15;refine aG H16 fun g1 H17 => ?_;refine b7 0 (ps:=[(x0.map ai).length≤9223372036854775807]) (by kernel_rfl) (fun l0 => ?_);have l1:x0.length≤9223372036854775807:=by simpa only [bB,Kp] using l0
          clear l0;obtain rfl:=sI H17;exact pB 5 [.eqT 60 (.bool false),r0 [.v,.v,.v,.e (.dptr (ai (x0.getD i0 ⟨0,[]⟩))),.v,.v,.b,.ap,.rwH 68 (.row 3 1 ((s0++[((x0.getD i0 ⟨0,[]⟩).Const)]).map ag)),.v],V3] [.only [0,3,4,5,6] [3,68]] (lB x0 x1 (i0+1) (s0++[((x0.getD i0 ⟨0,[]⟩).Const)])) (aB c15 (aI a8 x0 i0 ⟨0,[]⟩ (bF (wD (c:=ag) jL s0 [((x0.getD i0 ⟨0,[]⟩).Const)] 8 (by decide) (by simpa using g1)) (aC (zO 3 1 ag s0 [((x0.getD i0 ⟨0,[]⟩).Const)]) (aH i0 aN)))))
      ·subst e0;have H18:=bp H11;refine aP H18 fun y1 h6 H19 => ?_;refine pA 6 [r0 [.v,.c true (dS bn y1),.v],V1] [.only [0,3,4,5,7,8] [3,68]] 6 [] (kM x0 x1 u0 y1 0 ()) (aC Tryz.call44 (aF (yx _ _ h6) aN)) ?_;refine aP H19 fun R1 h7 H20 => ?_;refine pJ 1 (pb x1 u0) R1 ?_ (fun u2 e2 => ?_)
       ·refine pC (kM x0 x1 u0 y1) h7 (fun i1 s1 h8 e3 => ?_) (fun i1 s1 h9 q1 h10 h11 => ?_)
        ·have c16:=lF i1 y1.length (by omega);subst e3;exact pB 5 [r0 [.v,.v,.e (nI y1.length),.e (.bool false)]] [.only [3,4,5] [3,68]] (pb x1 u0 ()) (aT (aC (aJ bn y1) (aB c16 aN)))
        ·have c17:=lT i1 y1.length (by omega);refine pA 13 [r0 [.v,.v,.e (nI y1.length),.e (.bool true)],V1,V1] [.er 9 94 3 1,.only [0,3,4,5,7,8,9,10] [3,68,94]] 13 [true] (kR x0 x1 u0 y1 i1 0 []) (aT (aC (aJ bn y1) (aB c17 aN))) ?_;refine aP h10 fun R2 h12 H21 => ?_;refine pJ 1 (oX x0 x1 u0 y1 i1) R2 ?_ (fun u1 e4 => ?_)
         ·refine pC (kR x0 x1 u0 y1 i1) h12 (fun i2 s2 h13 e5 => ?_) (fun i2 s2 h14 q2 h15 h16 => ?_)
          ·have c18:=lF i2 x0.length (by omega);subst e5;exact pB 5 [r0 [.v,.v,.e (nI x0.length),.e (.bool false)]] [.only [0,3,4,5,7,8,9] [3,68,94]] (oX x0 x1 u0 y1 i1 s2) (aT (aC (aJ ai x0) (aB c18 aN)))
          ·have c19:=lT i2 x0.length (by omega);refine aP h15 fun y2 h17 H22 => ?_;refine aG H22 fun g2 H23 => ?_;refine b7 0 (ps:=[(x0.map ai).length≤9223372036854775807]) (by kernel_rfl) (fun l2 => ?_);have l3:x0.length≤9223372036854775807:=by simpa only [bB,Kp] using l2
           clear l2;obtain rfl:=sI H23;exact pB 9 [r0 [.v,.v,.e (nI x0.length),.e (.bool true)],.rg 11 [.v,.v,.v,.e (.dptr (ai (x0.getD i2 ⟨0,[]⟩))),.v,.v,.v,.e (.dptr [.str (y1.getD i1 [])]),.v,.c true (iI y2),.b] [.ap,.rwH 94 (.row 3 1 ((s2++[y2]).map ag)),.v],V3] [.only [0,3,4,5,7,8,9,10] [3,68,94]] (kR x0 x1 u0 y1 i1 (i2+1) (s2++[y2])) (aT (aC (aJ ai x0) (aB c19 (aI a8 x0 i2 ⟨0,[]⟩ (aI pr y1 i1 [] (aC Tryz.call12 (aF (ri _ _ _ h17) (bF (wD (c:=ag) jL s2 [y2] 8 (by decide) (by simpa using g2)) (aC (zO 3 1 ag s2 [y2]) (aH i2 aN))))))))))
         ·subst e4;have H24:=bI H21;refine aP H24 fun y3 h18 H25 => ?_;refine aV H25 (fun c20 H26 => ?_) (fun c21 H27 => ?_)
          ·refine aP H26 fun y4 h19 H28 => ?_;refine pA 4 [r0 [.v,.v,.v,.c false (.tup [iI y3.1,iI y3.2]),.v,.v,.v,.v,.v],r0 [.v,.e (.bool false),.v,.v,.v,.v,.c true (.bool y4),.v,.v]] [.only [0,3,4,5,7,8,110] [3,68]] 4 [] ⟨127,[(0,dS ai x0),(3,.hptr 3 0),(4,.bool false),(5,.rslice 68),(7,dS bn y1),(8,nI i1),(110,.bool (!y4))],[(3,.cells 53 [dS ag x1.Mults,iI x1.Mod]),(68,.row 3 1 (u0.map ag))]⟩ (aC Tryz.call52 (aF (mb _ _ _ h18) (aM c20 (aC Tryz.call53 (aF (nw _ _ _ h19) (aT aN)))))) ?_;refine aV H28 (fun c22 H29 => ?_) (fun c23 H30 => ?_)
           ·refine b7 7 (ps:=[(y1.map bn).length≤9223372036854775807]) (by kernel_rfl) (fun l4 => ?_);have l5:y1.length≤9223372036854775807:=by simpa only [bB,Kp] using l4
            clear l4;obtain rfl:=sI H29;exact pB 4 [.eqT 110 (.bool false),V3] [.only [0,3,4,5,7,8] [3,68]] (kM x0 x1 u0 y1 (i1+1) ()) (aM c22 (aH i1 aN))
           ·obtain rfl:=sI H30;obtain rfl:=aR h11;obtain rfl:=sI (aA H20);exact pR 5 [.eqT 110 (.bool true),V1] [] [] (aM c23 aN)
          ·obtain rfl:=sI H27;obtain rfl:=aR h11;obtain rfl:=sI (aA H20);exact pR 8 [r0 [.v,.v,.v,.c false (.tup [iI y3.1,iI y3.2]),.v,.v,.v,.v,.v],r0 [.v,.e (.bool true),.v,.s,.s,.s,.s,.s,.v],V1] [] [] (aC Tryz.call52 (aF (mb _ _ _ h18) (aM c21 aN)))
       ·subst e2;have H31:=bp H20;refine aP H31 fun y5 h20 H32 => ?_;refine aV H32 (fun c24 H33 => ?_) (fun c25 H34 => ?_)
        ·refine aP H33 fun y6 h21 H35 => ?_;obtain rfl:=sI H35;exact pR 5 [r0 [.v,.v,.v,.c false (.tup [iI y5.1,iI y5.2]),.v,.v,.v,.v,.v],r0 [.v,.e (.bool true),.v,.v,.v,.v,.c true (.bool y6),.v,.v,.v]] [] [] (aC Tryz.call52 (aF (mb _ _ _ h20) (aB c24 (aC Tryz.call53 (aF (nw _ _ _ h21) (aT aN))))))
        ·obtain rfl:=sI H34;exact pR 5 [r0 [.v,.v,.v,.c false (.tup [iI y5.1,iI y5.2]),.v,.v,.v,.v,.v],r0 [.v,.e (.bool false),.v,.s,.s,.s,.s,.s,.v,.v]] [] [] (aC Tryz.call52 (aF (mb _ _ _ h20) (aB c25 aN)))
   ·obtain rfl:=sI H6;exact pR 9 [r0 [.m,.v],r0 [.v,.c true (.bool true),.v,.v,.v,.e (nI x0.length),.e (.bool false),.v,.v,.v,.v,.e (nI x1.Mults.length),.v,.e (nI x0.length),.e (.bool true),.v,.v,.s,.s,.s,.v,.v,.s,.s,.s,.v],V1] [] [] (aC Tryz.call13 (aC (bW.eq (dx _ _ h0) (cB c0)) (aT (aT (aC (aJ ai x0) (aB c3 (aT (aC (aJ ag x1.Mults) (aT (aC (aJ ai x0) (aM c5 aN)))))))))))
 ·obtain rfl:=sI H2;exact pR 9 [r0 [.m,.v],r0 [.v,.c true (.bool false),.v,.v,.s,.s,.s,.v,.v,.s,.s,.s,.s,.s,.s,.v,.v,.s,.s,.s,.v,.v,.s,.s,.s,.v],V1] [] [] (aC Tryz.call13 (aC (bW.eq (dx _ _ h0) (cB c1)) (aT aN)))
def cY (x0 x1:Int):Option Bool :=
 bif (x1==0) then (
  some (x0==0)
 ) else (
  bH ((x1:Int)≠0) <|
  some ((x0.tmod x1)==0)
 )
theorem kc (x0 x1:Int) (r:Bool) (H:cY x0 x1=some r):bW Tryz.prog 48 [iI x0,iI x1] (.bool r):=by
 unfold cY at H;refine aX Tryz.func48 13 [.tmp 4] ?_;refine aV H (fun c0 H0 => ?_) (fun c1 H1 => ?_)
 ·obtain rfl:=sI H0;exact pR 10 [V1,V2,.eqT 6 (.bool true),V3] [] [] (aB c0 aN)
 ·refine aG H1 fun g0 H2 => ?_;obtain rfl:=sI H2;exact pR 11 [V1,V2,.eqT 6 (.bool false),V5] [] [] (aB c1 (aC (show (x1:Int)≠0 from g0) aN))
noncomputable def fE (x0:List Linear) (x1:ah):Option Bool :=
 (bX x0).bind fun y0 =>
 bif y0 then (
  bif decide (((x0.length:Nat):Int)>6000) then (
   some false
  ) else (
   bif (((x1.Mults.length:Nat):Int)==((x0.length:Nat):Int)) then (
    bif decide (x1.Mod<0) then (
     some false
    ) else (
     bif decide (x1.Mod>1099511627776) then (
      some false
     ) else (
      bH (8*x0.length≤140737488355328) <|
      (dZ (σ:=(List Int)) (ε:=(List Int)) (ρ:=Bool) (fun i0 s0 =>
       bH (i0<x1.Mults.length) <|
       (bN (x1.Mults.getD i0 0) 0).bind fun y1 =>
       bif y1 then (
        bH (i0<s0.length) <|
        some (.go (s0.set i0 ((x0.getD i0 ⟨0,[]⟩).Const)))
       ) else (
        some (.ret false)
       )
      ) (fun i0 s0=>s0) (x0.length-0) 0 (List.replicate x0.length (0:Int))).bind <| aft fun u0 =>
      (bl x0).bind fun y2 =>
      (dZ (σ:=Unit) (ε:=Unit) (ρ:=Bool) (fun i1 s1 =>
       (dZ (σ:=(List Int)) (ε:=(List Int)) (ρ:=Empty) (fun i2 s2 =>
        (cS (Linear.mk ((x0.getD i2 ⟨0,[]⟩).Const) ((x0.getD i2 ⟨0,[]⟩).Terms)) (y2.getD i1 [])).bind fun y3 =>
        bH (i2<s2.length) <|
        some (.go (s2.set i2 y3))
       ) (fun i2 s2=>s2) (x0.length-0) 0 (List.replicate x0.length (0:Int))).bind <| dG fun u1 =>
       (eC x1.Mults u1).bind fun y4 =>
       bif (y4.2==0) then (
        (cY y4.1 x1.Mod).bind fun y5 =>
        bif y5 then (
         some (.go ())
        ) else (
         some (.ret false)
        )
       ) else (
        some (.ret false)
       )
      ) (fun i1 s1=>()) (y2.length-0) 0 ()).bind <| aft fun u2 =>
      (eC x1.Mults u0).bind fun y6 =>
      bif (y6.2==0) then (
       (cY y6.1 x1.Mod).bind fun y7 =>
       some (!y7)
      ) else (
       some false
      )
     )
    )
   ) else (
    some false
   )
  )
 ) else (
  some false
 )
def ia (x0:List Linear) (x1:ah) (i0:Nat) (s0:List Int):AS:=⟨123,[(0,dS ai x0),(3,.hptr 3 0),(4,.bool false),(5,.rslice 45),(46,dS ai x0),(47,nI x0.length),(48,nI i0)],[(3,.cells 28 [dS ag x1.Mults,iI x1.Mod]),(45,.row 3 1 (s0.map ag))]⟩
def kQ (x0:List Linear) (x1:ah) (u3:List Int):AS:=⟨123,[(0,dS ai x0),(3,.hptr 3 0),(4,.bool false),(5,.rslice 45)],[(3,.cells 28 [dS ag x1.Mults,iI x1.Mod]),(45,.row 3 1 (u3.map ag))]⟩
def iq (x0:List Linear) (x1:ah) (u0:List Int) (y2:List aw) (i1:Nat) (s1:Unit):AS:=⟨123,[(0,dS ai x0),(3,.hptr 3 0),(4,.bool false),(5,.rslice 45),(67,dS bn y2),(68,nI y2.length),(69,nI i1)],[(3,.cells 28 [dS ag x1.Mults,iI x1.Mod]),(45,.row 3 1 (u0.map ag))]⟩
def lr (x1:ah) (u0:List Int) (u4:Unit):AS:=⟨123,[(3,.hptr 3 0),(4,.bool false),(5,.rslice 45)],[(3,.cells 28 [dS ag x1.Mults,iI x1.Mod]),(45,.row 3 1 (u0.map ag))]⟩
def ig (x0:List Linear) (x1:ah) (u0:List Int) (y2:List aw) (i1 i2:Nat) (s2:List Int):AS:=⟨123,[(0,dS ai x0),(3,.hptr 3 0),(4,.bool false),(5,.rslice 45),(9,.str (y2.getD i1 [])),(10,.rslice 75),(67,dS bn y2),(68,nI y2.length),(69,nI i1),(76,dS ai x0),(77,nI x0.length),(78,nI i2)],[(3,.cells 28 [dS ag x1.Mults,iI x1.Mod]),(45,.row 3 1 (u0.map ag)),(75,.row 3 1 (s2.map ag))]⟩
def lQ (x0:List Linear) (x1:ah) (u0:List Int) (y2:List aw) (i1:Nat) (u5:List Int):AS:=⟨123,[(0,dS ai x0),(3,.hptr 3 0),(4,.bool false),(5,.rslice 45),(10,.rslice 75),(67,dS bn y2),(68,nI y2.length),(69,nI i1)],[(3,.cells 28 [dS ag x1.Mults,iI x1.Mod]),(45,.row 3 1 (u0.map ag)),(75,.row 3 1 (u5.map ag))]⟩
theorem fO (x0:List Linear) (x1:ah) (r:Bool) (H:fE x0 x1=some r):bW Tryz.prog 19 [dS ai x0,.agg [dS ag x1.Mults,iI x1.Mod]] (.bool r):=by
 unfold fE at H;refine aX Tryz.func19 123 [.tmp 4] ?_;refine aP H fun y0 h0 H0 => ?_;refine aV H0 (fun c0 H1 => ?_) (fun c1 H2 => ?_)
 ·refine aV H1 (fun c2 H3 => ?_) (fun c3 H4 => ?_)
  ·obtain rfl:=sI H3;exact pR 9 [r0 [.m,.v],r0 [.v,.c true (.bool true),.v,.v,.v,.e (nI x0.length),.e (.bool true),.v,.v,.s,.s,.s,.s,.s,.s,.v,.v,.s,.s,.s,.v,.v,.s,.s,.s,.v],V1] [] [] (aC Tryz.call27 (aC (bW.eq (aW _ _ h0) (cB c0)) (aT (aT (aC (aJ ai x0) (aB c2 aN))))))
  ·have c3p:=Kl c3;refine aV H4 (fun c4 H5 => ?_) (fun c5 H6 => ?_)
   ·refine aV H5 (fun c6 H7 => ?_) (fun c7 H8 => ?_)
    ·obtain rfl:=sI H7;exact pR 9 [r0 [.m,.v],r0 [.v,.c true (.bool true),.v,.v,.v,.e (nI x0.length),.e (.bool false),.v,.v,.v,.v,.e (nI x1.Mults.length),.v,.e (nI x0.length),.e (.bool false),.v,.v,.v,.v,.e (.bool true),.v,.v,.s,.s,.s,.v],V1] [] [] (aC Tryz.call27 (aC (bW.eq (aW _ _ h0) (cB c0)) (aT (aT (aC (aJ ai x0) (aB c3 (aT (aC (aJ ag x1.Mults) (aT (aC (aJ ai x0) (aM c4 (aB c6 aN))))))))))))
    ·have c7p:=Kl c7;refine pA 5 [r0 [.m,.v],r0 [.v,.c true (.bool true),.v,.v,.v,.e (nI x0.length),.e (.bool false),.v,.v,.v,.v,.e (nI x1.Mults.length),.v,.e (nI x0.length),.e (.bool false),.v,.v,.v,.v,.e (.bool false),.v,.v,.v,.v,.v,.v]] [.only [0,3,4,42] [3]] 5 [] ⟨123,[(0,dS ai x0),(3,.hptr 3 0),(4,.bool false),(42,.bool (decide (x1.Mod>1099511627776)))],[(3,.cells 28 [dS ag x1.Mults,iI x1.Mod])]⟩ (aC Tryz.call27 (aC (bW.eq (aW _ _ h0) (cB c0)) (aT (aT (aC (aJ ai x0) (aB c3 (aT (aC (aJ ag x1.Mults) (aT (aC (aJ ai x0) (aM c4 (aB c7 aN)))))))))))) ?_;refine aV H8 (fun c8 H9 => ?_) (fun c9 H10 => ?_)
     ·obtain rfl:=sI H9;exact pR 5 [.eqT 42 (.bool true),V1] [] [] (aB c8 aN)
     ·have c9p:=Kl c9;refine aG H10 fun g0 H11 => ?_;refine pA 9 [.eqT 42 (.bool false),r0 [.v,.e (nI x0.length),.mk x0.length,.rwH 45 (.row 3 1 ((List.replicate x0.length (0:Int)).map ag)),.v],r0 [.v,.e (nI x0.length),.v]] [.only [0,3,4,5,46,47,48] [3,45]] 8 [false] (ia x0 x1 0 (List.replicate x0.length (0:Int))) (aB c9 (aT (aC (aJ ai x0) (aC (show ((x0.length:Nat):Int)=((x0.length:Nat):Int)∧((x0.length:Nat):Int)=((x0.length:Nat):Int)∧8*x0.length≤140737488355328∧x0.length≤9223372036854775807 from ⟨rfl,rfl,by omega,by omega⟩) (aC (v7 (z:=yV Tryz.prog 3) ag (0:Int) x0.length 3 1 (by kernel_rfl)) (aT (aC (aJ ai x0) aN))))))) ?_;refine aP H11 fun R0 h1 H12 => ?_;refine pJ 1 (kQ x0 x1) R0 ?_ (fun u0 e0 => ?_)
      ·refine pC (ia x0 x1) h1 (fun i0 s0 h2 e1 => ?_) (fun i0 s0 h3 q0 h4 h5 => ?_)
       ·have c10:=lF i0 x0.length (by omega);subst e1;exact pB 5 [r0 [.e (.bool false)]] [.only [0,3,4,5] [3,45]] (kQ x0 x1 s0) (aB c10 aN)
       ·have c11:=lT i0 x0.length (by omega);refine aG h4 fun g1 H13 => ?_;refine aP H13 fun y1 h6 H14 => ?_;refine pA 12 [r0 [.e (.bool true)],r0 [.v,.e (.dptr (ai (x0.getD i0 ⟨0,[]⟩))),.v,.m,.v,.m],r0 [.v,.v,.v,.e (.dptr [iI (x1.Mults.getD i0 0)]),.v,.c true (.bool y1),.v]] [.only [0,3,4,5,6,7,46,47,48,59] [3,7,45]] 12 [true] ⟨123,[(0,dS ai x0),(3,.hptr 3 0),(4,.bool false),(5,.rslice 45),(6,nI i0),(7,.hptr 7 0),(46,dS ai x0),(47,nI x0.length),(48,nI i0),(59,.bool (!y1))],[(3,.cells 28 [dS ag x1.Mults,iI x1.Mod]),(7,.cells 34 (ai (x0.getD i0 ⟨0,[]⟩))),(45,.row 3 1 (s0.map ag))]⟩ (aB c11 (aI a8 x0 i0 ⟨0,[]⟩ (aI cb x1.Mults i0 0 (aC Tryz.call45 (aF (cQ _ _ _ h6) (aT aN)))))) ?_;refine aV H14 (fun c12 H15 => ?_) (fun c13 H16 => ?_)
        ·refine aG H15 fun g2 H17 => ?_;refine b7 0 (ps:=[(x0.map ai).length≤9223372036854775807]) (by kernel_rfl) (fun l0 => ?_);have l1:x0.length≤9223372036854775807:=by simpa only [bB,Kp] using l0
         clear l0;obtain rfl:=sI H17;exact pB 5 [.eqT 59 (.bool false),r0 (V 5 [.rs i0 0,.rwH 45 (.row 3 1 ((s0.set i0 ((x0.getD i0 ⟨0,[]⟩).Const)).map ag))]),V2] [.only [0,3,4,5,46,47,48] [3,45]] (ia x0 x1 (i0+1) (s0.set i0 ((x0.getD i0 ⟨0,[]⟩).Const))) (aM c12 (aC (show (0:Int)≤((i0:Nat):Int)∧((i0:Nat):Int)<((s0.map ag).length:Int) from by rw [Kp];omega) (aC (gR (f:=ag) (l:=s0) (n:=i0) 1 0 1 (by omega) (by decide)) (aC (r7 (f:=ag) 3 1 s0 i0 0 ((x0.getD i0 ⟨0,[]⟩).Const) 0 [iI ((x0.getD i0 ⟨0,[]⟩).Const)] (by omega) rfl) (aH i0 aN)))))
        ·obtain rfl:=sI H16;obtain rfl:=aR h5;obtain rfl:=sI (aA H12);exact pR 5 [.eqT 59 (.bool true),V1] [] [] (aM c13 aN)
      ·subst e0;have H18:=bp H12;refine aP H18 fun y2 h7 H19 => ?_;refine pA 4 [r0 [.v,.c true (dS bn y2),.e (nI y2.length),.v]] [.only [0,3,4,5,67,68,69] [3,45]] 4 [] (iq x0 x1 u0 y2 0 ()) (aC Tryz.call31 (aF (cU _ _ h7) (aT (aC (aJ bn y2) aN)))) ?_;refine aP H19 fun R1 h8 H20 => ?_;refine pJ 1 (lr x1 u0) R1 ?_ (fun u2 e2 => ?_)
       ·refine pC (iq x0 x1 u0 y2) h8 (fun i1 s1 h9 e3 => ?_) (fun i1 s1 h10 q1 h11 h12 => ?_)
        ·have c14:=lF i1 y2.length (by omega);subst e3;exact pB 5 [r0 [.e (.bool false)]] [.only [3,4,5] [3,45]] (lr x1 u0 ()) (aB c14 aN)
        ·have c15:=lT i1 y2.length (by omega);refine pA 15 [r0 [.e (.bool true)],r0 [.e (.dptr [.str (y2.getD i1 [])]),.v,.v],r0 [.v,.e (nI x0.length),.mk x0.length,.rwH 75 (.row 3 1 ((List.replicate x0.length (0:Int)).map ag)),.v],r0 [.v,.e (nI x0.length),.v]] [.only [0,3,4,5,9,10,67,68,69,76,77,78] [3,45,75]] 15 [true] (ig x0 x1 u0 y2 i1 0 (List.replicate x0.length (0:Int))) (aB c15 (aI pr y2 i1 [] (aT (aC (aJ ai x0) (aC (show ((x0.length:Nat):Int)=((x0.length:Nat):Int)∧((x0.length:Nat):Int)=((x0.length:Nat):Int)∧8*x0.length≤140737488355328∧x0.length≤9223372036854775807 from ⟨rfl,rfl,by omega,by omega⟩) (aC (v7 (z:=yV Tryz.prog 3) ag (0:Int) x0.length 3 1 (by kernel_rfl)) (aT (aC (aJ ai x0) aN)))))))) ?_;refine aP h11 fun R2 h13 H21 => ?_;refine pJ 1 (lQ x0 x1 u0 y2 i1) R2 ?_ (fun u1 e4 => ?_)
         ·refine pC (ig x0 x1 u0 y2 i1) h13 (fun i2 s2 h14 e5 => ?_) (fun i2 s2 h15 q2 h16 h17 => ?_)
          ·have c16:=lF i2 x0.length (by omega);subst e5;exact pB 5 [r0 [.e (.bool false)]] [.only [0,3,4,5,10,67,68,69] [3,45,75]] (lQ x0 x1 u0 y2 i1 s2) (aB c16 aN)
          ·have c17:=lT i2 x0.length (by omega);refine aP h16 fun y3 h18 H22 => ?_;refine aG H22 fun g3 H23 => ?_;refine b7 0 (ps:=[(x0.map ai).length≤9223372036854775807]) (by kernel_rfl) (fun l2 => ?_);have l3:x0.length≤9223372036854775807:=by simpa only [bB,Kp] using l2
           clear l2;obtain rfl:=sI H23;exact pB 11 [r0 [.e (.bool true)],r0 [.v,.e (.dptr (ai (x0.getD i2 ⟨0,[]⟩))),.v,.m,.v,.m],r0 (V 4 [.c true (iI y3),.v,.rs i2 0,.rwH 75 (.row 3 1 ((s2.set i2 y3).map ag))]),V2] [.only [0,3,4,5,9,10,67,68,69,76,77,78] [3,45,75]] (ig x0 x1 u0 y2 i1 (i2+1) (s2.set i2 y3)) (aB c17 (aI a8 x0 i2 ⟨0,[]⟩ (aC Tryz.call46 (aF (gG _ _ _ h18) (aC (show (0:Int)≤((i2:Nat):Int)∧((i2:Nat):Int)<((s2.map ag).length:Int) from by rw [Kp];omega) (aC (gR (f:=ag) (l:=s2) (n:=i2) 1 0 1 (by omega) (by decide)) (aC (r7 (f:=ag) 3 1 s2 i2 0 y3 0 [iI y3] (by omega) rfl) (aH i2 aN))))))))
         ·subst e4;have H24:=bI H21;refine aP H24 fun y4 h19 H25 => ?_;refine aV H25 (fun c18 H26 => ?_) (fun c19 H27 => ?_)
          ·refine aP H26 fun y5 h20 H28 => ?_;refine pA 4 [r0 [.v,.v,.v,.c false (.tup [iI y4.1,iI y4.2]),.v,.v,.v,.v,.v],r0 [.v,.e (.bool false),.v,.v,.v,.v,.c true (.bool y5),.v,.v]] [.only [0,3,4,5,67,68,69,105] [3,45]] 4 [] ⟨123,[(0,dS ai x0),(3,.hptr 3 0),(4,.bool false),(5,.rslice 45),(67,dS bn y2),(68,nI y2.length),(69,nI i1),(105,.bool (!y5))],[(3,.cells 28 [dS ag x1.Mults,iI x1.Mod]),(45,.row 3 1 (u0.map ag))]⟩ (aC Tryz.call47 (aF (gN _ _ _ h19) (aM c18 (aC Tryz.call48 (aF (kc _ _ _ h20) (aT aN)))))) ?_;refine aV H28 (fun c20 H29 => ?_) (fun c21 H30 => ?_)
           ·refine b7 67 (ps:=[(y2.map bn).length≤9223372036854775807]) (by kernel_rfl) (fun l4 => ?_);have l5:y2.length≤9223372036854775807:=by simpa only [bB,Kp] using l4
            clear l4;obtain rfl:=sI H29;exact pB 4 [.eqT 105 (.bool false),V2] [.only [0,3,4,5,67,68,69] [3,45]] (iq x0 x1 u0 y2 (i1+1) ()) (aM c20 (aH i1 aN))
           ·obtain rfl:=sI H30;obtain rfl:=aR h12;obtain rfl:=sI (aA H20);exact pR 5 [.eqT 105 (.bool true),V1] [] [] (aM c21 aN)
          ·obtain rfl:=sI H27;obtain rfl:=aR h12;obtain rfl:=sI (aA H20);exact pR 8 [r0 [.v,.v,.v,.c false (.tup [iI y4.1,iI y4.2]),.v,.v,.v,.v,.v],r0 [.v,.e (.bool true),.v,.s,.s,.s,.s,.s,.v],V1] [] [] (aC Tryz.call47 (aF (gN _ _ _ h19) (aM c19 aN)))
       ·subst e2;have H31:=bp H20;refine aP H31 fun y6 h21 H32 => ?_;refine aV H32 (fun c22 H33 => ?_) (fun c23 H34 => ?_)
        ·refine aP H33 fun y7 h22 H35 => ?_;obtain rfl:=sI H35;exact pR 5 [r0 [.v,.v,.v,.c false (.tup [iI y6.1,iI y6.2]),.v,.v,.v,.v,.v],r0 [.v,.e (.bool true),.v,.v,.v,.v,.c true (.bool y7),.v,.v,.v]] [] [] (aC Tryz.call47 (aF (gN _ _ _ h21) (aB c22 (aC Tryz.call48 (aF (kc _ _ _ h22) (aT aN))))))
        ·obtain rfl:=sI H34;exact pR 5 [r0 [.v,.v,.v,.c false (.tup [iI y6.1,iI y6.2]),.v,.v,.v,.v,.v],r0 [.v,.e (.bool false),.v,.s,.s,.s,.s,.s,.v,.v]] [] [] (aC Tryz.call47 (aF (gN _ _ _ h21) (aB c23 aN)))
   ·obtain rfl:=sI H6;exact pR 9 [r0 [.m,.v],r0 [.v,.c true (.bool true),.v,.v,.v,.e (nI x0.length),.e (.bool false),.v,.v,.v,.v,.e (nI x1.Mults.length),.v,.e (nI x0.length),.e (.bool true),.v,.v,.s,.s,.s,.v,.v,.s,.s,.s,.v],V1] [] [] (aC Tryz.call27 (aC (bW.eq (aW _ _ h0) (cB c0)) (aT (aT (aC (aJ ai x0) (aB c3 (aT (aC (aJ ag x1.Mults) (aT (aC (aJ ai x0) (aM c5 aN)))))))))))
 ·obtain rfl:=sI H2;exact pR 9 [r0 [.m,.v],r0 [.v,.c true (.bool false),.v,.v,.s,.s,.s,.v,.v,.s,.s,.s,.s,.s,.s,.v,.v,.s,.s,.s,.v,.v,.s,.s,.s,.v],V1] [] [] (aC Tryz.call27 (aC (bW.eq (aW _ _ h0) (cB c1)) (aT aN)))
noncomputable def iC   : Option Bool :=
 (fF 2 3 (-1)).bind fun y0 =>
 (aU [y0] 1).bind fun y1 =>
 (fF 2 (-4) 1).bind fun y2 =>
 (aU [y2,(Linear.mk 0 [])] 1).bind fun y3 =>
 (pD [107]).bind fun y4 =>
 (fF 1 0 1).bind fun y5 =>
 (fF 1 1 0).bind fun y6 =>
 (cZ (Linear.mk 0 []) y4 3).bind fun y7 =>
 (fC [y5,y6] [y4,y7]).bind fun y8 =>
 bif (y1.2.2.2==0) then (
  bif (y3.2.2.2==9) then (
   bif (y8.2==0) then (
    bif (y1.2.1==2) then (
     bif (((y1.1.length:Nat):Int)==2) then (
      bH (0<y1.1.length) <|
      bif (((y1.1.getD 0 (⟨0,[],⟨0,[]⟩,⟨[],[]⟩,[]⟩)).Var)==[109]) then (
       (dw (Linear.mk (((y1.1.getD 0 (⟨0,[],⟨0,[]⟩,⟨[],[]⟩,[]⟩)).Dim).Const) (((y1.1.getD 0 (⟨0,[],⟨0,[]⟩,⟨[],[]⟩,[]⟩)).Dim).Terms))).bind fun y9 =>
       bif (y9==[45,50,95,49,45,49]) then (
        bH (1<y1.1.length) <|
        (dw (Linear.mk (((y1.1.getD 1 (⟨0,[],⟨0,[]⟩,⟨[],[]⟩,[]⟩)).Dim).Const) (((y1.1.getD 1 (⟨0,[],⟨0,[]⟩,⟨[],[]⟩,[]⟩)).Dim).Terms))).bind fun y10 =>
        bif (y10==[51,95,49,43,50]) then (
         (lV [y2,(Linear.mk 0 [])] y3.2.2.1).bind fun y11 =>
         bif y11 then (
          (fE [y2,(Linear.mk 0 [])] (ah.mk [1,0] 2)).bind fun y12 =>
          bif y12 then (
           bif (((y8.1.length:Nat):Int)==2) then (
            bH (0<y8.1.length) <|
            (dw (Linear.mk (((y8.1.getD 0 (⟨0,[],⟨0,[]⟩,⟨[],[]⟩,[]⟩)).Dim).Const) (((y8.1.getD 0 (⟨0,[],⟨0,[]⟩,⟨[],[]⟩,[]⟩)).Dim).Terms))).bind fun y13 =>
            bif (y13==[50,107,43,49]) then (
             bH (1<y8.1.length) <|
             (dw (Linear.mk (((y8.1.getD 1 (⟨0,[],⟨0,[]⟩,⟨[],[]⟩,[]⟩)).Dim).Const) (((y8.1.getD 1 (⟨0,[],⟨0,[]⟩,⟨[],[]⟩,[]⟩)).Dim).Terms))).bind fun y14 =>
             some (y14==[107,45,49])
            ) else (
             some false
            )
           ) else (
            some false
           )
          ) else (
           some false
          )
         ) else (
          some false
         )
        ) else (
         some false
        )
       ) else (
        some false
       )
      ) else (
       some false
      )
     ) else (
      some false
     )
    ) else (
     some false
    )
   ) else (
    some false
   )
  ) else (
   some false
  )
 ) else (
  some false
 )
theorem gK   (r:Bool) (H:iC  = some r):bW Tryz.prog 7 [] (.bool r):=by
 unfold iC at H;refine aX Tryz.func7 118 [.tmp 0] ?_;refine aP H fun y0 h0 H0 => ?_;refine aP H0 fun y1 h1 H1 => ?_;refine aP H1 fun y2 h2 H2 => ?_;refine aP H2 fun y3 h3 H3 => ?_;refine aP H3 fun y4 h4 H4 => ?_;refine aP H4 fun y5 h5 H5 => ?_;refine aP H5 fun y6 h6 H6 => ?_;refine aP H6 fun y7 h7 H7 => ?_;refine aP H7 fun y8 h8 H8 => ?_;refine pA 13 [V1,r0 [.c true (.agg [iI y0.Const,dS aj y0.Terms]),.b,.c true (.tup [dS al y1.1,iI y1.2.1,.agg [dS ag y1.2.2.1.Mults,iI y1.2.2.1.Mod],iI y1.2.2.2]),.v,.v,.v,.v,.v,.m,.v,.v,.m,.v],r0 [.c true (.agg [iI y2.Const,dS aj y2.Terms]),.b,.b,.wk 23 [(1,1)],.v],r0 [.v,.c true (.tup [dS al y3.1,iI y3.2.1,.agg [dS ag y3.2.2.1.Mults,iI y3.2.2.1.Mod],iI y3.2.2.2]),.v,.v,.v,.v,.v,.m,.v,.v,.m,.v],r0 [.c true (.agg [iI y4.Const,dS aj y4.Terms]),.m,.m],.rg 13 [.c true (.agg [iI y5.Const,dS aj y5.Terms]),.c true (.agg [iI y6.Const,dS aj y6.Terms]),.b,.v,.b,.v,.cw true [(0,[(1,0)])] (.agg [iI y7.Const,dS aj y7.Terms]),.b,.c true (.tup [dS al y8.1,iI y8.2]),.v,.v,.v,.v] [.v]] [.only [0,1,2,4,5,8,9,11,12] [8]] 13 [] ⟨118,[(0,.bool false),(1,dS al y1.1),(2,iI y1.2.1),(4,iI y1.2.2.2),(5,.dslice ([y2,(Linear.mk 0 [])].map ai)),(8,.hptr 8 0),(9,iI y3.2.2.2),(11,dS al y8.1),(12,iI y8.2)],[(8,.cells 28 [dS ag y3.2.2.1.Mults,iI y3.2.2.1.Mod])]⟩ (aC Tryz.call21 (aF (lY _ _ _ _ h0) (aC Tryz.call9 (aF (bS _ _ _ h1) (aC Tryz.call21 (aF (lY _ _ _ _ h2) (aC Tryz.call9 (aF (bS _ _ _ h3) (aC Tryz.call22 (aF (zY _ _ h4) (aC Tryz.call21 (aF (lY _ _ _ _ h5) (aC Tryz.call21 (aF (lY _ _ _ _ h6) (aC Tryz.call16 (aF (jG _ _ _ _ h7) (aC Tryz.call23 (aF (q9 _ _ _ h8) aN)))))))))))))))))) ?_;refine aV H8 (fun c0 H9 => ?_) (fun c1 H10 => ?_)
 ·refine aV H9 (fun c2 H11 => ?_) (fun c3 H12 => ?_)
  ·refine aV H11 (fun c4 H13 => ?_) (fun c5 H14 => ?_)
   ·refine aV H13 (fun c6 H15 => ?_) (fun c7 H16 => ?_)
    ·refine aV H15 (fun c8 H17 => ?_) (fun c9 H18 => ?_)
     ·refine aG H17 fun g0 H19 => ?_;refine aV H19 (fun c10 H20 => ?_) (fun c11 H21 => ?_)
      ·refine aP H20 fun y9 h9 H22 => ?_;refine aV H22 (fun c12 H23 => ?_) (fun c13 H24 => ?_)
       ·refine aG H23 fun g1 H25 => ?_;refine aP H25 fun y10 h10 H26 => ?_;refine aV H26 (fun c14 H27 => ?_) (fun c15 H28 => ?_)
        ·refine aP H27 fun y11 h11 H29 => ?_;refine aV H29 (fun c16 H30 => ?_) (fun c17 H31 => ?_)
         ·refine aP H30 fun y12 h12 H32 => ?_;refine aV H32 (fun c18 H33 => ?_) (fun c19 H34 => ?_)
          ·refine aV H33 (fun c20 H35 => ?_) (fun c21 H36 => ?_)
           ·refine aG H35 fun g2 H37 => ?_;refine aP H37 fun y13 h13 H38 => ?_;refine aV H38 (fun c22 H39 => ?_) (fun c23 H40 => ?_)
            ·refine aG H39 fun g3 H41 => ?_;refine aP H41 fun y14 h14 H42 => ?_;obtain rfl:=sI H42;exact pR 2 [r0 [.v,.e (.bool true),.v,.v,.e (.bool true),.v,.v,.v,.e (.bool true),.v,.v,.v,.e (.bool true),.v,.v,.v,.e (nI y1.1.length),.e (.bool true),.v,.v,.v,.e (.dptr (al (y1.1.getD 0 (⟨0,[],⟨0,[]⟩,⟨[],[]⟩,[]⟩)))),.v,.v,.e (.bool true),.v,.v,.v,.e (.dptr (al (y1.1.getD 0 (⟨0,[],⟨0,[]⟩,⟨[],[]⟩,[]⟩)))),.v,.v,.c true (.str y9),.e (.bool true),.v,.v,.v,.e (.dptr (al (y1.1.getD 1 (⟨0,[],⟨0,[]⟩,⟨[],[]⟩,[]⟩)))),.v,.v,.c true (.str y10),.e (.bool true),.v,.v,.v,.v,.c true (.bool true),.v,.v,.v,.b,.b,.c true (.bool true),.v,.v,.v,.e (nI y8.1.length),.e (.bool true),.v,.v,.v,.e (.dptr (al (y8.1.getD 0 (⟨0,[],⟨0,[]⟩,⟨[],[]⟩,[]⟩)))),.v,.v,.c true (.str y13),.e (.bool true),.v,.v,.v,.e (.dptr (al (y8.1.getD 1 (⟨0,[],⟨0,[]⟩,⟨[],[]⟩,[]⟩)))),.v,.v,.c true (.str y14),.v,.v,.v]] [] [] (aB c0 (aB c2 (aB c4 (aB c6 (aT (aC (aJ al y1.1) (aB c8 (aI aQ y1.1 0 (⟨0,[],⟨0,[]⟩,⟨[],[]⟩,[]⟩) (aB c10 (aI aQ y1.1 0 (⟨0,[],⟨0,[]⟩,⟨[],[]⟩,[]⟩) (aC Tryz.call24 (aF (bt _ _ h9) (aB c12 (aI aQ y1.1 1 (⟨0,[],⟨0,[]⟩,⟨[],[]⟩,[]⟩) (aC Tryz.call24 (aF (bt _ _ h10) (aB c14 (aC Tryz.call25 (aC (bW.eq (gH _ _ _ h11) (cB c16)) (aC Tryz.call19 (aC (bW.eq (fO _ _ _ h12) (cB c18)) (aT (aC (aJ al y8.1) (aB c20 (aI aQ y8.1 0 (⟨0,[],⟨0,[]⟩,⟨[],[]⟩,[]⟩) (aC Tryz.call24 (aF (bt _ _ h13) (aB c22 (aI aQ y8.1 1 (⟨0,[],⟨0,[]⟩,⟨[],[]⟩,[]⟩) (aC Tryz.call24 (aF (bt _ _ h14) aN)))))))))))))))))))))))))))))))
            ·obtain rfl:=sI H40;exact pR 2 [r0 [.v,.e (.bool true),.v,.v,.e (.bool true),.v,.v,.v,.e (.bool true),.v,.v,.v,.e (.bool true),.v,.v,.v,.e (nI y1.1.length),.e (.bool true),.v,.v,.v,.e (.dptr (al (y1.1.getD 0 (⟨0,[],⟨0,[]⟩,⟨[],[]⟩,[]⟩)))),.v,.v,.e (.bool true),.v,.v,.v,.e (.dptr (al (y1.1.getD 0 (⟨0,[],⟨0,[]⟩,⟨[],[]⟩,[]⟩)))),.v,.v,.c true (.str y9),.e (.bool true),.v,.v,.v,.e (.dptr (al (y1.1.getD 1 (⟨0,[],⟨0,[]⟩,⟨[],[]⟩,[]⟩)))),.v,.v,.c true (.str y10),.e (.bool true),.v,.v,.v,.v,.c true (.bool true),.v,.v,.v,.b,.b,.c true (.bool true),.v,.v,.v,.e (nI y8.1.length),.e (.bool true),.v,.v,.v,.e (.dptr (al (y8.1.getD 0 (⟨0,[],⟨0,[]⟩,⟨[],[]⟩,[]⟩)))),.v,.v,.c true (.str y13),.e (.bool false),.v,.v,.s,.s,.s,.s,.s,.s,.v,.v]] [] [] (aB c0 (aB c2 (aB c4 (aB c6 (aT (aC (aJ al y1.1) (aB c8 (aI aQ y1.1 0 (⟨0,[],⟨0,[]⟩,⟨[],[]⟩,[]⟩) (aB c10 (aI aQ y1.1 0 (⟨0,[],⟨0,[]⟩,⟨[],[]⟩,[]⟩) (aC Tryz.call24 (aF (bt _ _ h9) (aB c12 (aI aQ y1.1 1 (⟨0,[],⟨0,[]⟩,⟨[],[]⟩,[]⟩) (aC Tryz.call24 (aF (bt _ _ h10) (aB c14 (aC Tryz.call25 (aC (bW.eq (gH _ _ _ h11) (cB c16)) (aC Tryz.call19 (aC (bW.eq (fO _ _ _ h12) (cB c18)) (aT (aC (aJ al y8.1) (aB c20 (aI aQ y8.1 0 (⟨0,[],⟨0,[]⟩,⟨[],[]⟩,[]⟩) (aC Tryz.call24 (aF (bt _ _ h13) (aB c23 aN))))))))))))))))))))))))))))
           ·obtain rfl:=sI H36;exact pR 2 [r0 [.v,.e (.bool true),.v,.v,.e (.bool true),.v,.v,.v,.e (.bool true),.v,.v,.v,.e (.bool true),.v,.v,.v,.e (nI y1.1.length),.e (.bool true),.v,.v,.v,.e (.dptr (al (y1.1.getD 0 (⟨0,[],⟨0,[]⟩,⟨[],[]⟩,[]⟩)))),.v,.v,.e (.bool true),.v,.v,.v,.e (.dptr (al (y1.1.getD 0 (⟨0,[],⟨0,[]⟩,⟨[],[]⟩,[]⟩)))),.v,.v,.c true (.str y9),.e (.bool true),.v,.v,.v,.e (.dptr (al (y1.1.getD 1 (⟨0,[],⟨0,[]⟩,⟨[],[]⟩,[]⟩)))),.v,.v,.c true (.str y10),.e (.bool true),.v,.v,.v,.v,.c true (.bool true),.v,.v,.v,.b,.b,.c true (.bool true),.v,.v,.v,.e (nI y8.1.length),.e (.bool false),.v,.v,.s,.s,.s,.s,.s,.s,.v,.v,.s,.s,.s,.s,.s,.s,.v,.v]] [] [] (aB c0 (aB c2 (aB c4 (aB c6 (aT (aC (aJ al y1.1) (aB c8 (aI aQ y1.1 0 (⟨0,[],⟨0,[]⟩,⟨[],[]⟩,[]⟩) (aB c10 (aI aQ y1.1 0 (⟨0,[],⟨0,[]⟩,⟨[],[]⟩,[]⟩) (aC Tryz.call24 (aF (bt _ _ h9) (aB c12 (aI aQ y1.1 1 (⟨0,[],⟨0,[]⟩,⟨[],[]⟩,[]⟩) (aC Tryz.call24 (aF (bt _ _ h10) (aB c14 (aC Tryz.call25 (aC (bW.eq (gH _ _ _ h11) (cB c16)) (aC Tryz.call19 (aC (bW.eq (fO _ _ _ h12) (cB c18)) (aT (aC (aJ al y8.1) (aB c21 aN))))))))))))))))))))))))
          ·obtain rfl:=sI H34;exact pR 2 [r0 [.v,.e (.bool true),.v,.v,.e (.bool true),.v,.v,.v,.e (.bool true),.v,.v,.v,.e (.bool true),.v,.v,.v,.e (nI y1.1.length),.e (.bool true),.v,.v,.v,.e (.dptr (al (y1.1.getD 0 (⟨0,[],⟨0,[]⟩,⟨[],[]⟩,[]⟩)))),.v,.v,.e (.bool true),.v,.v,.v,.e (.dptr (al (y1.1.getD 0 (⟨0,[],⟨0,[]⟩,⟨[],[]⟩,[]⟩)))),.v,.v,.c true (.str y9),.e (.bool true),.v,.v,.v,.e (.dptr (al (y1.1.getD 1 (⟨0,[],⟨0,[]⟩,⟨[],[]⟩,[]⟩)))),.v,.v,.c true (.str y10),.e (.bool true),.v,.v,.v,.v,.c true (.bool true),.v,.v,.v,.b,.b,.c true (.bool false),.v,.v,.s,.s,.s,.v,.v,.s,.s,.s,.s,.s,.s,.v,.v,.s,.s,.s,.s,.s,.s,.v,.v]] [] [] (aB c0 (aB c2 (aB c4 (aB c6 (aT (aC (aJ al y1.1) (aB c8 (aI aQ y1.1 0 (⟨0,[],⟨0,[]⟩,⟨[],[]⟩,[]⟩) (aB c10 (aI aQ y1.1 0 (⟨0,[],⟨0,[]⟩,⟨[],[]⟩,[]⟩) (aC Tryz.call24 (aF (bt _ _ h9) (aB c12 (aI aQ y1.1 1 (⟨0,[],⟨0,[]⟩,⟨[],[]⟩,[]⟩) (aC Tryz.call24 (aF (bt _ _ h10) (aB c14 (aC Tryz.call25 (aC (bW.eq (gH _ _ _ h11) (cB c16)) (aC Tryz.call19 (aC (bW.eq (fO _ _ _ h12) (cB c19)) aN)))))))))))))))))))))
         ·obtain rfl:=sI H31;exact pR 2 [r0 [.v,.e (.bool true),.v,.v,.e (.bool true),.v,.v,.v,.e (.bool true),.v,.v,.v,.e (.bool true),.v,.v,.v,.e (nI y1.1.length),.e (.bool true),.v,.v,.v,.e (.dptr (al (y1.1.getD 0 (⟨0,[],⟨0,[]⟩,⟨[],[]⟩,[]⟩)))),.v,.v,.e (.bool true),.v,.v,.v,.e (.dptr (al (y1.1.getD 0 (⟨0,[],⟨0,[]⟩,⟨[],[]⟩,[]⟩)))),.v,.v,.c true (.str y9),.e (.bool true),.v,.v,.v,.e (.dptr (al (y1.1.getD 1 (⟨0,[],⟨0,[]⟩,⟨[],[]⟩,[]⟩)))),.v,.v,.c true (.str y10),.e (.bool true),.v,.v,.v,.v,.c true (.bool false),.v,.v,.s,.s,.s,.s,.v,.v,.s,.s,.s,.v,.v,.s,.s,.s,.s,.s,.s,.v,.v,.s,.s,.s,.s,.s,.s,.v,.v]] [] [] (aB c0 (aB c2 (aB c4 (aB c6 (aT (aC (aJ al y1.1) (aB c8 (aI aQ y1.1 0 (⟨0,[],⟨0,[]⟩,⟨[],[]⟩,[]⟩) (aB c10 (aI aQ y1.1 0 (⟨0,[],⟨0,[]⟩,⟨[],[]⟩,[]⟩) (aC Tryz.call24 (aF (bt _ _ h9) (aB c12 (aI aQ y1.1 1 (⟨0,[],⟨0,[]⟩,⟨[],[]⟩,[]⟩) (aC Tryz.call24 (aF (bt _ _ h10) (aB c14 (aC Tryz.call25 (aC (bW.eq (gH _ _ _ h11) (cB c17)) aN)))))))))))))))))))
        ·obtain rfl:=sI H28;exact pR 2 [r0 [.v,.e (.bool true),.v,.v,.e (.bool true),.v,.v,.v,.e (.bool true),.v,.v,.v,.e (.bool true),.v,.v,.v,.e (nI y1.1.length),.e (.bool true),.v,.v,.v,.e (.dptr (al (y1.1.getD 0 (⟨0,[],⟨0,[]⟩,⟨[],[]⟩,[]⟩)))),.v,.v,.e (.bool true),.v,.v,.v,.e (.dptr (al (y1.1.getD 0 (⟨0,[],⟨0,[]⟩,⟨[],[]⟩,[]⟩)))),.v,.v,.c true (.str y9),.e (.bool true),.v,.v,.v,.e (.dptr (al (y1.1.getD 1 (⟨0,[],⟨0,[]⟩,⟨[],[]⟩,[]⟩)))),.v,.v,.c true (.str y10),.e (.bool false),.v,.v,.s,.s,.s,.v,.v,.s,.s,.s,.s,.v,.v,.s,.s,.s,.v,.v,.s,.s,.s,.s,.s,.s,.v,.v,.s,.s,.s,.s,.s,.s,.v,.v]] [] [] (aB c0 (aB c2 (aB c4 (aB c6 (aT (aC (aJ al y1.1) (aB c8 (aI aQ y1.1 0 (⟨0,[],⟨0,[]⟩,⟨[],[]⟩,[]⟩) (aB c10 (aI aQ y1.1 0 (⟨0,[],⟨0,[]⟩,⟨[],[]⟩,[]⟩) (aC Tryz.call24 (aF (bt _ _ h9) (aB c12 (aI aQ y1.1 1 (⟨0,[],⟨0,[]⟩,⟨[],[]⟩,[]⟩) (aC Tryz.call24 (aF (bt _ _ h10) (aB c15 aN)))))))))))))))))
       ·obtain rfl:=sI H24;exact pR 2 [r0 [.v,.e (.bool true),.v,.v,.e (.bool true),.v,.v,.v,.e (.bool true),.v,.v,.v,.e (.bool true),.v,.v,.v,.e (nI y1.1.length),.e (.bool true),.v,.v,.v,.e (.dptr (al (y1.1.getD 0 (⟨0,[],⟨0,[]⟩,⟨[],[]⟩,[]⟩)))),.v,.v,.e (.bool true),.v,.v,.v,.e (.dptr (al (y1.1.getD 0 (⟨0,[],⟨0,[]⟩,⟨[],[]⟩,[]⟩)))),.v,.v,.c true (.str y9),.e (.bool false),.v,.v,.s,.s,.s,.s,.s,.s,.v,.v,.s,.s,.s,.v,.v,.s,.s,.s,.s,.v,.v,.s,.s,.s,.v,.v,.s,.s,.s,.s,.s,.s,.v,.v,.s,.s,.s,.s,.s,.s,.v,.v]] [] [] (aB c0 (aB c2 (aB c4 (aB c6 (aT (aC (aJ al y1.1) (aB c8 (aI aQ y1.1 0 (⟨0,[],⟨0,[]⟩,⟨[],[]⟩,[]⟩) (aB c10 (aI aQ y1.1 0 (⟨0,[],⟨0,[]⟩,⟨[],[]⟩,[]⟩) (aC Tryz.call24 (aF (bt _ _ h9) (aB c13 aN)))))))))))))
      ·obtain rfl:=sI H21;exact pR 2 [r0 [.v,.e (.bool true),.v,.v,.e (.bool true),.v,.v,.v,.e (.bool true),.v,.v,.v,.e (.bool true),.v,.v,.v,.e (nI y1.1.length),.e (.bool true),.v,.v,.v,.e (.dptr (al (y1.1.getD 0 (⟨0,[],⟨0,[]⟩,⟨[],[]⟩,[]⟩)))),.v,.v,.e (.bool false),.v,.v,.s,.s,.s,.s,.s,.s,.v,.v,.s,.s,.s,.s,.s,.s,.v,.v,.s,.s,.s,.v,.v,.s,.s,.s,.s,.v,.v,.s,.s,.s,.v,.v,.s,.s,.s,.s,.s,.s,.v,.v,.s,.s,.s,.s,.s,.s,.v,.v]] [] [] (aB c0 (aB c2 (aB c4 (aB c6 (aT (aC (aJ al y1.1) (aB c8 (aI aQ y1.1 0 (⟨0,[],⟨0,[]⟩,⟨[],[]⟩,[]⟩) (aB c11 aN)))))))))
     ·obtain rfl:=sI H18;exact pR 2 [r0 [.v,.e (.bool true),.v,.v,.e (.bool true),.v,.v,.v,.e (.bool true),.v,.v,.v,.e (.bool true),.v,.v,.v,.e (nI y1.1.length),.e (.bool false),.v,.v,.s,.s,.s,.s,.s,.v,.v,.s,.s,.s,.s,.s,.s,.v,.v,.s,.s,.s,.s,.s,.s,.v,.v,.s,.s,.s,.v,.v,.s,.s,.s,.s,.v,.v,.s,.s,.s,.v,.v,.s,.s,.s,.s,.s,.s,.v,.v,.s,.s,.s,.s,.s,.s,.v,.v]] [] [] (aB c0 (aB c2 (aB c4 (aB c6 (aT (aC (aJ al y1.1) (aB c9 aN)))))))
    ·obtain rfl:=sI H16;exact pR 2 [r0 [.v,.e (.bool true),.v,.v,.e (.bool true),.v,.v,.v,.e (.bool true),.v,.v,.v,.e (.bool false),.v,.v,.s,.s,.s,.v,.v,.s,.s,.s,.s,.s,.v,.v,.s,.s,.s,.s,.s,.s,.v,.v,.s,.s,.s,.s,.s,.s,.v,.v,.s,.s,.s,.v,.v,.s,.s,.s,.s,.v,.v,.s,.s,.s,.v,.v,.s,.s,.s,.s,.s,.s,.v,.v,.s,.s,.s,.s,.s,.s,.v,.v]] [] [] (aB c0 (aB c2 (aB c4 (aB c7 aN))))
   ·obtain rfl:=sI H14;exact pR 2 [r0 [.v,.e (.bool true),.v,.v,.e (.bool true),.v,.v,.v,.e (.bool false),.v,.v,.s,.s,.v,.v,.s,.s,.s,.v,.v,.s,.s,.s,.s,.s,.v,.v,.s,.s,.s,.s,.s,.s,.v,.v,.s,.s,.s,.s,.s,.s,.v,.v,.s,.s,.s,.v,.v,.s,.s,.s,.s,.v,.v,.s,.s,.s,.v,.v,.s,.s,.s,.s,.s,.s,.v,.v,.s,.s,.s,.s,.s,.s,.v,.v]] [] [] (aB c0 (aB c2 (aB c5 aN)))
  ·obtain rfl:=sI H12;exact pR 2 [r0 [.v,.e (.bool true),.v,.v,.e (.bool false),.v,.v,.s,.s,.v,.v,.s,.s,.v,.v,.s,.s,.s,.v,.v,.s,.s,.s,.s,.s,.v,.v,.s,.s,.s,.s,.s,.s,.v,.v,.s,.s,.s,.s,.s,.s,.v,.v,.s,.s,.s,.v,.v,.s,.s,.s,.s,.v,.v,.s,.s,.s,.v,.v,.s,.s,.s,.s,.s,.s,.v,.v,.s,.s,.s,.s,.s,.s,.v,.v]] [] [] (aB c0 (aB c3 aN))
 ·obtain rfl:=sI H10;exact pR 2 [r0 [.v,.e (.bool false),.v,.s,.s,.v,.v,.s,.s,.v,.v,.s,.s,.v,.v,.s,.s,.s,.v,.v,.s,.s,.s,.s,.s,.v,.v,.s,.s,.s,.s,.s,.s,.v,.v,.s,.s,.s,.s,.s,.s,.v,.v,.s,.s,.s,.v,.v,.s,.s,.s,.s,.v,.v,.s,.s,.s,.v,.v,.s,.s,.s,.s,.s,.s,.v,.v,.s,.s,.s,.s,.s,.s,.v,.v]] [] [] (aB c1 aN)
def nf (x0:Linear) (x1:Int):Option Bool :=
 (dZ (σ:=Unit) (ε:=Unit) (ρ:=Bool) (fun i0 s0 =>
  bif decide (((((x0.Terms.getD i0 ⟨[],0⟩).Var).length:Nat):Int)>40) then (
   some (.ret false)
  ) else (
   some (.go ())
  )
 ) (fun i0 s0=>()) (x0.Terms.length-0) 0 ()).bind <| aft fun u0 =>
 some (decide (((x0.Terms.length:Nat):Int)≤x1))
def nN (x0:Linear) (x1:Int) (i0:Nat) (s0:Unit):AS:=⟨26,[(1,iI x1),(2,.hptr 2 0),(4,.bool false),(5,nI i0)],[(2,.cells 34 [iI x0.Const,dS aj x0.Terms])]⟩
def rH (x0:Linear) (x1:Int) (u1:Unit):AS:=⟨26,[(1,iI x1),(2,.hptr 2 0),(4,.bool false)],[(2,.cells 34 [iI x0.Const,dS aj x0.Terms])]⟩
theorem yY (x0:Linear) (x1:Int) (r:Bool) (H:nf x0 x1=some r):bW Tryz.prog 26 [.agg [iI x0.Const,dS aj x0.Terms],iI x1] (.bool r):=by
 unfold nf at H;refine aX Tryz.func26 26 [.tmp 4] ?_;refine pA 6 [r0 [.m,.v],V1] [.only [1,2,4,5] [2]] 6 [] (nN x0 x1 0 ()) aN ?_;refine aP H fun R0 h0 H0 => ?_;refine pJ 1 (rH x0 x1) R0 ?_ (fun u0 e0 => ?_)
 ·refine pC (nN x0 x1) h0 (fun i0 s0 h1 e1 => ?_) (fun i0 s0 h2 q0 h3 h4 => ?_)
  ·have c0:=lF i0 x0.Terms.length (by omega);subst e1;exact pB 5 [r0 [.v,.v,.v,.e (nI x0.Terms.length),.e (.bool false)]] [.only [1,2,4] [2]] (rH x0 x1 ()) (aT (aC (aJ aj x0.Terms) (aB c0 aN)))
  ·have c1:=lT i0 x0.Terms.length (by omega);refine pA 9 [r0 [.v,.v,.v,.e (nI x0.Terms.length),.e (.bool true)],r0 [.v,.v,.v,.e (.dptr (aj (x0.Terms.getD i0 ⟨[],0⟩))),.v,.v,.v,.v]] [.only [1,2,4,5,20] [2]] 9 [true] ⟨26,[(1,iI x1),(2,.hptr 2 0),(4,.bool false),(5,nI i0),(20,.bool (decide (((((x0.Terms.getD i0 ⟨[],0⟩).Var).length:Nat):Int)>40)))],[(2,.cells 34 [iI x0.Const,dS aj x0.Terms])]⟩ (aT (aC (aJ aj x0.Terms) (aB c1 (aI bf x0.Terms i0 ⟨[],0⟩ (aT aN))))) ?_;refine aV h3 (fun c2 H1 => ?_) (fun c3 H2 => ?_)
   ·obtain rfl:=sI H1;obtain rfl:=aR h4;obtain rfl:=sI (aA H0);exact pR 5 [.eqT 20 (.bool true),V1] [] [] (aB c2 aN)
   ·have c3p:=Kl c3;refine lZ 2 1 (ps:=[(x0.Terms.map aj).length≤9223372036854775807]) (by kernel_rfl) (fun l0 => ?_);have l1:x0.Terms.length≤9223372036854775807:=by simpa only [bB,Kp] using l0
    clear l0;obtain rfl:=sI H2;exact pB 4 [.eqT 20 (.bool false),V3] [.only [1,2,4,5] [2]] (nN x0 x1 (i0+1) ()) (aB c3 (aH i0 aN))
 ·subst e0;have H3:=bp H0;obtain rfl:=sI H3;exact pR 3 [r0 [.v,.v,.e (nI x0.Terms.length),.v,.v,.v]] [] [] (aT (aC (aJ aj x0.Terms) aN))
def mX (x0:List Linear) (x1:Int):Option Bool :=
 (dZ (σ:=Unit) (ε:=Unit) (ρ:=Bool) (fun i0 s0 =>
  (nf (Linear.mk ((x0.getD i0 ⟨0,[]⟩).Const) ((x0.getD i0 ⟨0,[]⟩).Terms)) 6).bind fun y0 =>
  bif y0 then (
   some (.go ())
  ) else (
   some (.ret false)
  )
 ) (fun i0 s0=>()) (x0.length-0) 0 ()).bind <| aft fun u0 =>
 some (decide (((x0.length:Nat):Int)≤x1))
def nB (x0:List Linear) (x1:Int) (i0:Nat) (s0:Unit):AS:=⟨22,[(0,dS ai x0),(1,iI x1),(4,.bool false),(5,nI i0)],[]⟩
def rI (x0:List Linear) (x1:Int) (u1:Unit):AS:=⟨22,[(0,dS ai x0),(1,iI x1),(4,.bool false)],[]⟩
theorem lU (x0:List Linear) (x1:Int) (r:Bool) (H:mX x0 x1=some r):bW Tryz.prog 8 [dS ai x0,iI x1] (.bool r):=by
 unfold mX at H;refine aX Tryz.func8 22 [.tmp 4] ?_;refine pA 6 [V1,V1] [.only [0,1,4,5] []] 6 [] (nB x0 x1 0 ()) aN ?_;refine aP H fun R0 h0 H0 => ?_;refine pJ 1 (rI x0 x1) R0 ?_ (fun u0 e0 => ?_)
 ·refine pC (nB x0 x1) h0 (fun i0 s0 h1 e1 => ?_) (fun i0 s0 h2 q0 h3 h4 => ?_)
  ·have c0:=lF i0 x0.length (by omega);subst e1;exact pB 5 [r0 [.v,.v,.e (nI x0.length),.e (.bool false)]] [.only [0,1,4] []] (rI x0 x1 ()) (aT (aC (aJ ai x0) (aB c0 aN)))
  ·have c1:=lT i0 x0.length (by omega);refine aP h3 fun y0 h5 H1 => ?_;refine pA 9 [r0 [.v,.v,.e (nI x0.length),.e (.bool true)],r0 [.v,.v,.e (.dptr (ai (x0.getD i0 ⟨0,[]⟩))),.v,.c true (.bool y0),.v]] [.only [0,1,4,5,17] []] 9 [true] ⟨22,[(0,dS ai x0),(1,iI x1),(4,.bool false),(5,nI i0),(17,.bool (!y0))],[]⟩ (aT (aC (aJ ai x0) (aB c1 (aI a8 x0 i0 ⟨0,[]⟩ (aC Tryz.call26 (aF (yY _ _ _ h5) (aT aN))))))) ?_;refine aV H1 (fun c2 H2 => ?_) (fun c3 H3 => ?_)
   ·refine b7 0 (ps:=[(x0.map ai).length≤9223372036854775807]) (by kernel_rfl) (fun l0 => ?_);have l1:x0.length≤9223372036854775807:=by simpa only [bB,Kp] using l0
    clear l0;obtain rfl:=sI H2;exact pB 4 [.eqT 17 (.bool false),V3] [.only [0,1,4,5] []] (nB x0 x1 (i0+1) ()) (aM c2 (aH i0 aN))
   ·obtain rfl:=sI H3;obtain rfl:=aR h4;obtain rfl:=sI (aA H0);exact pR 5 [.eqT 17 (.bool true),V1] [] [] (aM c3 aN)
 ·subst e0;have H4:=bp H0;obtain rfl:=sI H4;exact pR 3 [r0 [.v,.e (nI x0.length),.v,.v,.v]] [] [] (aT (aC (aJ ai x0) aN))
def jW (x0:List Linear) (x1:Int):Option Bool :=
 (dZ (σ:=Unit) (ε:=Unit) (ρ:=Bool) (fun i0 s0 =>
  bif decide (((x0.getD i0 ⟨0,[]⟩).Const)<(aD (0-x1))) then (
   some (.ret false)
  ) else (
   bif decide (((x0.getD i0 ⟨0,[]⟩).Const)>x1) then (
    some (.ret false)
   ) else (
    (kD (σ:=Int) (ε:=Unit) (ρ:=(fX Unit Unit Bool)) (fun s1 =>
     bif decide (s1<((((x0.getD i0 ⟨0,[]⟩).Terms).length:Nat):Int)) then (
      bH (0≤s1∧s1<(((x0.getD i0 ⟨0,[]⟩).Terms).length:Int)) <|
      bif decide (((((x0.getD i0 ⟨0,[]⟩).Terms).getD s1.toNat ⟨[],0⟩).C)<(aD (0-x1))) then (
       some (.ret (.ret false))
      ) else (
       bif decide (((((x0.getD i0 ⟨0,[]⟩).Terms).getD s1.toNat ⟨[],0⟩).C)>x1) then (
        some (.ret (.ret false))
       ) else (
        some (.go (aD (s1+1)))
       )
      )
     ) else (
      some (.brk ())
     )
    ) 4294967296 0).bind <| aft fun u0 =>
    some (.go ())
   )
  )
 ) (fun i0 s0=>()) (x0.length-0) 0 ()).bind <| aft fun u1 =>
 some true
def lA (x0:List Linear) (x1:Int) (i0:Nat) (s0:Unit):AS:=⟨59,[(0,dS ai x0),(1,iI x1),(4,.bool false),(5,nI i0)],[]⟩
def po (u2:Unit):AS:=⟨59,[(4,.bool false)],[]⟩
def lJ (x0:List Linear) (x1:Int) (i0:Nat) (s1:Int):AS:=⟨59,[(0,dS ai x0),(1,iI x1),(4,.bool false),(5,nI i0),(6,iI s1)],[]⟩
def oQ (x0:List Linear) (x1:Int) (i0:Nat) (u3:Unit):AS:=⟨59,[(0,dS ai x0),(1,iI x1),(4,.bool false),(5,nI i0)],[]⟩
theorem p6 (x0:List Linear) (x1:Int) (r:Bool) (H:jW x0 x1=some r):bW Tryz.prog 14 [dS ai x0,iI x1] (.bool r):=by
 unfold jW at H;refine aX Tryz.func14 59 [.tmp 4] ?_;refine pA 6 [V1,V1] [.only [0,1,4,5] []] 6 [] (lA x0 x1 0 ()) aN ?_;refine aP H fun R0 h0 H0 => ?_;refine pJ 1 (po) R0 ?_ (fun u1 e0 => ?_)
 ·refine pC (lA x0 x1) h0 (fun i0 s0 h1 e1 => ?_) (fun i0 s0 h2 q0 h3 h4 => ?_)
  ·have c0:=lF i0 x0.length (by omega);subst e1;exact pB 5 [r0 [.v,.v,.e (nI x0.length),.e (.bool false)]] [.only [4] []] (po ()) (aT (aC (aJ ai x0) (aB c0 aN)))
  ·have c1:=lT i0 x0.length (by omega);refine aV h3 (fun c2 H1 => ?_) (fun c3 H2 => ?_)
   ·have c2p:=Km c2;obtain rfl:=sI H1;obtain rfl:=aR h4;obtain rfl:=sI (aA H0);exact pR 14 [r0 [.v,.v,.e (nI x0.length),.e (.bool true)],r0 [.v,.v,.e (.dptr (ai (x0.getD i0 ⟨0,[]⟩))),.v,.v,.v,.w,.e (.bool true),.v,.s,.s,.s,.s,.s,.s,.s,.v],V1] [] [] (aT (aC (aJ ai x0) (aB c1 (aI a8 x0 i0 ⟨0,[]⟩ (aB c2 aN)))))
   ·have c3p:=Kl c3;refine pA 10 [r0 [.v,.v,.e (nI x0.length),.e (.bool true)],r0 [.v,.v,.e (.dptr (ai (x0.getD i0 ⟨0,[]⟩))),.v,.v,.v,.w,.e (.bool false),.v,.v,.v,.e (.dptr (ai (x0.getD i0 ⟨0,[]⟩))),.v,.v,.v,.v,.v]] [.only [0,1,4,5,30] []] 10 [true] ⟨59,[(0,dS ai x0),(1,iI x1),(4,.bool false),(5,nI i0),(30,.bool (decide (((x0.getD i0 ⟨0,[]⟩).Const)>x1)))],[]⟩ (aT (aC (aJ ai x0) (aB c1 (aI a8 x0 i0 ⟨0,[]⟩ (aB c3 (aI a8 x0 i0 ⟨0,[]⟩ aN)))))) ?_;refine aV H2 (fun c4 H3 => ?_) (fun c5 H4 => ?_)
    ·obtain rfl:=sI H3;obtain rfl:=aR h4;obtain rfl:=sI (aA H0);exact pR 5 [.eqT 30 (.bool true),V1] [] [] (aB c4 aN)
    ·have c5p:=Kl c5;refine pA 6 [.eqT 30 (.bool false),V1] [.only [0,1,4,5,6] []] 5 [false] (lJ x0 x1 i0 0) (aB c5 aN) ?_;refine aP H4 fun R1 h5 H5 => ?_;refine pJ 2 (oQ x0 x1 i0) R1 ?_ (fun u0 e2 => ?_)
     ·refine pV (lJ x0 x1 i0) (by kernel_rfl) h5 (fun s1 q1 h6 h7 => ?_)
      ·refine aV h6 (fun c6 H6 => ?_) (fun c7 H7 => ?_)
       ·have c6p:=Km c6;refine aG H6 fun g0 H8 => ?_;refine pA 11 [r0 [.v,.v,.v,.e (.dptr (ai (x0.getD i0 ⟨0,[]⟩))),.v,.v,.e (iI ((((x0.getD i0 ⟨0,[]⟩).Terms).length:Nat):Int)),.v],.eqT 38 (.bool true),r0 [.v,.v,.e (.dptr (ai (x0.getD i0 ⟨0,[]⟩))),.v,.v,.v,.e (.dptr (aj (((x0.getD i0 ⟨0,[]⟩).Terms).getD s1.toNat ⟨[],0⟩))),.v,.v,.v]] [.only [0,1,4,5,6,7] []] 10 [true] ⟨59,[(0,dS ai x0),(1,iI x1),(4,.bool false),(5,nI i0),(6,iI s1),(7,iI ((((x0.getD i0 ⟨0,[]⟩).Terms).getD s1.toNat ⟨[],0⟩).C))],[]⟩ (aI a8 x0 i0 ⟨0,[]⟩ (aT (aC (aJ aj ((x0.getD i0 ⟨0,[]⟩).Terms)) (aB c6 (aI a8 x0 i0 ⟨0,[]⟩ (bF (GI (f:=aj) (l:=((x0.getD i0 ⟨0,[]⟩).Terms)) (n:=s1) ⟨[],0⟩ bf (by decide) (by exact g0)) aN)))))) ?_;refine aV H8 (fun c8 H9 => ?_) (fun c9 H10 => ?_)
        ·obtain rfl:=sI H9;obtain rfl:=aR h7;obtain rfl:=sI (aA H5);obtain rfl:=aR h4;obtain rfl:=sI (aA H0);exact pR 5 [r0 [.v,.v,.w,.e (.bool true),.v,.s,.s,.s,.v],V1] [] [] (aB c8 aN)
        ·refine aV H10 (fun c10 H11 => ?_) (fun c11 H12 => ?_)
         ·obtain rfl:=sI H11;obtain rfl:=aR h7;obtain rfl:=sI (aA H5);obtain rfl:=aR h4;obtain rfl:=sI (aA H0);exact pR 6 [r0 [.v,.v,.w,.e (.bool false),.v,.v,.v,.v,.v],.eqT 58 (.bool true),V1] [] [] (aB c9 (aB c10 aN))
         ·obtain rfl:=sI H12;exact pB 5 [r0 [.v,.v,.w,.e (.bool false),.v,.v,.v,.v,.v],.eqT 58 (.bool false),r0 [.v,.w,.v]] [.only [0,1,4,5,6] []] (lJ x0 x1 i0 (aD (s1+1))) (aB c9 (aB c11 aN))
       ·have c7p:=Kl c7;obtain rfl:=sI H7;obtain rfl:=iL h7;exact pB 6 [r0 [.v,.v,.v,.e (.dptr (ai (x0.getD i0 ⟨0,[]⟩))),.v,.v,.e (iI ((((x0.getD i0 ⟨0,[]⟩).Terms).length:Nat):Int)),.v],.eqT 38 (.bool false)] [.only [0,1,4,5] []] (oQ x0 x1 i0 ()) (aI a8 x0 i0 ⟨0,[]⟩ (aT (aC (aJ aj ((x0.getD i0 ⟨0,[]⟩).Terms)) (aB c7 aN))))
     ·subst e2;have H13:=bp H5;refine b7 0 (ps:=[(x0.map ai).length≤9223372036854775807]) (by kernel_rfl) (fun l0 => ?_);have l1:x0.length≤9223372036854775807:=by simpa only [bB,Kp] using l0
      clear l0;obtain rfl:=sI H13;exact pB 1 [V3] [.only [0,1,4,5] []] (lA x0 x1 (i0+1) ()) (aH i0 aN)
 ·subst e0;have H14:=bp H0;obtain rfl:=sI H14;exact pR 3 [V1] [] [] aN
def jH (x0 x1:Linear):Option Int :=
 (dZ (σ:=Unit) (ε:=Unit) (ρ:=Int) (fun i0 s0 =>
  bif decide (((i0:Nat):Int)<((x1.Terms.length:Nat):Int)) then (
   ((
    bif (Op.bytesLess ((x0.Terms.getD i0 ⟨[],0⟩).Var) ((x1.Terms.getD i0 ⟨[],0⟩).Var)) then (
     some (.ret (.ret (-1)))
    ) else (
     bif (((x0.Terms.getD i0 ⟨[],0⟩).Var)==((x1.Terms.getD i0 ⟨[],0⟩).Var)) then (
      bif decide (((x0.Terms.getD i0 ⟨[],0⟩).C)<((x1.Terms.getD i0 ⟨[],0⟩).C)) then (
       some (.ret (.ret (-1)))
      ) else (
       bif ((((x0.Terms.getD i0 ⟨[],0⟩).Var)==((x1.Terms.getD i0 ⟨[],0⟩).Var))&&((((x0.Terms.getD i0 ⟨[],0⟩).C)==((x1.Terms.getD i0 ⟨[],0⟩).C))&&true)) then (
        some (.brk ())
       ) else (
        some (.ret (.ret 1))
       )
      )
     ) else (
      bif ((((x0.Terms.getD i0 ⟨[],0⟩).Var)==((x1.Terms.getD i0 ⟨[],0⟩).Var))&&((((x0.Terms.getD i0 ⟨[],0⟩).C)==((x1.Terms.getD i0 ⟨[],0⟩).C))&&true)) then (
       some (.brk ())
      ) else (
       some (.ret (.ret 1))
      )
     )
    )
   ):Option (Out Unit (fX Unit Unit Int))).bind (aft fun u0 =>
    some (.go ())
   )
  ) else (
   some (.brk ())
  )
 ) (fun i0 s0=>()) (x0.Terms.length-0) 0 ()).bind <| aft fun u1 =>
 bif decide (((x0.Terms.length:Nat):Int)<((x1.Terms.length:Nat):Int)) then (
  some (-1)
 ) else (
  bif (((x0.Terms.length:Nat):Int)==((x1.Terms.length:Nat):Int)) then (
   bif decide (x0.Const<x1.Const) then (
    some (-1)
   ) else (
    bif decide (((x0.Terms.length:Nat):Int)>((x1.Terms.length:Nat):Int)) then (
     some 1
    ) else (
     bif decide (x0.Const>x1.Const) then (
      some 1
     ) else (
      some 0
     )
    )
   )
  ) else (
   bif decide (((x0.Terms.length:Nat):Int)>((x1.Terms.length:Nat):Int)) then (
    some 1
   ) else (
    bif decide (x0.Const>x1.Const) then (
     some 1
    ) else (
     some 0
    )
   )
  )
 )
def jw (x0 x1:Linear) (i0:Nat) (s0:Unit):AS:=⟨95,[(2,.hptr 2 0),(3,.hptr 3 0),(4,iI 0),(5,nI i0)],[(2,.cells 34 [iI x0.Const,dS aj x0.Terms]),(3,.cells 34 [iI x1.Const,dS aj x1.Terms])]⟩
def jx (x0 x1:Linear) (u2:Unit):AS:=⟨95,[(2,.hptr 2 0),(3,.hptr 3 0),(4,iI 0)],[(2,.cells 34 [iI x0.Const,dS aj x0.Terms]),(3,.cells 34 [iI x1.Const,dS aj x1.Terms])]⟩
def jA (x0 x1:Linear) (i0:Nat) (u0:Unit):AS:=⟨95,[(2,.hptr 2 0),(3,.hptr 3 0),(4,iI 0),(5,nI i0)],[(2,.cells 34 [iI x0.Const,dS aj x0.Terms]),(3,.cells 34 [iI x1.Const,dS aj x1.Terms])]⟩
theorem tJ (x0 x1:Linear) (r:Int) (H:jH x0 x1=some r):bW Tryz.prog 39 [.agg [iI x0.Const,dS aj x0.Terms],.agg [iI x1.Const,dS aj x1.Terms]] (iI r):=by
 unfold jH at H;refine aX Tryz.func39 95 [.tmp 4] ?_;refine pA 6 [r0 [.m,.m,.v],V1] [.only [2,3,4,5] [2,3]] 6 [] (jw x0 x1 0 ()) aN ?_;refine aP H fun R0 h0 H0 => ?_;refine pJ 1 (jx x0 x1) R0 ?_ (fun u1 e0 => ?_)
 ·refine pC (jw x0 x1) h0 (fun i0 s0 h1 e1 => ?_) (fun i0 s0 h2 q0 h3 h4 => ?_)
  ·have c0:=lF i0 x0.Terms.length (by omega);subst e1;exact pB 5 [r0 [.v,.v,.v,.e (nI x0.Terms.length),.e (.bool false),.v,.s,.s,.s,.s,.s,.v]] [.only [2,3,4] [2,3]] (jx x0 x1 ()) (aT (aC (aJ aj x0.Terms) (aB c0 aN)))
  ·have c1:=lT i0 x0.Terms.length (by omega);refine aV h3 (fun c2 H1 => ?_) (fun c3 H2 => ?_)
   ·have c2p:=Km c2;refine pA 12 [r0 [.v,.v,.v,.e (nI x0.Terms.length),.e (.bool true),.v,.v,.v,.v,.e (nI x1.Terms.length),.v,.v],.eqT 19 (.bool true),.rg 13 [.v,.v,.v,.e (.dptr (aj (x0.Terms.getD i0 ⟨[],0⟩))),.v,.v,.v,.v,.e (.dptr (aj (x1.Terms.getD i0 ⟨[],0⟩))),.v,.m,.m,.m] [.m]] [.only [2,3,4,5,6,7] [2,3,6,7]] 11 [true] ⟨95,[(2,.hptr 2 0),(3,.hptr 3 0),(4,iI 0),(5,nI i0),(6,.hptr 6 0),(7,.hptr 7 0)],[(2,.cells 34 [iI x0.Const,dS aj x0.Terms]),(3,.cells 34 [iI x1.Const,dS aj x1.Terms]),(6,.cells 88 (aj (x0.Terms.getD i0 ⟨[],0⟩))),(7,.cells 88 (aj (x1.Terms.getD i0 ⟨[],0⟩)))]⟩ (aT (aC (aJ aj x0.Terms) (aB c1 (aT (aC (aJ aj x1.Terms) (aB c2 (aI bf x0.Terms i0 ⟨[],0⟩ (aI bf x1.Terms i0 ⟨[],0⟩ aN)))))))) ?_;refine aP H1 fun v0 h5 H3 => ?_;refine pJ 3 (jA x0 x1 i0) v0 ?_ (fun u0 e2 => ?_)
    ·refine aV h5 (fun c4 H4 => ?_) (fun c5 H5 => ?_)
     ·obtain rfl:=sI H4;obtain rfl:=sI (aA H3);obtain rfl:=aR h4;obtain rfl:=sI (aA H0);exact pR 5 [r0 (V 4 [.e (.bool true),.v,.s,.s,.s,.s,.s,.s,.s,.s,.s,.s,.s,.s,.v,.v]),V1] [] [] (aB c4 aN)
     ·refine aV H5 (fun c6 H6 => ?_) (fun c7 H7 => ?_)
      ·refine aV H6 (fun c8 H8 => ?_) (fun c9 H9 => ?_)
       ·obtain rfl:=sI H8;obtain rfl:=sI (aA H3);obtain rfl:=aR h4;obtain rfl:=sI (aA H0);exact pR 6 [r0 (V 4 [.e (.bool false),.v,.v,.v,.v,.v,.e (.bool true),.v,.v,.v,.v,.v,.v,.v,.v,.v]),.eqT 32 (.bool true),V1] [] [] (aB c5 (aB c6 (aB c8 aN)))
       ·refine aV H9 (fun c10 H10 => ?_) (fun c11 H11 => ?_)
        ·obtain rfl:=sI H10;exact pB 8 [r0 (V 4 [.e (.bool false),.v,.v,.v,.v,.v,.e (.bool true),.v,.v,.v,.v,.v,.v,.v,.v,.v]),.eqT 32 (.bool false),r0 [.v,.v,.w,.v],.eqT 52 (.bool false)] [.only [2,3,4,5] [2,3]] (jA x0 x1 i0 ()) (aB c5 (aB c6 (aB c9 (aM c10 aN))))
        ·obtain rfl:=sI H11;obtain rfl:=sI (aA H3);obtain rfl:=aR h4;obtain rfl:=sI (aA H0);exact pR 10 [r0 (V 4 [.e (.bool false),.v,.v,.v,.v,.v,.e (.bool true),.v,.v,.v,.v,.v,.v,.v,.v,.v]),.eqT 32 (.bool false),r0 [.v,.v,.w,.v],.eqT 52 (.bool true),V1] [] [] (aB c5 (aB c6 (aB c9 (aM c11 aN))))
      ·refine aV H7 (fun c12 H12 => ?_) (fun c13 H13 => ?_)
       ·obtain rfl:=sI H12;exact pB 7 [r0 (V 4 [.e (.bool false),.v,.v,.v,.v,.v,.e (.bool false),.v,.s,.s,.s,.s,.s,.v,.v,.v]),r0 [.v,.v,.w,.v],.eqT 52 (.bool false)] [.only [2,3,4,5] [2,3]] (jA x0 x1 i0 ()) (aB c5 (aB c7 (aM c12 aN)))
       ·obtain rfl:=sI H13;obtain rfl:=sI (aA H3);obtain rfl:=aR h4;obtain rfl:=sI (aA H0);exact pR 9 [r0 (V 4 [.e (.bool false),.v,.v,.v,.v,.v,.e (.bool false),.v,.s,.s,.s,.s,.s,.v,.v,.v]),r0 [.v,.v,.w,.v],.eqT 52 (.bool true),V1] [] [] (aB c5 (aB c7 (aM c13 aN)))
    ·subst e2;have H14:=bp H3;refine lZ 2 1 (ps:=[(x0.Terms.map aj).length≤9223372036854775807]) (by kernel_rfl) (fun l0 => ?_);have l1:x0.Terms.length≤9223372036854775807:=by simpa only [bB,Kp] using l0
     clear l0;obtain rfl:=sI H14;exact pB 1 [V3] [.only [2,3,4,5] [2,3]] (jw x0 x1 (i0+1) ()) (aH i0 aN)
   ·obtain rfl:=sI H2;obtain rfl:=iL h4;exact pB 6 [r0 [.v,.v,.v,.e (nI x0.Terms.length),.e (.bool true),.v,.v,.v,.v,.e (nI x1.Terms.length),.v,.v],.eqT 19 (.bool false)] [.only [2,3,4] [2,3]] (jx x0 x1 ()) (aT (aC (aJ aj x0.Terms) (aB c1 (aT (aC (aJ aj x1.Terms) (aB c3 aN))))))
 ·subst e0;have H15:=bp H0;refine aV H15 (fun c14 H16 => ?_) (fun c15 H17 => ?_)
  ·obtain rfl:=sI H16;exact pR 8 [r0 [.v,.v,.e (nI x0.Terms.length),.v,.v,.e (nI x1.Terms.length),.e (.bool true),.v,.s,.s,.s,.s,.s,.s,.s,.s,.s,.s,.s,.s,.s,.s,.v,.v],V1] [] [] (aT (aC (aJ aj x0.Terms) (aT (aC (aJ aj x1.Terms) (aB c14 aN)))))
  ·refine aV H17 (fun c16 H18 => ?_) (fun c17 H19 => ?_)
   ·refine pA 4 [.rg 0 [] [.v,.v,.e (.int .i64 ((x0.Terms.length:Nat):Int)),.v,.v,.e (.int .i64 ((x1.Terms.length:Nat):Int)),.e (.bool false),.v,.v,.v,.e (.int .i64 ((x0.Terms.length:Nat):Int)),.v,.v,.e (.int .i64 ((x1.Terms.length:Nat):Int)),.e (.bool true),.v,.v,.v,.v,.v,.v,.v,.v,.v]] [.only [2,3,4,56] [2,3]] 4 [] ⟨95,[(2,.hptr 2 0),(3,.hptr 3 0),(4,.int .i64 0),(56,.bool (decide (x0.Const<x1.Const)))],[(2,.cells 34 [.int .i64 x0.Const,.dslice (x0.Terms.map aj)]),(3,.cells 34 [.int .i64 x1.Const,.dslice (x1.Terms.map aj)])]⟩ (aT (aC (aJ aj x0.Terms) (aT (aC (aJ aj x1.Terms) (aB c15 (aT (aC (aJ aj x0.Terms) (aT (aC (aJ aj x1.Terms) (aB c16 aN)))))))))) ?_;refine aV H18 (fun c18 H20 => ?_) (fun c19 H21 => ?_)
    ·obtain rfl:=sI H20;exact pR 5 [.eqT 56 (.bool true),V1] [] [] (aB c18 aN)
    ·refine aV H21 (fun c20 H22 => ?_) (fun c21 H23 => ?_)
     ·obtain rfl:=sI H22;exact pR 8 [.eqT 56 (.bool false),r0 [.v,.v,.e (nI x0.Terms.length),.v,.v,.e (nI x1.Terms.length),.e (.bool true),.v,.s,.s,.s,.s,.s,.v,.v],V1] [] [] (aB c19 (aT (aC (aJ aj x0.Terms) (aT (aC (aJ aj x1.Terms) (aB c20 aN))))))
     ·refine aV H23 (fun c22 H24 => ?_) (fun c23 H25 => ?_)
      ·obtain rfl:=sI H24;exact pR 9 [.eqT 56 (.bool false),r0 [.v,.v,.e (nI x0.Terms.length),.v,.v,.e (nI x1.Terms.length),.e (.bool false),.v,.v,.v,.v,.v,.v,.v,.v],.eqT 80 (.bool true),V1] [] [] (aB c19 (aT (aC (aJ aj x0.Terms) (aT (aC (aJ aj x1.Terms) (aB c21 (aB c22 aN)))))))
      ·obtain rfl:=sI H25;exact pR 10 [.eqT 56 (.bool false),r0 [.v,.v,.e (nI x0.Terms.length),.v,.v,.e (nI x1.Terms.length),.e (.bool false),.v,.v,.v,.v,.v,.v,.v,.v],.eqT 80 (.bool false),V1] [] [] (aB c19 (aT (aC (aJ aj x0.Terms) (aT (aC (aJ aj x1.Terms) (aB c21 (aB c23 aN)))))))
   ·refine pA 6 [.rg 0 [] [.v,.v,.e (.int .i64 ((x0.Terms.length:Nat):Int)),.v,.v,.e (.int .i64 ((x1.Terms.length:Nat):Int)),.e (.bool false),.v,.v,.v,.e (.int .i64 ((x0.Terms.length:Nat):Int)),.v,.v,.e (.int .i64 ((x1.Terms.length:Nat):Int)),.e (.bool false),.v,.s,.s,.s,.s,.s,.v,.v,.v]] [.only [2,3,4] [2,3]] 6 [false] ⟨95,[(2,.hptr 2 0),(3,.hptr 3 0),(4,.int .i64 0)],[(2,.cells 34 [.int .i64 x0.Const,.dslice (x0.Terms.map aj)]),(3,.cells 34 [.int .i64 x1.Const,.dslice (x1.Terms.map aj)])]⟩ (aT (aC (aJ aj x0.Terms) (aT (aC (aJ aj x1.Terms) (aB c15 (aT (aC (aJ aj x0.Terms) (aT (aC (aJ aj x1.Terms) (aB c17 aN)))))))))) ?_;refine aV H19 (fun c24 H26 => ?_) (fun c25 H27 => ?_)
    ·obtain rfl:=sI H26;exact pR 5 [r0 [.v,.v,.e (nI x0.Terms.length),.v,.v,.e (nI x1.Terms.length),.e (.bool true),.v,.s,.s,.s,.s,.s,.v,.v],V1] [] [] (aT (aC (aJ aj x0.Terms) (aT (aC (aJ aj x1.Terms) (aB c24 aN)))))
    ·refine aV H27 (fun c26 H28 => ?_) (fun c27 H29 => ?_)
     ·obtain rfl:=sI H28;exact pR 6 [r0 [.v,.v,.e (nI x0.Terms.length),.v,.v,.e (nI x1.Terms.length),.e (.bool false),.v,.v,.v,.v,.v,.v,.v,.v],.eqT 80 (.bool true),V1] [] [] (aT (aC (aJ aj x0.Terms) (aT (aC (aJ aj x1.Terms) (aB c25 (aB c26 aN))))))
     ·obtain rfl:=sI H29;exact pR 7 [r0 [.v,.v,.e (nI x0.Terms.length),.v,.v,.e (nI x1.Terms.length),.e (.bool false),.v,.v,.v,.v,.v,.v,.v,.v],.eqT 80 (.bool false),V1] [] [] (aT (aC (aJ aj x0.Terms) (aT (aC (aJ aj x1.Terms) (aB c25 (aB c27 aN))))))
def jK (x0 x1:Linear):Option Bool :=
 (jH x0 x1).bind fun y0 =>
 some (y0==0)
theorem wP (x0 x1:Linear) (r:Bool) (H:jK x0 x1=some r):bW Tryz.prog 11 [.agg [iI x0.Const,dS aj x0.Terms],.agg [iI x1.Const,dS aj x1.Terms]] (.bool r):=by unfold jK at H;refine aX Tryz.func11 9 [.tmp 4] ?_;refine aP H fun y0 h0 H0 => ?_;obtain rfl:=sI H0;exact pR 5 [r0 [.m,.m,.v],r0 [.v,.v,.c true (iI y0),.v,.v]] [] [] (aC Tryz.call39 (aF (tJ _ _ _ h0) aN))
def dq (x0 x1:List Bind):Option Bool :=
 bif (((x0.length:Nat):Int)==((x1.length:Nat):Int)) then (
  (dZ (σ:=Unit) (ε:=Unit) (ρ:=Bool) (fun i0 s0 =>
   bH (i0<x1.length) <|
   bif (((x0.getD i0 (⟨0,[],⟨0,[]⟩,⟨[],[]⟩,[]⟩)).Kind)==((x1.getD i0 (⟨0,[],⟨0,[]⟩,⟨[],[]⟩,[]⟩)).Kind)) then (
    bif (((x0.getD i0 (⟨0,[],⟨0,[]⟩,⟨[],[]⟩,[]⟩)).Var)==((x1.getD i0 (⟨0,[],⟨0,[]⟩,⟨[],[]⟩,[]⟩)).Var)) then (
     (jK (Linear.mk (((x0.getD i0 (⟨0,[],⟨0,[]⟩,⟨[],[]⟩,[]⟩)).Dim).Const) (((x0.getD i0 (⟨0,[],⟨0,[]⟩,⟨[],[]⟩,[]⟩)).Dim).Terms)) (Linear.mk (((x1.getD i0 (⟨0,[],⟨0,[]⟩,⟨[],[]⟩,[]⟩)).Dim).Const) (((x1.getD i0 (⟨0,[],⟨0,[]⟩,⟨[],[]⟩,[]⟩)).Dim).Terms))).bind fun y0 =>
     bif y0 then (
      some (.go ())
     ) else (
      some (.ret false)
     )
    ) else (
     some (.ret false)
    )
   ) else (
    some (.ret false)
   )
  ) (fun i0 s0=>()) (x0.length-0) 0 ()).bind <| aft fun u0 =>
  some true
 ) else (
  some false
 )
def il (x0 x1:List Bind) (i0:Nat) (s0:Unit):AS:=⟨55,[(0,dS al x0),(1,dS al x1),(4,.bool false),(5,nI i0)],[]⟩
def ls (u1:Unit):AS:=⟨55,[(4,.bool false)],[]⟩
theorem lX (x0 x1:List Bind) (r:Bool) (H:dq x0 x1=some r):bW Tryz.prog 20 [dS al x0,dS al x1] (.bool r):=by
 unfold dq at H;refine aX Tryz.func20 55 [.tmp 4] ?_;refine aV H (fun c0 H0 => ?_) (fun c1 H1 => ?_)
 ·refine pA 12 [.rg 0 [] [.v],.rg 0 [] [.v,.e (.int .i64 ((x0.length:Nat):Int)),.v,.e (.int .i64 ((x1.length:Nat):Int)),.v],.eqT 10 (.bool false),.rg 0 [] [.v]] [.only [0,1,4,5] []] 11 [false] (il x0 x1 0 ()) (aT (aC (aJ al x0) (aT (aC (aJ al x1) (aM c0 aN))))) ?_;refine aP H0 fun R0 h0 H2 => ?_;refine pJ 1 (ls) R0 ?_ (fun u0 e0 => ?_)
  ·refine pC (il x0 x1) h0 (fun i0 s0 h1 e1 => ?_) (fun i0 s0 h2 q0 h3 h4 => ?_)
   ·have c2:=lF i0 x0.length (by omega);subst e1;exact pB 5 [r0 [.v,.v,.e (nI x0.length),.e (.bool false)]] [.only [4] []] (ls ()) (aT (aC (aJ al x0) (aB c2 aN)))
   ·have c3:=lT i0 x0.length (by omega);refine aG h3 fun g0 H3 => ?_;refine aV H3 (fun c4 H4 => ?_) (fun c5 H5 => ?_)
    ·refine aV H4 (fun c6 H6 => ?_) (fun c7 H7 => ?_)
     ·refine aP H6 fun y0 h5 H8 => ?_;refine pA 9 [r0 [.v,.v,.e (nI x0.length),.e (.bool true)],.rg 35 [.v,.v,.e (.dptr (al (x0.getD i0 (⟨0,[],⟨0,[]⟩,⟨[],[]⟩,[]⟩)))),.v,.v,.v,.v,.e (.dptr (al (x1.getD i0 (⟨0,[],⟨0,[]⟩,⟨[],[]⟩,[]⟩)))),.v,.v,.e (.bool false),.v,.v,.v,.e (.dptr (al (x0.getD i0 (⟨0,[],⟨0,[]⟩,⟨[],[]⟩,[]⟩)))),.v,.v,.v,.v,.e (.dptr (al (x1.getD i0 (⟨0,[],⟨0,[]⟩,⟨[],[]⟩,[]⟩)))),.v,.v,.e (.bool false),.v,.v,.v,.v,.e (.dptr (al (x0.getD i0 (⟨0,[],⟨0,[]⟩,⟨[],[]⟩,[]⟩)))),.v,.v,.v,.v,.e (.dptr (al (x1.getD i0 (⟨0,[],⟨0,[]⟩,⟨[],[]⟩,[]⟩)))),.v,.v] [.c true (.bool y0),.v,.v]] [.only [0,1,4,5,54] []] 9 [true] ⟨55,[(0,dS al x0),(1,dS al x1),(4,.bool false),(5,nI i0),(54,.bool (!y0))],[]⟩ (aT (aC (aJ al x0) (aB c3 (aI aQ x0 i0 (⟨0,[],⟨0,[]⟩,⟨[],[]⟩,[]⟩) (aI aQ x1 i0 (⟨0,[],⟨0,[]⟩,⟨[],[]⟩,[]⟩) (aM c4 (aI aQ x0 i0 (⟨0,[],⟨0,[]⟩,⟨[],[]⟩,[]⟩) (aI aQ x1 i0 (⟨0,[],⟨0,[]⟩,⟨[],[]⟩,[]⟩) (aM c6 (aI aQ x0 i0 (⟨0,[],⟨0,[]⟩,⟨[],[]⟩,[]⟩) (aI aQ x1 i0 (⟨0,[],⟨0,[]⟩,⟨[],[]⟩,[]⟩) (aC Tryz.call11 (aF (wP _ _ _ h5) (aT aN)))))))))))))) ?_;refine aV H8 (fun c8 H9 => ?_) (fun c9 H10 => ?_)
      ·refine b7 0 (ps:=[(x0.map al).length≤9223372036854775807]) (by kernel_rfl) (fun l0 => ?_);have l1:x0.length≤9223372036854775807:=by simpa only [bB,Kp] using l0
       clear l0;obtain rfl:=sI H9;exact pB 4 [.eqT 54 (.bool false),V3] [.only [0,1,4,5] []] (il x0 x1 (i0+1) ()) (aM c8 (aH i0 aN))
      ·obtain rfl:=sI H10;obtain rfl:=aR h4;obtain rfl:=sI (aA H2);exact pR 5 [.eqT 54 (.bool true),V1] [] [] (aM c9 aN)
     ·obtain rfl:=sI H7;obtain rfl:=aR h4;obtain rfl:=sI (aA H2);exact pR 13 [r0 [.v,.v,.e (nI x0.length),.e (.bool true)],.rg 35 [.v,.v,.e (.dptr (al (x0.getD i0 (⟨0,[],⟨0,[]⟩,⟨[],[]⟩,[]⟩)))),.v,.v,.v,.v,.e (.dptr (al (x1.getD i0 (⟨0,[],⟨0,[]⟩,⟨[],[]⟩,[]⟩)))),.v,.v,.e (.bool false),.v,.v,.v,.e (.dptr (al (x0.getD i0 (⟨0,[],⟨0,[]⟩,⟨[],[]⟩,[]⟩)))),.v,.v,.v,.v,.e (.dptr (al (x1.getD i0 (⟨0,[],⟨0,[]⟩,⟨[],[]⟩,[]⟩)))),.v,.v,.e (.bool true),.v,.v,.s,.s,.s,.s,.s,.s,.s,.s,.s,.s] [.s,.s,.v],V1] [] [] (aT (aC (aJ al x0) (aB c3 (aI aQ x0 i0 (⟨0,[],⟨0,[]⟩,⟨[],[]⟩,[]⟩) (aI aQ x1 i0 (⟨0,[],⟨0,[]⟩,⟨[],[]⟩,[]⟩) (aM c4 (aI aQ x0 i0 (⟨0,[],⟨0,[]⟩,⟨[],[]⟩,[]⟩) (aI aQ x1 i0 (⟨0,[],⟨0,[]⟩,⟨[],[]⟩,[]⟩) (aM c7 aN)))))))))
    ·obtain rfl:=sI H5;obtain rfl:=aR h4;obtain rfl:=sI (aA H2);exact pR 13 [r0 [.v,.v,.e (nI x0.length),.e (.bool true)],.rg 35 [.v,.v,.e (.dptr (al (x0.getD i0 (⟨0,[],⟨0,[]⟩,⟨[],[]⟩,[]⟩)))),.v,.v,.v,.v,.e (.dptr (al (x1.getD i0 (⟨0,[],⟨0,[]⟩,⟨[],[]⟩,[]⟩)))),.v,.v,.e (.bool true),.v,.s,.s,.s,.s,.s,.s,.s,.s,.s,.s,.s,.v,.v,.s,.s,.s,.s,.s,.s,.s,.s,.s,.s] [.s,.s,.v],V1] [] [] (aT (aC (aJ al x0) (aB c3 (aI aQ x0 i0 (⟨0,[],⟨0,[]⟩,⟨[],[]⟩,[]⟩) (aI aQ x1 i0 (⟨0,[],⟨0,[]⟩,⟨[],[]⟩,[]⟩) (aM c5 aN))))))
  ·subst e0;have H11:=bp H2;obtain rfl:=sI H11;exact pR 3 [V1] [] [] aN
 ·obtain rfl:=sI H1;exact pR 10 [V1,r0 [.v,.e (nI x0.length),.v,.e (nI x1.length),.v],.eqT 10 (.bool true),V1] [] [] (aT (aC (aJ al x0) (aT (aC (aJ al x1) (aM c1 aN)))))
noncomputable def eR (x0:List Linear) (x1 x2:UInt8):Option Bool :=
 (iC).bind fun y0 =>
 bif y0 then (
  (mX x0 4).bind fun y1 =>
  bif y1 then (
   (iz x0).bind fun y2 =>
   bif y2 then (
    (jW x0 1000).bind fun y3 =>
    bif y3 then (
     bif (((x0.length:Nat):Int)==0) then (
      some true
     ) else (
      (aU x0 1000).bind fun y4 =>
      bH ((((x0.length:Nat):Int):Int)≠0) <|
      bH (([(Linear.mk 0 [])].length+x0.length)*32≤140737488355328) <|
      bH (0≤(((x1).toNat:Int).tmod ((x0.length:Nat):Int))∧(((x1).toNat:Int).tmod ((x0.length:Nat):Int))<(x0.length:Int)) <|
      bH ((([(Linear.mk 0 [])]++x0).length+[(Linear.mk 0 []),(Linear.mk ((x0.getD (((x1).toNat:Int).tmod ((x0.length:Nat):Int)).toNat ⟨0,[]⟩).Const) ((x0.getD (((x1).toNat:Int).tmod ((x0.length:Nat):Int)).toNat ⟨0,[]⟩).Terms))].length)*32≤140737488355328) <|
      (aU (([(Linear.mk 0 [])]++x0)++[(Linear.mk 0 []),(Linear.mk ((x0.getD (((x1).toNat:Int).tmod ((x0.length:Nat):Int)).toNat ⟨0,[]⟩).Const) ((x0.getD (((x1).toNat:Int).tmod ((x0.length:Nat):Int)).toNat ⟨0,[]⟩).Terms))]) 1000).bind fun y5 =>
      bif (y4.2.2.2==3) then (
       some true
      ) else (
       bif (y5.2.2.2==3) then (
        some true
       ) else (
        bif (y4.2.2.2==y5.2.2.2) then (
         bif (y5.2.1==y4.2.1) then (
          (dq y5.1 y4.1).bind fun y6 =>
          bif y6 then (
           bH (x0.length*32≤140737488355328) <|
           ((
            bif ((((x2).toNat:Int).tmod 3)==0) then (
             (cZ (Linear.mk 0 []) (Linear.mk ((x0.getD (((x1).toNat:Int).tmod ((x0.length:Nat):Int)).toNat ⟨0,[]⟩).Const) ((x0.getD (((x1).toNat:Int).tmod ((x0.length:Nat):Int)).toNat ⟨0,[]⟩).Terms)) 2).bind fun y7 =>
             bH ((((x1).toNat:Int).tmod ((x0.length:Nat):Int)).toNat<x0.length) <|
             some (x0.set ((((x1).toNat:Int).tmod ((x0.length:Nat):Int)).toNat) y7)
            ) else (
             bif ((((x2).toNat:Int).tmod 3)==1) then (
              (cZ (Linear.mk 0 []) (Linear.mk ((x0.getD (((x1).toNat:Int).tmod ((x0.length:Nat):Int)).toNat ⟨0,[]⟩).Const) ((x0.getD (((x1).toNat:Int).tmod ((x0.length:Nat):Int)).toNat ⟨0,[]⟩).Terms)) (-1)).bind fun y8 =>
              bH ((((x1).toNat:Int).tmod ((x0.length:Nat):Int)).toNat<x0.length) <|
              some (x0.set ((((x1).toNat:Int).tmod ((x0.length:Nat):Int)).toNat) y8)
             ) else (
              bH ((((x2).toNat:Int).tmod 3)=2) <|
              (cZ (Linear.mk 0 []) (Linear.mk ((x0.getD (((x1).toNat:Int).tmod ((x0.length:Nat):Int)).toNat ⟨0,[]⟩).Const) ((x0.getD (((x1).toNat:Int).tmod ((x0.length:Nat):Int)).toNat ⟨0,[]⟩).Terms)) 3).bind fun y9 =>
              bH ((((x1).toNat:Int).tmod ((x0.length:Nat):Int)).toNat<x0.length) <|
              some (x0.set ((((x1).toNat:Int).tmod ((x0.length:Nat):Int)).toNat) y9)
             )
            )
           ):Option (List Linear)).bind fun v0 =>
           (aU v0 1000).bind fun y10 =>
           bif (y10.2.2.2==3) then (
            some true
           ) else (
            bif (y4.2.2.2==y10.2.2.2) then (
             bif (y10.2.1==y4.2.1) then (
              (dq y10.1 y4.1).bind fun y11 =>
              some y11
             ) else (
              some false
             )
            ) else (
             some false
            )
           )
          ) else (
           some false
          )
         ) else (
          some false
         )
        ) else (
         some false
        )
       )
      )
     )
    ) else (
     some true
    )
   ) else (
    some true
   )
  ) else (
   some true
  )
 ) else (
  some false
 )
def dv (y4:(List Bind)×Int×ah×Int) (v0:List Linear):AS:=⟨132,[(6,.bool false),(7,dS al y4.1),(8,iI y4.2.1),(10,iI y4.2.2.2),(17,.rslice 94)],[(94,.row 34 2 (v0.map ai))]⟩
theorem og (x0:List Linear) (x1 x2:UInt8) (r:Bool) (H:eR x0 x1 x2=some r):bW Tryz.prog 6 [dS ai x0,.int .u8 ((x1).toNat:Int),.int .u8 ((x2).toNat:Int)] (.bool r):=by
 unfold eR at H;refine aX Tryz.func6 132 [.tmp 6] ?_;refine aP H fun y0 h0 H0 => ?_;refine aV H0 (fun c0 H1 => ?_) (fun c1 H2 => ?_)
 ·refine aP H1 fun y1 h1 H3 => ?_;refine aV H3 (fun c2 H4 => ?_) (fun c3 H5 => ?_)
  ·refine aP H4 fun y2 h2 H6 => ?_;refine aV H6 (fun c4 H7 => ?_) (fun c5 H8 => ?_)
   ·refine aP H7 fun y3 h3 H9 => ?_;refine aV H9 (fun c6 H10 => ?_) (fun c7 H11 => ?_)
    ·refine pA 11 [.rg 0 [] [.v],.rg 0 [] [.c true (.bool y0),.v],.eqT 23 (.bool false),.rg 0 [] [.v,.c true (.bool true),.v,.v,.v,.c true (.bool true),.v,.v,.v,.v,.c true (.bool true),.v,.v,.v,.v,.e (.int .i64 ((x0.length:Nat):Int)),.v,.v]] [.only [0,1,2,6,41] []] 10 [false] ⟨132,[(0,.dslice (x0.map ai)),(1,.int .u8 ((x1).toNat:Int)),(2,.int .u8 ((x2).toNat:Int)),(6,.bool false),(41,.bool (((x0.length:Nat):Int)==0))],[]⟩ (aC Tryz.call7 (aF (gK _ h0) (aT (aM c0 (aC Tryz.call8 (aC (bW.eq (lU _ _ _ h1) (cB c2)) (aT (aC Tryz.call13 (aC (bW.eq (dx _ _ h2) (cB c4)) (aT (aC Tryz.call14 (aC (bW.eq (p6 _ _ _ h3) (cB c6)) (aT (aT (aC (aJ ai x0) aN))))))))))))))) ?_;refine aV H10 (fun c8 H12 => ?_) (fun c9 H13 => ?_)
     ·obtain rfl:=sI H12;exact pR 5 [.eqT 41 (.bool true),V1] [] [] (aB c8 aN)
     ·refine aP H13 fun y4 h4 H14 => ?_;refine aG H14 fun g0 H15 => ?_;refine aG H15 fun g1 H16 => ?_;refine aG H16 fun g2 H17 => ?_;refine aG H17 fun g3 H18 => ?_;refine aP H18 fun y5 h5 H19 => ?_;refine pA 13 [.eqT 41 (.bool false),r0 [.v,.c true (.tup [dS al y4.1,iI y4.2.1,.agg [dS ag y4.2.2.1.Mults,iI y4.2.2.1.Mod],iI y4.2.2.2]),.v,.v,.v,.v,.v,.m,.v,.v,.m,.v],r0 [.v,.e (iI ((x1).toNat:Int)),.v,.e (nI x0.length),.v,.v],.rg 10 [.b,.apx ([(Linear.mk 0 [])].map ai),.v,.apx (([(Linear.mk 0 [])]++x0).map ai),.b,.v,.v,.e (.dptr (ai (x0.getD (((x1).toNat:Int).tmod ((x0.length:Nat):Int)).toNat ⟨0,[]⟩))),.v,.bw [[(0,1)]]] [.ap,.rwH 64 (.row 34 2 ((([(Linear.mk 0 [])]++x0)++[(Linear.mk 0 []),(Linear.mk ((x0.getD (((x1).toNat:Int).tmod ((x0.length:Nat):Int)).toNat ⟨0,[]⟩).Const) ((x0.getD (((x1).toNat:Int).tmod ((x0.length:Nat):Int)).toNat ⟨0,[]⟩).Terms))]).map ai)),.v],r0 [.v,.fz 64,.c true (.tup [dS al y5.1,iI y5.2.1,.agg [dS ag y5.2.2.1.Mults,iI y5.2.2.1.Mod],iI y5.2.2.2]),.v,.v,.v,.v,.v,.m,.v,.v,.m,.v]] [.only [0,2,6,7,8,10,11,13,14,16] []] 12 [false] ⟨132,[(0,dS ai x0),(2,.int .u8 ((x2).toNat:Int)),(6,.bool false),(7,dS al y4.1),(8,iI y4.2.1),(10,iI y4.2.2.2),(11,iI (((x1).toNat:Int).tmod ((x0.length:Nat):Int))),(13,dS al y5.1),(14,iI y5.2.1),(16,iI y5.2.2.2)],[]⟩ (aB c9 (aC Tryz.call9 (aF (bS _ _ _ h4) (aT (aC (congrArg (AV.int .i64) (wrap_u8 x1)) (aT (aC (aJ ai x0) (aC (show (((x0.length:Nat):Int):Int)≠0 from g0) (aC (Eq.refl ([(Linear.mk 0 [])].map ai)) (bF (Hw (c:=ai) nR [(Linear.mk 0 [])] x0 32 (by decide) (by simpa using g1) List.map_append.symm) (bF (GI (f:=ai) (l:=x0) (n:=(((x1).toNat:Int).tmod ((x0.length:Nat):Int))) ⟨0,[]⟩ a8 (by decide) (by exact g2)) (bF (wD (c:=ai) nR ([(Linear.mk 0 [])]++x0) [(Linear.mk 0 []),(Linear.mk ((x0.getD (((x1).toNat:Int).tmod ((x0.length:Nat):Int)).toNat ⟨0,[]⟩).Const) ((x0.getD (((x1).toNat:Int).tmod ((x0.length:Nat):Int)).toNat ⟨0,[]⟩).Terms))] 32 (by decide) (by simpa using g3)) (aC (zO 34 2 ai ([(Linear.mk 0 [])]++x0) [(Linear.mk 0 []),(Linear.mk ((x0.getD (((x1).toNat:Int).tmod ((x0.length:Nat):Int)).toNat ⟨0,[]⟩).Const) ((x0.getD (((x1).toNat:Int).tmod ((x0.length:Nat):Int)).toNat ⟨0,[]⟩).Terms))]) (aC Tryz.call9 (aF (bS _ _ _ h5) aN))))))))))))))) ?_;refine aV H19 (fun c10 H20 => ?_) (fun c11 H21 => ?_)
      ·obtain rfl:=sI H20;exact pR 5 [r0 [.v,.e (.bool true),.v,.s,.s,.v],V1] [] [] (aB c10 aN)
      ·refine aV H21 (fun c12 H22 => ?_) (fun c13 H23 => ?_)
       ·obtain rfl:=sI H22;exact pR 6 [r0 [.v,.e (.bool false),.v,.v,.v,.v],.eqT 77 (.bool true),V1] [] [] (aB c11 (aB c12 aN))
       ·refine aV H23 (fun c14 H24 => ?_) (fun c15 H25 => ?_)
        ·refine aV H24 (fun c16 H26 => ?_) (fun c17 H27 => ?_)
         ·refine aP H26 fun y6 h6 H28 => ?_;refine pA 7 [r0 [.v,.e (.bool false),.v,.v,.v,.v],.eqT 77 (.bool false),r0 [.v,.v,.e (.bool false),.v,.v,.v,.e (.bool false),.v,.v,.v,.v,.c true (.bool y6),.v,.v]] [.only [0,2,6,7,8,10,11,91] []] 6 [false] ⟨132,[(0,dS ai x0),(2,.int .u8 ((x2).toNat:Int)),(6,.bool false),(7,dS al y4.1),(8,iI y4.2.1),(10,iI y4.2.2.2),(11,iI (((x1).toNat:Int).tmod ((x0.length:Nat):Int))),(91,.bool (!y6))],[]⟩ (aB c11 (aB c13 (aM c14 (aM c16 (aC Tryz.call20 (aF (lX _ _ _ h6) (aT aN))))))) ?_;refine aV H28 (fun c18 H29 => ?_) (fun c19 H30 => ?_)
          ·refine aG H29 fun g4 H31 => ?_;refine pA 6 [.eqT 91 (.bool false),r0 [.b,.v,.er 92 94 34 2,.ap,.rwH 94 (.row 34 2 (x0.map ai)),.v]] [.only [0,2,6,7,8,10,11,17] [94]] 5 [false] ⟨132,[(0,dS ai x0),(2,.int .u8 ((x2).toNat:Int)),(6,.bool false),(7,dS al y4.1),(8,iI y4.2.1),(10,iI y4.2.2.2),(11,iI (((x1).toNat:Int).tmod ((x0.length:Nat):Int))),(17,.rslice 94)],[(94,.row 34 2 (x0.map ai))]⟩ (aM c18 (bF (wD (c:=ai) nR [] x0 32 (by decide) (by simpa using g4)) (aC (IE 34 2 ai x0) aN))) ?_;refine aP H31 fun v0 h7 H32 => ?_;refine dQ 0 (dv y4 v0) (by kernel_rfl) ?_ ?_
           ·refine aV h7 (fun c20 H33 => ?_) (fun c21 H34 => ?_)
            ·refine aP H33 fun y7 h8 H35 => ?_;refine aG H35 fun g5 H36 => ?_;obtain rfl:=sI H36;exact pB 1 [.rg 12 [.v,.v,.b,.v,.v,.e (.dptr (ai (x0.getD (((x1).toNat:Int).tmod ((x0.length:Nat):Int)).toNat ⟨0,[]⟩))),.v,.b,.v,.e (.int .u8 0),.v,.cw true [(0,[(1,0)])] (.agg [iI y7.Const,dS aj y7.Terms])] [.v,.rs ((((x1).toNat:Int).tmod ((x0.length:Nat):Int)).toNat) 0,.rwH 94 (.row 34 2 ((x0.set ((((x1).toNat:Int).tmod ((x0.length:Nat):Int)).toNat) y7).map ai))]] [.only [6,7,8,10,17] [94]] (dv y4 (x0.set ((((x1).toNat:Int).tmod ((x0.length:Nat):Int)).toNat) y7)) (bF (GI (f:=ai) (l:=x0) (n:=(((x1).toNat:Int).tmod ((x0.length:Nat):Int))) ⟨0,[]⟩ a8 (by decide) (by exact g2)) (aC (show (3:Int)≠0 from (by decide)) (aC (congrArg (AV.int .u8) (eq_of_beq c20)) (aT (aC Tryz.call16 (aF (jG _ _ _ _ h8) (aC (show (0:Int)≤(((x1).toNat:Int).tmod ((x0.length:Nat):Int))∧(((x1).toNat:Int).tmod ((x0.length:Nat):Int))<((x0.map ai).length:Int) from by rw [Kp];exact g2) (aC (gR (f:=ai) (l:=x0) (n:=(((x1).toNat:Int).tmod ((x0.length:Nat):Int)).toNat) 2 0 2 (by omega) (by decide)) (aC (r7 (f:=ai) 34 2 x0 ((((x1).toNat:Int).tmod ((x0.length:Nat):Int)).toNat) ⟨0,[]⟩ y7 0 [iI y7.Const,dS aj y7.Terms] (by omega) rfl) aN)))))))))
            ·refine aV H34 (fun c22 H37 => ?_) (fun c23 H38 => ?_)
             ·refine aP H37 fun y8 h9 H39 => ?_;refine aG H39 fun g6 H40 => ?_;obtain rfl:=sI H40;exact pB 1 [.rg 12 [.v,.v,.b,.v,.v,.e (.dptr (ai (x0.getD (((x1).toNat:Int).tmod ((x0.length:Nat):Int)).toNat ⟨0,[]⟩))),.v,.b,.v,.e (.int .u8 1),.v,.cw true [(0,[(1,0)])] (.agg [iI y8.Const,dS aj y8.Terms])] [.v,.rs ((((x1).toNat:Int).tmod ((x0.length:Nat):Int)).toNat) 0,.rwH 94 (.row 34 2 ((x0.set ((((x1).toNat:Int).tmod ((x0.length:Nat):Int)).toNat) y8).map ai))]] [.only [6,7,8,10,17] [94]] (dv y4 (x0.set ((((x1).toNat:Int).tmod ((x0.length:Nat):Int)).toNat) y8)) (bF (GI (f:=ai) (l:=x0) (n:=(((x1).toNat:Int).tmod ((x0.length:Nat):Int))) ⟨0,[]⟩ a8 (by decide) (by exact g2)) (aC (show (3:Int)≠0 from (by decide)) (aC (congrArg (AV.int .u8) (eq_of_beq c22)) (aT (aC Tryz.call16 (aF (jG _ _ _ _ h9) (aC (show (0:Int)≤(((x1).toNat:Int).tmod ((x0.length:Nat):Int))∧(((x1).toNat:Int).tmod ((x0.length:Nat):Int))<((x0.map ai).length:Int) from by rw [Kp];exact g2) (aC (gR (f:=ai) (l:=x0) (n:=(((x1).toNat:Int).tmod ((x0.length:Nat):Int)).toNat) 2 0 2 (by omega) (by decide)) (aC (r7 (f:=ai) 34 2 x0 ((((x1).toNat:Int).tmod ((x0.length:Nat):Int)).toNat) ⟨0,[]⟩ y8 0 [iI y8.Const,dS aj y8.Terms] (by omega) rfl) aN)))))))))
             ·refine aG H38 fun g7 H41 => ?_;refine aP H41 fun y9 h10 H42 => ?_;refine aG H42 fun g8 H43 => ?_;obtain rfl:=sI H43;exact pB 1 [.rg 12 [.v,.v,.b,.v,.v,.e (.dptr (ai (x0.getD (((x1).toNat:Int).tmod ((x0.length:Nat):Int)).toNat ⟨0,[]⟩))),.v,.b,.v,.e (.int .u8 2),.v,.cw true [(0,[(1,0)])] (.agg [iI y9.Const,dS aj y9.Terms])] [.v,.rs ((((x1).toNat:Int).tmod ((x0.length:Nat):Int)).toNat) 0,.rwH 94 (.row 34 2 ((x0.set ((((x1).toNat:Int).tmod ((x0.length:Nat):Int)).toNat) y9).map ai))]] [.only [6,7,8,10,17] [94]] (dv y4 (x0.set ((((x1).toNat:Int).tmod ((x0.length:Nat):Int)).toNat) y9)) (bF (GI (f:=ai) (l:=x0) (n:=(((x1).toNat:Int).tmod ((x0.length:Nat):Int))) ⟨0,[]⟩ a8 (by decide) (by exact g2)) (aC (show (3:Int)≠0 from (by decide)) (aC (congrArg (AV.int .u8) g7) (aT (aC Tryz.call16 (aF (jG _ _ _ _ h10) (aC (show (0:Int)≤(((x1).toNat:Int).tmod ((x0.length:Nat):Int))∧(((x1).toNat:Int).tmod ((x0.length:Nat):Int))<((x0.map ai).length:Int) from by rw [Kp];exact g2) (aC (gR (f:=ai) (l:=x0) (n:=(((x1).toNat:Int).tmod ((x0.length:Nat):Int)).toNat) 2 0 2 (by omega) (by decide)) (aC (r7 (f:=ai) 34 2 x0 ((((x1).toNat:Int).tmod ((x0.length:Nat):Int)).toNat) ⟨0,[]⟩ y9 0 [iI y9.Const,dS aj y9.Terms] (by omega) rfl) aN)))))))))
           ·refine aP H32 fun y10 h11 H44 => ?_;refine aV H44 (fun c24 H45 => ?_) (fun c25 H46 => ?_)
            ·obtain rfl:=sI H45;exact pR 5 [r0 [.v,.fz 94,.c true (.tup [dS al y10.1,iI y10.2.1,.agg [dS ag y10.2.2.1.Mults,iI y10.2.2.1.Mod],iI y10.2.2.2]),.v,.v,.v,.v,.v,.m,.v,.v,.m,.v],r0 [.v,.e (.bool true),.v,.s,.s,.s,.s,.s,.s,.s,.s,.s,.s,.s,.s,.s,.v,.v]] [] [] (aC Tryz.call9 (aF (bS _ _ _ h11) (aB c24 aN)))
            ·refine aV H46 (fun c26 H47 => ?_) (fun c27 H48 => ?_)
             ·refine aV H47 (fun c28 H49 => ?_) (fun c29 H50 => ?_)
              ·refine aP H49 fun y11 h12 H51 => ?_;refine cK H51 fun e0 => ?_;subst e0;exact pR 5 [r0 [.v,.fz 94,.c true (.tup [dS al y10.1,iI y10.2.1,.agg [dS ag y10.2.2.1.Mults,iI y10.2.2.1.Mod],iI y10.2.2.2]),.v,.v,.v,.v,.v,.m,.v,.v,.m,.v],r0 [.v,.e (.bool false),.v,.v,.v,.e (.bool true),.v,.v,.v,.e (.bool true),.v,.v,.v,.v,.c true (.bool y11),.v,.v,.v]] [] [] (aC Tryz.call9 (aF (bS _ _ _ h11) (aB c25 (aB c26 (aB c28 (aC Tryz.call20 (aF (lX _ _ _ h12) aN)))))))
              ·obtain rfl:=sI H50;exact pR 5 [r0 [.v,.fz 94,.c true (.tup [dS al y10.1,iI y10.2.1,.agg [dS ag y10.2.2.1.Mults,iI y10.2.2.1.Mod],iI y10.2.2.2]),.v,.v,.v,.v,.v,.m,.v,.v,.m,.v],r0 [.v,.e (.bool false),.v,.v,.v,.e (.bool true),.v,.v,.v,.e (.bool false),.v,.v,.s,.s,.s,.v,.v,.v]] [] [] (aC Tryz.call9 (aF (bS _ _ _ h11) (aB c25 (aB c26 (aB c29 aN)))))
             ·obtain rfl:=sI H48;exact pR 5 [r0 [.v,.fz 94,.c true (.tup [dS al y10.1,iI y10.2.1,.agg [dS ag y10.2.2.1.Mults,iI y10.2.2.1.Mod],iI y10.2.2.2]),.v,.v,.v,.v,.v,.m,.v,.v,.m,.v],r0 [.v,.e (.bool false),.v,.v,.v,.e (.bool false),.v,.s,.s,.s,.v,.v,.s,.s,.s,.v,.v,.v]] [] [] (aC Tryz.call9 (aF (bS _ _ _ h11) (aB c25 (aB c27 aN))))
          ·obtain rfl:=sI H30;exact pR 5 [.eqT 91 (.bool true),V1] [] [] (aM c19 aN)
         ·obtain rfl:=sI H27;exact pR 11 [r0 [.v,.e (.bool false),.v,.v,.v,.v],.eqT 77 (.bool false),r0 [.v,.v,.e (.bool false),.v,.v,.v,.e (.bool true),.v,.v,.s,.s,.s,.s,.v],V1] [] [] (aB c11 (aB c13 (aM c14 (aM c17 aN))))
        ·obtain rfl:=sI H25;exact pR 11 [r0 [.v,.e (.bool false),.v,.v,.v,.v],.eqT 77 (.bool false),r0 [.v,.v,.e (.bool true),.v,.s,.s,.s,.v,.v,.s,.s,.s,.s,.v],V1] [] [] (aB c11 (aB c13 (aM c15 aN)))
    ·obtain rfl:=sI H11;exact pR 15 [V1,r0 [.c true (.bool y0),.v],.eqT 23 (.bool false),r0 [.v,.c true (.bool true),.v,.v,.v,.c true (.bool true),.v,.v,.v,.v,.c true (.bool false),.v,.v,.v,.s,.s,.s,.v],V1] [] [] (aC Tryz.call7 (aF (gK _ h0) (aT (aM c0 (aC Tryz.call8 (aC (bW.eq (lU _ _ _ h1) (cB c2)) (aT (aC Tryz.call13 (aC (bW.eq (dx _ _ h2) (cB c4)) (aT (aC Tryz.call14 (aC (bW.eq (p6 _ _ _ h3) (cB c7)) (aT aN)))))))))))))
   ·obtain rfl:=sI H8;exact pR 15 [V1,r0 [.c true (.bool y0),.v],.eqT 23 (.bool false),r0 [.v,.c true (.bool true),.v,.v,.v,.c true (.bool false),.v,.v,.v,.s,.s,.s,.v,.v,.s,.s,.s,.v],V1] [] [] (aC Tryz.call7 (aF (gK _ h0) (aT (aM c0 (aC Tryz.call8 (aC (bW.eq (lU _ _ _ h1) (cB c2)) (aT (aC Tryz.call13 (aC (bW.eq (dx _ _ h2) (cB c5)) (aT aN))))))))))
  ·obtain rfl:=sI H5;exact pR 15 [V1,r0 [.c true (.bool y0),.v],.eqT 23 (.bool false),r0 [.v,.c true (.bool false),.v,.v,.s,.s,.s,.v,.v,.s,.s,.s,.v,.v,.s,.s,.s,.v],V1] [] [] (aC Tryz.call7 (aF (gK _ h0) (aT (aM c0 (aC Tryz.call8 (aC (bW.eq (lU _ _ _ h1) (cB c3)) (aT aN)))))))
 ·obtain rfl:=sI H2;exact pR 10 [V1,r0 [.c true (.bool y0),.v],.eqT 23 (.bool true),V1] [] [] (aC Tryz.call7 (aF (gK _ h0) (aT (aM c1 aN))))
end Go.Proofs.YtlhcekghjfjajaaGreatDoor
