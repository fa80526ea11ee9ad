/- What functions of the program compute, walked: each as a plain function, with the theorem that the code computes it wherever that answers. Printed by a program, part 3. -/
import Derived.Test.YtjfpcjnopbfekaaGreatDoorWkbShapeEval
set_option linter.unusedSimpArgs false
set_option linter.unusedVariables false
namespace Go.Proofs.YtjfpcjnopbfekaaGreatDoor
open Go.RowKit Go.Ab Go.Sh
def fX (x0 x1:List Int):Option (Int×Int) :=
 bif (((x0.length:Nat):Int)==((x1.length:Nat):Int)) then (
  bif decide (((x0.length:Nat):Int)>10000) then (
   some (0,3)
  ) else (
   (cY (σ:=Unit) (ε:=Unit) (ρ:=(Int×Int)) (fun i0 s0 =>
    (fR (x0.getD i0 0)).bind fun y0 =>
    bif y0 then (
     cy (i0<x1.length) <|
     (fR (x1.getD i0 0)).bind fun y1 =>
     bif y1 then (
      some (.go ())
     ) else (
      some (.ret (0,2))
     )
    ) else (
     some (.ret (0,2))
    )
   ) (fun i0 s0=>()) (x0.length-0) 0 ()).bind <| aft fun u0 =>
   (cY (σ:=(Int×Int×Int×Int×Int)) (ε:=(Int×Int×Int×Int×Int)) (ρ:=Empty) (fun i1 s1 =>
    (cO (x0.getD i1 0)).bind fun y2 =>
    cy (i1<x1.length) <|
    (cO (x1.getD i1 0)).bind fun y3 =>
    some (.go ((aJ (s1.1+(aJ (y2.1*y3.1)))),(aJ ((aJ (s1.2.1+(aJ (y2.1*y3.2.1))))+(aJ (y2.2.1*y3.1)))),(aJ ((aJ ((aJ (s1.2.2.1+(aJ (y2.1*y3.2.2))))+(aJ (y2.2.1*y3.2.1))))+(aJ (y2.2.2*y3.1)))),(aJ ((aJ (s1.2.2.2.1+(aJ (y2.2.1*y3.2.2))))+(aJ (y2.2.2*y3.2.1)))),(aJ (s1.2.2.2.2+(aJ (y2.2.2*y3.2.2))))))
   ) (fun i1 s1=>(s1.1,s1.2.1,s1.2.2.1,s1.2.2.2.1,s1.2.2.2.2)) (x0.length-0) 0 (0,0,0,0,0)).bind <| gu fun u1 =>
   (eI u1.1 2097152).bind fun y4 =>
   (some (aJ (u1.1-(aJ (y4.1*2097152))))).bind fun y5 =>
   (eI (aJ (u1.2.1+y4.1)) 2097152).bind fun y6 =>
   (some (aJ ((aJ (u1.2.1+y4.1))-(aJ (y6.1*2097152))))).bind fun y7 =>
   (eI (aJ (u1.2.2.1+y6.1)) 2097152).bind fun y8 =>
   (some (aJ ((aJ (u1.2.2.1+y6.1))-(aJ (y8.1*2097152))))).bind fun y9 =>
   (eI (aJ (u1.2.2.2.1+y8.1)) 2097152).bind fun y10 =>
   (some (aJ ((aJ (u1.2.2.2.1+y8.1))-(aJ (y10.1*2097152))))).bind fun y11 =>
   (eI (aJ (u1.2.2.2.2+y10.1)) 2097152).bind fun y12 =>
   (some (aJ ((aJ (u1.2.2.2.2+y10.1))-(aJ (y12.1*2097152))))).bind fun y13 =>
   (eI (aJ (0+y12.1)) 2097152).bind fun y14 =>
   (some (aJ ((aJ (0+y12.1))-(aJ (y14.1*2097152))))).bind fun y15 =>
   (eI (aJ (0+y14.1)) 2097152).bind fun y16 =>
   (some (aJ ((aJ (0+y14.1))-(aJ (y16.1*2097152))))).bind fun y17 =>
   bif decide ((aJ (0+(aJ (0+y16.1))))>2199023255552) then (
    some (0,2)
   ) else (
    bif decide ((aJ (0+(aJ (0+y16.1))))<(-2199023255552)) then (
     some (0,2)
    ) else (
     (some (aJ ((aJ (0+(aJ (0+y16.1))))*2097152))).bind fun y18 =>
     bif decide ((aJ (y18+y17))>2199023255552) then (
      some (0,2)
     ) else (
      bif decide ((aJ (y18+y17))<(-2199023255552)) then (
       some (0,2)
      ) else (
       (some (aJ ((aJ (y18+y17))*2097152))).bind fun y19 =>
       bif decide ((aJ (y19+y15))>2199023255552) then (
        some (0,2)
       ) else (
        bif decide ((aJ (y19+y15))<(-2199023255552)) then (
         some (0,2)
        ) else (
         (some (aJ ((aJ (y19+y15))*2097152))).bind fun y20 =>
         bif decide ((aJ (y20+y13))>2199023255552) then (
          some (0,2)
         ) else (
          bif decide ((aJ (y20+y13))<(-2199023255552)) then (
           some (0,2)
          ) else (
           (some (aJ ((aJ (y20+y13))*2097152))).bind fun y21 =>
           bif decide ((aJ (y21+y11))>2199023255552) then (
            some (0,2)
           ) else (
            bif decide ((aJ (y21+y11))<(-2199023255552)) then (
             some (0,2)
            ) else (
             (some (aJ ((aJ (y21+y11))*2097152))).bind fun y22 =>
             bif decide ((aJ (y22+y9))>2199023255552) then (
              some (0,2)
             ) else (
              bif decide ((aJ (y22+y9))<(-2199023255552)) then (
               some (0,2)
              ) else (
               (some (aJ ((aJ (y22+y9))*2097152))).bind fun y23 =>
               bif decide ((aJ (y23+y7))>2199023255552) then (
                some (0,2)
               ) else (
                bif decide ((aJ (y23+y7))<(-2199023255552)) then (
                 some (0,2)
                ) else (
                 (some (aJ ((aJ (y23+y7))*2097152))).bind fun y24 =>
                 (fR (aJ (y24+y5))).bind fun y25 =>
                 bif y25 then (
                  some ((aJ (y24+y5)),0)
                 ) else (
                  some (0,2)
                 )
                )
               )
              )
             )
            )
           )
          )
         )
        )
       )
      )
     )
    )
   )
  )
 ) else (
  some (0,1)
 )
def oF (x0 x1:List Int) (i0:Nat) (s0:Unit):AS:=⟨130,[(0,dS ab x0),(1,dS ab x1),(4,iI 0),(5,iI 0),(6,nI i0)],[]⟩
def sV (x0 x1:List Int) (u2:Unit):AS:=⟨130,[(0,dS ab x0),(1,dS ab x1),(4,iI 0),(5,iI 0)],[]⟩
def oX (x0 x1:List Int) (i1:Nat) (s1:Int×Int×Int×Int×Int):AS:=⟨130,[(0,dS ab x0),(1,dS ab x1),(4,iI 0),(5,iI 0),(7,.hptr 7 0),(8,nI i1)],[(7,.cells 216 [iI s1.1,iI s1.2.1,iI s1.2.2.1,iI s1.2.2.2.1,iI s1.2.2.2.2,iI 0,iI 0,iI 0])]⟩
def s7 (u3:Int×Int×Int×Int×Int):AS:=⟨130,[(4,iI 0),(5,iI 0),(7,.hptr 7 0)],[(7,.cells 216 [iI u3.1,iI u3.2.1,iI u3.2.2.1,iI u3.2.2.2.1,iI u3.2.2.2.2,iI 0,iI 0,iI 0])]⟩
theorem uM (x0 x1:List Int) (r:Int×Int) (H:fX x0 x1=some r):a8 Tryz.prog 130 [dS ab x0,dS ab x1] (.tup [iI r.1,iI r.2]):=by
 unfold fX at H;refine aX Tryz.func130 130 [.tmp 4,.tmp 5] ?_;refine aK H (fun c0 H0 => ?_) (fun c1 H1 => ?_)
 ·refine pA 11 [.rg 0 [] [.v,.v],.rg 0 [] [.v,.e (.int .i64 ((x0.length:Nat):Int)),.v,.e (.int .i64 ((x1.length:Nat):Int)),.v],.eqT 22 (.bool false),.rg 0 [] [.v,.e (.int .i64 ((x0.length:Nat):Int)),.v]] [.only [0,1,4,5,25] []] 10 [false] ⟨130,[(0,.dslice (x0.map ab)),(1,.dslice (x1.map ab)),(4,.int .i64 0),(5,.int .i64 0),(25,.bool (decide (((x0.length:Nat):Int)>10000)))],[]⟩ (aT (aC (aA ab x0) (aT (aC (aA ab x1) (aM c0 (aT (aC (aA ab x0) aN))))))) ?_;refine aK H0 (fun c2 H2 => ?_) (fun c3 H3 => ?_)
  ·obtain rfl:=sI H2;exact pR 5 [.eqT 25 (.bool true),V2] [] [] (aB c2 aN)
  ·have c3p:=KS c3;refine pA 7 [.eqT 25 (.bool false),V1] [.only [0,1,4,5,6] []] 6 [false] (oF x0 x1 0 ()) (aB c3 aN) ?_;refine az H3 fun R0 h0 H4 => ?_;refine pJ 1 (sV x0 x1) R0 ?_ (fun u0 e0 => ?_)
   ·refine pC (oF x0 x1) h0 (fun i0 s0 h1 e1 => ?_) (fun i0 s0 h2 q0 h3 h4 => ?_)
    ·have c4:=lF i0 x0.length (by omega);subst e1;exact pB 5 [r0 [.v,.v,.e (nI x0.length),.e (.bool false)]] [.only [0,1,4,5] []] (sV x0 x1 ()) (aT (aC (aA ab x0) (aB c4 aN)))
    ·have c5:=lT i0 x0.length (by omega);refine az h3 fun y0 h5 H5 => ?_;refine aK H5 (fun c6 H6 => ?_) (fun c7 H7 => ?_)
     ·refine aU H6 fun g0 H8 => ?_;refine az H8 fun y1 h6 H9 => ?_;refine pA 9 [r0 [.v,.v,.e (nI x0.length),.e (.bool true)],r0 [.v,.v,.e (.dptr [iI (x0.getD i0 0)]),.v,.c true (.bool true),.v,.v,.v,.v,.e (.dptr [iI (x1.getD i0 0)]),.v,.c true (.bool y1),.v,.v]] [.only [0,1,4,5,6,45] []] 9 [true] ⟨130,[(0,dS ab x0),(1,dS ab x1),(4,iI 0),(5,iI 0),(6,nI i0),(45,.bool (!y1))],[]⟩ (aT (aC (aA ab x0) (aB c5 (aI cm x0 i0 0 (aC Tryz.call115 (aC (a8.eq (bO _ _ h5) (cB c6)) (aT (aI cm x1 i0 0 (aC Tryz.call115 (aF (bO _ _ h6) (aT aN))))))))))) ?_;refine aK H9 (fun c8 H10 => ?_) (fun c9 H11 => ?_)
      ·refine bu 0 (ps:=[(x0.map ab).length≤9223372036854775807]) (by kernel_rfl) (fun l0 => ?_);have l1:x0.length≤9223372036854775807:=by simpa only [bt,KW] using l0
       clear l0;obtain rfl:=sI H10;exact pB 4 [.eqT 45 (.bool false),V3] [.only [0,1,4,5,6] []] (oF x0 x1 (i0+1) ()) (aM c8 (aH i0 aN))
      ·obtain rfl:=sI H11;obtain rfl:=aw h4;obtain rfl:=sI (ao H4);exact pR 5 [.eqT 45 (.bool true),V2] [] [] (aM c9 aN)
     ·obtain rfl:=sI H7;obtain rfl:=aw h4;obtain rfl:=sI (ao H4);exact pR 13 [r0 [.v,.v,.e (nI x0.length),.e (.bool true)],r0 [.v,.v,.e (.dptr [iI (x0.getD i0 0)]),.v,.c true (.bool false),.v,.v,.s,.s,.s,.s,.s,.s,.v],V2] [] [] (aT (aC (aA ab x0) (aB c5 (aI cm x0 i0 0 (aC Tryz.call115 (aC (a8.eq (bO _ _ h5) (cB c7)) (aT aN)))))))
   ·subst e0;have H12:=aV H4;refine pA 6 [r0 [.m],V1] [.only [0,1,4,5,7,8] [7]] 6 [] (oX x0 x1 0 (0,0,0,0,0)) aN ?_;refine az H12 fun R1 h7 H13 => ?_;refine pJ 1 (s7) R1 ?_ (fun u1 e2 => ?_)
    ·refine pC (oX x0 x1) h7 (fun i1 s1 h8 e3 => ?_) (fun i1 s1 h9 q1 h10 h11 => ?_)
     ·have c10:=lF i1 x0.length (by omega);subst e3;exact pB 5 [r0 [.v,.v,.e (nI x0.length),.e (.bool false)]] [.only [4,5,7] [7]] (s7 (s1.1,s1.2.1,s1.2.2.1,s1.2.2.2.1,s1.2.2.2.2)) (aT (aC (aA ab x0) (aB c10 aN)))
     ·have c11:=lT i1 x0.length (by omega);refine az h10 fun y2 h12 H14 => ?_;refine aU H14 fun g1 H15 => ?_;refine az H15 fun y3 h13 H16 => ?_;refine bu 0 (ps:=[(x0.map ab).length≤9223372036854775807]) (by kernel_rfl) (fun l2 => ?_);have l3:x0.length≤9223372036854775807:=by simpa only [bt,KW] using l2
      clear l2;obtain rfl:=sI H16;exact pB 163 [r0 [.v,.v,.e (nI x0.length),.e (.bool true)],.rg 12 [.v,.v,.e (.dptr [iI (x0.getD i1 0)]),.v,.c true (.agg [iI y2.1,iI y2.2.1,iI y2.2.2]),.v,.v,.e (.dptr [iI (x1.getD i1 0)]),.v,.c true (.agg [iI y3.1,iI y3.2.1,iI y3.2.2]),.m,.m] [.m,.m],V1,.un,V2,V1,.un,V2,.rg 12 (V 11 [.w]) [.w,.v,.m],V3,.cv [.only [0,1,4,5,7,8,9,10,11,12] [7,9,10]],V2,.rg 12 (V 11 [.w]) [.w,.v,.m],V3,.cv [.only [0,1,4,5,7,8,9,10,11,12] [7,9,10]],V2,.rg 12 (V 11 [.w]) [.w,.v,.m],V3,.cv [.only [0,1,4,5,7,8,9,10,11,12] [7,9,10]],V2,V3,.cv [.only [0,1,4,5,7,8,9,10,11] [7,9,10]],V2,V1,.un,V2,.rg 12 (V 11 [.w]) [.w,.v,.m],V3,.cv [.only [0,1,4,5,7,8,9,10,11,12] [7,9,10]],V2,.rg 12 (V 11 [.w]) [.w,.v,.m],V3,.cv [.only [0,1,4,5,7,8,9,10,11,12] [7,9,10]],V2,.rg 12 (V 11 [.w]) [.w,.v,.m],V3,.cv [.only [0,1,4,5,7,8,9,10,11,12] [7,9,10]],V2,V3,.cv [.only [0,1,4,5,7,8,9,10,11] [7,9,10]],V2,V1,.un,V2,.rg 12 (V 11 [.w]) [.w,.v,.m],V3,.cv [.only [0,1,4,5,7,8,9,10,11,12] [7,9,10]],V2,.rg 12 (V 11 [.w]) [.w,.v,.m],V3,.cv [.only [0,1,4,5,7,8,9,10,11,12] [7,9,10]],V2,.rg 12 (V 11 [.w]) [.w,.v,.m],V3,.cv [.only [0,1,4,5,7,8,9,10,11,12] [7,9,10]],V2,V3,.cv [.only [0,1,4,5,7,8,9,10,11] [7,9,10]],V2,V3] [.only [0,1,4,5,7,8] [7]] (oX x0 x1 (i1+1) ((aJ (s1.1+(aJ (y2.1*y3.1)))),(aJ ((aJ (s1.2.1+(aJ (y2.1*y3.2.1))))+(aJ (y2.2.1*y3.1)))),(aJ ((aJ ((aJ (s1.2.2.1+(aJ (y2.1*y3.2.2))))+(aJ (y2.2.1*y3.2.1))))+(aJ (y2.2.2*y3.1)))),(aJ ((aJ (s1.2.2.2.1+(aJ (y2.2.1*y3.2.2))))+(aJ (y2.2.2*y3.2.1)))),(aJ (s1.2.2.2.2+(aJ (y2.2.2*y3.2.2)))))) (aT (aC (aA ab x0) (aB c11 (aI cm x0 i1 0 (aC Tryz.call203 (aF (qB _ _ h12) (aI cm x1 i1 0 (aC Tryz.call203 (aF (qB _ _ h13) (aO (0+0) (aT (aT (aT (aT (aO (0+1) (aO (0+1) (aT (aT (aT (aT (aO (1+1) (aO (0+2) (aT (aT (aT (aT (aO (2+1) (aO (0+1) (aO (1+0) (aT (aT (aT (aT (aO (0+1) (aO (1+1) (aT (aT (aT (aT (aO (1+1) (aO (1+2) (aT (aT (aT (aT (aO (2+1) (aO (1+1) (aO (2+0) (aT (aT (aT (aT (aO (0+1) (aO (2+1) (aT (aT (aT (aT (aO (1+1) (aO (2+2) (aT (aT (aT (aT (aO (2+1) (aO (2+1) (aH i1 aN)))))))))))))))))))))))))))))))))))))))))))))))))))))))))))))))))))
    ·subst e2;have H17:=cn H13;refine az H17 fun y4 h14 H18 => ?_;refine az H18 fun y5 h15 H19 => ?_;refine az H19 fun y6 h16 H20 => ?_;refine az H20 fun y7 h17 H21 => ?_;refine az H21 fun y8 h18 H22 => ?_;refine az H22 fun y9 h19 H23 => ?_;refine az H23 fun y10 h20 H24 => ?_;refine az H24 fun y11 h21 H25 => ?_;refine az H25 fun y12 h22 H26 => ?_;refine az H26 fun y13 h23 H27 => ?_;refine az H27 fun y14 h24 H28 => ?_;refine az H28 fun y15 h25 H29 => ?_;refine az H29 fun y16 h26 H30 => ?_;refine az H30 fun y17 h27 H31 => ?_;refine pA 139 [V1,.un,V3,r0 [.v,.v,.v,.c true (.tup [iI y4.1,iI y4.2]),.v,.v,.v,.v,.v],r0 (V 4 [.w,.we (iI y5),.v,.m]),r0 (V 5 [.w,.v,.m]),V3,.cv [.only [4,5,7,13] [7]],V3,r0 [.v,.v,.v,.c true (.tup [iI y6.1,iI y6.2]),.v,.v,.v,.v,.v],r0 (V 4 [.w,.we (iI y7),.v,.m]),r0 (V 5 [.w,.v,.m]),V3,.cv [.only [4,5,7,13] [7]],V3,r0 [.v,.v,.v,.c true (.tup [iI y8.1,iI y8.2]),.v,.v,.v,.v,.v],r0 (V 4 [.w,.we (iI y9),.v,.m]),r0 (V 5 [.w,.v,.m]),V3,.cv [.only [4,5,7,13] [7]],V3,r0 [.v,.v,.v,.c true (.tup [iI y10.1,iI y10.2]),.v,.v,.v,.v,.v],r0 (V 4 [.w,.we (iI y11),.v,.m]),r0 (V 5 [.w,.v,.m]),V3,.cv [.only [4,5,7,13] [7]],V3,r0 [.v,.v,.v,.c true (.tup [iI y12.1,iI y12.2]),.v,.v,.v,.v,.v],r0 (V 4 [.w,.we (iI y13),.v,.m]),r0 (V 5 [.w,.v,.m]),V3,.cv [.only [4,5,7,13] [7]],V3,r0 [.v,.v,.v,.c true (.tup [iI y14.1,iI y14.2]),.v,.v,.v,.v,.v],r0 (V 4 [.w,.we (iI y15),.v,.m]),r0 (V 5 [.w,.v,.m]),V3,.cv [.only [4,5,7,13] [7]],V3,r0 [.v,.v,.v,.c true (.tup [iI y16.1,iI y16.2]),.v,.v,.v,.v,.v],r0 (V 4 [.w,.we (iI y17),.v,.m]),r0 (V 5 [.w,.v,.m]),V3,.cv [.only [4,5,7,13] [7]],V3,V1,V1,.un,V2,V6,r0 (V 5 [.w,.v]),V3,.cv [.only [4,5,7,16,17] [7]],V2] [.only [4,5,7,16,17] [7]] 131 [true,true,true,true,true,true,true,false,true,false,true] ⟨130,[(4,iI 0),(5,iI 0),(7,.hptr 7 0),(16,iI (aJ (0+(aJ (0+y16.1))))),(17,iI 6)],[(7,.cells 216 [iI y5,iI y7,iI y9,iI y11,iI y13,iI y15,iI y17,iI (aJ (0+y16.1))])]⟩ (aO (0+1) (aT (aC Tryz.call204 (aF (gA _ _ _ h14) (aT (aC (congrArg (AV.int .i64) (K4 h15)) (aT (aO (0+1) (aT (aT (aO (0+1) (aO (1+1) (aT (aC Tryz.call204 (aF (gA _ _ _ h16) (aT (aC (congrArg (AV.int .i64) (K4 h17)) (aT (aO (1+1) (aT (aT (aO (1+1) (aO (2+1) (aT (aC Tryz.call204 (aF (gA _ _ _ h18) (aT (aC (congrArg (AV.int .i64) (K4 h19)) (aT (aO (2+1) (aT (aT (aO (2+1) (aO (3+1) (aT (aC Tryz.call204 (aF (gA _ _ _ h20) (aT (aC (congrArg (AV.int .i64) (K4 h21)) (aT (aO (3+1) (aT (aT (aO (3+1) (aO (4+1) (aT (aC Tryz.call204 (aF (gA _ _ _ h22) (aT (aC (congrArg (AV.int .i64) (K4 h23)) (aT (aO (4+1) (aT (aT (aO (4+1) (aO (5+1) (aT (aC Tryz.call204 (aF (gA _ _ _ h24) (aT (aC (congrArg (AV.int .i64) (K4 h25)) (aT (aO (5+1) (aT (aT (aO (5+1) (aO (6+1) (aT (aC Tryz.call204 (aF (gA _ _ _ h26) (aT (aC (congrArg (AV.int .i64) (K4 h27)) (aT (aO (6+1) (aT (aT (aO (6+1) (aO (7+1) (aO (0*2097152) (aT (aO (7-1) aN))))))))))))))))))))))))))))))))))))))))))))))))))))))))))))))))))))))))))))))))) ?_;refine aK H31 (fun c12 H32 => ?_) (fun c13 H33 => ?_)
     ·obtain rfl:=sI H32;exact pR 5 [r0 [.v,.e (.bool true),.v,.s,.s,.v],V2] [] [] (aB c12 aN)
     ·have c13p:=KS c13;refine aK H33 (fun c14 H34 => ?_) (fun c15 H35 => ?_)
      ·obtain rfl:=sI H34;exact pR 6 [r0 [.v,.e (.bool false),.v,.v,.v,.v],.eqT 119 (.bool true),V2] [] [] (aB c13 (aB c14 aN))
      ·have c15p:=KS c15;refine az H35 fun y18 h28 H36 => ?_;refine pA 16 [r0 [.v,.e (.bool false),.v,.v,.v,.v],.eqT 119 (.bool false),r0 [.v,.we (iI y18),.v,.v,.v,.w,.v],V3,.cv [.only [4,5,7,16,17] [7]],V2] [.only [4,5,7,16,17] [7]] 14 [false,true] ⟨130,[(4,iI 0),(5,iI 0),(7,.hptr 7 0),(16,iI (aJ (y18+y17))),(17,iI 5)],[(7,.cells 216 [iI y5,iI y7,iI y9,iI y11,iI y13,iI y15,iI y17,iI (aJ (0+y16.1))])]⟩ (aB c13 (aB c15 (aC (congrArg (AV.int .i64) (K4 h28)) (aT (aO (6-1) aN))))) ?_;refine aK H36 (fun c16 H37 => ?_) (fun c17 H38 => ?_)
       ·obtain rfl:=sI H37;exact pR 5 [r0 [.v,.e (.bool true),.v,.s,.s,.v],V2] [] [] (aB c16 aN)
       ·have c17p:=KS c17;refine aK H38 (fun c18 H39 => ?_) (fun c19 H40 => ?_)
        ·obtain rfl:=sI H39;exact pR 6 [r0 [.v,.e (.bool false),.v,.v,.v,.v],.eqT 119 (.bool true),V2] [] [] (aB c17 (aB c18 aN))
        ·have c19p:=KS c19;refine az H40 fun y19 h29 H41 => ?_;refine pA 16 [r0 [.v,.e (.bool false),.v,.v,.v,.v],.eqT 119 (.bool false),r0 [.v,.we (iI y19),.v,.v,.v,.w,.v],V3,.cv [.only [4,5,7,16,17] [7]],V2] [.only [4,5,7,16,17] [7]] 14 [false,true] ⟨130,[(4,iI 0),(5,iI 0),(7,.hptr 7 0),(16,iI (aJ (y19+y15))),(17,iI 4)],[(7,.cells 216 [iI y5,iI y7,iI y9,iI y11,iI y13,iI y15,iI y17,iI (aJ (0+y16.1))])]⟩ (aB c17 (aB c19 (aC (congrArg (AV.int .i64) (K4 h29)) (aT (aO (5-1) aN))))) ?_;refine aK H41 (fun c20 H42 => ?_) (fun c21 H43 => ?_)
         ·obtain rfl:=sI H42;exact pR 5 [r0 [.v,.e (.bool true),.v,.s,.s,.v],V2] [] [] (aB c20 aN)
         ·have c21p:=KS c21;refine aK H43 (fun c22 H44 => ?_) (fun c23 H45 => ?_)
          ·obtain rfl:=sI H44;exact pR 6 [r0 [.v,.e (.bool false),.v,.v,.v,.v],.eqT 119 (.bool true),V2] [] [] (aB c21 (aB c22 aN))
          ·have c23p:=KS c23;refine az H45 fun y20 h30 H46 => ?_;refine pA 16 [r0 [.v,.e (.bool false),.v,.v,.v,.v],.eqT 119 (.bool false),r0 [.v,.we (iI y20),.v,.v,.v,.w,.v],V3,.cv [.only [4,5,7,16,17] [7]],V2] [.only [4,5,7,16,17] [7]] 14 [false,true] ⟨130,[(4,iI 0),(5,iI 0),(7,.hptr 7 0),(16,iI (aJ (y20+y13))),(17,iI 3)],[(7,.cells 216 [iI y5,iI y7,iI y9,iI y11,iI y13,iI y15,iI y17,iI (aJ (0+y16.1))])]⟩ (aB c21 (aB c23 (aC (congrArg (AV.int .i64) (K4 h30)) (aT (aO (4-1) aN))))) ?_;refine aK H46 (fun c24 H47 => ?_) (fun c25 H48 => ?_)
           ·obtain rfl:=sI H47;exact pR 5 [r0 [.v,.e (.bool true),.v,.s,.s,.v],V2] [] [] (aB c24 aN)
           ·have c25p:=KS c25;refine aK H48 (fun c26 H49 => ?_) (fun c27 H50 => ?_)
            ·obtain rfl:=sI H49;exact pR 6 [r0 [.v,.e (.bool false),.v,.v,.v,.v],.eqT 119 (.bool true),V2] [] [] (aB c25 (aB c26 aN))
            ·have c27p:=KS c27;refine az H50 fun y21 h31 H51 => ?_;refine pA 16 [r0 [.v,.e (.bool false),.v,.v,.v,.v],.eqT 119 (.bool false),r0 [.v,.we (iI y21),.v,.v,.v,.w,.v],V3,.cv [.only [4,5,7,16,17] [7]],V2] [.only [4,5,7,16,17] [7]] 14 [false,true] ⟨130,[(4,iI 0),(5,iI 0),(7,.hptr 7 0),(16,iI (aJ (y21+y11))),(17,iI 2)],[(7,.cells 216 [iI y5,iI y7,iI y9,iI y11,iI y13,iI y15,iI y17,iI (aJ (0+y16.1))])]⟩ (aB c25 (aB c27 (aC (congrArg (AV.int .i64) (K4 h31)) (aT (aO (3-1) aN))))) ?_;refine aK H51 (fun c28 H52 => ?_) (fun c29 H53 => ?_)
             ·obtain rfl:=sI H52;exact pR 5 [r0 [.v,.e (.bool true),.v,.s,.s,.v],V2] [] [] (aB c28 aN)
             ·have c29p:=KS c29;refine aK H53 (fun c30 H54 => ?_) (fun c31 H55 => ?_)
              ·obtain rfl:=sI H54;exact pR 6 [r0 [.v,.e (.bool false),.v,.v,.v,.v],.eqT 119 (.bool true),V2] [] [] (aB c29 (aB c30 aN))
              ·have c31p:=KS c31;refine az H55 fun y22 h32 H56 => ?_;refine pA 16 [r0 [.v,.e (.bool false),.v,.v,.v,.v],.eqT 119 (.bool false),r0 [.v,.we (iI y22),.v,.v,.v,.w,.v],V3,.cv [.only [4,5,7,16,17] [7]],V2] [.only [4,5,7,16,17] [7]] 14 [false,true] ⟨130,[(4,iI 0),(5,iI 0),(7,.hptr 7 0),(16,iI (aJ (y22+y9))),(17,iI 1)],[(7,.cells 216 [iI y5,iI y7,iI y9,iI y11,iI y13,iI y15,iI y17,iI (aJ (0+y16.1))])]⟩ (aB c29 (aB c31 (aC (congrArg (AV.int .i64) (K4 h32)) (aT (aO (2-1) aN))))) ?_;refine aK H56 (fun c32 H57 => ?_) (fun c33 H58 => ?_)
               ·obtain rfl:=sI H57;exact pR 5 [r0 [.v,.e (.bool true),.v,.s,.s,.v],V2] [] [] (aB c32 aN)
               ·have c33p:=KS c33;refine aK H58 (fun c34 H59 => ?_) (fun c35 H60 => ?_)
                ·obtain rfl:=sI H59;exact pR 6 [r0 [.v,.e (.bool false),.v,.v,.v,.v],.eqT 119 (.bool true),V2] [] [] (aB c33 (aB c34 aN))
                ·have c35p:=KS c35;refine az H60 fun y23 h33 H61 => ?_;refine pA 16 [r0 [.v,.e (.bool false),.v,.v,.v,.v],.eqT 119 (.bool false),r0 [.v,.we (iI y23),.v,.v,.v,.w,.v],V3,.cv [.only [4,5,7,16,17] [7]],V2] [.only [4,5,7,16,17] [7]] 14 [false,true] ⟨130,[(4,iI 0),(5,iI 0),(7,.hptr 7 0),(16,iI (aJ (y23+y7))),(17,iI 0)],[(7,.cells 216 [iI y5,iI y7,iI y9,iI y11,iI y13,iI y15,iI y17,iI (aJ (0+y16.1))])]⟩ (aB c33 (aB c35 (aC (congrArg (AV.int .i64) (K4 h33)) (aT (aO (1-1) aN))))) ?_;refine aK H61 (fun c36 H62 => ?_) (fun c37 H63 => ?_)
                 ·obtain rfl:=sI H62;exact pR 5 [r0 [.v,.e (.bool true),.v,.s,.s,.v],V2] [] [] (aB c36 aN)
                 ·have c37p:=KS c37;refine aK H63 (fun c38 H64 => ?_) (fun c39 H65 => ?_)
                  ·obtain rfl:=sI H64;exact pR 6 [r0 [.v,.e (.bool false),.v,.v,.v,.v],.eqT 119 (.bool true),V2] [] [] (aB c37 (aB c38 aN))
                  ·have c39p:=KS c39;refine az H65 fun y24 h34 H66 => ?_;refine az H66 fun y25 h35 H67 => ?_;refine pA 15 [r0 [.v,.e (.bool false),.v,.v,.v,.v],.eqT 119 (.bool false),r0 [.v,.we (iI y24),.v,.v,.v,.w,.v],V3,.cv [.only [4,5,7,16,17] [7]],V2,r0 [.v,.c true (.bool y25),.v]] [.only [4,5,16,128] []] 13 [false,false] ⟨130,[(4,iI 0),(5,iI 0),(16,iI (aJ (y24+y5))),(128,.bool (!y25))],[]⟩ (aB c37 (aB c39 (aC (congrArg (AV.int .i64) (K4 h34)) (aT (aO (0-1) (aC Tryz.call115 (aF (bO _ _ h35) (aT aN)))))))) ?_;refine aK H67 (fun c40 H68 => ?_) (fun c41 H69 => ?_)
                   ·obtain rfl:=sI H68;exact pR 6 [.eqT 128 (.bool false),V3] [] [] (aM c40 aN)
                   ·obtain rfl:=sI H69;exact pR 5 [.eqT 128 (.bool true),V2] [] [] (aM c41 aN)
 ·obtain rfl:=sI H1;exact pR 10 [V2,r0 [.v,.e (nI x0.length),.v,.e (nI x1.length),.v],.eqT 22 (.bool true),V2] [] [] (aT (aC (aA ab x0) (aT (aC (aA ab x1) (aM c1 aN)))))
def gQ (x0 x1:List aa):Option ((List aa)×Int) :=
 (fE x0).bind fun y0 =>
 bif y0 then (
  (fE x1).bind fun y1 =>
  bif y1 then (
   (cY (σ:=((List (List ai))×(List (List Int))×(List (List Int)))) (ε:=((List (List ai))×(List (List Int))×(List (List Int)))) (ρ:=Empty) (fun i0 s0 =>
    (cY (σ:=((List (List ai))×(List (List Int))×(List (List Int)))) (ε:=((List (List ai))×(List (List Int))×(List (List Int)))) (ρ:=Empty) (fun i1 s1 =>
     (jF ((x0.getD i0 ⟨0,[]⟩).Vars) ((x1.getD i1 ⟨0,[]⟩).Vars)).bind fun y2 =>
     (cY (σ:=Unit) (ε:=Nat) (ρ:=Empty) (fun i2 s2 =>
      (dz (s1.1.getD i2 []) y2).bind fun y3 =>
      bif (y3==0) then (
       some (.brk i2)
      ) else (
       some (.go ())
      )
     ) (fun i2 s2=>i2) (s1.1.length-0) 0 ()).bind <| gu fun u0 =>
     ((
      bif (((u0:Nat):Int)==((s1.1.length:Nat):Int)) then (
       cy ((s1.1.length+1)*24≤140737488355328) <|
       cy ((s1.2.2.length+1)*24≤140737488355328∧s1.2.2.length<1000000) <|
       cy ((s1.2.1.length+1)*24≤140737488355328∧s1.2.1.length<1000000) <|
       some ((s1.1++[y2]),(s1.2.1++[[]]),(s1.2.2++[[]]))
      ) else (
       some (s1.1,s1.2.1,s1.2.2)
      )
     ):Option ((List (List ai))×(List (List Int))×(List (List Int)))).bind fun v0 =>
     cy (u0<v0.2.2.length) <|
     cy (((v0.2.2.getD u0 []).length+[((x0.getD i0 ⟨0,[]⟩).Coef)].length)*8≤140737488355328) <|
     cy (u0<v0.2.1.length) <|
     cy (((v0.2.1.getD u0 []).length+[((x1.getD i1 ⟨0,[]⟩).Coef)].length)*8≤140737488355328) <|
     some (.go (v0.1,(v0.2.1.set u0 ((v0.2.1.getD u0 [])++[((x1.getD i1 ⟨0,[]⟩).Coef)])),(v0.2.2.set u0 ((v0.2.2.getD u0 [])++[((x0.getD i0 ⟨0,[]⟩).Coef)]))))
    ) (fun i1 s1=>(s1.1,s1.2.1,s1.2.2)) (x1.length-0) 0 (s0.1,s0.2.1,s0.2.2)).bind <| gu fun u1 =>
    some (.go (u1.1,u1.2.1,u1.2.2))
   ) (fun i0 s0=>(s0.1,s0.2.1,s0.2.2)) (x0.length-0) 0 ([],[],[])).bind <| gu fun u2 =>
   (cY (σ:=(List aa)) (ε:=(List aa)) (ρ:=((List aa)×Int)) (fun i3 s3 =>
    cy (i3<u2.2.2.length) <|
    cy (i3<u2.2.1.length) <|
    (fX (u2.2.2.getD i3 []) (u2.2.1.getD i3 [])).bind fun y4 =>
    bif (y4.2==0) then (
     (cK s3 (aa.mk y4.1 (u2.1.getD i3 []))).bind fun y5 =>
     some (.go y5)
    ) else (
     some (.ret ([],3))
    )
   ) (fun i3 s3=>s3) (u2.1.length-0) 0 []).bind <| aft fun u3 =>
   (dv u3).bind fun y6 =>
   some (y6.1,y6.2)
  ) else (
   some ([],1)
  )
 ) else (
  some ([],1)
 )
def oP (x0 x1:List aa) (i0:Nat) (s0:(List (List ai))×(List (List Int))×(List (List Int))):AS:=⟨137,[(0,dS ag x0),(1,dS ag x1),(4,.eslice),(5,iI 0),(6,.rslice 70),(7,.rslice 7),(8,.rslice 8),(9,nI i0)],[(7,.rrow 33 3 1 (mE ab s0.2.2)),(8,.rrow 33 3 1 (mE ab s0.2.1)),(70,.row 90 1 (s0.1.map aG))]⟩
def si (u4:(List (List ai))×(List (List Int))×(List (List Int))):AS:=⟨137,[(4,.eslice),(5,iI 0),(6,.rslice 70),(7,.rslice 7),(8,.rslice 8)],[(7,.rrow 33 3 1 (mE ab u4.2.2)),(8,.rrow 33 3 1 (mE ab u4.2.1)),(70,.row 90 1 (u4.1.map aG))]⟩
def oA (x0 x1:List aa) (i0 i1:Nat) (s1:(List (List ai))×(List (List Int))×(List (List Int))):AS:=⟨137,[(0,dS ag x0),(1,dS ag x1),(4,.eslice),(5,iI 0),(6,.rslice 70),(7,.rslice 7),(8,.rslice 8),(9,nI i0),(10,nI i1)],[(7,.rrow 33 3 1 (mE ab s1.2.2)),(8,.rrow 33 3 1 (mE ab s1.2.1)),(70,.row 90 1 (s1.1.map aG))]⟩
def te (x0 x1:List aa) (i0:Nat) (u5:(List (List ai))×(List (List Int))×(List (List Int))):AS:=⟨137,[(0,dS ag x0),(1,dS ag x1),(4,.eslice),(5,iI 0),(6,.rslice 70),(7,.rslice 7),(8,.rslice 8),(9,nI i0)],[(7,.rrow 33 3 1 (mE ab u5.2.2)),(8,.rrow 33 3 1 (mE ab u5.2.1)),(70,.row 90 1 (u5.1.map aG))]⟩
def pf (x0 x1:List aa) (i0 i1:Nat) (s1:(List (List ai))×(List (List Int))×(List (List Int))) (y2:List ai) (i2:Nat) (s2:Unit):AS:=⟨137,[(0,dS ag x0),(1,dS ag x1),(4,.eslice),(5,iI 0),(6,.rslice 70),(7,.rslice 7),(8,.rslice 8),(9,nI i0),(10,nI i1),(11,dS ax y2),(12,nI i2)],[(7,.rrow 33 3 1 (mE ab s1.2.2)),(8,.rrow 33 3 1 (mE ab s1.2.1)),(70,.row 90 1 (s1.1.map aG))]⟩
def o8 (x0 x1:List aa) (i0 i1:Nat) (s1:(List (List ai))×(List (List Int))×(List (List Int))) (y2:List ai) (u6:Nat):AS:=⟨137,[(0,dS ag x0),(1,dS ag x1),(4,.eslice),(5,iI 0),(6,.rslice 70),(7,.rslice 7),(8,.rslice 8),(9,nI i0),(10,nI i1),(11,dS ax y2),(12,nI u6)],[(7,.rrow 33 3 1 (mE ab s1.2.2)),(8,.rrow 33 3 1 (mE ab s1.2.1)),(70,.row 90 1 (s1.1.map aG))]⟩
def oU (x0 x1:List aa) (i0 i1 u0:Nat) (v0:(List (List ai))×(List (List Int))×(List (List Int))):AS:=⟨137,[(0,dS ag x0),(1,dS ag x1),(4,.eslice),(5,iI 0),(6,.rslice 70),(7,.rslice 7),(8,.rslice 8),(9,nI i0),(10,nI i1),(12,nI u0)],[(7,.rrow 33 3 1 (mE ab v0.2.2)),(8,.rrow 33 3 1 (mE ab v0.2.1)),(70,.row 90 1 (v0.1.map aG))]⟩
def pd (u2:(List (List ai))×(List (List Int))×(List (List Int))) (i3:Nat) (s3:List aa):AS:=⟨137,[(4,.eslice),(5,iI 0),(6,.rslice 70),(7,dS aZ u2.2.2),(8,dS aZ u2.2.1),(13,dS ag s3),(14,nI i3)],[(70,.row 90 1 (u2.1.map aG))]⟩
def s9 (u7:List aa):AS:=⟨137,[(4,.eslice),(5,iI 0),(13,dS ag u7)],[]⟩
theorem Bg (x0 x1:List aa) (r:(List aa)×Int) (H:gQ x0 x1=some r):a8 Tryz.prog 64 [dS ag x0,dS ag x1] (.tup [dS ag r.1,iI r.2]):=by
 unfold gQ at H;refine aX Tryz.func64 137 [.tmp 4,.tmp 5] ?_;refine az H fun y0 h0 H0 => ?_;refine aK H0 (fun c0 H1 => ?_) (fun c1 H2 => ?_)
 ·refine az H1 fun y1 h1 H3 => ?_;refine aK H3 (fun c2 H4 => ?_) (fun c3 H5 => ?_)
  ·refine pA 16 [.rg 0 [] [.v,.v],.rg 0 [] [.v,.c true (.bool true),.v,.v,.v,.c true (.bool y1),.v,.v],.eqT 24 (.bool false),.rg 0 [] [.v],.rg 0 [] [.v,.ew 7 7 33 3 1,.v,.ew 8 8 33 3 1],.rg 0 [] [.v]] [.er 6 70 90 1,.only [0,1,4,5,6,7,8,9] [7,8,70]] 15 [false] (oP x0 x1 0 ([],[],[])) (aC Tryz.call52 (aC (a8.eq (dt _ _ h0) (cB c0)) (aT (aC Tryz.call52 (aF (dt _ _ h1) (aT (aM c2 aN))))))) ?_;refine az H4 fun R0 h2 H6 => ?_;refine pJ 1 (si) R0 ?_ (fun u2 e0 => ?_)
   ·refine pC (oP x0 x1) h2 (fun i0 s0 h3 e1 => ?_) (fun i0 s0 h4 q0 h5 h6 => ?_)
    ·have c4:=lF i0 x0.length (by omega);subst e1;exact pB 5 [r0 [.v,.v,.e (nI x0.length),.e (.bool false)]] [.only [4,5,6,7,8] [7,8,70]] (si (s0.1,s0.2.1,s0.2.2)) (aT (aC (aA ag x0) (aB c4 aN)))
    ·have c5:=lT i0 x0.length (by omega);refine pA 10 [r0 [.v,.v,.e (nI x0.length),.e (.bool true)],V1] [.only [0,1,4,5,6,7,8,9,10] [7,8,70]] 10 [true] (oA x0 x1 i0 0 (s0.1,s0.2.1,s0.2.2)) (aT (aC (aA ag x0) (aB c5 aN))) ?_;refine az h5 fun R1 h7 H7 => ?_;refine pJ 2 (te x0 x1 i0) R1 ?_ (fun u1 e2 => ?_)
     ·refine pC (oA x0 x1 i0) h7 (fun i1 s1 h8 e3 => ?_) (fun i1 s1 h9 q1 h10 h11 => ?_)
      ·have c6:=lF i1 x1.length (by omega);subst e3;exact pB 5 [r0 [.v,.v,.e (nI x1.length),.e (.bool false)]] [.only [0,1,4,5,6,7,8,9] [7,8,70]] (te x0 x1 i0 (s1.1,s1.2.1,s1.2.2)) (aT (aC (aA ag x1) (aB c6 aN)))
      ·have c7:=lT i1 x1.length (by omega);refine az h10 fun y2 h12 H8 => ?_;refine pA 13 [r0 [.v,.v,.e (nI x1.length),.e (.bool true)],.rg 10 [.v,.v,.e (.dptr (ag (x0.getD i0 ⟨0,[]⟩))),.v,.v,.v,.v,.e (.dptr (ag (x1.getD i1 ⟨0,[]⟩))),.v,.v] [.c true (dS ax y2),.v],V1] [.only [0,1,4,5,6,7,8,9,10,11,12] [7,8,70]] 13 [true] (pf x0 x1 i0 i1 s1 y2 0 ()) (aT (aC (aA ag x1) (aB c7 (aI aS x0 i0 ⟨0,[]⟩ (aI aS x1 i1 ⟨0,[]⟩ (aC Tryz.call129 (aF (zB _ _ _ h12) aN))))))) ?_;refine az H8 fun R2 h13 H9 => ?_;refine pJ 1 (o8 x0 x1 i0 i1 s1 y2) R2 ?_ (fun u0 e4 => ?_)
       ·refine pC (pf x0 x1 i0 i1 s1 y2) h13 (fun i2 s2 h14 e5 => ?_) (fun i2 s2 h15 q2 h16 h17 => ?_)
        ·have c8:=lF i2 s1.1.length (by omega);subst e5;exact pB 5 [r0 [.v,.v,.e (nI s1.1.length),.e (.bool false),.v,.s,.s,.s,.s,.s,.s,.s,.v]] [.only [0,1,4,5,6,7,8,9,10,11,12] [7,8,70]] (o8 x0 x1 i0 i1 s1 y2 i2) (aT (aC (aA aG s1.1) (aB c8 aN)))
        ·have c9:=lT i2 s1.1.length (by omega);refine az h16 fun y3 h18 H10 => ?_;refine pA 3 [r0 [.v,.v,.e (nI s1.1.length),.e (.bool true),.v,.v,.v,.v,.rl i2 0 (.dslice ((s1.1.getD i2 []).map ax)),.v,.c true (iI y3),.v,.v]] [.only [0,1,4,5,6,7,8,9,10,11,12,60] [7,8,70]] 3 [] ⟨137,[(0,dS ag x0),(1,dS ag x1),(4,.eslice),(5,iI 0),(6,.rslice 70),(7,.rslice 7),(8,.rslice 8),(9,nI i0),(10,nI i1),(11,dS ax y2),(12,nI i2),(60,.bool (y3 != 0))],[(7,.rrow 33 3 1 (mE ab s1.2.2)),(8,.rrow 33 3 1 (mE ab s1.2.1)),(70,.row 90 1 (s1.1.map aG))]⟩ (aT (aC (aA aG s1.1) (aB c9 (aC (show (0:Int)≤((i2:Nat):Int)∧((i2:Nat):Int)<((s1.1.map aG).length:Int) from by rw [KW];omega) (aC (Kh (f:=aG) (l:=s1.1) (n:=i2) 1 0 1 (by omega) (by decide)) (aC (Kt (f:=aG) (l:=s1.1) (n:=i2) [] 0 (by omega)) (aC Tryz.call122 (aF (nA _ _ _ h18) aN)))))))) ?_;refine aK H10 (fun c10 H11 => ?_) (fun c11 H12 => ?_)
         ·obtain rfl:=sI H11;obtain rfl:=jz h17;exact pB 3 [.eqT 60 (.bool false)] [.only [0,1,4,5,6,7,8,9,10,11,12] [7,8,70]] (o8 x0 x1 i0 i1 s1 y2 i2) (aM c10 aN)
         ·refine sB 70 (n:=(s1.1.map aG).length) (by kernel_rfl) (fun l0 => ?_);have l1:s1.1.length≤9223372036854775807:=by simpa only [KW] using l0
          clear l0;obtain rfl:=sI H12;exact pB 5 [.eqT 60 (.bool true),V3] [.only [0,1,4,5,6,7,8,9,10,11,12] [7,8,70]] (pf x0 x1 i0 i1 s1 y2 (i2+1) ()) (aM c11 (aH i2 aN))
       ·subst e4;have H13:=cn H9;refine pA 3 [r0 [.v,.v,.e (nI s1.1.length),.v]] [.only [0,1,4,5,6,7,8,9,10,11,12,66] [7,8,70]] 3 [] ⟨137,[(0,dS ag x0),(1,dS ag x1),(4,.eslice),(5,iI 0),(6,.rslice 70),(7,.rslice 7),(8,.rslice 8),(9,nI i0),(10,nI i1),(11,dS ax y2),(12,nI u0),(66,.bool (((u0:Nat):Int)==((s1.1.length:Nat):Int)))],[(7,.rrow 33 3 1 (mE ab s1.2.2)),(8,.rrow 33 3 1 (mE ab s1.2.1)),(70,.row 90 1 (s1.1.map aG))]⟩ (aT (aC (aA aG s1.1) aN)) ?_;refine az H13 fun v0 h19 H14 => ?_;refine dF 0 (oU x0 x1 i0 i1 u0 v0) (by kernel_rfl) ?_ ?_
        ·refine aK h19 (fun c12 H15 => ?_) (fun c13 H16 => ?_)
         ·refine aU H15 fun g0 H17 => ?_;refine aU H17 fun g1 H18 => ?_;refine aU H18 fun g2 H19 => ?_;obtain rfl:=sI H19;exact pB 3 [.eqT 66 (.bool true),r0 [.v,.v,.b,.ap,.rwH 70 (.row 90 1 ((s1.1++[y2]).map aG)),.v,.b,.qo (.apr (mE ab (s1.2.2++[[]]))),.v,.b,.qo (.apr (mE ab (s1.2.1++[[]]))),.v,.v,.v]] [.only [0,1,4,5,6,7,8,9,10,12] [7,8,70]] (oU x0 x1 i0 i1 u0 ((s1.1++[y2]),(s1.2.1++[[]]),(s1.2.2++[[]]))) (aB c12 (aY (vo (c:=aG) w4 s1.1 [y2] 24 (by decide) (by simpa using g0)) (aC (xT 90 1 aG s1.1 [y2]) (aC (Ed ab s1.2.2 g1) (aC (DW ab s1.2.2) (aC (Ed ab s1.2.1 g2) (aC (DW ab s1.2.1) aN)))))))
         ·obtain rfl:=sI H16;exact pB 3 [.eqT 66 (.bool false)] [.only [0,1,4,5,6,7,8,9,10,12] [7,8,70]] (oU x0 x1 i0 i1 u0 (s1.1,s1.2.1,s1.2.2)) (aB c13 aN)
        ·refine aU H14 fun g3 H20 => ?_;refine aU H20 fun g4 H21 => ?_;refine aU H21 fun g5 H22 => ?_;refine aU H22 fun g6 H23 => ?_;refine bu 1 (ps:=[(x1.map ag).length≤9223372036854775807]) (by kernel_rfl) (fun l2 => ?_);have l3:x1.length≤9223372036854775807:=by simpa only [bt,KW] using l2
         clear l2;obtain rfl:=sI H23;exact pB 2 [.rg 28 [.rr,.v,.v,.v,.v,.v,.v,.v,.qo (.tk ((v0.2.2.getD u0 []).map ab) ((mE ab v0.2.2).set u0 none)),.v,.v,.e (.dptr (ag (x0.getD i0 ⟨0,[]⟩))),.v,.v,.b,.apx (((v0.2.2.getD u0 [])++[((x0.getD i0 ⟨0,[]⟩).Coef)]).map ab),.v,.v,.v,.qo (.tk ((v0.2.1.getD u0 []).map ab) ((mE ab v0.2.1).set u0 none)),.v,.v,.e (.dptr (ag (x1.getD i1 ⟨0,[]⟩))),.v,.v,.b,.apx (((v0.2.1.getD u0 [])++[((x1.getD i1 ⟨0,[]⟩).Coef)]).map ab),.v,.qo (.st (mE ab (v0.2.2.set u0 ((v0.2.2.getD u0 [])++[((x0.getD i0 ⟨0,[]⟩).Coef)]))))] [.v,.qo (.st (mE ab (v0.2.1.set u0 ((v0.2.1.getD u0 [])++[((x1.getD i1 ⟨0,[]⟩).Coef)]))))],V3] [.only [0,1,4,5,6,7,8,9,10] [7,8,70]] (oA x0 x1 i0 (i1+1) (v0.1,(v0.2.1.set u0 ((v0.2.1.getD u0 [])++[((x1.getD i1 ⟨0,[]⟩).Coef)])),(v0.2.2.set u0 ((v0.2.2.getD u0 [])++[((x0.getD i0 ⟨0,[]⟩).Coef)])))) (aC (show (0:Int)≤((u0:Nat):Int)∧((u0:Nat):Int)<(((mE ab v0.2.2)).length:Int) from by rw [oR];omega) (aC (F2 ab v0.2.2 g3) (aC (DJ ab v0.2.2 g3) (aC (Eq.refl ((mE ab v0.2.2).set u0 none)) (aI aS x0 i0 ⟨0,[]⟩ (aY (IA (c:=ab) dW (v0.2.2.getD u0 []) [((x0.getD i0 ⟨0,[]⟩).Coef)] 8 (by decide) (by simpa using g4) List.map_append.symm) (aC (show (0:Int)≤((u0:Nat):Int)∧((u0:Nat):Int)<(((mE ab v0.2.1)).length:Int) from by rw [oR];omega) (aC (F2 ab v0.2.1 g5) (aC (DJ ab v0.2.1 g5) (aC (Eq.refl ((mE ab v0.2.1).set u0 none)) (aI aS x1 i1 ⟨0,[]⟩ (aY (IA (c:=ab) dW (v0.2.1.getD u0 []) [((x1.getD i1 ⟨0,[]⟩).Coef)] 8 (by decide) (by simpa using g6) List.map_append.symm) (aC (show (0:Int)≤((u0:Nat):Int)∧((u0:Nat):Int)<((((mE ab v0.2.2).set u0 none)).length:Int) from by rw [List.length_set,oR];omega) (aC (DG ab v0.2.2 (i:=u0) g3) (aC (El ab v0.2.2 u0 ((v0.2.2.getD u0 [])++[((x0.getD i0 ⟨0,[]⟩).Coef)])) (aC (show (0:Int)≤((u0:Nat):Int)∧((u0:Nat):Int)<((((mE ab v0.2.1).set u0 none)).length:Int) from by rw [List.length_set,oR];omega) (aC (DG ab v0.2.1 (i:=u0) g5) (aC (El ab v0.2.1 u0 ((v0.2.1.getD u0 [])++[((x1.getD i1 ⟨0,[]⟩).Coef)])) (aH i1 aN)))))))))))))))))))
     ·subst e2;have H24:=cn H7;refine bu 0 (ps:=[(x0.map ag).length≤9223372036854775807]) (by kernel_rfl) (fun l4 => ?_);have l5:x0.length≤9223372036854775807:=by simpa only [bt,KW] using l4
      clear l4;obtain rfl:=sI H24;exact pB 1 [V3] [.only [0,1,4,5,6,7,8,9] [7,8,70]] (oP x0 x1 (i0+1) (u1.1,u1.2.1,u1.2.2)) (aH i0 aN)
   ·subst e0;have H25:=cn H6;refine pA 6 [r0 [.fw 7,.rwT 7 (dS aZ u2.2.2),.fw 8,.rwT 8 (dS aZ u2.2.1),.v],V1] [.wk 13 [],.only [4,5,6,7,8,13,14] [70]] 6 [] (pd u2 0 []) (aC (Eg ab u2.2.2) (aC (congrArg AV.dslice (DY ab u2.2.2)) (aC (Eg ab u2.2.1) (aC (congrArg AV.dslice (DY ab u2.2.1)) aN)))) ?_;refine az H25 fun R3 h20 H26 => ?_;refine pJ 1 (s9) R3 ?_ (fun u3 e6 => ?_)
    ·refine pC (pd u2) h20 (fun i3 s3 h21 e7 => ?_) (fun i3 s3 h22 q3 h23 h24 => ?_)
     ·have c14:=lF i3 u2.1.length (by omega);subst e7;exact pB 5 [r0 [.v,.v,.e (nI u2.1.length),.e (.bool false)]] [.only [4,5,13] []] (s9 s3) (aT (aC (aA aG u2.1) (aB c14 aN)))
     ·have c15:=lT i3 u2.1.length (by omega);refine aU h23 fun g7 H27 => ?_;refine aU H27 fun g8 H28 => ?_;refine az H28 fun y4 h25 H29 => ?_;refine pA 12 [r0 [.v,.v,.e (nI u2.1.length),.e (.bool true)],.rg 13 [.v,.v,.e (.dptr [.dslice ((u2.2.2.getD i3 []).map ab)]),.v,.v,.v,.e (.dptr [.dslice ((u2.2.1.getD i3 []).map ab)]),.v,.c true (.tup [iI y4.1,iI y4.2]),.v,.v,.v,.v] [.v],V2] [.only [4,5,6,7,8,13,14,15,124] [70]] 12 [true] ⟨137,[(4,.eslice),(5,iI 0),(6,.rslice 70),(7,dS aZ u2.2.2),(8,dS aZ u2.2.1),(13,dS ag s3),(14,nI i3),(15,iI y4.1),(124,.bool (y4.2 != 0))],[(70,.row 90 1 (u2.1.map aG))]⟩ (aT (aC (aA aG u2.1) (aB c15 (aI pw u2.2.2 i3 [] (aI pw u2.2.1 i3 [] (aC Tryz.call130 (aF (uM _ _ _ h25) aN))))))) ?_;refine aK H29 (fun c16 H30 => ?_) (fun c17 H31 => ?_)
      ·refine az H30 fun y5 h26 H32 => ?_;refine sB 70 (n:=(u2.1.map aG).length) (by kernel_rfl) (fun l6 => ?_);have l7:u2.1.length≤9223372036854775807:=by simpa only [KW] using l6
       clear l6;obtain rfl:=sI H32;exact pB 5 [.eqT 124 (.bool false),r0 (V 5 [.rl i3 0 (.dslice ((u2.1.getD i3 []).map ax)),.b,.c true (dS ag y5),.v]),V3] [.only [4,5,6,7,8,13,14] [70]] (pd u2 (i3+1) y5) (aM c16 (aC (show (0:Int)≤((i3:Nat):Int)∧((i3:Nat):Int)<((u2.1.map aG).length:Int) from by rw [KW];omega) (aC (Kh (f:=aG) (l:=u2.1) (n:=i3) 1 0 1 (by omega) (by decide)) (aC (Kt (f:=aG) (l:=u2.1) (n:=i3) [] 0 (by omega)) (aC Tryz.call128 (aF (kZ _ _ _ h26) (aH i3 aN)))))))
      ·obtain rfl:=sI H31;obtain rfl:=aw h24;obtain rfl:=sI (ao H26);exact pR 5 [.eqT 124 (.bool true),V2] [.wk 4 []] [] (aM c17 aN)
    ·subst e6;have H33:=aV H26;refine az H33 fun y6 h27 H34 => ?_;obtain rfl:=sI H34;exact pR 3 [r0 [.v,.c true (.tup [dS ag y6.1,iI y6.2]),.v,.v,.v,.v]] [] [] (aC Tryz.call126 (aF (ky _ _ h27) aN))
  ·obtain rfl:=sI H5;exact pR 10 [V2,r0 [.v,.c true (.bool true),.v,.v,.v,.c true (.bool y1),.v,.v],.eqT 24 (.bool true),V2] [.wk 4 []] [] (aC Tryz.call52 (aC (a8.eq (dt _ _ h0) (cB c0)) (aT (aC Tryz.call52 (aF (dt _ _ h1) (aT (aM c3 aN)))))))
 ·obtain rfl:=sI H2;exact pR 9 [V2,r0 [.v,.c true (.bool false),.v,.v,.s,.s,.s,.v],V2] [.wk 4 []] [] (aC Tryz.call52 (aC (a8.eq (dt _ _ h0) (cB c1)) (aT aN)))
def ij (x0:List Linear):Option ((List aa)×Int) :=
 (cY (σ:=Unit) (ε:=Unit) (ρ:=((List aa)×Int)) (fun i0 s0 =>
  (fC (Linear.mk ((x0.getD i0 ⟨0,[]⟩).Const) ((x0.getD i0 ⟨0,[]⟩).Terms))).bind fun y0 =>
  bif y0 then (
   some (.go ())
  ) else (
   some (.ret ([],1))
  )
 ) (fun i0 s0=>()) (x0.length-0) 0 ()).bind <| aft fun u0 =>
 (gN 1).bind fun y1 =>
 (cY (σ:=(List aa)) (ε:=(List aa)) (ρ:=((List aa)×Int)) (fun i1 s1 =>
  (lX (Linear.mk ((x0.getD i1 ⟨0,[]⟩).Const) ((x0.getD i1 ⟨0,[]⟩).Terms))).bind fun y2 =>
  (gQ s1 y2.1).bind fun y3 =>
  bif (y3.2==0) then (
   some (.go y3.1)
  ) else (
   some (.ret ([],y3.2))
  )
 ) (fun i1 s1=>s1) (x0.length-0) 0 y1.1).bind <| aft fun u1 =>
 some (u1,0)
def jK (x0:List Linear) (i0:Nat) (s0:Unit):AS:=⟨53,[(0,dS ah x0),(2,.eslice),(3,iI 0),(4,nI i0)],[]⟩
def ow (x0:List Linear) (u2:Unit):AS:=⟨53,[(0,dS ah x0),(2,.eslice),(3,iI 0)],[]⟩
def jI (x0:List Linear) (i1:Nat) (s1:List aa):AS:=⟨53,[(0,dS ah x0),(2,.eslice),(3,iI 0),(5,dS ag s1),(7,nI i1)],[]⟩
def nU (u3:List aa):AS:=⟨53,[(2,.eslice),(3,iI 0),(5,dS ag u3)],[]⟩
theorem vp (x0:List Linear) (r:(List aa)×Int) (H:ij x0=some r):a8 Tryz.prog 143 [dS ah x0] (.tup [dS ag r.1,iI r.2]):=by
 unfold ij at H;refine aX Tryz.func143 53 [.tmp 2,.tmp 3] ?_;refine pA 6 [V2,V1] [.only [0,2,3,4] []] 6 [] (jK x0 0 ()) aN ?_;refine az H fun R0 h0 H0 => ?_;refine pJ 1 (ow x0) R0 ?_ (fun u0 e0 => ?_)
 ·refine pC (jK x0) h0 (fun i0 s0 h1 e1 => ?_) (fun i0 s0 h2 q0 h3 h4 => ?_)
  ·have c0:=lF i0 x0.length (by omega);subst e1;exact pB 5 [r0 [.v,.v,.e (nI x0.length),.e (.bool false)]] [.only [0,2,3] []] (ow x0 ()) (aT (aC (aA ah x0) (aB c0 aN)))
  ·have c1:=lT i0 x0.length (by omega);refine az h3 fun y0 h5 H1 => ?_;refine pA 9 [r0 [.v,.v,.e (nI x0.length),.e (.bool true)],r0 [.v,.v,.e (.dptr (ah (x0.getD i0 ⟨0,[]⟩))),.v,.c true (.bool y0),.v]] [.only [0,2,3,4,23] []] 9 [true] ⟨53,[(0,dS ah x0),(2,.eslice),(3,iI 0),(4,nI i0),(23,.bool (!y0))],[]⟩ (aT (aC (aA ah x0) (aB c1 (aI cD x0 i0 ⟨0,[]⟩ (aC Tryz.call87 (aF (fT _ _ h5) (aT aN))))))) ?_;refine aK H1 (fun c2 H2 => ?_) (fun c3 H3 => ?_)
   ·refine bu 0 (ps:=[(x0.map ah).length≤9223372036854775807]) (by kernel_rfl) (fun l0 => ?_);have l1:x0.length≤9223372036854775807:=by simpa only [bt,KW] using l0
    clear l0;obtain rfl:=sI H2;exact pB 4 [.eqT 23 (.bool false),V3] [.only [0,2,3,4] []] (jK x0 (i0+1) ()) (aM c2 (aH i0 aN))
   ·obtain rfl:=sI H3;obtain rfl:=aw h4;obtain rfl:=sI (ao H0);exact pR 5 [.eqT 23 (.bool true),V2] [.wk 2 []] [] (aM c3 aN)
 ·subst e0;have H4:=aV H0;refine az H4 fun y1 h6 H5 => ?_;refine pA 6 [r0 [.c true (.tup [dS ag y1.1,iI y1.2]),.v,.v,.v,.v,.v],V1] [.only [0,2,3,5,7] []] 6 [] (jI x0 0 y1.1) (aC Tryz.call69 (aF (wQ _ _ h6) aN)) ?_;refine az H5 fun R1 h7 H6 => ?_;refine pJ 1 (nU) R1 ?_ (fun u1 e2 => ?_)
  ·refine pC (jI x0) h7 (fun i1 s1 h8 e3 => ?_) (fun i1 s1 h9 q1 h10 h11 => ?_)
   ·have c4:=lF i1 x0.length (by omega);subst e3;exact pB 5 [r0 [.v,.v,.e (nI x0.length),.e (.bool false)]] [.only [2,3,5] []] (nU s1) (aT (aC (aA ah x0) (aB c4 aN)))
   ·have c5:=lT i1 x0.length (by omega);refine az h10 fun y2 h12 H7 => ?_;refine az H7 fun y3 h13 H8 => ?_;refine pA 14 [r0 [.v,.v,.e (nI x0.length),.e (.bool true)],r0 [.v,.v,.e (.dptr (ah (x0.getD i1 ⟨0,[]⟩))),.v,.c true (.tup [dS ag y2.1,iI y2.2]),.v,.v,.v,.v,.v],r0 [.v,.v,.c true (.tup [dS ag y3.1,iI y3.2]),.v,.v,.v,.v,.v],V2] [.only [0,2,3,5,7,10,11,49] []] 14 [true] ⟨53,[(0,dS ah x0),(2,.eslice),(3,iI 0),(5,dS ag s1),(7,nI i1),(10,dS ag y3.1),(11,iI y3.2),(49,.bool (y3.2 != 0))],[]⟩ (aT (aC (aA ah x0) (aB c5 (aI cD x0 i1 ⟨0,[]⟩ (aC Tryz.call68 (aF (CI _ _ h12) (aC Tryz.call64 (aF (Bg _ _ _ h13) aN)))))))) ?_;refine aK H8 (fun c6 H9 => ?_) (fun c7 H10 => ?_)
    ·refine bu 0 (ps:=[(x0.map ah).length≤9223372036854775807]) (by kernel_rfl) (fun l2 => ?_);have l3:x0.length≤9223372036854775807:=by simpa only [bt,KW] using l2
     clear l2;obtain rfl:=sI H9;exact pB 5 [.eqT 49 (.bool false),V2,V3] [.only [0,2,3,5,7] []] (jI x0 (i1+1) y3.1) (aM c6 (aH i1 aN))
    ·obtain rfl:=sI H10;obtain rfl:=aw h11;obtain rfl:=sI (ao H6);exact pR 5 [.eqT 49 (.bool true),V3] [.wk 2 []] [] (aM c7 aN)
  ·subst e2;have H11:=aV H6;obtain rfl:=sI H11;exact pR 3 [V3] [] [] aN
def kd (x0:Shape):Option ((List aa)×Int) :=
 (iQ x0).bind fun y0 =>
 bif y0 then (
  bif (x0.Row==[]) then (
   (ij x0.Dims).bind fun y1 =>
   some (y1.1,y1.2)
  ) else (
   some ([],13)
  )
 ) else (
  some ([],1)
 )
theorem ym (x0:Shape) (r:(List aa)×Int) (H:kd x0=some r):a8 Tryz.prog 78 [.agg [.str x0.Row,dS ah x0.Dims]] (.tup [dS ag r.1,iI r.2]):=by
 unfold kd at H;refine aX Tryz.func78 17 [.tmp 2,.tmp 3] ?_;refine az H fun y0 h0 H0 => ?_;refine aK H0 (fun c0 H1 => ?_) (fun c1 H2 => ?_)
 ·refine aK H1 (fun c2 H3 => ?_) (fun c3 H4 => ?_)
  ·refine az H3 fun y1 h1 H5 => ?_;obtain rfl:=sI H5;exact pR 16 [r0 [.m,.v,.v],r0 [.v,.c true (.bool y0),.v,.v],.eqT 4 (.bool false),V4,.eqT 8 (.bool false),r0 [.v,.v,.c true (.tup [dS ag y1.1,iI y1.2]),.v,.v,.v,.v]] [] [] (aC Tryz.call32 (aF (fW _ _ h0) (aT (aM c0 (aM c2 (aC Tryz.call143 (aF (vp _ _ h1) aN)))))))
  ·obtain rfl:=sI H4;exact pR 15 [r0 [.m,.v,.v],r0 [.v,.c true (.bool y0),.v,.v],.eqT 4 (.bool false),V4,.eqT 8 (.bool true),V2] [.wk 2 []] [] (aC Tryz.call32 (aF (fW _ _ h0) (aT (aM c0 (aM c3 aN)))))
 ·obtain rfl:=sI H2;exact pR 11 [r0 [.m,.v,.v],r0 [.v,.c true (.bool y0),.v,.v],.eqT 4 (.bool true),V2] [.wk 2 []] [] (aC Tryz.call32 (aF (fW _ _ h0) (aT (aM c1 aN))))
def fM (x0 x1:List ai):Option Bool :=
 bif (((x0.length:Nat):Int)==((x1.length:Nat):Int)) then (
  (cY (σ:=Unit) (ε:=Unit) (ρ:=Bool) (fun i0 s0 =>
   cy (i0<x1.length) <|
   bif ((x0.getD i0 [])==(x1.getD i0 [])) then (
    some (.go ())
   ) else (
    some (.ret false)
   )
  ) (fun i0 s0=>()) (x0.length-0) 0 ()).bind <| aft fun u0 =>
  some true
 ) else (
  some false
 )
def iA (x0 x1:List ai) (i0:Nat) (s0:Unit):AS:=⟨26,[(0,dS ax x0),(1,dS ax x1),(4,.bool false),(5,nI i0)],[]⟩
def mA (u1:Unit):AS:=⟨26,[(4,.bool false)],[]⟩
theorem ta (x0 x1:List ai) (r:Bool) (H:fM x0 x1=some r):a8 Tryz.prog 71 [dS ax x0,dS ax x1] (.bool r):=by
 unfold fM at H;refine aX Tryz.func71 26 [.tmp 4] ?_;refine aK H (fun c0 H0 => ?_) (fun c1 H1 => ?_)
 ·refine pA 12 [.rg 0 [] [.v],.rg 0 [] [.v,.e (.int .i64 ((x0.length:Nat):Int)),.v,.e (.int .i64 ((x1.length:Nat):Int)),.v],.eqT 10 (.bool false),.rg 0 [] [.v]] [.only [0,1,4,5] []] 11 [false] (iA x0 x1 0 ()) (aT (aC (aA ax x0) (aT (aC (aA ax x1) (aM c0 aN))))) ?_;refine az H0 fun R0 h0 H2 => ?_;refine pJ 1 (mA) R0 ?_ (fun u0 e0 => ?_)
  ·refine pC (iA x0 x1) h0 (fun i0 s0 h1 e1 => ?_) (fun i0 s0 h2 q0 h3 h4 => ?_)
   ·have c2:=lF i0 x0.length (by omega);subst e1;exact pB 5 [r0 [.v,.v,.e (nI x0.length),.e (.bool false)]] [.only [4] []] (mA ()) (aT (aC (aA ax x0) (aB c2 aN)))
   ·have c3:=lT i0 x0.length (by omega);refine aU h3 fun g0 H3 => ?_;refine pA 9 [r0 [.v,.v,.e (nI x0.length),.e (.bool true)],.rg 8 [.v,.v,.e (.dptr [.str (x0.getD i0 [])]),.v,.v,.v,.e (.dptr [.str (x1.getD i0 [])]),.v] [.v]] [.only [0,1,4,5,25] []] 9 [true] ⟨26,[(0,dS ax x0),(1,dS ax x1),(4,.bool false),(5,nI i0),(25,.bool (!((x0.getD i0 [])==(x1.getD i0 []))))],[]⟩ (aT (aC (aA ax x0) (aB c3 (aI bM x0 i0 [] (aI bM x1 i0 [] aN))))) ?_;refine aK H3 (fun c4 H4 => ?_) (fun c5 H5 => ?_)
    ·refine bu 0 (ps:=[(x0.map ax).length≤9223372036854775807]) (by kernel_rfl) (fun l0 => ?_);have l1:x0.length≤9223372036854775807:=by simpa only [bt,KW] using l0
     clear l0;obtain rfl:=sI H4;exact pB 4 [.eqT 25 (.bool false),V3] [.only [0,1,4,5] []] (iA x0 x1 (i0+1) ()) (aM c4 (aH i0 aN))
    ·obtain rfl:=sI H5;obtain rfl:=aw h4;obtain rfl:=sI (ao H2);exact pR 5 [.eqT 25 (.bool true),V1] [] [] (aM c5 aN)
  ·subst e0;have H6:=aV H2;obtain rfl:=sI H6;exact pR 3 [V1] [] [] aN
 ·obtain rfl:=sI H1;exact pR 10 [V1,r0 [.v,.e (nI x0.length),.v,.e (nI x1.length),.v],.eqT 10 (.bool true),V1] [] [] (aT (aC (aA ax x0) (aT (aC (aA ax x1) (aM c1 aN)))))
def kf (x0 x1:List aa):Option Bool :=
 bif (((x0.length:Nat):Int)==((x1.length:Nat):Int)) then (
  (cY (σ:=Unit) (ε:=Unit) (ρ:=Bool) (fun i0 s0 =>
   cy (i0<x1.length) <|
   bif (((x0.getD i0 ⟨0,[]⟩).Coef)==((x1.getD i0 ⟨0,[]⟩).Coef)) then (
    (fM ((x0.getD i0 ⟨0,[]⟩).Vars) ((x1.getD i0 ⟨0,[]⟩).Vars)).bind fun y0 =>
    bif y0 then (
     some (.go ())
    ) else (
     some (.ret false)
    )
   ) else (
    some (.ret false)
   )
  ) (fun i0 s0=>()) (x0.length-0) 0 ()).bind <| aft fun u0 =>
  some true
 ) else (
  some false
 )
def mD (x0 x1:List aa) (i0:Nat) (s0:Unit):AS:=⟨42,[(0,dS ag x0),(1,dS ag x1),(4,.bool false),(5,nI i0)],[]⟩
def qp (u1:Unit):AS:=⟨42,[(4,.bool false)],[]⟩
theorem rb (x0 x1:List aa) (r:Bool) (H:kf x0 x1=some r):a8 Tryz.prog 53 [dS ag x0,dS ag x1] (.bool r):=by
 unfold kf at H;refine aX Tryz.func53 42 [.tmp 4] ?_;refine aK H (fun c0 H0 => ?_) (fun c1 H1 => ?_)
 ·refine pA 12 [.rg 0 [] [.v],.rg 0 [] [.v,.e (.int .i64 ((x0.length:Nat):Int)),.v,.e (.int .i64 ((x1.length:Nat):Int)),.v],.eqT 10 (.bool false),.rg 0 [] [.v]] [.only [0,1,4,5] []] 11 [false] (mD x0 x1 0 ()) (aT (aC (aA ag x0) (aT (aC (aA ag x1) (aM c0 aN))))) ?_;refine az H0 fun R0 h0 H2 => ?_;refine pJ 1 (qp) R0 ?_ (fun u0 e0 => ?_)
  ·refine pC (mD x0 x1) h0 (fun i0 s0 h1 e1 => ?_) (fun i0 s0 h2 q0 h3 h4 => ?_)
   ·have c2:=lF i0 x0.length (by omega);subst e1;exact pB 5 [r0 [.v,.v,.e (nI x0.length),.e (.bool false)]] [.only [4] []] (qp ()) (aT (aC (aA ag x0) (aB c2 aN)))
   ·have c3:=lT i0 x0.length (by omega);refine aU h3 fun g0 H3 => ?_;refine aK H3 (fun c4 H4 => ?_) (fun c5 H5 => ?_)
    ·refine az H4 fun y0 h5 H6 => ?_;refine pA 9 [r0 [.v,.v,.e (nI x0.length),.e (.bool true)],.rg 22 [.v,.v,.e (.dptr (ag (x0.getD i0 ⟨0,[]⟩))),.v,.v,.v,.v,.e (.dptr (ag (x1.getD i0 ⟨0,[]⟩))),.v,.v,.e (.bool false),.v,.v,.v,.e (.dptr (ag (x0.getD i0 ⟨0,[]⟩))),.v,.v,.v,.v,.e (.dptr (ag (x1.getD i0 ⟨0,[]⟩))),.v,.v] [.c true (.bool y0),.v,.v]] [.only [0,1,4,5,41] []] 9 [true] ⟨42,[(0,dS ag x0),(1,dS ag x1),(4,.bool false),(5,nI i0),(41,.bool (!y0))],[]⟩ (aT (aC (aA ag x0) (aB c3 (aI aS x0 i0 ⟨0,[]⟩ (aI aS x1 i0 ⟨0,[]⟩ (aM c4 (aI aS x0 i0 ⟨0,[]⟩ (aI aS x1 i0 ⟨0,[]⟩ (aC Tryz.call71 (aF (ta _ _ _ h5) (aT aN))))))))))) ?_;refine aK H6 (fun c6 H7 => ?_) (fun c7 H8 => ?_)
     ·refine bu 0 (ps:=[(x0.map ag).length≤9223372036854775807]) (by kernel_rfl) (fun l0 => ?_);have l1:x0.length≤9223372036854775807:=by simpa only [bt,KW] using l0
      clear l0;obtain rfl:=sI H7;exact pB 4 [.eqT 41 (.bool false),V3] [.only [0,1,4,5] []] (mD x0 x1 (i0+1) ()) (aM c6 (aH i0 aN))
     ·obtain rfl:=sI H8;obtain rfl:=aw h4;obtain rfl:=sI (ao H2);exact pR 5 [.eqT 41 (.bool true),V1] [] [] (aM c7 aN)
    ·obtain rfl:=sI H5;obtain rfl:=aw h4;obtain rfl:=sI (ao H2);exact pR 13 [r0 [.v,.v,.e (nI x0.length),.e (.bool true)],.rg 22 [.v,.v,.e (.dptr (ag (x0.getD i0 ⟨0,[]⟩))),.v,.v,.v,.v,.e (.dptr (ag (x1.getD i0 ⟨0,[]⟩))),.v,.v,.e (.bool true),.v,.s,.s,.s,.s,.s,.s,.s,.s,.s,.s] [.s,.s,.v],V1] [] [] (aT (aC (aA ag x0) (aB c3 (aI aS x0 i0 ⟨0,[]⟩ (aI aS x1 i0 ⟨0,[]⟩ (aM c5 aN))))))
  ·subst e0;have H9:=aV H2;obtain rfl:=sI H9;exact pR 3 [V1] [] [] aN
 ·obtain rfl:=sI H1;exact pR 10 [V1,r0 [.v,.e (nI x0.length),.v,.e (nI x1.length),.v],.eqT 10 (.bool true),V1] [] [] (aT (aC (aA ag x0) (aT (aC (aA ag x1) (aM c1 aN)))))
def lg (x0:Int):Option Int :=
 bif decide (x0<0) then (
  some (aJ (0-x0))
 ) else (
  some x0
 )
theorem mM (x0 r:Int) (H:lg x0=some r):a8 Tryz.prog 192 [iI x0] (iI r):=by
 unfold lg at H;refine aX Tryz.func192 8 [.tmp 2] ?_;refine aK H (fun c0 H0 => ?_) (fun c1 H1 => ?_)
 ·obtain rfl:=sI H0;exact pR 10 [V1,V2,.eqT 4 (.bool true),r0 [.v,.w,.v]] [] [] (aB c0 aN)
 ·refine bB H1 fun e0 => ?_;subst e0;exact pR 11 [V1,V2,.eqT 4 (.bool false),V2] [] [] (aB c1 aN)
def oc (x0 x1:Int):Option (Int×Int) :=
 (fR x0).bind fun y0 =>
 bif y0 then (
  (fR x1).bind fun y1 =>
  bif y1 then (
   bif (x0==0) then (
    some (0,0)
   ) else (
    bif (x1==0) then (
     some (0,0)
    ) else (
     (lg x0).bind fun y2 =>
     (lg x1).bind fun y3 =>
     cy ((y3:Int)≠0) <|
     bif decide (y2>(aJ ((4611686018427387904:Int).tdiv y3))) then (
      some (0,2)
     ) else (
      some ((aJ (x0*x1)),0)
     )
    )
   )
  ) else (
   some (0,2)
  )
 ) else (
  some (0,2)
 )
theorem uZ (x0 x1:Int) (r:Int×Int) (H:oc x0 x1=some r):a8 Tryz.prog 116 [iI x0,iI x1] (.tup [iI r.1,iI r.2]):=by
 unfold oc at H;refine aX Tryz.func116 29 [.tmp 4,.tmp 5] ?_;refine az H fun y0 h0 H0 => ?_;refine aK H0 (fun c0 H1 => ?_) (fun c1 H2 => ?_)
 ·refine az H1 fun y1 h1 H3 => ?_;refine aK H3 (fun c2 H4 => ?_) (fun c3 H5 => ?_)
  ·refine aK H4 (fun c4 H6 => ?_) (fun c5 H7 => ?_)
   ·obtain rfl:=sI H6;exact pR 15 [V2,r0 [.v,.c true (.bool true),.v,.v,.v,.c true (.bool y1),.v,.v],.eqT 13 (.bool false),r0 [.v,.e (.bool true),.v,.s,.s,.v],V2] [] [] (aC Tryz.call115 (aC (a8.eq (bO _ _ h0) (cB c0)) (aT (aC Tryz.call115 (aF (bO _ _ h1) (aT (aM c2 (aB c4 aN))))))))
   ·refine pA 11 [.rg 0 [] [.v,.v],.rg 0 [] [.v,.c true (.bool true),.v,.v,.v,.c true (.bool y1),.v,.v],.eqT 13 (.bool false),.rg 0 [] [.v,.e (.bool false),.v,.v,.v,.v]] [.only [0,1,4,5,19] []] 10 [false] ⟨29,[(0,.int .i64 x0),(1,.int .i64 x1),(4,.int .i64 0),(5,.int .i64 0),(19,.bool (x1==0))],[]⟩ (aC Tryz.call115 (aC (a8.eq (bO _ _ h0) (cB c0)) (aT (aC Tryz.call115 (aF (bO _ _ h1) (aT (aM c2 (aB c5 aN)))))))) ?_;refine aK H7 (fun c6 H8 => ?_) (fun c7 H9 => ?_)
    ·obtain rfl:=sI H8;exact pR 5 [.eqT 19 (.bool true),V2] [] [] (aB c6 aN)
    ·refine az H9 fun y2 h2 H10 => ?_;refine az H10 fun y3 h3 H11 => ?_;refine aU H11 fun g0 H12 => ?_;refine aK H12 (fun c8 H13 => ?_) (fun c9 H14 => ?_)
     ·obtain rfl:=sI H13;exact pR 11 [.eqT 19 (.bool false),r0 [.v,.c true (iI y2),.v,.c true (iI y3),.w,.v],.eqT 25 (.bool true),V2] [] [] (aB c7 (aC Tryz.call192 (aF (mM _ _ h2) (aC Tryz.call192 (aF (mM _ _ h3) (aC (show (y3:Int)≠0 from g0) (aB c8 aN)))))))
     ·obtain rfl:=sI H14;exact pR 12 [.eqT 19 (.bool false),r0 [.v,.c true (iI y2),.v,.c true (iI y3),.w,.v],.eqT 25 (.bool false),r0 [.v,.v,.w,.v,.v]] [] [] (aB c7 (aC Tryz.call192 (aF (mM _ _ h2) (aC Tryz.call192 (aF (mM _ _ h3) (aC (show (y3:Int)≠0 from g0) (aB c9 aN)))))))
  ·obtain rfl:=sI H5;exact pR 10 [V2,r0 [.v,.c true (.bool true),.v,.v,.v,.c true (.bool y1),.v,.v],.eqT 13 (.bool true),V2] [] [] (aC Tryz.call115 (aC (a8.eq (bO _ _ h0) (cB c0)) (aT (aC Tryz.call115 (aF (bO _ _ h1) (aT (aM c3 aN)))))))
 ·obtain rfl:=sI H2;exact pR 9 [V2,r0 [.v,.c true (.bool false),.v,.v,.s,.s,.s,.v],V2] [] [] (aC Tryz.call115 (aC (a8.eq (bO _ _ h0) (cB c1)) (aT aN)))
def ox (x0:List Int):Option (Int×Int) :=
 (cY (σ:=(List Int)) (ε:=(List Int)) (ρ:=Empty) (fun i0 s0 =>
  cy ((s0.length+1)*8≤140737488355328) <|
  some (.go (s0++[1]))
 ) (fun i0 s0=>s0) (x0.length-0) 0 []).bind <| gu fun u0 =>
 (fX x0 u0).bind fun y0 =>
 some (y0.1,y0.2)
def po (x0:List Int) (i0:Nat) (s0:List Int):AS:=⟨20,[(0,dS ab x0),(2,iI 0),(3,iI 0),(4,.rslice 14),(5,nI i0)],[(14,.row 3 1 (s0.map ab))]⟩
def sG (x0 u1:List Int):AS:=⟨20,[(0,dS ab x0),(2,iI 0),(3,iI 0),(4,.rslice 14)],[(14,.row 3 1 (u1.map ab))]⟩
theorem Cf (x0:List Int) (r:Int×Int) (H:ox x0=some r):a8 Tryz.prog 117 [dS ab x0] (.tup [iI r.1,iI r.2]):=by
 unfold ox at H;refine aX Tryz.func117 20 [.tmp 2,.tmp 3] ?_;refine pA 8 [V2,V1,V1] [.er 4 14 3 1,.only [0,2,3,4,5] [14]] 8 [] (po x0 0 []) aN ?_;refine az H fun R0 h0 H0 => ?_;refine pJ 1 (sG x0) R0 ?_ (fun u0 e0 => ?_)
 ·refine pC (po x0) h0 (fun i0 s0 h1 e1 => ?_) (fun i0 s0 h2 q0 h3 h4 => ?_)
  ·have c0:=lF i0 x0.length (by omega);subst e1;exact pB 5 [r0 [.v,.v,.e (nI x0.length),.e (.bool false)]] [.only [0,2,3,4] [14]] (sG x0 s0) (aT (aC (aA ab x0) (aB c0 aN)))
  ·have c1:=lT i0 x0.length (by omega);refine aU h3 fun g0 H1 => ?_;refine bu 0 (ps:=[(x0.map ab).length≤9223372036854775807]) (by kernel_rfl) (fun l0 => ?_);have l1:x0.length≤9223372036854775807:=by simpa only [bt,KW] using l0
   clear l0;obtain rfl:=sI H1;exact pB 9 [r0 [.v,.v,.e (nI x0.length),.e (.bool true)],r0 [.v,.b,.ap,.rwH 14 (.row 3 1 ((s0++[1]).map ab)),.v],V3] [.only [0,2,3,4,5] [14]] (po x0 (i0+1) (s0++[1])) (aT (aC (aA ab x0) (aB c1 (aY (vo (c:=ab) dW s0 [1] 8 (by decide) (by simpa using g0)) (aC (xT 3 1 ab s0 [1]) (aH i0 aN))))))
 ·subst e0;have H2:=cn H0;refine az H2 fun y0 h5 H3 => ?_;obtain rfl:=sI H3;exact pR 3 [r0 [.v,.v,.c false (.tup [iI y0.1,iI y0.2]),.v,.v,.v,.v]] [] [] (aC Tryz.call130 (aF (uM _ _ _ h5) aN))
def mj (x0:List aa) (x1:List Value):Option (Int×Int) :=
 (fE x0).bind fun y0 =>
 bif y0 then (
  (cY (σ:=((List Int)×Bool)) (ε:=((List Int)×Bool)) (ρ:=(Int×Int)) (fun i0 s0 =>
   (xU (σ:=(Bool×Int×Bool×Bool×Int)) (ε:=(Bool×Int×Bool×Bool)) (ρ:=(gZ ((List Int)×Bool) ((List Int)×Bool) (Int×Int))) (fun s1 =>
    bif decide (s1.2.2.2.2<((((x0.getD i0 ⟨0,[]⟩).Vars).length:Nat):Int)) then (
     (cY (σ:=Unit) (ε:=Nat) (ρ:=Empty) (fun i1 s2 =>
      cy (0≤s1.2.2.2.2∧s1.2.2.2.2<(((x0.getD i0 ⟨0,[]⟩).Vars).length:Int)) <|
      bif (((x1.getD i1 ⟨[],0⟩).Var)==(((x0.getD i0 ⟨0,[]⟩).Vars).getD s1.2.2.2.2.toNat [])) then (
       some (.brk i1)
      ) else (
       some (.go ())
      )
     ) (fun i1 s2=>i1) (x1.length-0) 0 ()).bind <| gu fun u0 =>
     bif (((u0:Nat):Int)==((x1.length:Nat):Int)) then (
      some (.ret (.ret (0,7)))
     ) else (
      cy (u0<x1.length) <|
      (fR ((x1.getD u0 ⟨[],0⟩).N)).bind fun y1 =>
      ((
       bif y1 then (
        bif (((x1.getD u0 ⟨[],0⟩).N)==0) then (
         some (s1.1,s1.2.1,true,s1.2.2.2.1)
        ) else (
         (oc s1.2.1 ((x1.getD u0 ⟨[],0⟩).N)).bind fun y2 =>
         bif (y2.2==0) then (
          some (s1.1,y2.1,s1.2.2.1,s1.2.2.2.1)
         ) else (
          some (s1.1,s1.2.1,s1.2.2.1,true)
         )
        )
       ) else (
        some (true,s1.2.1,s1.2.2.1,s1.2.2.2.1)
       )
      ):Option (Bool×Int×Bool×Bool)).bind fun v0 =>
      some (.go (v0.1,v0.2.1,v0.2.2.1,v0.2.2.2,(aJ (s1.2.2.2.2+1))))
     )
    ) else (
     some (.brk (s1.1,s1.2.1,s1.2.2.1,s1.2.2.2.1))
    )
   ) 4294967296 (s0.2,((x0.getD i0 ⟨0,[]⟩).Coef),false,false,0)).bind <| aft fun u1 =>
   ((
    bif u1.2.2.1 then (
     some (u1.1,0)
    ) else (
     bif u1.1 then (
      some (true,u1.2.1)
     ) else (
      some (u1.2.2.2,u1.2.1)
     )
    )
   ):Option (Bool×Int)).bind fun v1 =>
   cy ((s0.1.length+1)*8≤140737488355328) <|
   some (.go ((s0.1++[v1.2]),v1.1))
  ) (fun i0 s0=>(s0.1,s0.2)) (x0.length-0) 0 ([],false)).bind <| aft fun u2 =>
  bif u2.2 then (
   some (0,2)
  ) else (
   (ox u2.1).bind fun y3 =>
   some (y3.1,y3.2)
  )
 ) else (
  some (0,1)
 )
def nO (x0:List aa) (x1:List Value) (i0:Nat) (s0:(List Int)×Bool):AS:=⟨100,[(0,dS ag x0),(1,dS aR x1),(4,iI 0),(5,iI 0),(6,.rslice 94),(7,.bool s0.2),(8,nI i0)],[(94,.row 3 1 (s0.1.map ab))]⟩
def ri (u3:(List Int)×Bool):AS:=⟨100,[(4,iI 0),(5,iI 0),(6,.rslice 94),(7,.bool u3.2)],[(94,.row 3 1 (u3.1.map ab))]⟩
def na (x0:List aa) (x1:List Value) (i0:Nat) (s0:(List Int)×Bool) (s1:Bool×Int×Bool×Bool×Int):AS:=⟨100,[(0,dS ag x0),(1,dS aR x1),(4,iI 0),(5,iI 0),(6,.rslice 94),(7,.bool s1.1),(8,nI i0),(9,iI s1.2.1),(10,.bool s1.2.2.1),(11,.bool s1.2.2.2.1),(12,iI s1.2.2.2.2)],[(94,.row 3 1 (s0.1.map ab))]⟩
def ru (x0:List aa) (x1:List Value) (i0:Nat) (s0:(List Int)×Bool) (u4:Bool×Int×Bool×Bool):AS:=⟨100,[(0,dS ag x0),(1,dS aR x1),(4,iI 0),(5,iI 0),(6,.rslice 94),(7,.bool u4.1),(8,nI i0),(9,iI u4.2.1),(10,.bool u4.2.2.1),(11,.bool u4.2.2.2)],[(94,.row 3 1 (s0.1.map ab))]⟩
def mZ (x0:List aa) (x1:List Value) (i0:Nat) (s0:(List Int)×Bool) (s1:Bool×Int×Bool×Bool×Int) (i1:Nat) (s2:Unit):AS:=⟨100,[(0,dS ag x0),(1,dS aR x1),(4,iI 0),(5,iI 0),(6,.rslice 94),(7,.bool s1.1),(8,nI i0),(9,iI s1.2.1),(10,.bool s1.2.2.1),(11,.bool s1.2.2.2.1),(12,iI s1.2.2.2.2),(13,nI i1)],[(94,.row 3 1 (s0.1.map ab))]⟩
def nr (x0:List aa) (x1:List Value) (i0:Nat) (s0:(List Int)×Bool) (s1:Bool×Int×Bool×Bool×Int) (u5:Nat):AS:=⟨100,[(0,dS ag x0),(1,dS aR x1),(4,iI 0),(5,iI 0),(6,.rslice 94),(7,.bool s1.1),(8,nI i0),(9,iI s1.2.1),(10,.bool s1.2.2.1),(11,.bool s1.2.2.2.1),(12,iI s1.2.2.2.2),(13,nI u5)],[(94,.row 3 1 (s0.1.map ab))]⟩
def ik (x0:List aa) (x1:List Value) (i0:Nat) (s0:(List Int)×Bool) (s1:Bool×Int×Bool×Bool×Int) (v0:Bool×Int×Bool×Bool):AS:=⟨100,[(0,dS ag x0),(1,dS aR x1),(4,iI 0),(5,iI 0),(6,.rslice 94),(7,.bool v0.1),(8,nI i0),(9,iI v0.2.1),(10,.bool v0.2.2.1),(11,.bool v0.2.2.2),(12,iI s1.2.2.2.2)],[(94,.row 3 1 (s0.1.map ab))]⟩
def jX (x0:List aa) (x1:List Value) (i0:Nat) (s0:(List Int)×Bool) (v1:Bool×Int):AS:=⟨100,[(0,dS ag x0),(1,dS aR x1),(4,iI 0),(5,iI 0),(6,.rslice 94),(7,.bool v1.1),(8,nI i0),(9,iI v1.2)],[(94,.row 3 1 (s0.1.map ab))]⟩
theorem oH (x0:List aa) (x1:List Value) (r:Int×Int) (H:mj x0 x1=some r):a8 Tryz.prog 48 [dS ag x0,dS aR x1] (.tup [iI r.1,iI r.2]):=by
 unfold mj at H;refine aX Tryz.func48 100 [.tmp 4,.tmp 5] ?_;refine az H fun y0 h0 H0 => ?_;refine aK H0 (fun c0 H1 => ?_) (fun c1 H2 => ?_)
 ·refine pA 16 [.rg 0 [] [.v,.v],.rg 0 [] [.v,.c true (.bool y0),.v],.eqT 19 (.bool false),.rg 0 [] [.v],.rg 0 [] [.v],.rg 0 [] [.v]] [.er 6 94 3 1,.only [0,1,4,5,6,7,8] [94]] 15 [false] (nO x0 x1 0 ([],false)) (aC Tryz.call52 (aF (dt _ _ h0) (aT (aM c0 aN)))) ?_;refine az H1 fun R0 h1 H3 => ?_;refine pJ 1 (ri) R0 ?_ (fun u2 e0 => ?_)
  ·refine pC (nO x0 x1) h1 (fun i0 s0 h2 e1 => ?_) (fun i0 s0 h3 q0 h4 h5 => ?_)
   ·have c2:=lF i0 x0.length (by omega);subst e1;exact pB 5 [r0 [.v,.v,.e (nI x0.length),.e (.bool false)]] [.only [4,5,6,7] [94]] (ri (s0.1,s0.2)) (aT (aC (aA ag x0) (aB c2 aN)))
   ·have c3:=lT i0 x0.length (by omega);refine pA 13 [r0 [.v,.v,.e (nI x0.length),.e (.bool true)],r0 [.v,.v,.e (.dptr (ag (x0.getD i0 ⟨0,[]⟩))),.v,.v,.v,.v,.v],V1] [.only [0,1,4,5,6,7,8,9,10,11,12] [94]] 13 [true] (na x0 x1 i0 s0 (s0.2,((x0.getD i0 ⟨0,[]⟩).Coef),false,false,0)) (aT (aC (aA ag x0) (aB c3 (aI aS x0 i0 ⟨0,[]⟩ aN)))) ?_;refine az h4 fun R1 h6 H4 => ?_;refine pJ 1 (ru x0 x1 i0 s0) R1 ?_ (fun u1 e2 => ?_)
    ·refine AL (na x0 x1 i0 s0) (by kernel_rfl) h6 (fun s1 q1 h7 h8 => ?_)
     ·refine aK h7 (fun c4 H5 => ?_) (fun c5 H6 => ?_)
      ·have c4p:=KT c4;refine pA 12 [r0 [.v,.v,.v,.e (.dptr (ag (x0.getD i0 ⟨0,[]⟩))),.v,.v,.e (iI ((((x0.getD i0 ⟨0,[]⟩).Vars).length:Nat):Int)),.v],.eqT 38 (.bool true),V1] [.only [0,1,4,5,6,7,8,9,10,11,12,13] [94]] 11 [true] (mZ x0 x1 i0 s0 s1 0 ()) (aI aS x0 i0 ⟨0,[]⟩ (aT (aC (aA ax ((x0.getD i0 ⟨0,[]⟩).Vars)) (aB c4 aN)))) ?_;refine az H5 fun R2 h9 H7 => ?_;refine pJ 1 (nr x0 x1 i0 s0 s1) R2 ?_ (fun u0 e3 => ?_)
       ·refine pC (mZ x0 x1 i0 s0 s1) h9 (fun i1 s2 h10 e4 => ?_) (fun i1 s2 h11 q2 h12 h13 => ?_)
        ·have c6:=lF i1 x1.length (by omega);subst e4;exact pB 5 [.rg 18 [.v,.v,.e (nI x1.length),.e (.bool false),.v,.s,.s,.s,.s,.s,.s,.s,.s,.s,.s,.s,.s,.s] [.s,.v]] [.only [0,1,4,5,6,7,8,9,10,11,12,13] [94]] (nr x0 x1 i0 s0 s1 i1) (aT (aC (aA aR x1) (aB c6 aN)))
        ·have c7:=lT i1 x1.length (by omega);refine aU h12 fun g0 H8 => ?_;refine pA 3 [.rg 18 [.v,.v,.e (nI x1.length),.e (.bool true),.v,.v,.v,.e (.dptr (aR (x1.getD i1 ⟨[],0⟩))),.v,.v,.v,.v,.e (.dptr (ag (x0.getD i0 ⟨0,[]⟩))),.v,.v,.v,.e (.dptr [.str (((x0.getD i0 ⟨0,[]⟩).Vars).getD s1.2.2.2.2.toNat [])]),.v] [.v,.v]] [.only [0,1,4,5,6,7,8,9,10,11,12,13,60] [94]] 3 [] ⟨100,[(0,dS ag x0),(1,dS aR x1),(4,iI 0),(5,iI 0),(6,.rslice 94),(7,.bool s1.1),(8,nI i0),(9,iI s1.2.1),(10,.bool s1.2.2.1),(11,.bool s1.2.2.2.1),(12,iI s1.2.2.2.2),(13,nI i1),(60,.bool (!(((x1.getD i1 ⟨[],0⟩).Var)==(((x0.getD i0 ⟨0,[]⟩).Vars).getD s1.2.2.2.2.toNat []))))],[(94,.row 3 1 (s0.1.map ab))]⟩ (aT (aC (aA aR x1) (aB c7 (aI dI x1 i1 ⟨[],0⟩ (aI aS x0 i0 ⟨0,[]⟩ (aY (yw (f:=ax) (l:=((x0.getD i0 ⟨0,[]⟩).Vars)) (n:=s1.2.2.2.2) [] bM (by decide) (by exact g0)) aN)))))) ?_;refine aK H8 (fun c8 H9 => ?_) (fun c9 H10 => ?_)
         ·obtain rfl:=sI H9;obtain rfl:=jz h13;exact pB 3 [.eqT 60 (.bool false)] [.only [0,1,4,5,6,7,8,9,10,11,12,13] [94]] (nr x0 x1 i0 s0 s1 i1) (aM c8 aN)
         ·refine bu 1 (ps:=[(x1.map aR).length≤9223372036854775807]) (by kernel_rfl) (fun l0 => ?_);have l1:x1.length≤9223372036854775807:=by simpa only [bt,KW] using l0
          clear l0;obtain rfl:=sI H10;exact pB 5 [.eqT 60 (.bool true),V3] [.only [0,1,4,5,6,7,8,9,10,11,12,13] [94]] (mZ x0 x1 i0 s0 s1 (i1+1) ()) (aM c9 (aH i1 aN))
       ·subst e3;have H11:=cn H7;refine aK H11 (fun c10 H12 => ?_) (fun c11 H13 => ?_)
        ·obtain rfl:=sI H12;obtain rfl:=aw h8;obtain rfl:=sI (ao H4);obtain rfl:=aw h5;obtain rfl:=sI (ao H3);exact pR 8 [r0 [.v,.v,.e (nI x1.length),.v],.eqT 66 (.bool true),V2] [] [] (aT (aC (aA aR x1) (aB c10 aN)))
        ·refine aU H13 fun g1 H14 => ?_;refine az H14 fun y1 h14 H15 => ?_;refine pA 11 [r0 [.v,.v,.e (nI x1.length),.v],.eqT 66 (.bool false),r0 [.v,.v,.e (.dptr (aR (x1.getD u0 ⟨[],0⟩))),.v,.v,.v],r0 [.v,.c true (.bool y1),.v]] [.only [0,1,4,5,6,7,8,9,10,11,12,14,74] [94]] 10 [false] ⟨100,[(0,dS ag x0),(1,dS aR x1),(4,iI 0),(5,iI 0),(6,.rslice 94),(7,.bool s1.1),(8,nI i0),(9,iI s1.2.1),(10,.bool s1.2.2.1),(11,.bool s1.2.2.2.1),(12,iI s1.2.2.2.2),(14,iI ((x1.getD u0 ⟨[],0⟩).N)),(74,.bool (!y1))],[(94,.row 3 1 (s0.1.map ab))]⟩ (aT (aC (aA aR x1) (aB c11 (aI dI x1 u0 ⟨[],0⟩ (aC Tryz.call115 (aF (bO _ _ h14) (aT aN))))))) ?_;refine az H15 fun v0 h15 H16 => ?_;refine dF 2 (ik x0 x1 i0 s0 s1 v0) (by kernel_rfl) ?_ ?_
         ·refine aK h15 (fun c12 H17 => ?_) (fun c13 H18 => ?_)
          ·refine aK H17 (fun c14 H19 => ?_) (fun c15 H20 => ?_)
           ·obtain rfl:=sI H19;exact pB 11 [.eqT 74 (.bool false),V2,.eqT 76 (.bool true),V1] [.only [0,1,4,5,6,7,8,9,10,11,12] [94]] (ik x0 x1 i0 s0 s1 (s1.1,s1.2.1,true,s1.2.2.2.1)) (aM c12 (aB c14 aN))
           ·refine az H20 fun y2 h16 H21 => ?_;refine aK H21 (fun c16 H22 => ?_) (fun c17 H23 => ?_)
            ·obtain rfl:=sI H22;exact pB 18 [.eqT 74 (.bool false),V2,.eqT 76 (.bool false),r0 [.v,.v,.c true (.tup [iI y2.1,iI y2.2]),.v,.v,.v,.v,.v],V2,.eqT 84 (.bool false),V2] [.only [0,1,4,5,6,7,8,9,10,11,12] [94]] (ik x0 x1 i0 s0 s1 (s1.1,y2.1,s1.2.2.1,s1.2.2.2.1)) (aM c12 (aB c15 (aC Tryz.call116 (aF (uZ _ _ _ h16) (aM c16 aN)))))
            ·obtain rfl:=sI H23;exact pB 19 [.eqT 74 (.bool false),V2,.eqT 76 (.bool false),r0 [.v,.v,.c true (.tup [iI y2.1,iI y2.2]),.v,.v,.v,.v,.v],V2,.eqT 84 (.bool true),V1] [.only [0,1,4,5,6,7,8,9,10,11,12] [94]] (ik x0 x1 i0 s0 s1 (s1.1,s1.2.1,s1.2.2.1,true)) (aM c12 (aB c15 (aC Tryz.call116 (aF (uZ _ _ _ h16) (aM c17 aN)))))
          ·obtain rfl:=sI H18;exact pB 5 [.eqT 74 (.bool true),V1] [.only [0,1,4,5,6,7,8,9,10,11,12] [94]] (ik x0 x1 i0 s0 s1 (true,s1.2.1,s1.2.2.1,s1.2.2.2.1)) (aM c13 aN)
         ·obtain rfl:=sI H16;exact pB 1 [r0 [.v,.w,.v]] [.only [0,1,4,5,6,7,8,9,10,11,12] [94]] (na x0 x1 i0 s0 (v0.1,v0.2.1,v0.2.2.1,v0.2.2.2,(aJ (s1.2.2.2.2+1)))) aN
      ·have c5p:=KS c5;obtain rfl:=sI H6;obtain rfl:=jz h8;exact pB 6 [r0 [.v,.v,.v,.e (.dptr (ag (x0.getD i0 ⟨0,[]⟩))),.v,.v,.e (iI ((((x0.getD i0 ⟨0,[]⟩).Vars).length:Nat):Int)),.v],.eqT 38 (.bool false)] [.only [0,1,4,5,6,7,8,9,10,11] [94]] (ru x0 x1 i0 s0 (s1.1,s1.2.1,s1.2.2.1,s1.2.2.2.1)) (aI aS x0 i0 ⟨0,[]⟩ (aT (aC (aA ax ((x0.getD i0 ⟨0,[]⟩).Vars)) (aB c5 aN))))
    ·subst e2;have H24:=aV H4;refine pA 3 [V1] [.only [0,1,4,5,6,7,8,9,11,86] [94]] 3 [] ⟨100,[(0,dS ag x0),(1,dS aR x1),(4,iI 0),(5,iI 0),(6,.rslice 94),(7,.bool u1.1),(8,nI i0),(9,iI u1.2.1),(11,.bool u1.2.2.2),(86,.bool u1.2.2.1)],[(94,.row 3 1 (s0.1.map ab))]⟩ aN ?_;refine az H24 fun v1 h17 H25 => ?_;refine dF 0 (jX x0 x1 i0 s0 v1) (by kernel_rfl) ?_ ?_
     ·refine aK h17 (fun c18 H26 => ?_) (fun c19 H27 => ?_)
      ·obtain rfl:=sI H26;exact pB 3 [.eqT 86 (.bool true),V1] [.only [0,1,4,5,6,7,8,9] [94]] (jX x0 x1 i0 s0 (u1.1,0)) (aB c18 aN)
      ·refine aK H27 (fun c20 H28 => ?_) (fun c21 H29 => ?_)
       ·obtain rfl:=sI H28;exact pB 4 [.eqT 86 (.bool false),.eqT 7 (.bool true),r0 [.v,.v,.s,.v,.v]] [.only [0,1,4,5,6,7,8,9] [94]] (jX x0 x1 i0 s0 (true,u1.2.1)) (aB c19 (aB c20 aN))
       ·obtain rfl:=sI H29;exact pB 4 [.eqT 86 (.bool false),.eqT 7 (.bool false),V5] [.only [0,1,4,5,6,7,8,9] [94]] (jX x0 x1 i0 s0 (u1.2.2.2,u1.2.1)) (aB c19 (aB c21 aN))
     ·refine aU H25 fun g2 H30 => ?_;refine bu 0 (ps:=[(x0.map ag).length≤9223372036854775807]) (by kernel_rfl) (fun l2 => ?_);have l3:x0.length≤9223372036854775807:=by simpa only [bt,KW] using l2
      clear l2;obtain rfl:=sI H30;exact pB 2 [r0 [.v,.v,.b,.ap,.rwH 94 (.row 3 1 ((s0.1++[v1.2]).map ab)),.v],V3] [.only [0,1,4,5,6,7,8] [94]] (nO x0 x1 (i0+1) ((s0.1++[v1.2]),v1.1)) (aY (vo (c:=ab) dW s0.1 [v1.2] 8 (by decide) (by simpa using g2)) (aC (xT 3 1 ab s0.1 [v1.2]) (aH i0 aN)))
  ·subst e0;have H31:=aV H3;refine aK H31 (fun c22 H32 => ?_) (fun c23 H33 => ?_)
   ·obtain rfl:=sI H32;exact pR 8 [V1,.eqT 95 (.bool true),V2] [] [] (aB c22 aN)
   ·refine az H33 fun y3 h18 H34 => ?_;obtain rfl:=sI H34;exact pR 9 [V1,.eqT 95 (.bool false),r0 [.v,.c false (.tup [iI y3.1,iI y3.2]),.v,.v,.v,.v]] [] [] (aB c23 (aC Tryz.call117 (aF (Cf _ _ h18) aN)))
 ·obtain rfl:=sI H2;exact pR 10 [V2,r0 [.v,.c true (.bool y0),.v],.eqT 19 (.bool true),V2] [] [] (aC Tryz.call52 (aF (dt _ _ h0) (aT (aM c1 aN))))
noncomputable def ir (x0:Shape) (x1:List Value):Option Bool :=
 (eU).bind fun y0 =>
 bif y0 then (
  (od x0).bind fun y1 =>
  bif y1 then (
   bif decide (((x1.length:Nat):Int)>10) then (
    (eU).bind fun y2 =>
    some y2
   ) else (
    (cY (σ:=Unit) (ε:=Unit) (ρ:=Bool) (fun i0 s0 =>
     bif decide (((((x1.getD i0 ⟨[],0⟩).Var).length:Nat):Int)>35) then (
      some (.ret true)
     ) else (
      some (.go ())
     )
    ) (fun i0 s0=>()) (x1.length-0) 0 ()).bind <| aft fun u0 =>
    (iv x0 x1).bind fun y3 =>
    (ml x0 x1).bind fun y4 =>
    (kn x0).bind fun y5 =>
    (kd x0).bind fun y6 =>
    (eA y3.1 y4.1).bind fun y7 =>
    bif y7 then (
     bif (y3.2==y4.2) then (
      (kf y5.1 y6.1).bind fun y8 =>
      bif y8 then (
       bif (y5.2==y6.2) then (
        bif (y3.2==0) then (
         bif (y5.2==0) then (
          (cY (σ:=Int) (ε:=Int) (ρ:=Empty) (fun i1 s1 =>
           some (.go (if 1099511627776<(aJ (s1*(y3.1.getD i1 0))) then 1099511627776 else (aJ (s1*(y3.1.getD i1 0)))))
          ) (fun i1 s1=>s1) (y3.1.length-0) 0 1).bind <| gu fun u1 =>
          (mj y5.1 x1).bind fun y9 =>
          bif decide (u1≥1099511627776) then (
           some true
          ) else (
           bif (y9.2==0) then (
            some (y9.1==u1)
           ) else (
            some true
           )
          )
         ) else (
          some true
         )
        ) else (
         some true
        )
       ) else (
        some false
       )
      ) else (
       some false
      )
     ) else (
      some false
     )
    ) else (
     some false
    )
   )
  ) else (
   (eU).bind fun y10 =>
   some y10
  )
 ) else (
  (eU).bind fun y11 =>
  some y11
 )
def iE (x0:Shape) (x1:List Value) (i0:Nat) (s0:Unit):AS:=⟨120,[(1,dS aR x1),(2,.hptr 2 0),(4,.bool false),(33,dS aR x1),(34,nI x1.length),(35,nI i0)],[(2,.cells 24 [.str x0.Row,dS ah x0.Dims])]⟩
def mu (x0:Shape) (x1:List Value) (u2:Unit):AS:=⟨120,[(1,dS aR x1),(2,.hptr 2 0),(4,.bool false)],[(2,.cells 24 [.str x0.Row,dS ah x0.Dims])]⟩
def iJ (x1:List Value) (y3:(List Int)×Int) (y5:(List aa)×Int) (i1:Nat) (s1:Int):AS:=⟨120,[(1,dS aR x1),(4,.bool false),(11,dS ag y5.1),(15,iI s1),(92,dS ab y3.1),(93,nI y3.1.length),(94,nI i1)],[]⟩
def lG (x1:List Value) (y5:(List aa)×Int) (u3:Int):AS:=⟨120,[(1,dS aR x1),(4,.bool false),(11,dS ag y5.1),(15,iI u3)],[]⟩
theorem se (x0:Shape) (x1:List Value) (r:Bool) (H:ir x0 x1=some r):a8 Tryz.prog 14 [.agg [.str x0.Row,dS ah x0.Dims],dS aR x1] (.bool r):=by
 unfold ir at H;refine aX Tryz.func14 120 [.tmp 4] ?_;refine az H fun y0 h0 H0 => ?_;refine aK H0 (fun c0 H1 => ?_) (fun c1 H2 => ?_)
 ·refine az H1 fun y1 h1 H3 => ?_;refine aK H3 (fun c2 H4 => ?_) (fun c3 H5 => ?_)
  ·refine pA 5 [.rg 0 [] [.m,.v],.rg 0 [] [.c true (.bool true),.v,.v,.v,.c true (.bool true),.v,.v,.v,.v,.e (.int .i64 ((x1.length:Nat):Int)),.v,.v]] [.only [1,2,4,31] [2]] 5 [] ⟨120,[(1,.dslice (x1.map aR)),(2,.hptr 2 0),(4,.bool false),(31,.bool (decide (((x1.length:Nat):Int)>10)))],[(2,.cells 24 [.str x0.Row,.dslice (x0.Dims.map ah)])]⟩ (aC Tryz.call15 (aC (a8.eq (fV _ h0) (cB c0)) (aT (aC Tryz.call16 (aC (a8.eq (u9 _ _ h1) (cB c2)) (aT (aT (aC (aA aR x1) aN)))))))) ?_;refine aK H4 (fun c4 H6 => ?_) (fun c5 H7 => ?_)
   ·refine az H6 fun y2 h2 H8 => ?_;refine bB H8 fun e0 => ?_;subst e0;exact pR 5 [.eqT 31 (.bool true),r0 [.c true (.bool y2),.v]] [] [] (aB c4 (aC Tryz.call15 (aF (fV _ h2) aN)))
   ·have c5p:=KS c5;refine pA 7 [.eqT 31 (.bool false),r0 [.v,.e (nI x1.length),.v]] [.only [1,2,4,33,34,35] [2]] 6 [false] (iE x0 x1 0 ()) (aB c5 (aT (aC (aA aR x1) aN))) ?_;refine az H7 fun R0 h3 H9 => ?_;refine pJ 1 (mu x0 x1) R0 ?_ (fun u0 e1 => ?_)
    ·refine pC (iE x0 x1) h3 (fun i0 s0 h4 e2 => ?_) (fun i0 s0 h5 q0 h6 h7 => ?_)
     ·have c6:=lF i0 x1.length (by omega);subst e2;exact pB 5 [r0 [.e (.bool false)]] [.only [1,2,4] [2]] (mu x0 x1 ()) (aB c6 aN)
     ·have c7:=lT i0 x1.length (by omega);refine aK h6 (fun c8 H10 => ?_) (fun c9 H11 => ?_)
      ·have c8p:=KT c8;obtain rfl:=sI H10;obtain rfl:=aw h7;obtain rfl:=sI (ao H9);exact pR 16 [r0 [.e (.bool true)],r0 [.e (.dptr (aR (x1.getD i0 ⟨[],0⟩))),.v,.m,.m],V4,.eqT 42 (.bool true),V1] [] [] (aB c7 (aI dI x1 i0 ⟨[],0⟩ (aT (aB c8 aN))))
      ·have c9p:=KS c9;refine bu 1 (ps:=[(x1.map aR).length≤9223372036854775807]) (by kernel_rfl) (fun l0 => ?_);have l1:x1.length≤9223372036854775807:=by simpa only [bt,KW] using l0
       clear l0;obtain rfl:=sI H11;exact pB 15 [r0 [.e (.bool true)],r0 [.e (.dptr (aR (x1.getD i0 ⟨[],0⟩))),.v,.m,.m],V4,.eqT 42 (.bool false),V2] [.only [1,2,4,33,34,35] [2]] (iE x0 x1 (i0+1) ()) (aB c7 (aI dI x1 i0 ⟨[],0⟩ (aT (aB c9 (aH i0 aN)))))
    ·subst e1;have H12:=aV H9;refine az H12 fun y3 h8 H13 => ?_;refine az H13 fun y4 h9 H14 => ?_;refine az H14 fun y5 h10 H15 => ?_;refine az H15 fun y6 h11 H16 => ?_;refine az H16 fun y7 h12 H17 => ?_;refine pA 10 [r0 [.v,.v,.c true (.tup [dS ab y3.1,iI y3.2]),.v,.v,.v,.v,.v],r0 [.v,.v,.c true (.tup [dS ab y4.1,iI y4.2]),.v,.v,.v,.v,.v],r0 [.v,.c true (.tup [dS ag y5.1,iI y5.2]),.v,.v,.v,.v,.v],r0 [.v,.c true (.tup [dS ag y6.1,iI y6.2]),.v,.v,.v,.v,.v]] [.only [1,4,7,8,9,10,11,12,13,14] []] 10 [] ⟨120,[(1,dS aR x1),(4,.bool false),(7,dS ab y3.1),(8,iI y3.2),(9,dS ab y4.1),(10,iI y4.2),(11,dS ag y5.1),(12,iI y5.2),(13,dS ag y6.1),(14,iI y6.2)],[]⟩ (aC Tryz.call19 (aF (tf _ _ _ h8) (aC Tryz.call76 (aF (z7 _ _ _ h9) (aC Tryz.call77 (aF (x8 _ _ h10) (aC Tryz.call78 (aF (ym _ _ h11) aN)))))))) ?_;refine aK H17 (fun c10 H18 => ?_) (fun c11 H19 => ?_)
     ·refine aK H18 (fun c12 H20 => ?_) (fun c13 H21 => ?_)
      ·refine az H20 fun y8 h13 H22 => ?_;refine aK H22 (fun c14 H23 => ?_) (fun c15 H24 => ?_)
       ·refine pA 1 [.rg 0 [] [.v,.v,.c true (.bool true),.v,.v,.v,.v,.e (.bool false),.v,.v,.v,.v,.c true (.bool true),.v,.v,.v,.v,.v,.v,.v]] [.only [1,4,7,8,11,12,85] []] 1 [] ⟨120,[(1,.dslice (x1.map aR)),(4,.bool false),(7,.dslice (y3.1.map ab)),(8,.int .i64 y3.2),(11,.dslice (y5.1.map ag)),(12,.int .i64 y5.2),(85,.bool (y5.2 != y6.2))],[]⟩ (aC Tryz.call23 (aC (a8.eq (dX _ _ _ h12) (cB c10)) (aT (aM c12 (aC Tryz.call53 (aC (a8.eq (rb _ _ _ h13) (cB c14)) (aT aN))))))) ?_;refine aK H23 (fun c16 H25 => ?_) (fun c17 H26 => ?_)
        ·refine aK H25 (fun c18 H27 => ?_) (fun c19 H28 => ?_)
         ·refine aK H27 (fun c20 H29 => ?_) (fun c21 H30 => ?_)
          ·refine pA 15 [.eqT 85 (.bool false),.rg 0 [] [.v,.e (.bool false),.v,.v,.v,.v],.eqT 91 (.bool false),.rg 0 [] [.v],.rg 0 [] [.v,.e (.int .i64 ((y3.1.length:Nat):Int)),.v]] [.only [1,4,11,15,92,93,94] []] 13 [false,false] (iJ x1 y3 y5 0 1) (aM c16 (aM c18 (aM c20 (aT (aC (aA ab y3.1) aN))))) ?_;refine az H29 fun R1 h14 H31 => ?_;refine pJ 1 (lG x1 y5) R1 ?_ (fun u1 e3 => ?_)
           ·refine pC (iJ x1 y3 y5) h14 (fun i1 s1 h15 e4 => ?_) (fun i1 s1 h16 q1 h17 h18 => ?_)
            ·have c22:=lF i1 y3.1.length (by omega);subst e4;exact pB 5 [r0 [.e (.bool false)]] [.only [1,4,11,15] []] (lG x1 y5 s1) (aB c22 aN)
            ·have c23:=lT i1 y3.1.length (by omega);refine bu 92 (ps:=[(y3.1.map ab).length≤9223372036854775807]) (by kernel_rfl) (fun l2 => ?_);have l3:y3.1.length≤9223372036854775807:=by simpa only [bt,KW] using l2
             clear l2;obtain rfl:=sI h17;exact pB 11 [r0 [.e (.bool true)],r0 [.e (.dptr [iI (y3.1.getD i1 0)]),.v,.v],r0 [.v,.v,.w,.v,.v],V2] [.only [1,4,11,15,92,93,94] []] (iJ x1 y3 y5 (i1+1) (if 1099511627776<(aJ (s1*(y3.1.getD i1 0))) then 1099511627776 else (aJ (s1*(y3.1.getD i1 0))))) (aB c23 (aI cm y3.1 i1 0 (aT (aH i1 aN))))
           ·subst e3;have H32:=cn H31;refine az H32 fun y9 h19 H33 => ?_;refine aK H33 (fun c24 H34 => ?_) (fun c25 H35 => ?_)
            ·obtain rfl:=sI H34;exact pR 5 [r0 [.v,.v,.c true (.tup [iI y9.1,iI y9.2]),.v,.v,.v,.v,.v],r0 [.v,.e (.bool true),.v,.s,.s,.v,.v,.s,.s,.s,.v,.v]] [] [] (aC Tryz.call48 (aF (oH _ _ _ h19) (aB c24 aN)))
            ·refine aK H35 (fun c26 H36 => ?_) (fun c27 H37 => ?_)
             ·obtain rfl:=sI H36;exact pR 5 [r0 [.v,.v,.c true (.tup [iI y9.1,iI y9.2]),.v,.v,.v,.v,.v],r0 [.v,.e (.bool false),.v,.v,.e (.bool false),.v,.v,.v,.v,.v,.v,.v]] [] [] (aC Tryz.call48 (aF (oH _ _ _ h19) (aB c25 (aM c26 aN))))
             ·obtain rfl:=sI H37;exact pR 5 [r0 [.v,.v,.c true (.tup [iI y9.1,iI y9.2]),.v,.v,.v,.v,.v],r0 [.v,.e (.bool false),.v,.v,.e (.bool true),.v,.v,.s,.s,.s,.v,.v]] [] [] (aC Tryz.call48 (aF (oH _ _ _ h19) (aB c25 (aM c27 aN))))
          ·obtain rfl:=sI H30;exact pR 11 [.eqT 85 (.bool false),r0 [.v,.e (.bool false),.v,.v,.v,.v],.eqT 91 (.bool true),V1] [] [] (aM c16 (aM c18 (aM c21 aN)))
         ·obtain rfl:=sI H28;exact pR 10 [.eqT 85 (.bool false),r0 [.v,.e (.bool true),.v,.s,.s,.v],V1] [] [] (aM c16 (aM c19 aN))
        ·obtain rfl:=sI H26;exact pR 5 [.eqT 85 (.bool true),V1] [] [] (aM c17 aN)
       ·obtain rfl:=sI H24;exact pR 5 [r0 [.v,.v,.c true (.bool true),.v,.v,.v,.v,.e (.bool false),.v,.v,.v,.v,.c true (.bool false),.v,.v,.v,.s,.s,.s,.v],V1] [] [] (aC Tryz.call23 (aC (a8.eq (dX _ _ _ h12) (cB c10)) (aT (aM c12 (aC Tryz.call53 (aC (a8.eq (rb _ _ _ h13) (cB c15)) (aT aN)))))))
      ·obtain rfl:=sI H21;exact pR 5 [r0 [.v,.v,.c true (.bool true),.v,.v,.v,.v,.e (.bool true),.v,.v,.s,.s,.s,.s,.v,.v,.s,.s,.s,.v],V1] [] [] (aC Tryz.call23 (aC (a8.eq (dX _ _ _ h12) (cB c10)) (aT (aM c13 aN))))
     ·obtain rfl:=sI H19;exact pR 5 [r0 [.v,.v,.c true (.bool false),.v,.v,.s,.s,.s,.v,.v,.s,.s,.s,.s,.v,.v,.s,.s,.s,.v],V1] [] [] (aC Tryz.call23 (aC (a8.eq (dX _ _ _ h12) (cB c11)) (aT aN)))
  ·refine az H5 fun y10 h20 H38 => ?_;refine bB H38 fun e5 => ?_;subst e5;exact pR 9 [r0 [.m,.v],r0 [.c true (.bool true),.v,.v,.v,.c true (.bool false),.v,.v,.v,.s,.s,.s,.v],r0 [.c true (.bool y10),.v]] [] [] (aC Tryz.call15 (aC (a8.eq (fV _ h0) (cB c0)) (aT (aC Tryz.call16 (aC (a8.eq (u9 _ _ h1) (cB c3)) (aT (aC Tryz.call15 (aF (fV _ h20) aN))))))))
 ·refine az H2 fun y11 h21 H39 => ?_;refine bB H39 fun e6 => ?_;subst e6;exact pR 9 [r0 [.m,.v],r0 [.c true (.bool false),.v,.v,.s,.s,.s,.v,.v,.s,.s,.s,.v],r0 [.c true (.bool y11),.v]] [] [] (aC Tryz.call15 (aC (a8.eq (fV _ h0) (cB c1)) (aT (aC Tryz.call15 (aF (fV _ h21) aN)))))
noncomputable def lz (x0 x1:List aa):Option ((List aa)×Int) :=
 (gE x0).bind fun y0 =>
 bif y0 then (
  (gE x1).bind fun y1 =>
  bif y1 then (
   (kc x0 x1).bind fun y2 =>
   some (y2.1,y2.2)
  ) else (
   some ([],1)
  )
 ) else (
  some ([],1)
 )
theorem Jj (x0 x1:List aa) (r:(List aa)×Int) (H:lz x0 x1=some r):a8 Tryz.prog 56 [dS ag x0,dS ag x1] (.tup [dS ag r.1,iI r.2]):=by
 unfold lz at H;refine aX Tryz.func56 19 [.tmp 4,.tmp 5] ?_;refine az H fun y0 h0 H0 => ?_;refine aK H0 (fun c0 H1 => ?_) (fun c1 H2 => ?_)
 ·refine az H1 fun y1 h1 H3 => ?_;refine aK H3 (fun c2 H4 => ?_) (fun c3 H5 => ?_)
  ·refine az H4 fun y2 h2 H6 => ?_;obtain rfl:=sI H6;exact pR 11 [V2,r0 [.v,.c true (.bool true),.v,.v,.v,.c true (.bool y1),.v,.v],.eqT 13 (.bool false),r0 [.v,.v,.c true (.tup [dS ag y2.1,iI y2.2]),.v,.v,.v,.v]] [] [] (aC Tryz.call70 (aC (a8.eq (fJ _ _ h0) (cB c0)) (aT (aC Tryz.call70 (aF (fJ _ _ h1) (aT (aM c2 (aC Tryz.call124 (aF (wW _ _ _ h2) aN)))))))))
  ·obtain rfl:=sI H5;exact pR 10 [V2,r0 [.v,.c true (.bool true),.v,.v,.v,.c true (.bool y1),.v,.v],.eqT 13 (.bool true),V2] [.wk 4 []] [] (aC Tryz.call70 (aC (a8.eq (fJ _ _ h0) (cB c0)) (aT (aC Tryz.call70 (aF (fJ _ _ h1) (aT (aM c3 aN)))))))
 ·obtain rfl:=sI H2;exact pR 9 [V2,r0 [.v,.c true (.bool false),.v,.v,.s,.s,.s,.v],V2] [.wk 4 []] [] (aC Tryz.call70 (aC (a8.eq (fJ _ _ h0) (cB c1)) (aT aN)))
noncomputable def eO (x0:Int):Option ((List aa)×Int) :=
 (dT).bind fun y0 =>
 bif decide (x0<(-1099511627776)) then (
  some ([],3)
 ) else (
  bif decide (x0>1099511627776) then (
   some ([],3)
  ) else (
   (du [] x0 1 y0.1 y0.2.1 y0.2.2).bind fun y1 =>
   (cZ y1.1 y1.2.1 y1.2.2).bind fun y2 =>
   some (y2.1,y2.2)
  )
 )
theorem HQ (x0:Int) (r:(List aa)×Int) (H:eO x0=some r):a8 Tryz.prog 65 [iI x0] (.tup [dS ag r.1,iI r.2]):=by
 unfold eO at H;refine aX Tryz.func65 19 [.tmp 2,.tmp 3] ?_;refine az H fun y0 h0 H0 => ?_;refine aK H0 (fun c0 H1 => ?_) (fun c1 H2 => ?_)
 ·obtain rfl:=sI H1;exact pR 11 [V2,r0 [.hM [] [(1,900),(2,901),(3,902)] (.agg [.amap 1,.amap 2,.amap 3]) [(1,.smap 9 90 (y0.1.map (aW aG))),(2,.rmap 3 1 (ga ab y0.2.1)),(3,.rmap 3 1 (ga ab y0.2.2))],.m,.m],r0 [.v,.e (.bool true),.v,.s,.s,.v],V2] [.wk 2 []] [] (aC Tryz.call131 (aC (iq _ h0) (aB c0 aN)))
 ·refine aK H2 (fun c2 H3 => ?_) (fun c3 H4 => ?_)
  ·obtain rfl:=sI H3;exact pR 12 [V2,r0 [.hM [] [(1,900),(2,901),(3,902)] (.agg [.amap 1,.amap 2,.amap 3]) [(1,.smap 9 90 (y0.1.map (aW aG))),(2,.rmap 3 1 (ga ab y0.2.1)),(3,.rmap 3 1 (ga ab y0.2.2))],.m,.m],r0 [.v,.e (.bool false),.v,.v,.v,.v],.eqT 11 (.bool true),V2] [.wk 2 []] [] (aC Tryz.call131 (aC (iq _ h0) (aB c1 (aB c2 aN))))
  ·refine az H4 fun y1 h1 H5 => ?_;refine az H5 fun y2 h2 H6 => ?_;obtain rfl:=sI H6;exact pR 15 [V2,r0 [.hM [] [(1,900),(2,901),(3,902)] (.agg [.amap 1,.amap 2,.amap 3]) [(1,.smap 9 90 (y0.1.map (aW aG))),(2,.rmap 3 1 (ga ab y0.2.1)),(3,.rmap 3 1 (ga ab y0.2.2))],.m,.m],r0 [.v,.e (.bool false),.v,.v,.v,.v],.eqT 11 (.bool false),r0 [.v,.v,.hR [(900,1000),(901,1001),(902,1002)] 14 (.tup []) [(1000,.smap 9 90 (y1.1.map (aW aG))),(1001,.rmap 3 1 (ga ab y1.2.1)),(1002,.rmap 3 1 (ga ab y1.2.2))]],r0 [.v,.hR [(900,1000),(901,1001),(902,1002)] 16 (.tup [dS ag y2.1,iI y2.2]) [],.v,.v,.v,.v]] [] [] (aC Tryz.call131 (aC (iq _ h0) (aB c1 (aB c3 (aC Tryz.call132 (aC (bo.es (args:=[.agg [.amap 1000,.amap 1001,.amap 1002],.eslice,iI x0,iI 1]) 1 (jk _ _ _ _ _ _ _ h1) rfl) (aC Tryz.call133 (aC (jd _ _ _ _ h2) aN))))))))
end Go.Proofs.YtjfpcjnopbfekaaGreatDoor
