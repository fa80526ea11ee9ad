/- What functions of the program compute, walked: each as a plain function, with the theorem that the code computes it wherever that answers. Printed by a program, part 3. -/
import Derived.Test.YtadjhpbkknifeaaGreatDoorWkbPolyProduct
set_option linter.unusedSimpArgs false
set_option linter.unusedVariables false
namespace Go.Proofs.YtadjhpbkknifeaaGreatDoor
open Go.RowKit Go.Ab Go.Sh
def eK (x0 x1:List aa):Option Bool :=
 bif (((x0.length:Nat):Int)==((x1.length:Nat):Int)) then (
  (cL (σ:=Unit) (ε:=Unit) (ρ:=Bool) (fun i0 s0 =>
   bZ (i0<x1.length) <|
   bif (((x0.getD i0 ⟨0,[]⟩).Coef)==((x1.getD i0 ⟨0,[]⟩).Coef)) then (
    (de ((x0.getD i0 ⟨0,[]⟩).Vars) ((x1.getD i0 ⟨0,[]⟩).Vars)).bind fun y0 =>
    bif y0 then (
     some (.go ())
    ) else (
     some (.ret false)
    )
   ) else (
    some (.ret false)
   )
  ) (fun i0 s0=>()) (x0.length-0) 0 ()).bind <| aft fun u0 =>
  some true
 ) else (
  some false
 )
def j5 (x0 x1:List aa) (i0:Nat) (s0:Unit):AS:=⟨42,[(0,dS ab x0),(1,dS ab x1),(4,.bool false),(5,nI i0)],[]⟩
def ov (u1:Unit):AS:=⟨42,[(4,.bool false)],[]⟩
theorem fc (x0 x1:List aa) (r:Bool) (H:eK x0 x1=some r):bI Tryz.prog 13 [dS ab x0,dS ab x1] (.bool r):=by
 unfold eK at H;refine aX Tryz.func13 42 [.tmp 4] ?_;refine a7 H (fun c0 H0 => ?_) (fun c1 H1 => ?_)
 ·refine pA 12 [.rg 0 [] [.v],.rg 0 [] [.v,.e (.int .i64 ((x0.length:Nat):Int)),.v,.e (.int .i64 ((x1.length:Nat):Int)),.v],.eqT 10 (.bool false),.rg 0 [] [.v]] [.only [0,1,4,5] []] 11 [false] (j5 x0 x1 0 ()) (aT (aC (aK ab x0) (aT (aC (aK ab x1) (aM c0 aN))))) ?_;refine aU H0 fun R0 h0 H2 => ?_;refine pJ 1 (ov) R0 ?_ (fun u0 e0 => ?_)
  ·refine pC (j5 x0 x1) h0 (fun i0 s0 h1 e1 => ?_) (fun i0 s0 h2 q0 h3 h4 => ?_)
   ·have c2:=lF i0 x0.length (by omega);subst e1;exact pB 5 [r0 [.v,.v,.e (nI x0.length),.e (.bool false)]] [.only [4] []] (ov ()) (aT (aC (aK ab x0) (aB c2 aN)))
   ·have c3:=lT i0 x0.length (by omega);refine aY h3 fun g0 H3 => ?_;refine a7 H3 (fun c4 H4 => ?_) (fun c5 H5 => ?_)
    ·refine aU H4 fun y0 h5 H6 => ?_;refine pA 9 [r0 [.v,.v,.e (nI x0.length),.e (.bool true)],.rg 22 [.v,.v,.e (.dptr (ab (x0.getD i0 ⟨0,[]⟩))),.v,.v,.v,.v,.e (.dptr (ab (x1.getD i0 ⟨0,[]⟩))),.v,.v,.e (.bool false),.v,.v,.v,.e (.dptr (ab (x0.getD i0 ⟨0,[]⟩))),.v,.v,.v,.v,.e (.dptr (ab (x1.getD i0 ⟨0,[]⟩))),.v,.v] [.c true (.bool y0),.v,.v]] [.only [0,1,4,5,41] []] 9 [true] ⟨42,[(0,dS ab x0),(1,dS ab x1),(4,.bool false),(5,nI i0),(41,.bool (!y0))],[]⟩ (aT (aC (aK ab x0) (aB c3 (aI au x0 i0 ⟨0,[]⟩ (aI au x1 i0 ⟨0,[]⟩ (aM c4 (aI au x0 i0 ⟨0,[]⟩ (aI au x1 i0 ⟨0,[]⟩ (aC Tryz.call38 (aF (qi _ _ _ h5) (aT aN))))))))))) ?_;refine a7 H6 (fun c6 H7 => ?_) (fun c7 H8 => ?_)
     ·refine bn 0 (ps:=[(x0.map ab).length≤9223372036854775807]) (by kernel_rfl) (fun l0 => ?_);have l1:x0.length≤9223372036854775807:=by simpa only [bt,JV] using l0
      clear l0;obtain rfl:=sI H7;exact pB 4 [.eqT 41 (.bool false),V3] [.only [0,1,4,5] []] (j5 x0 x1 (i0+1) ()) (aM c6 (aH i0 aN))
     ·obtain rfl:=sI H8;obtain rfl:=aA h4;obtain rfl:=sI (ao H2);exact pR 5 [.eqT 41 (.bool true),V1] [] [] (aM c7 aN)
    ·obtain rfl:=sI H5;obtain rfl:=aA h4;obtain rfl:=sI (ao H2);exact pR 13 [r0 [.v,.v,.e (nI x0.length),.e (.bool true)],.rg 22 [.v,.v,.e (.dptr (ab (x0.getD i0 ⟨0,[]⟩))),.v,.v,.v,.v,.e (.dptr (ab (x1.getD i0 ⟨0,[]⟩))),.v,.v,.e (.bool true),.v,.s,.s,.s,.s,.s,.s,.s,.s,.s,.s] [.s,.s,.v],V1] [] [] (aT (aC (aK ab x0) (aB c3 (aI au x0 i0 ⟨0,[]⟩ (aI au x1 i0 ⟨0,[]⟩ (aM c5 aN))))))
  ·subst e0;have H9:=aW H2;obtain rfl:=sI H9;exact pR 3 [V1] [] [] aN
 ·obtain rfl:=sI H1;exact pR 10 [V1,r0 [.v,.e (nI x0.length),.v,.e (nI x1.length),.v],.eqT 10 (.bool true),V1] [] [] (aT (aC (aK ab x0) (aT (aC (aK ab x1) (aM c1 aN)))))
noncomputable def fp (x0:List Linear) (x1:List aa) (x2:List Bind):Option Bool :=
 (ja).bind fun y0 =>
 bif y0 then (
  (iS x0 5).bind fun y1 =>
  bif y1 then (
   (ml x1 5).bind fun y2 =>
   bif y2 then (
    bif decide (((x2.length:Nat):Int)>6) then (
     some true
    ) else (
     (cL (σ:=Unit) (ε:=Unit) (ρ:=Bool) (fun i0 s0 =>
      (dK (Linear.mk (((x2.getD i0 (⟨0,[],⟨0,[]⟩,⟨[],[]⟩,[]⟩)).Dim).Const) (((x2.getD i0 (⟨0,[],⟨0,[]⟩,⟨[],[]⟩,[]⟩)).Dim).Terms)) 3).bind fun y3 =>
      bif y3 then (
       some (.go ())
      ) else (
       some (.ret true)
      )
     ) (fun i0 s0=>()) (x2.length-0) 0 ()).bind <| aft fun u0 =>
     (cz x0).bind fun y4 =>
     (du x0).bind fun y5 =>
     (gn x1 x2).bind fun y6 =>
     (fv x1 x2).bind fun y7 =>
     (eK y4.1 y5.1).bind fun y8 =>
     bif y8 then (
      bif (y4.2==y5.2) then (
       (eK y6.1 y7.1).bind fun y9 =>
       bif y9 then (
        some (y6.2==y7.2)
       ) else (
        some false
       )
      ) else (
       some false
      )
     ) else (
      some false
     )
    )
   ) else (
    some true
   )
  ) else (
   some true
  )
 ) else (
  some false
 )
def fC (x0:List Linear) (x1:List aa) (x2:List Bind) (i0:Nat) (s0:Unit):AS:=⟨84,[(0,dS bh x0),(1,dS ab x1),(2,dS cm x2),(6,.bool false),(7,nI i0)],[]⟩
def iR (x0:List Linear) (x1:List aa) (x2:List Bind) (u1:Unit):AS:=⟨84,[(0,dS bh x0),(1,dS ab x1),(2,dS cm x2),(6,.bool false)],[]⟩
theorem o9 (x0:List Linear) (x1:List aa) (x2:List Bind) (r:Bool) (H:fp x0 x1 x2=some r):bI Tryz.prog 3 [dS bh x0,dS ab x1,dS cm x2] (.bool r):=by
 unfold fp at H;refine aX Tryz.func3 84 [.tmp 6] ?_;refine aU H fun y0 h0 H0 => ?_;refine a7 H0 (fun c0 H1 => ?_) (fun c1 H2 => ?_)
 ·refine aU H1 fun y1 h1 H3 => ?_;refine a7 H3 (fun c2 H4 => ?_) (fun c3 H5 => ?_)
  ·refine aU H4 fun y2 h2 H6 => ?_;refine a7 H6 (fun c4 H7 => ?_) (fun c5 H8 => ?_)
   ·refine pA 11 [.rg 0 [] [.v],.rg 0 [] [.c true (.bool y0),.v],.eqT 17 (.bool false),.rg 0 [] [.v,.c true (.bool true),.v,.v,.v,.c true (.bool true),.v,.v,.v,.v,.e (.int .i64 ((x2.length:Nat):Int)),.v,.v]] [.only [0,1,2,6,30] []] 10 [false] ⟨84,[(0,.dslice (x0.map bh)),(1,.dslice (x1.map ab)),(2,.dslice (x2.map cm)),(6,.bool false),(30,.bool (decide (((x2.length:Nat):Int)>6)))],[]⟩ (aC Tryz.call5 (aF (iP _ h0) (aT (aM c0 (aC Tryz.call6 (aC (bI.eq (lh _ _ _ h1) (cB c2)) (aT (aC Tryz.call7 (aC (bI.eq (sD _ _ _ h2) (cB c4)) (aT (aT (aC (aK cm x2) aN)))))))))))) ?_;refine a7 H7 (fun c6 H9 => ?_) (fun c7 H10 => ?_)
    ·obtain rfl:=sI H9;exact pR 5 [.eqT 30 (.bool true),V1] [] [] (aB c6 aN)
    ·have c7p:=JQ c7;refine pA 7 [.eqT 30 (.bool false),V1] [.only [0,1,2,6,7] []] 6 [false] (fC x0 x1 x2 0 ()) (aB c7 aN) ?_;refine aU H10 fun R0 h3 H11 => ?_;refine pJ 1 (iR x0 x1 x2) R0 ?_ (fun u0 e0 => ?_)
     ·refine pC (fC x0 x1 x2) h3 (fun i0 s0 h4 e1 => ?_) (fun i0 s0 h5 q0 h6 h7 => ?_)
      ·have c8:=lF i0 x2.length (by omega);subst e1;exact pB 5 [r0 [.v,.v,.e (nI x2.length),.e (.bool false)]] [.only [0,1,2,6] []] (iR x0 x1 x2 ()) (aT (aC (aK cm x2) (aB c8 aN)))
      ·have c9:=lT i0 x2.length (by omega);refine aU h6 fun y3 h8 H12 => ?_;refine pA 9 [r0 [.v,.v,.e (nI x2.length),.e (.bool true)],r0 [.v,.v,.e (.dptr (cm (x2.getD i0 (⟨0,[],⟨0,[]⟩,⟨[],[]⟩,[]⟩)))),.v,.v,.c true (.bool y3),.v]] [.only [0,1,2,6,7,43] []] 9 [true] ⟨84,[(0,dS bh x0),(1,dS ab x1),(2,dS cm x2),(6,.bool false),(7,nI i0),(43,.bool (!y3))],[]⟩ (aT (aC (aK cm x2) (aB c9 (aI ig x2 i0 (⟨0,[],⟨0,[]⟩,⟨[],[]⟩,[]⟩) (aC Tryz.call8 (aF (ta _ _ _ h8) (aT aN))))))) ?_;refine a7 H12 (fun c10 H13 => ?_) (fun c11 H14 => ?_)
       ·refine bn 2 (ps:=[(x2.map cm).length≤9223372036854775807]) (by kernel_rfl) (fun l0 => ?_);have l1:x2.length≤9223372036854775807:=by simpa only [bt,JV] using l0
        clear l0;obtain rfl:=sI H13;exact pB 4 [.eqT 43 (.bool false),V3] [.only [0,1,2,6,7] []] (fC x0 x1 x2 (i0+1) ()) (aM c10 (aH i0 aN))
       ·obtain rfl:=sI H14;obtain rfl:=aA h7;obtain rfl:=sI (ao H11);exact pR 5 [.eqT 43 (.bool true),V1] [] [] (aM c11 aN)
     ·subst e0;have H15:=aW H11;refine aU H15 fun y4 h9 H16 => ?_;refine aU H16 fun y5 h10 H17 => ?_;refine aU H17 fun y6 h11 H18 => ?_;refine aU H18 fun y7 h12 H19 => ?_;refine aU H19 fun y8 h13 H20 => ?_;refine pA 9 [r0 [.v,.c true (.tup [dS ab y4.1,iI y4.2]),.v,.v,.v,.v,.v],r0 [.v,.c true (.tup [dS ab y5.1,iI y5.2]),.v,.v,.v,.v,.v],r0 [.v,.v,.c true (.tup [dS ab y6.1,iI y6.2]),.v,.v,.v,.v,.v],r0 [.v,.v,.c true (.tup [dS ab y7.1,iI y7.2]),.v,.v,.v,.v,.v]] [.only [6,8,9,10,11,12,13,14,15] []] 9 [] ⟨84,[(6,.bool false),(8,dS ab y4.1),(9,iI y4.2),(10,dS ab y5.1),(11,iI y5.2),(12,dS ab y6.1),(13,iI y6.2),(14,dS ab y7.1),(15,iI y7.2)],[]⟩ (aC Tryz.call9 (aF (oC _ _ h9) (aC Tryz.call10 (aF (tE _ _ h10) (aC Tryz.call11 (aF (yz _ _ _ h11) (aC Tryz.call12 (aF (wY _ _ _ h12) aN)))))))) ?_;refine a7 H20 (fun c12 H21 => ?_) (fun c13 H22 => ?_)
      ·refine a7 H21 (fun c14 H23 => ?_) (fun c15 H24 => ?_)
       ·refine aU H23 fun y9 h14 H25 => ?_;refine a7 H25 (fun c16 H26 => ?_) (fun c17 H27 => ?_)
        ·obtain rfl:=sI H26;exact pR 2 [r0 [.v,.v,.c true (.bool true),.v,.v,.v,.e (.bool true),.v,.v,.v,.v,.c true (.bool true),.v,.v,.v,.v,.v,.v,.v]] [] [] (aC Tryz.call13 (aC (bI.eq (fc _ _ _ h13) (cB c12)) (aB c14 (aC Tryz.call13 (aC (bI.eq (fc _ _ _ h14) (cB c16)) aN)))))
        ·obtain rfl:=sI H27;exact pR 2 [r0 [.v,.v,.c true (.bool true),.v,.v,.v,.e (.bool true),.v,.v,.v,.v,.c true (.bool false),.v,.v,.s,.s,.s,.v,.v]] [] [] (aC Tryz.call13 (aC (bI.eq (fc _ _ _ h13) (cB c12)) (aB c14 (aC Tryz.call13 (aC (bI.eq (fc _ _ _ h14) (cB c17)) aN)))))
       ·obtain rfl:=sI H24;exact pR 2 [r0 [.v,.v,.c true (.bool true),.v,.v,.v,.e (.bool false),.v,.v,.s,.s,.s,.v,.v,.s,.s,.s,.v,.v]] [] [] (aC Tryz.call13 (aC (bI.eq (fc _ _ _ h13) (cB c12)) (aB c15 aN)))
      ·obtain rfl:=sI H22;exact pR 2 [r0 [.v,.v,.c true (.bool false),.v,.s,.s,.s,.v,.v,.s,.s,.s,.v,.v,.s,.s,.s,.v,.v]] [] [] (aC Tryz.call13 (aC (bI.eq (fc _ _ _ h13) (cB c13)) aN))
   ·obtain rfl:=sI H8;exact pR 15 [V1,r0 [.c true (.bool y0),.v],.eqT 17 (.bool false),r0 [.v,.c true (.bool true),.v,.v,.v,.c true (.bool false),.v,.v,.v,.s,.s,.s,.v],V1] [] [] (aC Tryz.call5 (aF (iP _ h0) (aT (aM c0 (aC Tryz.call6 (aC (bI.eq (lh _ _ _ h1) (cB c2)) (aT (aC Tryz.call7 (aC (bI.eq (sD _ _ _ h2) (cB c5)) (aT aN))))))))))
  ·obtain rfl:=sI H5;exact pR 15 [V1,r0 [.c true (.bool y0),.v],.eqT 17 (.bool false),r0 [.v,.c true (.bool false),.v,.v,.s,.s,.s,.v,.v,.s,.s,.s,.v],V1] [] [] (aC Tryz.call5 (aF (iP _ h0) (aT (aM c0 (aC Tryz.call6 (aC (bI.eq (lh _ _ _ h1) (cB c3)) (aT aN)))))))
 ·obtain rfl:=sI H2;exact pR 10 [V1,r0 [.c true (.bool y0),.v],.eqT 17 (.bool true),V1] [] [] (aC Tryz.call5 (aF (iP _ h0) (aT (aM c1 aN))))
noncomputable def kg (x0 x1:List aa):Option ((List aa)×Int) :=
 (bo x0).bind fun y0 =>
 bif y0 then (
  (bo x1).bind fun y1 =>
  bif y1 then (
   (eH x0 x1).bind fun y2 =>
   some (y2.1,y2.2)
  ) else (
   some ([],1)
  )
 ) else (
  some ([],1)
 )
theorem IJ (x0 x1:List aa) (r:(List aa)×Int) (H:kg x0 x1=some r):bI Tryz.prog 21 [dS ab x0,dS ab x1] (.tup [dS ab r.1,iI r.2]):=by
 unfold kg at H;refine aX Tryz.func21 19 [.tmp 4,.tmp 5] ?_;refine aU H fun y0 h0 H0 => ?_;refine a7 H0 (fun c0 H1 => ?_) (fun c1 H2 => ?_)
 ·refine aU H1 fun y1 h1 H3 => ?_;refine a7 H3 (fun c2 H4 => ?_) (fun c3 H5 => ?_)
  ·refine aU H4 fun y2 h2 H6 => ?_;obtain rfl:=sI H6;exact pR 11 [V2,r0 [.v,.c true (.bool true),.v,.v,.v,.c true (.bool y1),.v,.v],.eqT 13 (.bool false),r0 [.v,.v,.c true (.tup [dS ab y2.1,iI y2.2]),.v,.v,.v,.v]] [] [] (aC Tryz.call27 (aC (bI.eq (a6 _ _ h0) (cB c0)) (aT (aC Tryz.call27 (aF (a6 _ _ h1) (aT (aM c2 (aC Tryz.call29 (aF (pS _ _ _ h2) aN)))))))))
  ·obtain rfl:=sI H5;exact pR 10 [V2,r0 [.v,.c true (.bool true),.v,.v,.v,.c true (.bool y1),.v,.v],.eqT 13 (.bool true),V2] [.wk 4 []] [] (aC Tryz.call27 (aC (bI.eq (a6 _ _ h0) (cB c0)) (aT (aC Tryz.call27 (aF (a6 _ _ h1) (aT (aM c3 aN)))))))
 ·obtain rfl:=sI H2;exact pR 9 [V2,r0 [.v,.c true (.bool false),.v,.v,.s,.s,.s,.v],V2] [.wk 4 []] [] (aC Tryz.call27 (aC (bI.eq (a6 _ _ h0) (cB c1)) (aT aN)))
end Go.Proofs.YtadjhpbkknifeaaGreatDoor
