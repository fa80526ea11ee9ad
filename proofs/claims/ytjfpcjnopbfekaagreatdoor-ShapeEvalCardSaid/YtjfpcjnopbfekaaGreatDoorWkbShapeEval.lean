/- What functions of the program compute, walked: each as a plain function, with the theorem that the code computes it wherever that answers. Printed by a program, part 2. -/
import Derived.Test.YtjfpcjnopbfekaaGreatDoorWkaShapeEval
set_option linter.unusedSimpArgs false
set_option linter.unusedVariables false
namespace Go.Proofs.YtjfpcjnopbfekaaGreatDoor
open Go.RowKit Go.Ab Go.Sh
def gh (x0 x1:List Coef):Option Bool :=
 bif (((x0.length:Nat):Int)==((x1.length:Nat):Int)) then (
  (cY (σ:=Unit) (ε:=Unit) (ρ:=Bool) (fun i0 s0 =>
   cy (i0<x1.length) <|
   bif ((((x0.getD i0 ⟨[],0⟩).Var)==((x1.getD i0 ⟨[],0⟩).Var))&&((((x0.getD i0 ⟨[],0⟩).C)==((x1.getD i0 ⟨[],0⟩).C))&&true)) then (
    some (.go ())
   ) else (
    some (.ret false)
   )
  ) (fun i0 s0=>()) (x0.length-0) 0 ()).bind <| aft fun u0 =>
  some true
 ) else (
  some false
 )
def fc (x0 x1:List Coef) (i0:Nat) (s0:Unit):AS:=⟨26,[(0,dS aq x0),(1,dS aq x1),(4,.bool false),(12,nI x0.length),(13,nI i0)],[]⟩
def ig (u1:Unit):AS:=⟨26,[(4,.bool false)],[]⟩
theorem ov (x0 x1:List Coef) (r:Bool) (H:gh x0 x1=some r):a8 Tryz.prog 173 [dS aq x0,dS aq x1] (.bool r):=by
 unfold gh at H;refine aX Tryz.func173 26 [.tmp 4] ?_;refine aK H (fun c0 H0 => ?_) (fun c1 H1 => ?_)
 ·refine pA 12 [.rg 0 [] [.v],.rg 0 [] [.v,.e (.int .i64 ((x0.length:Nat):Int)),.v,.e (.int .i64 ((x1.length:Nat):Int)),.v],.eqT 10 (.bool false),.rg 0 [] [.v,.e (.int .i64 ((x0.length:Nat):Int)),.v]] [.only [0,1,4,12,13] []] 11 [false] (fc x0 x1 0 ()) (aT (aC (aA aq x0) (aT (aC (aA aq x1) (aM c0 (aT (aC (aA aq x0) aN))))))) ?_;refine az H0 fun R0 h0 H2 => ?_;refine pJ 1 (ig) R0 ?_ (fun u0 e0 => ?_)
  ·refine pC (fc x0 x1) h0 (fun i0 s0 h1 e1 => ?_) (fun i0 s0 h2 q0 h3 h4 => ?_)
   ·have c2:=lF i0 x0.length (by omega);subst e1;exact pB 5 [r0 [.e (.bool false)]] [.only [4] []] (ig ()) (aB c2 aN)
   ·have c3:=lT i0 x0.length (by omega);refine aU h3 fun g0 H3 => ?_;refine pA 11 [r0 [.e (.bool true)],V2,.rg 8 [.v,.v,.e (.dptr (aq (x0.getD i0 ⟨[],0⟩))),.v,.v,.v,.e (.dptr (aq (x1.getD i0 ⟨[],0⟩))),.v] [.w]] [.only [0,1,4,12,13,24] []] 11 [true] ⟨26,[(0,dS aq x0),(1,dS aq x1),(4,.bool false),(12,nI x0.length),(13,nI i0),(24,.bool (!((((x0.getD i0 ⟨[],0⟩).Var)==((x1.getD i0 ⟨[],0⟩).Var))&&((((x0.getD i0 ⟨[],0⟩).C)==((x1.getD i0 ⟨[],0⟩).C))&&true))))],[]⟩ (aB c3 (aI cU x0 i0 ⟨[],0⟩ (aI cU x1 i0 ⟨[],0⟩ aN))) ?_;refine aK H3 (fun c4 H4 => ?_) (fun c5 H5 => ?_)
    ·refine bu 0 (ps:=[(x0.map aq).length≤9223372036854775807]) (by kernel_rfl) (fun l0 => ?_);have l1:x0.length≤9223372036854775807:=by simpa only [bt,KW] using l0
     clear l0;obtain rfl:=sI H4;exact pB 4 [.eqT 24 (.bool false),V2] [.only [0,1,4,12,13] []] (fc x0 x1 (i0+1) ()) (aM c4 (aH i0 aN))
    ·obtain rfl:=sI H5;obtain rfl:=aw h4;obtain rfl:=sI (ao H2);exact pR 5 [.eqT 24 (.bool true),V1] [] [] (aM c5 aN)
  ·subst e0;have H6:=aV H2;obtain rfl:=sI H6;exact pR 3 [V1] [] [] aN
 ·obtain rfl:=sI H1;exact pR 10 [V1,r0 [.v,.e (nI x0.length),.v,.e (nI x1.length),.v],.eqT 10 (.bool true),V1] [] [] (aT (aC (aA aq x0) (aT (aC (aA aq x1) (aM c1 aN)))))
def rJ (x0 x1:Linear):Option Bool :=
 bif (x0.Const==x1.Const) then (
  (gh x0.Terms x1.Terms).bind fun y0 =>
  some y0
 ) else (
  some false
 )
theorem zL (x0 x1:Linear) (r:Bool) (H:rJ x0 x1=some r):a8 Tryz.prog 103 [.agg [iI x0.Const,dS aq x0.Terms],.agg [iI x1.Const,dS aq x1.Terms]] (.bool r):=by
 unfold rJ at H;refine aX Tryz.func103 17 [.tmp 4] ?_;refine aK H (fun c0 H0 => ?_) (fun c1 H1 => ?_)
 ·refine az H0 fun y0 h0 H2 => ?_;refine bB H2 fun e0 => ?_;subst e0;exact pR 5 [r0 [.m,.m,.v],r0 (V 4 [.e (.bool true),.v,.v,.v,.v,.v,.c true (.bool y0),.v,.v])] [] [] (aB c0 (aC Tryz.call173 (aF (ov _ _ _ h0) aN)))
 ·obtain rfl:=sI H1;exact pR 5 [r0 [.m,.m,.v],r0 (V 4 [.e (.bool false),.v,.s,.s,.s,.s,.s,.v,.v])] [] [] (aB c1 aN)
def dP (x0 x1:List Linear):Option Bool :=
 bif (((x0.length:Nat):Int)==((x1.length:Nat):Int)) then (
  (cY (σ:=Unit) (ε:=Unit) (ρ:=Bool) (fun i0 s0 =>
   cy (i0<x1.length) <|
   (rJ (Linear.mk ((x0.getD i0 ⟨0,[]⟩).Const) ((x0.getD i0 ⟨0,[]⟩).Terms)) (Linear.mk ((x1.getD i0 ⟨0,[]⟩).Const) ((x1.getD i0 ⟨0,[]⟩).Terms))).bind fun y0 =>
   bif y0 then (
    some (.go ())
   ) else (
    some (.ret false)
   )
  ) (fun i0 s0=>()) (x0.length-0) 0 ()).bind <| aft fun u0 =>
  some true
 ) else (
  some false
 )
def dn (x0 x1:List Linear) (i0:Nat) (s0:Unit):AS:=⟨32,[(1,dS ah x1),(2,.fn 103 []),(6,.bool false),(15,dS ah x0),(16,nI x0.length),(17,nI i0)],[]⟩
def fq (u1:Unit):AS:=⟨32,[(6,.bool false)],[]⟩
theorem kg (x0 x1:List Linear) (r:Bool) (H:dP x0 x1=some r):a8 Tryz.prog 102 [dS ah x0,dS ah x1,.fn 103 []] (.bool r):=by
 unfold dP at H;refine aX Tryz.func102 32 [.tmp 6] ?_;refine aK H (fun c0 H0 => ?_) (fun c1 H1 => ?_)
 ·refine pA 12 [.rg 0 [] [.v],.rg 0 [] [.v,.e (.int .i64 ((x0.length:Nat):Int)),.v,.e (.int .i64 ((x1.length:Nat):Int)),.v],.eqT 14 (.bool false),.rg 0 [] [.v,.e (.int .i64 ((x0.length:Nat):Int)),.v]] [.only [1,2,6,15,16,17] []] 11 [false] (dn x0 x1 0 ()) (aT (aC (aA ah x0) (aT (aC (aA ah x1) (aM c0 (aT (aC (aA ah x0) aN))))))) ?_;refine az H0 fun R0 h0 H2 => ?_;refine pJ 1 (fq) R0 ?_ (fun u0 e0 => ?_)
  ·refine pC (dn x0 x1) h0 (fun i0 s0 h1 e1 => ?_) (fun i0 s0 h2 q0 h3 h4 => ?_)
   ·have c2:=lF i0 x0.length (by omega);subst e1;exact pB 5 [r0 [.e (.bool false)]] [.only [6] []] (fq ()) (aB c2 aN)
   ·have c3:=lT i0 x0.length (by omega);refine aU h3 fun g0 H3 => ?_;refine az H3 fun y0 h5 H4 => ?_;refine pA 13 [r0 [.e (.bool true)],r0 [.v,.e (.dptr (ah (x0.getD i0 ⟨0,[]⟩))),.v,.m,.v,.m],r0 [.v,.v,.e (.dptr (ah (x1.getD i0 ⟨0,[]⟩))),.v,.m,.m],r0 [.v,.v,.v,.c true (.bool y0),.v]] [.only [1,2,6,15,16,17,30] []] 13 [true] ⟨32,[(1,dS ah x1),(2,.fn 103 []),(6,.bool false),(15,dS ah x0),(16,nI x0.length),(17,nI i0),(30,.bool (!y0))],[]⟩ (aB c3 (aI cD x0 i0 ⟨0,[]⟩ (aI cD x1 i0 ⟨0,[]⟩ (aC Tryz.call103 (aF (zL _ _ _ h5) (aT aN)))))) ?_;refine aK H4 (fun c4 H5 => ?_) (fun c5 H6 => ?_)
    ·refine bu 15 (ps:=[(x0.map ah).length≤9223372036854775807]) (by kernel_rfl) (fun l0 => ?_);have l1:x0.length≤9223372036854775807:=by simpa only [bt,KW] using l0
     clear l0;obtain rfl:=sI H5;exact pB 4 [.eqT 30 (.bool false),V2] [.only [1,2,6,15,16,17] []] (dn x0 x1 (i0+1) ()) (aM c4 (aH i0 aN))
    ·obtain rfl:=sI H6;obtain rfl:=aw h4;obtain rfl:=sI (ao H2);exact pR 5 [.eqT 30 (.bool true),V1] [] [] (aM c5 aN)
  ·subst e0;have H7:=aV H2;obtain rfl:=sI H7;exact pR 3 [V1] [] [] aN
 ·obtain rfl:=sI H1;exact pR 10 [V1,r0 [.v,.e (nI x0.length),.v,.e (nI x1.length),.v],.eqT 14 (.bool true),V1] [] [] (aT (aC (aA ah x0) (aT (aC (aA ah x1) (aM c1 aN)))))
def mN (x0 x1:Shape):Option Bool :=
 bif (x0.Row==x1.Row) then (
  (dP x0.Dims x1.Dims).bind fun y0 =>
  some y0
 ) else (
  some false
 )
theorem nN (x0 x1:Shape) (r:Bool) (H:mN x0 x1=some r):a8 Tryz.prog 35 [.agg [.str x0.Row,dS ah x0.Dims],.agg [.str x1.Row,dS ah x1.Dims]] (.bool r):=by
 unfold mN at H;refine aX Tryz.func35 17 [.tmp 4] ?_;refine aK H (fun c0 H0 => ?_) (fun c1 H1 => ?_)
 ·refine az H0 fun y0 h0 H2 => ?_;refine bB H2 fun e0 => ?_;subst e0;exact pR 5 [r0 [.m,.m,.v],r0 (V 4 [.e (.bool true),.v,.v,.v,.v,.v,.c true (.bool y0),.v,.v])] [] [] (aB c0 (aC Tryz.call102 (aF (kg _ _ _ h0) aN)))
 ·obtain rfl:=sI H1;exact pR 5 [r0 [.m,.m,.v],r0 (V 4 [.e (.bool false),.v,.s,.s,.s,.s,.s,.v,.v])] [] [] (aB c1 aN)
def eA (x0 x1:List Int):Option Bool :=
 bif (((x0.length:Nat):Int)==((x1.length:Nat):Int)) then (
  (cY (σ:=Unit) (ε:=Unit) (ρ:=Bool) (fun i0 s0 =>
   cy (i0<x1.length) <|
   bif ((x0.getD i0 0)==(x1.getD i0 0)) then (
    some (.go ())
   ) else (
    some (.ret false)
   )
  ) (fun i0 s0=>()) (x0.length-0) 0 ()).bind <| aft fun u0 =>
  some true
 ) else (
  some false
 )
def jq (x0 x1:List Int) (i0:Nat) (s0:Unit):AS:=⟨26,[(0,dS ab x0),(1,dS ab x1),(4,.bool false),(5,nI i0)],[]⟩
def mO (u1:Unit):AS:=⟨26,[(4,.bool false)],[]⟩
theorem dX (x0 x1:List Int) (r:Bool) (H:eA x0 x1=some r):a8 Tryz.prog 23 [dS ab x0,dS ab x1] (.bool r):=by
 unfold eA at H;refine aX Tryz.func23 26 [.tmp 4] ?_;refine aK H (fun c0 H0 => ?_) (fun c1 H1 => ?_)
 ·refine pA 12 [.rg 0 [] [.v],.rg 0 [] [.v,.e (.int .i64 ((x0.length:Nat):Int)),.v,.e (.int .i64 ((x1.length:Nat):Int)),.v],.eqT 10 (.bool false),.rg 0 [] [.v]] [.only [0,1,4,5] []] 11 [false] (jq x0 x1 0 ()) (aT (aC (aA ab x0) (aT (aC (aA ab x1) (aM c0 aN))))) ?_;refine az H0 fun R0 h0 H2 => ?_;refine pJ 1 (mO) R0 ?_ (fun u0 e0 => ?_)
  ·refine pC (jq x0 x1) h0 (fun i0 s0 h1 e1 => ?_) (fun i0 s0 h2 q0 h3 h4 => ?_)
   ·have c2:=lF i0 x0.length (by omega);subst e1;exact pB 5 [r0 [.v,.v,.e (nI x0.length),.e (.bool false)]] [.only [4] []] (mO ()) (aT (aC (aA ab x0) (aB c2 aN)))
   ·have c3:=lT i0 x0.length (by omega);refine aU h3 fun g0 H3 => ?_;refine pA 9 [r0 [.v,.v,.e (nI x0.length),.e (.bool true)],.rg 8 [.v,.v,.e (.dptr [iI (x0.getD i0 0)]),.v,.v,.v,.e (.dptr [iI (x1.getD i0 0)]),.v] [.v]] [.only [0,1,4,5,25] []] 9 [true] ⟨26,[(0,dS ab x0),(1,dS ab x1),(4,.bool false),(5,nI i0),(25,.bool ((x0.getD i0 0) != (x1.getD i0 0)))],[]⟩ (aT (aC (aA ab x0) (aB c3 (aI cm x0 i0 0 (aI cm x1 i0 0 aN))))) ?_;refine aK H3 (fun c4 H4 => ?_) (fun c5 H5 => ?_)
    ·refine bu 0 (ps:=[(x0.map ab).length≤9223372036854775807]) (by kernel_rfl) (fun l0 => ?_);have l1:x0.length≤9223372036854775807:=by simpa only [bt,KW] using l0
     clear l0;obtain rfl:=sI H4;exact pB 4 [.eqT 25 (.bool false),V3] [.only [0,1,4,5] []] (jq x0 x1 (i0+1) ()) (aM c4 (aH i0 aN))
    ·obtain rfl:=sI H5;obtain rfl:=aw h4;obtain rfl:=sI (ao H2);exact pR 5 [.eqT 25 (.bool true),V1] [] [] (aM c5 aN)
  ·subst e0;have H6:=aV H2;obtain rfl:=sI H6;exact pR 3 [V1] [] [] aN
 ·obtain rfl:=sI H1;exact pR 10 [V1,r0 [.v,.e (nI x0.length),.v,.e (nI x1.length),.v],.eqT 10 (.bool true),V1] [] [] (aT (aC (aA ab x0) (aT (aC (aA ab x1) (aM c1 aN)))))
noncomputable def eU   : Option Bool :=
 (fU 1 [110] 1).bind fun y0 =>
 (fU 0 [] 3).bind fun y1 =>
 (iM (Shape.mk [114] [y0,y1])).bind fun y2 =>
 (fU 1 [109] 0).bind fun y3 =>
 (fU 2 [107] 0).bind fun y4 =>
 (j9 (Shape.mk [114] [y0,y1]) [(Bind.mk 2 [114] (Linear.mk 0 []) (Shape.mk [] [y3]) []),(Bind.mk 1 [110] y4 (Shape.mk [] []) [])]).bind fun y5 =>
 (iM y5.1).bind fun y6 =>
 (ku y6.1).bind fun y7 =>
 (iv y5.1 [(Value.mk [107] 2),(Value.mk [109] 7)]).bind fun y8 =>
 bif (y2.2==0) then (
  bif (y5.2==0) then (
   bif (y6.2==0) then (
    bif (y7.2==0) then (
     bif (y8.2==0) then (
      bif (y2.1==[91,114,46,46,44,32,110,43,49,44,32,51,93]) then (
       bif (y6.1==[91,109,44,32,50,107,43,49,44,32,51,93]) then (
        (mN y5.1 y7.1).bind fun y9 =>
        bif y9 then (
         (eA y8.1 [7,5,3]).bind fun y10 =>
         bif y10 then (
          (ct (Shape.mk [114] [y0,y1])).bind fun y11 =>
          some y11
         ) else (
          some false
         )
        ) else (
         some false
        )
       ) else (
        some false
       )
      ) else (
       some false
      )
     ) else (
      some false
     )
    ) else (
     some false
    )
   ) else (
    some false
   )
  ) else (
   some false
  )
 ) else (
  some false
 )
theorem fV   (r:Bool) (H:eU  = some r):a8 Tryz.prog 15 [] (.bool r):=by
 unfold eU at H;refine aX Tryz.func15 91 [.tmp 0] ?_;refine az H fun y0 h0 H0 => ?_;refine az H0 fun y1 h1 H1 => ?_;refine az H1 fun y2 h2 H2 => ?_;refine az H2 fun y3 h3 H3 => ?_;refine az H3 fun y4 h4 H4 => ?_;refine az H4 fun y5 h5 H5 => ?_;refine az H5 fun y6 h6 H6 => ?_;refine az H6 fun y7 h7 H7 => ?_;refine az H7 fun y8 h8 H8 => ?_;refine pA 15 [V1,r0 [.c true (.agg [iI y0.Const,dS aq y0.Terms]),.c true (.agg [iI y1.Const,dS aq y1.Terms]),.b,.b,.m,.m],r0 [.v,.c true (.tup [.str y2.1,iI y2.2]),.v,.v,.v,.v,.v],.rg 14 [.v,.c true (.agg [iI y3.Const,dS aq y3.Terms]),.b,.b,.b,.c true (.agg [iI y4.Const,dS aq y4.Terms]),.b,.bw [[(0,3)],[(1,5)]],.c true (.tup [.agg [.str y5.1.Row,dS ah y5.1.Dims],iI y5.2]),.v,.v,.v,.m,.m] [.v],r0 [.v,.c true (.tup [.str y6.1,iI y6.2]),.v,.v,.v,.v,.v],r0 [.v,.c true (.tup [.agg [.str y7.1.Row,dS ah y7.1.Dims],iI y7.2]),.v,.v,.v,.m,.m,.v],r0 [.v,.b,.b,.b,.c true (.tup [dS ab y8.1,iI y8.2]),.v,.v,.v,.v,.v]] [.only [0,1,2,3,4,5,6,7,8,9,10,11] [1,4,8]] 15 [] ⟨91,[(0,.bool false),(1,.hptr 1 0),(2,.str y2.1),(3,iI y2.2),(4,.hptr 4 0),(5,iI y5.2),(6,.str y6.1),(7,iI y6.2),(8,.hptr 8 0),(9,iI y7.2),(10,dS ab y8.1),(11,iI y8.2)],[(1,.cells 24 [.str [114],.dslice ([y0,y1].map ah)]),(4,.cells 24 [.str y5.1.Row,dS ah y5.1.Dims]),(8,.cells 24 [.str y7.1.Row,dS ah y7.1.Dims])]⟩ (aC Tryz.call79 (aF (mP _ _ _ _ h0) (aC Tryz.call79 (aF (mP _ _ _ _ h1) (aC Tryz.call24 (aF (ry _ _ h2) (aC Tryz.call79 (aF (mP _ _ _ _ h3) (aC Tryz.call79 (aF (mP _ _ _ _ h4) (aC Tryz.call18 (aF (yb _ _ _ h5) (aC Tryz.call24 (aF (ry _ _ h6) (aC Tryz.call26 (aF (yk _ _ h7) (aC Tryz.call19 (aF (tf _ _ _ h8) aN)))))))))))))))))) ?_;refine aK H8 (fun c0 H9 => ?_) (fun c1 H10 => ?_)
 ·refine aK H9 (fun c2 H11 => ?_) (fun c3 H12 => ?_)
  ·refine aK H11 (fun c4 H13 => ?_) (fun c5 H14 => ?_)
   ·refine aK H13 (fun c6 H15 => ?_) (fun c7 H16 => ?_)
    ·refine aK H15 (fun c8 H17 => ?_) (fun c9 H18 => ?_)
     ·refine aK H17 (fun c10 H19 => ?_) (fun c11 H20 => ?_)
      ·refine aK H19 (fun c12 H21 => ?_) (fun c13 H22 => ?_)
       ·refine az H21 fun y9 h9 H23 => ?_;refine aK H23 (fun c14 H24 => ?_) (fun c15 H25 => ?_)
        ·refine az H24 fun y10 h10 H26 => ?_;refine aK H26 (fun c16 H27 => ?_) (fun c17 H28 => ?_)
         ·refine az H27 fun y11 h11 H29 => ?_;refine bB H29 fun e0 => ?_;subst e0;exact pR 2 [r0 [.v,.e (.bool true),.v,.v,.e (.bool true),.v,.v,.v,.e (.bool true),.v,.v,.v,.e (.bool true),.v,.v,.v,.e (.bool true),.v,.v,.v,.e (.bool true),.v,.v,.v,.e (.bool true),.v,.v,.v,.v,.c true (.bool true),.v,.v,.v,.b,.c true (.bool true),.v,.v,.v,.c true (.bool y11),.v,.v]] [] [] (aB c0 (aB c2 (aB c4 (aB c6 (aB c8 (aB c10 (aB c12 (aC Tryz.call35 (aC (a8.eq (nN _ _ _ h9) (cB c14)) (aC Tryz.call23 (aC (a8.eq (dX _ _ _ h10) (cB c16)) (aC Tryz.call31 (aF (bj _ _ h11) aN)))))))))))))
         ·obtain rfl:=sI H28;exact pR 2 [r0 [.v,.e (.bool true),.v,.v,.e (.bool true),.v,.v,.v,.e (.bool true),.v,.v,.v,.e (.bool true),.v,.v,.v,.e (.bool true),.v,.v,.v,.e (.bool true),.v,.v,.v,.e (.bool true),.v,.v,.v,.v,.c true (.bool true),.v,.v,.v,.b,.c true (.bool false),.v,.v,.s,.s,.v,.v]] [] [] (aB c0 (aB c2 (aB c4 (aB c6 (aB c8 (aB c10 (aB c12 (aC Tryz.call35 (aC (a8.eq (nN _ _ _ h9) (cB c14)) (aC Tryz.call23 (aC (a8.eq (dX _ _ _ h10) (cB c17)) aN)))))))))))
        ·obtain rfl:=sI H25;exact pR 2 [r0 [.v,.e (.bool true),.v,.v,.e (.bool true),.v,.v,.v,.e (.bool true),.v,.v,.v,.e (.bool true),.v,.v,.v,.e (.bool true),.v,.v,.v,.e (.bool true),.v,.v,.v,.e (.bool true),.v,.v,.v,.v,.c true (.bool false),.v,.v,.s,.s,.s,.v,.v,.s,.s,.v,.v]] [] [] (aB c0 (aB c2 (aB c4 (aB c6 (aB c8 (aB c10 (aB c12 (aC Tryz.call35 (aC (a8.eq (nN _ _ _ h9) (cB c15)) aN)))))))))
       ·obtain rfl:=sI H22;exact pR 2 [r0 [.v,.e (.bool true),.v,.v,.e (.bool true),.v,.v,.v,.e (.bool true),.v,.v,.v,.e (.bool true),.v,.v,.v,.e (.bool true),.v,.v,.v,.e (.bool true),.v,.v,.v,.e (.bool false),.v,.v,.s,.s,.s,.v,.v,.s,.s,.s,.v,.v,.s,.s,.v,.v]] [] [] (aB c0 (aB c2 (aB c4 (aB c6 (aB c8 (aB c10 (aB c13 aN)))))))
      ·obtain rfl:=sI H20;exact pR 2 [r0 [.v,.e (.bool true),.v,.v,.e (.bool true),.v,.v,.v,.e (.bool true),.v,.v,.v,.e (.bool true),.v,.v,.v,.e (.bool true),.v,.v,.v,.e (.bool false),.v,.v,.s,.s,.v,.v,.s,.s,.s,.v,.v,.s,.s,.s,.v,.v,.s,.s,.v,.v]] [] [] (aB c0 (aB c2 (aB c4 (aB c6 (aB c8 (aB c11 aN))))))
     ·obtain rfl:=sI H18;exact pR 2 [r0 [.v,.e (.bool true),.v,.v,.e (.bool true),.v,.v,.v,.e (.bool true),.v,.v,.v,.e (.bool true),.v,.v,.v,.e (.bool false),.v,.v,.s,.s,.v,.v,.s,.s,.v,.v,.s,.s,.s,.v,.v,.s,.s,.s,.v,.v,.s,.s,.v,.v]] [] [] (aB c0 (aB c2 (aB c4 (aB c6 (aB c9 aN)))))
    ·obtain rfl:=sI H16;exact pR 2 [r0 [.v,.e (.bool true),.v,.v,.e (.bool true),.v,.v,.v,.e (.bool true),.v,.v,.v,.e (.bool false),.v,.v,.s,.s,.v,.v,.s,.s,.v,.v,.s,.s,.v,.v,.s,.s,.s,.v,.v,.s,.s,.s,.v,.v,.s,.s,.v,.v]] [] [] (aB c0 (aB c2 (aB c4 (aB c7 aN))))
   ·obtain rfl:=sI H14;exact pR 2 [r0 [.v,.e (.bool true),.v,.v,.e (.bool true),.v,.v,.v,.e (.bool false),.v,.v,.s,.s,.v,.v,.s,.s,.v,.v,.s,.s,.v,.v,.s,.s,.v,.v,.s,.s,.s,.v,.v,.s,.s,.s,.v,.v,.s,.s,.v,.v]] [] [] (aB c0 (aB c2 (aB c5 aN)))
  ·obtain rfl:=sI H12;exact pR 2 [r0 [.v,.e (.bool true),.v,.v,.e (.bool false),.v,.v,.s,.s,.v,.v,.s,.s,.v,.v,.s,.s,.v,.v,.s,.s,.v,.v,.s,.s,.v,.v,.s,.s,.s,.v,.v,.s,.s,.s,.v,.v,.s,.s,.v,.v]] [] [] (aB c0 (aB c3 aN))
 ·obtain rfl:=sI H10;exact pR 2 [r0 [.v,.e (.bool false),.v,.s,.s,.v,.v,.s,.s,.v,.v,.s,.s,.v,.v,.s,.s,.v,.v,.s,.s,.v,.v,.s,.s,.v,.v,.s,.s,.s,.v,.v,.s,.s,.s,.v,.v,.s,.s,.v,.v]] [] [] (aB c1 aN)
def fQ (x0:Linear):Option Bool :=
 (cY (σ:=Unit) (ε:=Unit) (ρ:=Bool) (fun i0 s0 =>
  bif decide (((((x0.Terms.getD i0 ⟨[],0⟩).Var).length:Nat):Int)>35) then (
   some (.ret false)
  ) else (
   some (.go ())
  )
 ) (fun i0 s0=>()) (x0.Terms.length-0) 0 ()).bind <| aft fun u0 =>
 some (decide (((x0.Terms.length:Nat):Int)≤14))
def iH (x0:Linear) (i0:Nat) (s0:Unit):AS:=⟨23,[(1,.hptr 1 0),(2,.bool false),(3,nI i0)],[(1,.cells 39 [iI x0.Const,dS aq x0.Terms])]⟩
def lE (x0:Linear) (u1:Unit):AS:=⟨23,[(1,.hptr 1 0),(2,.bool false)],[(1,.cells 39 [iI x0.Const,dS aq x0.Terms])]⟩
theorem sy (x0:Linear) (r:Bool) (H:fQ x0=some r):a8 Tryz.prog 80 [.agg [iI x0.Const,dS aq x0.Terms]] (.bool r):=by
 unfold fQ at H;refine aX Tryz.func80 23 [.tmp 2] ?_;refine pA 6 [r0 [.m,.v],V1] [.only [1,2,3] [1]] 6 [] (iH x0 0 ()) aN ?_;refine az H fun R0 h0 H0 => ?_;refine pJ 1 (lE x0) R0 ?_ (fun u0 e0 => ?_)
 ·refine pC (iH x0) h0 (fun i0 s0 h1 e1 => ?_) (fun i0 s0 h2 q0 h3 h4 => ?_)
  ·have c0:=lF i0 x0.Terms.length (by omega);subst e1;exact pB 5 [r0 [.v,.v,.v,.e (nI x0.Terms.length),.e (.bool false)]] [.only [1,2] [1]] (lE x0 ()) (aT (aC (aA aq x0.Terms) (aB c0 aN)))
  ·have c1:=lT i0 x0.Terms.length (by omega);refine pA 9 [r0 [.v,.v,.v,.e (nI x0.Terms.length),.e (.bool true)],r0 [.v,.v,.v,.e (.dptr (aq (x0.Terms.getD i0 ⟨[],0⟩))),.v,.v,.v,.v]] [.only [1,2,3,18] [1]] 9 [true] ⟨23,[(1,.hptr 1 0),(2,.bool false),(3,nI i0),(18,.bool (decide (((((x0.Terms.getD i0 ⟨[],0⟩).Var).length:Nat):Int)>35)))],[(1,.cells 39 [iI x0.Const,dS aq x0.Terms])]⟩ (aT (aC (aA aq x0.Terms) (aB c1 (aI cU x0.Terms i0 ⟨[],0⟩ (aT aN))))) ?_;refine aK h3 (fun c2 H1 => ?_) (fun c3 H2 => ?_)
   ·obtain rfl:=sI H1;obtain rfl:=aw h4;obtain rfl:=sI (ao H0);exact pR 5 [.eqT 18 (.bool true),V1] [] [] (aB c2 aN)
   ·have c3p:=KS c3;refine jP 1 1 (ps:=[(x0.Terms.map aq).length≤9223372036854775807]) (by kernel_rfl) (fun l0 => ?_);have l1:x0.Terms.length≤9223372036854775807:=by simpa only [bt,KW] using l0
    clear l0;obtain rfl:=sI H2;exact pB 4 [.eqT 18 (.bool false),V3] [.only [1,2,3] [1]] (iH x0 (i0+1) ()) (aB c3 (aH i0 aN))
 ·subst e0;have H3:=aV H0;obtain rfl:=sI H3;exact pR 3 [r0 [.v,.v,.e (nI x0.Terms.length),.v,.v]] [] [] (aT (aC (aA aq x0.Terms) aN))
def od (x0:Shape):Option Bool :=
 (cY (σ:=Unit) (ε:=Unit) (ρ:=Bool) (fun i0 s0 =>
  (fQ (Linear.mk ((x0.Dims.getD i0 ⟨0,[]⟩).Const) ((x0.Dims.getD i0 ⟨0,[]⟩).Terms))).bind fun y0 =>
  bif y0 then (
   some (.go ())
  ) else (
   some (.ret false)
  )
 ) (fun i0 s0=>()) (x0.Dims.length-0) 0 ()).bind <| aft fun u0 =>
 bif decide (((x0.Dims.length:Nat):Int)≤8) then (
  some (decide (((x0.Row.length:Nat):Int)≤35))
 ) else (
  some false
 )
def pj (x0:Shape) (i0:Nat) (s0:Unit):AS:=⟨28,[(1,.hptr 1 0),(2,.bool false),(3,nI i0)],[(1,.cells 24 [.str x0.Row,dS ah x0.Dims])]⟩
def sf (x0:Shape) (u1:Unit):AS:=⟨28,[(1,.hptr 1 0),(2,.bool false)],[(1,.cells 24 [.str x0.Row,dS ah x0.Dims])]⟩
theorem u9 (x0:Shape) (r:Bool) (H:od x0=some r):a8 Tryz.prog 16 [.agg [.str x0.Row,dS ah x0.Dims]] (.bool r):=by
 unfold od at H;refine aX Tryz.func16 28 [.tmp 2] ?_;refine pA 6 [r0 [.m,.v],V1] [.only [1,2,3] [1]] 6 [] (pj x0 0 ()) aN ?_;refine az H fun R0 h0 H0 => ?_;refine pJ 1 (sf x0) R0 ?_ (fun u0 e0 => ?_)
 ·refine pC (pj x0) h0 (fun i0 s0 h1 e1 => ?_) (fun i0 s0 h2 q0 h3 h4 => ?_)
  ·have c0:=lF i0 x0.Dims.length (by omega);subst e1;exact pB 5 [r0 [.v,.v,.v,.e (nI x0.Dims.length),.e (.bool false)]] [.only [1,2] [1]] (sf x0 ()) (aT (aC (aA ah x0.Dims) (aB c0 aN)))
  ·have c1:=lT i0 x0.Dims.length (by omega);refine az h3 fun y0 h5 H1 => ?_;refine pA 9 [r0 [.v,.v,.v,.e (nI x0.Dims.length),.e (.bool true)],r0 [.v,.v,.v,.e (.dptr (ah (x0.Dims.getD i0 ⟨0,[]⟩))),.v,.c true (.bool y0),.v]] [.only [1,2,3,17] [1]] 9 [true] ⟨28,[(1,.hptr 1 0),(2,.bool false),(3,nI i0),(17,.bool (!y0))],[(1,.cells 24 [.str x0.Row,dS ah x0.Dims])]⟩ (aT (aC (aA ah x0.Dims) (aB c1 (aI cD x0.Dims i0 ⟨0,[]⟩ (aC Tryz.call80 (aF (sy _ _ h5) (aT aN))))))) ?_;refine aK H1 (fun c2 H2 => ?_) (fun c3 H3 => ?_)
   ·refine jP 1 1 (ps:=[(x0.Dims.map ah).length≤9223372036854775807]) (by kernel_rfl) (fun l0 => ?_);have l1:x0.Dims.length≤9223372036854775807:=by simpa only [bt,KW] using l0
    clear l0;obtain rfl:=sI H2;exact pB 4 [.eqT 17 (.bool false),V3] [.only [1,2,3] [1]] (pj x0 (i0+1) ()) (aM c2 (aH i0 aN))
   ·obtain rfl:=sI H3;obtain rfl:=aw h4;obtain rfl:=sI (ao H0);exact pR 5 [.eqT 17 (.bool true),V1] [] [] (aM c3 aN)
 ·subst e0;have H4:=aV H0;refine aK H4 (fun c4 H5 => ?_) (fun c5 H6 => ?_)
  ·obtain rfl:=sI H5;exact pR 3 [r0 [.v,.v,.e (nI x0.Dims.length),.e (.bool true),.v,.v,.v,.v,.v,.v,.v]] [] [] (aT (aC (aA ah x0.Dims) (aB c4 (aT aN))))
  ·obtain rfl:=sI H6;exact pR 3 [r0 [.v,.v,.e (nI x0.Dims.length),.e (.bool false),.v,.s,.s,.s,.s,.v,.v]] [] [] (aT (aC (aA ah x0.Dims) (aB c5 aN)))
def iS (x0:Int):Option Bool :=
 bif decide (x0≥(-1000000)) then (
  some (decide (x0≤1000000))
 ) else (
  some false
 )
theorem fS (x0:Int) (r:Bool) (H:iS x0=some r):a8 Tryz.prog 151 [iI x0] (.bool r):=by
 unfold iS at H;refine aX Tryz.func151 9 [.tmp 2] ?_;refine aK H (fun c0 H0 => ?_) (fun c1 H1 => ?_)
 ·obtain rfl:=sI H0;exact pR 5 [V1,r0 [.v,.e (.bool true),.v,.v,.v,.v,.v]] [] [] (aB c0 aN)
 ·obtain rfl:=sI H1;exact pR 5 [V1,r0 [.v,.e (.bool false),.v,.s,.s,.v,.v]] [] [] (aB c1 aN)
def iO (x0:UInt8):Option Bool :=
 bif decide (((x0).toNat:Int)≥48) then (
  some (decide (((x0).toNat:Int)≤57))
 ) else (
  some false
 )
theorem nM (x0:UInt8) (r:Bool) (H:iO x0=some r):a8 Tryz.prog 171 [.int .u8 ((x0).toNat:Int)] (.bool r):=by
 unfold iO at H;refine aX Tryz.func171 9 [.tmp 2] ?_;refine aK H (fun c0 H0 => ?_) (fun c1 H1 => ?_)
 ·obtain rfl:=sI H0;exact pR 5 [V1,r0 [.v,.e (.bool true),.v,.v,.v,.v,.v]] [] [] (aB c0 aN)
 ·obtain rfl:=sI H1;exact pR 5 [V1,r0 [.v,.e (.bool false),.v,.s,.s,.v,.v]] [] [] (aB c1 aN)
def ju (x0:UInt8):Option Bool :=
 bif decide (((x0).toNat:Int)≥97) then (
  some (decide (((x0).toNat:Int)≤122))
 ) else (
  some false
 )
theorem lR (x0:UInt8) (r:Bool) (H:ju x0=some r):a8 Tryz.prog 172 [.int .u8 ((x0).toNat:Int)] (.bool r):=by
 unfold ju at H;refine aX Tryz.func172 9 [.tmp 2] ?_;refine aK H (fun c0 H0 => ?_) (fun c1 H1 => ?_)
 ·obtain rfl:=sI H0;exact pR 5 [V1,r0 [.v,.e (.bool true),.v,.v,.v,.v,.v]] [] [] (aB c0 aN)
 ·obtain rfl:=sI H1;exact pR 5 [V1,r0 [.v,.e (.bool false),.v,.s,.s,.v,.v]] [] [] (aB c1 aN)
def iw (x0:ai):Option Bool :=
 bif (((x0.length:Nat):Int)==0) then (
  some false
 ) else (
  bif decide (((x0.length:Nat):Int)>30) then (
   some false
  ) else (
   cy (0<x0.length) <|
   bif (((x0.getD 0 0).toNat:Int)==95) then (
    bif decide (((x0.length:Nat):Int)<2) then (
     some false
    ) else (
     bif decide (((x0.length:Nat):Int)>10) then (
      some false
     ) else (
      cy (1<x0.length) <|
      bif (((x0.getD 1 0).toNat:Int)==48) then (
       some false
      ) else (
       (cY (σ:=Unit) (ε:=Unit) (ρ:=Bool) (fun i0 s0 =>
        (iO (x0.getD i0 0)).bind fun y0 =>
        bif y0 then (
         some (.go ())
        ) else (
         some (.ret false)
        )
       ) (fun i0 s0=>()) (x0.length-1) 1 ()).bind <| aft fun u0 =>
       some true
      )
     )
    )
   ) else (
    (cY (σ:=Unit) (ε:=Unit) (ρ:=Bool) (fun i1 s1 =>
     (ju (x0.getD i1 0)).bind fun y1 =>
     ((
      bif y1 then (
       some (.brk ())
      ) else (
       bif (((i1:Nat):Int)==0) then (
        some (.ret (.ret false))
       ) else (
        (iO (x0.getD i1 0)).bind fun y2 =>
        bif y2 then (
         some (.brk ())
        ) else (
         some (.ret (.ret false))
        )
       )
      )
     ):Option (Out Unit (gZ Unit Unit Bool))).bind (aft fun u1 =>
      some (.go ())
     )
    ) (fun i1 s1=>()) (x0.length-0) 0 ()).bind <| aft fun u2 =>
    some true
   )
  )
 )
def nf (x0:ai) (i0:Nat) (s0:Unit):AS:=⟨62,[(0,.str x0),(2,.bool false),(3,nI i0)],[]⟩
def rn (x0:ai) (u3:Unit):AS:=⟨62,[(0,.str x0),(2,.bool false)],[]⟩
def nw (x0:ai) (i1:Nat) (s1:Unit):AS:=⟨62,[(0,.str x0),(2,.bool false),(4,nI i1)],[]⟩
def rD (u4:Unit):AS:=⟨62,[(2,.bool false)],[]⟩
def np (x0:ai) (i1:Nat) (u1:Unit):AS:=⟨62,[(0,.str x0),(2,.bool false),(4,nI i1)],[]⟩
theorem dM (x0:ai) (r:Bool) (H:iw x0=some r):a8 Tryz.prog 100 [.str x0] (.bool r):=by
 unfold iw at H;refine aX Tryz.func100 62 [.tmp 2] ?_;refine aK H (fun c0 H0 => ?_) (fun c1 H1 => ?_)
 ·obtain rfl:=sI H0;exact pR 9 [V1,r0 [.v,.v,.e (.bool true),.v,.s,.s,.s,.v],V1] [] [] (aT (aB c0 aN))
 ·refine aK H1 (fun c2 H2 => ?_) (fun c3 H3 => ?_)
  ·obtain rfl:=sI H2;exact pR 10 [V1,r0 [.v,.v,.e (.bool false),.v,.v,.v,.v,.v],.eqT 12 (.bool true),V1] [] [] (aT (aB c1 (aT (aB c2 aN))))
  ·have c3p:=KS c3;refine aU H3 fun g0 H4 => ?_;refine aK H4 (fun c4 H5 => ?_) (fun c5 H6 => ?_)
   ·refine aK H5 (fun c6 H7 => ?_) (fun c7 H8 => ?_)
    ·have c6p:=KT c6;obtain rfl:=sI H7;exact pR 20 [V1,r0 [.v,.v,.e (.bool false),.v,.v,.v,.v,.v],.eqT 12 (.bool false),V3,.eqT 15 (.bool true),r0 [.v,.v,.e (.bool true),.v,.s,.s,.s,.v,.v,.s,.s,.s,.v],V1] [] [] (aT (aB c1 (aT (aB c3 (aC (show (0:Int)≤0∧0<(x0.length:Int) from by omega) (aB c4 (aT (aB c6 aN))))))))
    ·have c7p:=KS c7;refine aK H8 (fun c8 H9 => ?_) (fun c9 H10 => ?_)
     ·have c8p:=KT c8;obtain rfl:=sI H9;exact pR 20 [V1,r0 [.v,.v,.e (.bool false),.v,.v,.v,.v,.v],.eqT 12 (.bool false),V3,.eqT 15 (.bool true),r0 [.v,.v,.e (.bool false),.v,.v,.v,.e (.bool true),.v,.v,.s,.s,.s,.v],V1] [] [] (aT (aB c1 (aT (aB c3 (aC (show (0:Int)≤0∧0<(x0.length:Int) from by omega) (aB c4 (aT (aB c7 (aT (aB c8 aN))))))))))
     ·have c9p:=KS c9;refine aU H10 fun g1 H11 => ?_;refine pA 16 [V1,r0 [.v,.v,.e (.bool false),.v,.v,.v,.v,.v],.eqT 12 (.bool false),V3,.eqT 15 (.bool true),r0 [.v,.v,.e (.bool false),.v,.v,.v,.e (.bool false),.v,.v,.v,.v,.v,.v]] [.only [0,2,28] []] 14 [false,true] ⟨62,[(0,.str x0),(2,.bool false),(28,.bool (((x0.getD 1 0).toNat:Int)==48))],[]⟩ (aT (aB c1 (aT (aB c3 (aC (show (0:Int)≤0∧0<(x0.length:Int) from by omega) (aB c4 (aT (aB c7 (aT (aB c9 (aC (show (0:Int)≤1∧1<(x0.length:Int) from by omega) aN))))))))))) ?_;refine aK H11 (fun c10 H12 => ?_) (fun c11 H13 => ?_)
      ·obtain rfl:=sI H12;exact pR 5 [.eqT 28 (.bool true),V1] [] [] (aB c10 aN)
      ·refine pA 7 [.eqT 28 (.bool false),.rg 0 [] [.v]] [.only [0,2,3] []] 6 [false] (nf x0 1 ()) (aB c11 aN) ?_;refine az H13 fun R0 h0 H14 => ?_;refine pJ 1 (rn x0) R0 ?_ (fun u0 e0 => ?_)
       ·refine pC (nf x0) h0 (fun i0 s0 h1 e1 => ?_) (fun i0 s0 h2 q0 h3 h4 => ?_)
        ·have c12:=lF i0 x0.length (by omega);subst e1;exact pB 5 [r0 [.v,.v,.v,.e (.bool false)]] [.only [0,2] []] (rn x0 ()) (aT (aB c12 aN))
        ·have c13:=lT i0 x0.length (by omega);refine az h3 fun y0 h5 H15 => ?_;refine aK H15 (fun c14 H16 => ?_) (fun c15 H17 => ?_)
         ·refine bu 0 (ps:=[x0.length≤9223372036854775807]) (by kernel_rfl) (fun l0 => ?_);have l1:x0.length≤9223372036854775807:=by simpa only [bt,KW] using l0
          clear l0;obtain rfl:=sI H16;exact pB 13 [r0 [.v,.v,.v,.e (.bool true)],r0 [.v,.v,.v,.c true (.bool y0),.v],.eqT 39 (.bool false),V3] [.only [0,2,3] []] (nf x0 (i0+1) ()) (aT (aB c13 (aC (show (0:Int)≤((i0:Nat):Int)∧((i0:Nat):Int)<(x0.length:Int) from by omega) (aC Tryz.call171 (aF (nM _ _ h5) (aT (aM c14 (aH i0 aN))))))))
         ·obtain rfl:=sI H17;obtain rfl:=aw h4;obtain rfl:=sI (ao H14);exact pR 14 [r0 [.v,.v,.v,.e (.bool true)],r0 [.v,.v,.v,.c true (.bool y0),.v],.eqT 39 (.bool true),V1] [] [] (aT (aB c13 (aC (show (0:Int)≤((i0:Nat):Int)∧((i0:Nat):Int)<(x0.length:Int) from by omega) (aC Tryz.call171 (aF (nM _ _ h5) (aT (aM c15 aN)))))))
       ·subst e0;have H18:=aV H14;obtain rfl:=sI H18;exact pR 3 [V1] [] [] aN
   ·refine pA 18 [.rg 0 [] [.v],.rg 0 [] [.v,.v,.e (.bool false),.v,.v,.v,.v,.v],.eqT 12 (.bool false),.rg 0 [] [.v,.v,.v],.eqT 15 (.bool false),.rg 0 [] [.v]] [.only [0,2,4] []] 16 [false,false] (nw x0 0 ()) (aT (aB c1 (aT (aB c3 (aC (show (0:Int)≤0∧0<(x0.length:Int) from by omega) (aB c5 aN)))))) ?_;refine az H6 fun R1 h6 H19 => ?_;refine pJ 1 (rD) R1 ?_ (fun u2 e2 => ?_)
    ·refine pC (nw x0) h6 (fun i1 s1 h7 e3 => ?_) (fun i1 s1 h8 q1 h9 h10 => ?_)
     ·have c16:=lF i1 x0.length (by omega);subst e3;exact pB 5 [r0 [.v,.v,.v,.e (.bool false)]] [.only [2] []] (rD ()) (aT (aB c16 aN))
     ·have c17:=lT i1 x0.length (by omega);refine az h9 fun y1 h11 H20 => ?_;refine pA 8 [r0 [.v,.v,.v,.e (.bool true)]] [.only [0,2,4] []] 8 [true] ⟨62,[(0,.str x0),(2,.bool false),(4,nI i1)],[]⟩ (aT (aB c17 aN)) ?_;refine az H20 fun v0 h12 H21 => ?_;refine pJ 2 (np x0 i1) v0 ?_ (fun u1 e4 => ?_)
      ·refine aK h12 (fun c18 H22 => ?_) (fun c19 H23 => ?_)
       ·obtain rfl:=sI H22;exact pB 3 [r0 [.v,.v,.v,.c true (.bool true),.v,.v,.s,.s,.s,.s,.s,.s,.s,.s,.s,.v]] [.only [0,2,4] []] (np x0 i1 ()) (aC (show (0:Int)≤((i1:Nat):Int)∧((i1:Nat):Int)<(x0.length:Int) from by omega) (aC Tryz.call172 (aC (a8.eq (lR _ _ h11) (cB c18)) (aT aN))))
       ·refine aK H23 (fun c20 H24 => ?_) (fun c21 H25 => ?_)
        ·obtain rfl:=sI H24;obtain rfl:=sI (ao H21);obtain rfl:=aw h10;obtain rfl:=sI (ao H19);exact pR 5 [r0 [.v,.v,.v,.c true (.bool false),.v,.v,.v,.e (.bool true),.v,.s,.s,.s,.s,.s,.v,.v],V1] [] [] (aC (show (0:Int)≤((i1:Nat):Int)∧((i1:Nat):Int)<(x0.length:Int) from by omega) (aC Tryz.call172 (aC (a8.eq (lR _ _ h11) (cB c19)) (aT (aB c20 aN)))))
        ·refine az H25 fun y2 h13 H26 => ?_;refine pA 1 [r0 [.v,.v,.v,.c true (.bool false),.v,.v,.v,.e (.bool false),.v,.v,.v,.v,.c true (.bool y2),.v,.v,.v]] [.only [0,2,4,61] []] 1 [] ⟨62,[(0,.str x0),(2,.bool false),(4,nI i1),(61,.bool (!y2))],[]⟩ (aC (show (0:Int)≤((i1:Nat):Int)∧((i1:Nat):Int)<(x0.length:Int) from by omega) (aC Tryz.call172 (aC (a8.eq (lR _ _ h11) (cB c19)) (aT (aB c21 (aC (show (0:Int)≤((i1:Nat):Int)∧((i1:Nat):Int)<(x0.length:Int) from by omega) (aC Tryz.call171 (aF (nM _ _ h13) (aT aN))))))))) ?_;refine aK H26 (fun c22 H27 => ?_) (fun c23 H28 => ?_)
         ·obtain rfl:=sI H27;exact pB 3 [.eqT 61 (.bool false)] [.only [0,2,4] []] (np x0 i1 ()) (aM c22 aN)
         ·obtain rfl:=sI H28;obtain rfl:=sI (ao H21);obtain rfl:=aw h10;obtain rfl:=sI (ao H19);exact pR 5 [.eqT 61 (.bool true),V1] [] [] (aM c23 aN)
      ·subst e4;have H29:=aV H21;refine bu 0 (ps:=[x0.length≤9223372036854775807]) (by kernel_rfl) (fun l2 => ?_);have l3:x0.length≤9223372036854775807:=by simpa only [bt,KW] using l2
       clear l2;obtain rfl:=sI H29;exact pB 1 [V3] [.only [0,2,4] []] (nw x0 (i1+1) ()) (aH i1 aN)
    ·subst e2;have H30:=aV H19;obtain rfl:=sI H30;exact pR 3 [V1] [] [] aN
def fC (x0:Linear):Option Bool :=
 (iS x0.Const).bind fun y0 =>
 bif y0 then (
  bif decide (((x0.Terms.length:Nat):Int)>12) then (
   some false
  ) else (
   (cY (σ:=Unit) (ε:=Unit) (ρ:=Bool) (fun i0 s0 =>
    (iw ((x0.Terms.getD i0 ⟨[],0⟩).Var)).bind fun y1 =>
    ((
     bif y1 then (
      bif (((x0.Terms.getD i0 ⟨[],0⟩).C)==0) then (
       some (.ret (.ret false))
      ) else (
       (iS ((x0.Terms.getD i0 ⟨[],0⟩).C)).bind fun y2 =>
       bif y2 then (
        bif decide (((i0:Nat):Int)>0) then (
         cy (0≤(aJ (((i0:Nat):Int)-1))∧(aJ (((i0:Nat):Int)-1))<(x0.Terms.length:Int)) <|
         bif (Op.bytesLess ((x0.Terms.getD (aJ (((i0:Nat):Int)-1)).toNat ⟨[],0⟩).Var) ((x0.Terms.getD i0 ⟨[],0⟩).Var)) then (
          some (.brk ())
         ) else (
          some (.ret (.ret false))
         )
        ) else (
         some (.brk ())
        )
       ) else (
        some (.ret (.ret false))
       )
      )
     ) else (
      some (.ret (.ret false))
     )
    ):Option (Out Unit (gZ Unit Unit Bool))).bind (aft fun u0 =>
     some (.go ())
    )
   ) (fun i0 s0=>()) (x0.Terms.length-0) 0 ()).bind <| aft fun u1 =>
   some true
  )
 ) else (
  some false
 )
def lO (x0:Linear) (i0:Nat) (s0:Unit):AS:=⟨58,[(1,.hptr 1 0),(2,.bool false),(3,nI i0)],[(1,.cells 39 [iI x0.Const,dS aq x0.Terms])]⟩
def qv (u2:Unit):AS:=⟨58,[(2,.bool false)],[]⟩
def lu (x0:Linear) (i0:Nat) (u0:Unit):AS:=⟨58,[(1,.hptr 1 0),(2,.bool false),(3,nI i0)],[(1,.cells 39 [iI x0.Const,dS aq x0.Terms])]⟩
theorem fT (x0:Linear) (r:Bool) (H:fC x0=some r):a8 Tryz.prog 87 [.agg [iI x0.Const,dS aq x0.Terms]] (.bool r):=by
 unfold fC at H;refine aX Tryz.func87 58 [.tmp 2] ?_;refine az H fun y0 h0 H0 => ?_;refine aK H0 (fun c0 H1 => ?_) (fun c1 H2 => ?_)
 ·refine aK H1 (fun c2 H3 => ?_) (fun c3 H4 => ?_)
  ·obtain rfl:=sI H3;exact pR 10 [r0 [.m,.v],r0 [.v,.v,.c true (.bool true),.v,.v,.v,.v,.e (nI x0.Terms.length),.v,.v],.eqT 14 (.bool true),V1] [] [] (aC Tryz.call151 (aC (a8.eq (fS _ _ h0) (cB c0)) (aT (aT (aC (aA aq x0.Terms) (aB c2 aN))))))
  ·have c3p:=KS c3;refine pA 12 [r0 [.m,.v],r0 [.v,.v,.c true (.bool true),.v,.v,.v,.v,.e (nI x0.Terms.length),.v,.v],.eqT 14 (.bool false),V1] [.only [1,2,3] [1]] 11 [false] (lO x0 0 ()) (aC Tryz.call151 (aC (a8.eq (fS _ _ h0) (cB c0)) (aT (aT (aC (aA aq x0.Terms) (aB c3 aN)))))) ?_;refine az H4 fun R0 h1 H5 => ?_;refine pJ 1 (qv) R0 ?_ (fun u1 e0 => ?_)
   ·refine pC (lO x0) h1 (fun i0 s0 h2 e1 => ?_) (fun i0 s0 h3 q0 h4 h5 => ?_)
    ·have c4:=lF i0 x0.Terms.length (by omega);subst e1;exact pB 5 [r0 [.v,.v,.v,.e (nI x0.Terms.length),.e (.bool false)]] [.only [2] []] (qv ()) (aT (aC (aA aq x0.Terms) (aB c4 aN)))
    ·have c5:=lT i0 x0.Terms.length (by omega);refine az h4 fun y1 h6 H6 => ?_;refine pA 10 [r0 [.v,.v,.v,.e (nI x0.Terms.length),.e (.bool true)],r0 [.v,.v,.v,.e (.dptr (aq (x0.Terms.getD i0 ⟨[],0⟩))),.v,.m,.m]] [.only [1,2,3,4] [1,4]] 10 [true] ⟨58,[(1,.hptr 1 0),(2,.bool false),(3,nI i0),(4,.hptr 4 0)],[(1,.cells 39 [iI x0.Const,dS aq x0.Terms]),(4,.cells 44 (aq (x0.Terms.getD i0 ⟨[],0⟩)))]⟩ (aT (aC (aA aq x0.Terms) (aB c5 (aI cU x0.Terms i0 ⟨[],0⟩ aN)))) ?_;refine az H6 fun v0 h7 H7 => ?_;refine pJ 2 (lu x0 i0) v0 ?_ (fun u0 e2 => ?_)
     ·refine aK h7 (fun c6 H8 => ?_) (fun c7 H9 => ?_)
      ·refine aK H8 (fun c8 H10 => ?_) (fun c9 H11 => ?_)
       ·obtain rfl:=sI H10;obtain rfl:=sI (ao H7);obtain rfl:=aw h5;obtain rfl:=sI (ao H5);exact pR 5 [.rg 28 [.v,.v,.c true (.bool true),.v,.v,.v,.v,.e (.bool true),.v,.v,.s,.s,.s,.s,.v,.v,.s,.s,.s,.s,.s,.s,.s,.s,.s,.s,.s,.s] [.s,.s,.v],V1] [] [] (aC Tryz.call100 (aC (a8.eq (dM _ _ h6) (cB c6)) (aT (aB c8 aN))))
       ·refine az H11 fun y2 h8 H12 => ?_;refine aK H12 (fun c10 H13 => ?_) (fun c11 H14 => ?_)
        ·refine aK H13 (fun c12 H15 => ?_) (fun c13 H16 => ?_)
         ·refine aU H15 fun g0 H17 => ?_;refine pA 1 [.rg 28 [.v,.v,.c true (.bool true),.v,.v,.v,.v,.e (.bool false),.v,.v,.v,.v,.c true (.bool true),.v,.v,.v,.v,.e (.bool true),.v,.v,.v,.v,.w,.e (.dptr (aq (x0.Terms.getD (aJ (((i0:Nat):Int)-1)).toNat ⟨[],0⟩))),.v,.v,.v,.v] [.v,.v,.v]] [.only [1,2,3,57] [1]] 1 [] ⟨58,[(1,.hptr 1 0),(2,.bool false),(3,nI i0),(57,.bool (!(Op.bytesLess ((x0.Terms.getD (aJ (((i0:Nat):Int)-1)).toNat ⟨[],0⟩).Var) ((x0.Terms.getD i0 ⟨[],0⟩).Var))))],[(1,.cells 39 [iI x0.Const,dS aq x0.Terms])]⟩ (aC Tryz.call100 (aC (a8.eq (dM _ _ h6) (cB c6)) (aT (aB c9 (aC Tryz.call151 (aC (a8.eq (fS _ _ h8) (cB c10)) (aT (aB c12 (aY (yw (f:=aq) (l:=x0.Terms) (n:=(aJ (((i0:Nat):Int)-1))) ⟨[],0⟩ cU (by decide) (by exact g0)) aN))))))))) ?_;refine aK H17 (fun c14 H18 => ?_) (fun c15 H19 => ?_)
          ·obtain rfl:=sI H18;exact pB 3 [.eqT 57 (.bool false)] [.only [1,2,3] [1]] (lu x0 i0 ()) (aM c14 aN)
          ·obtain rfl:=sI H19;obtain rfl:=sI (ao H7);obtain rfl:=aw h5;obtain rfl:=sI (ao H5);exact pR 5 [.eqT 57 (.bool true),V1] [] [] (aM c15 aN)
         ·obtain rfl:=sI H16;exact pB 3 [.rg 28 [.v,.v,.c true (.bool true),.v,.v,.v,.v,.e (.bool false),.v,.v,.v,.v,.c true (.bool true),.v,.v,.v,.v,.e (.bool false),.v,.s,.s,.s,.s,.s,.s,.s,.s,.s] [.s,.v,.v]] [.only [1,2,3] [1]] (lu x0 i0 ()) (aC Tryz.call100 (aC (a8.eq (dM _ _ h6) (cB c6)) (aT (aB c9 (aC Tryz.call151 (aC (a8.eq (fS _ _ h8) (cB c10)) (aT (aB c13 aN))))))))
        ·obtain rfl:=sI H14;obtain rfl:=sI (ao H7);obtain rfl:=aw h5;obtain rfl:=sI (ao H5);exact pR 5 [.rg 28 [.v,.v,.c true (.bool true),.v,.v,.v,.v,.e (.bool false),.v,.v,.v,.v,.c true (.bool false),.v,.v,.v,.s,.s,.s,.s,.s,.s,.s,.s,.s,.s,.s,.s] [.s,.s,.v],V1] [] [] (aC Tryz.call100 (aC (a8.eq (dM _ _ h6) (cB c6)) (aT (aB c9 (aC Tryz.call151 (aC (a8.eq (fS _ _ h8) (cB c11)) (aT aN)))))))
      ·obtain rfl:=sI H9;obtain rfl:=sI (ao H7);obtain rfl:=aw h5;obtain rfl:=sI (ao H5);exact pR 5 [.rg 28 [.v,.v,.c true (.bool false),.v,.v,.s,.s,.s,.v,.v,.s,.s,.s,.s,.v,.v,.s,.s,.s,.s,.s,.s,.s,.s,.s,.s,.s,.s] [.s,.s,.v],V1] [] [] (aC Tryz.call100 (aC (a8.eq (dM _ _ h6) (cB c7)) (aT aN)))
     ·subst e2;have H20:=aV H7;refine jP 1 1 (ps:=[(x0.Terms.map aq).length≤9223372036854775807]) (by kernel_rfl) (fun l0 => ?_);have l1:x0.Terms.length≤9223372036854775807:=by simpa only [bt,KW] using l0
      clear l0;obtain rfl:=sI H20;exact pB 1 [V3] [.only [1,2,3] [1]] (lO x0 (i0+1) ()) (aH i0 aN)
   ·subst e0;have H21:=aV H5;obtain rfl:=sI H21;exact pR 3 [V1] [] [] aN
 ·obtain rfl:=sI H2;exact pR 9 [r0 [.m,.v],r0 [.v,.v,.c true (.bool false),.v,.v,.s,.s,.s,.s,.v],V1] [] [] (aC Tryz.call151 (aC (a8.eq (fS _ _ h0) (cB c1)) (aT aN)))
def iQ (x0:Shape):Option Bool :=
 (cY (σ:=Unit) (ε:=Unit) (ρ:=Bool) (fun i0 s0 =>
  (fC (Linear.mk ((x0.Dims.getD i0 ⟨0,[]⟩).Const) ((x0.Dims.getD i0 ⟨0,[]⟩).Terms))).bind fun y0 =>
  bif y0 then (
   some (.go ())
  ) else (
   some (.ret false)
  )
 ) (fun i0 s0=>()) (x0.Dims.length-0) 0 ()).bind <| aft fun u0 =>
 bif decide (((x0.Dims.length:Nat):Int)≤6) then (
  bif (x0.Row==[]) then (
   some true
  ) else (
   (iw x0.Row).bind fun y1 =>
   some y1
  )
 ) else (
  some false
 )
def mq (x0:Shape) (i0:Nat) (s0:Unit):AS:=⟨32,[(1,.hptr 1 0),(2,.bool false),(3,nI i0)],[(1,.cells 24 [.str x0.Row,dS ah x0.Dims])]⟩
def p6 (x0:Shape) (u1:Unit):AS:=⟨32,[(1,.hptr 1 0),(2,.bool false)],[(1,.cells 24 [.str x0.Row,dS ah x0.Dims])]⟩
theorem fW (x0:Shape) (r:Bool) (H:iQ x0=some r):a8 Tryz.prog 32 [.agg [.str x0.Row,dS ah x0.Dims]] (.bool r):=by
 unfold iQ at H;refine aX Tryz.func32 32 [.tmp 2] ?_;refine pA 6 [r0 [.m,.v],V1] [.only [1,2,3] [1]] 6 [] (mq x0 0 ()) aN ?_;refine az H fun R0 h0 H0 => ?_;refine pJ 1 (p6 x0) R0 ?_ (fun u0 e0 => ?_)
 ·refine pC (mq x0) h0 (fun i0 s0 h1 e1 => ?_) (fun i0 s0 h2 q0 h3 h4 => ?_)
  ·have c0:=lF i0 x0.Dims.length (by omega);subst e1;exact pB 5 [r0 [.v,.v,.v,.e (nI x0.Dims.length),.e (.bool false)]] [.only [1,2] [1]] (p6 x0 ()) (aT (aC (aA ah x0.Dims) (aB c0 aN)))
  ·have c1:=lT i0 x0.Dims.length (by omega);refine az h3 fun y0 h5 H1 => ?_;refine pA 9 [r0 [.v,.v,.v,.e (nI x0.Dims.length),.e (.bool true)],r0 [.v,.v,.v,.e (.dptr (ah (x0.Dims.getD i0 ⟨0,[]⟩))),.v,.c true (.bool y0),.v]] [.only [1,2,3,17] [1]] 9 [true] ⟨32,[(1,.hptr 1 0),(2,.bool false),(3,nI i0),(17,.bool (!y0))],[(1,.cells 24 [.str x0.Row,dS ah x0.Dims])]⟩ (aT (aC (aA ah x0.Dims) (aB c1 (aI cD x0.Dims i0 ⟨0,[]⟩ (aC Tryz.call87 (aF (fT _ _ h5) (aT aN))))))) ?_;refine aK H1 (fun c2 H2 => ?_) (fun c3 H3 => ?_)
   ·refine jP 1 1 (ps:=[(x0.Dims.map ah).length≤9223372036854775807]) (by kernel_rfl) (fun l0 => ?_);have l1:x0.Dims.length≤9223372036854775807:=by simpa only [bt,KW] using l0
    clear l0;obtain rfl:=sI H2;exact pB 4 [.eqT 17 (.bool false),V3] [.only [1,2,3] [1]] (mq x0 (i0+1) ()) (aM c2 (aH i0 aN))
   ·obtain rfl:=sI H3;obtain rfl:=aw h4;obtain rfl:=sI (ao H0);exact pR 5 [.eqT 17 (.bool true),V1] [] [] (aM c3 aN)
 ·subst e0;have H4:=aV H0;refine aK H4 (fun c4 H5 => ?_) (fun c5 H6 => ?_)
  ·refine aK H5 (fun c6 H7 => ?_) (fun c7 H8 => ?_)
   ·obtain rfl:=sI H7;exact pR 3 [r0 [.v,.v,.e (nI x0.Dims.length),.e (.bool true),.v,.v,.v,.e (.bool true),.v,.s,.s,.s,.v,.v,.v]] [] [] (aT (aC (aA ah x0.Dims) (aB c4 (aB c6 aN))))
   ·refine az H8 fun y1 h6 H9 => ?_;refine bB H9 fun e2 => ?_;subst e2;exact pR 3 [r0 [.v,.v,.e (nI x0.Dims.length),.e (.bool true),.v,.v,.v,.e (.bool false),.v,.v,.v,.c true (.bool y1),.v,.v,.v]] [] [] (aT (aC (aA ah x0.Dims) (aB c4 (aB c7 (aC Tryz.call100 (aF (dM _ _ h6) aN))))))
  ·obtain rfl:=sI H6;exact pR 3 [r0 [.v,.v,.e (nI x0.Dims.length),.e (.bool false),.v,.s,.s,.s,.s,.s,.s,.s,.s,.v,.v]] [] [] (aT (aC (aA ah x0.Dims) (aB c5 aN)))
def lC (x0:Linear) (x1:List Value):Option (Int×Int) :=
 (fC x0).bind fun y0 =>
 bif y0 then (
  (cY (σ:=Int) (ε:=Int) (ρ:=(Int×Int)) (fun i0 s0 =>
   (cY (σ:=Unit) (ε:=Nat) (ρ:=Empty) (fun i1 s1 =>
    bif (((x1.getD i1 ⟨[],0⟩).Var)==((x0.Terms.getD i0 ⟨[],0⟩).Var)) then (
     some (.brk i1)
    ) else (
     some (.go ())
    )
   ) (fun i1 s1=>i1) (x1.length-0) 0 ()).bind <| gu fun u0 =>
   bif (((u0:Nat):Int)==((x1.length:Nat):Int)) then (
    some (.ret (0,7))
   ) else (
    cy (u0<x1.length) <|
    bif decide (((x1.getD u0 ⟨[],0⟩).N)<(-1000000000)) then (
     some (.ret (0,2))
    ) else (
     bif decide (((x1.getD u0 ⟨[],0⟩).N)>1000000000) then (
      some (.ret (0,2))
     ) else (
      some (.go (aJ (s0+(aJ (((x0.Terms.getD i0 ⟨[],0⟩).C)*((x1.getD u0 ⟨[],0⟩).N))))))
     )
    )
   )
  ) (fun i0 s0=>s0) (x0.Terms.length-0) 0 x0.Const).bind <| aft fun u1 =>
  some (u1,0)
 ) else (
  some (0,1)
 )
def nQ (x0:Linear) (x1:List Value) (i0:Nat) (s0:Int):AS:=⟨68,[(1,dS aR x1),(2,.hptr 2 0),(4,iI 0),(5,iI 0),(6,iI s0),(7,nI i0)],[(2,.cells 39 [iI x0.Const,dS aq x0.Terms])]⟩
def rG (u2:Int):AS:=⟨68,[(4,iI 0),(5,iI 0),(6,iI u2)],[]⟩
def nK (x0:Linear) (x1:List Value) (i0:Nat) (s0:Int) (i1:Nat) (s1:Unit):AS:=⟨68,[(1,dS aR x1),(2,.hptr 2 0),(4,iI 0),(5,iI 0),(6,iI s0),(7,nI i0),(8,nI i1)],[(2,.cells 39 [iI x0.Const,dS aq x0.Terms])]⟩
def nh (x0:Linear) (x1:List Value) (i0:Nat) (s0:Int) (u3:Nat):AS:=⟨68,[(1,dS aR x1),(2,.hptr 2 0),(4,iI 0),(5,iI 0),(6,iI s0),(7,nI i0),(8,nI u3)],[(2,.cells 39 [iI x0.Const,dS aq x0.Terms])]⟩
theorem Af (x0:Linear) (x1:List Value) (r:Int×Int) (H:lC x0 x1=some r):a8 Tryz.prog 22 [.agg [iI x0.Const,dS aq x0.Terms],dS aR x1] (.tup [iI r.1,iI r.2]):=by
 unfold lC at H;refine aX Tryz.func22 68 [.tmp 4,.tmp 5] ?_;refine az H fun y0 h0 H0 => ?_;refine aK H0 (fun c0 H1 => ?_) (fun c1 H2 => ?_)
 ·refine pA 14 [.rg 0 [] [.m,.v,.v],.rg 0 [] [.v,.c true (.bool y0),.v],.eqT 12 (.bool false),.rg 0 [] [.v,.v,.v],.rg 0 [] [.v]] [.only [1,2,4,5,6,7] [2]] 13 [false] (nQ x0 x1 0 x0.Const) (aC Tryz.call87 (aF (fT _ _ h0) (aT (aM c0 aN)))) ?_;refine az H1 fun R0 h1 H3 => ?_;refine pJ 1 (rG) R0 ?_ (fun u1 e0 => ?_)
  ·refine pC (nQ x0 x1) h1 (fun i0 s0 h2 e1 => ?_) (fun i0 s0 h3 q0 h4 h5 => ?_)
   ·have c2:=lF i0 x0.Terms.length (by omega);subst e1;exact pB 5 [r0 [.v,.v,.v,.e (nI x0.Terms.length),.e (.bool false)]] [.only [4,5,6] []] (rG s0) (aT (aC (aA aq x0.Terms) (aB c2 aN)))
   ·have c3:=lT i0 x0.Terms.length (by omega);refine pA 11 [r0 [.v,.v,.v,.e (nI x0.Terms.length),.e (.bool true)],V1] [.only [1,2,4,5,6,7,8] [2]] 11 [true] (nK x0 x1 i0 s0 0 ()) (aT (aC (aA aq x0.Terms) (aB c3 aN))) ?_;refine az h4 fun R1 h6 H4 => ?_;refine pJ 1 (nh x0 x1 i0 s0) R1 ?_ (fun u0 e2 => ?_)
    ·refine pC (nK x0 x1 i0 s0) h6 (fun i1 s1 h7 e3 => ?_) (fun i1 s1 h8 q1 h9 h10 => ?_)
     ·have c4:=lF i1 x1.length (by omega);subst e3;exact pB 5 [.rg 16 [.v,.v,.e (nI x1.length),.e (.bool false),.v,.s,.s,.s,.s,.s,.s,.s,.s,.s,.s,.s] [.s,.v]] [.only [1,2,4,5,6,7,8] [2]] (nh x0 x1 i0 s0 i1) (aT (aC (aA aR x1) (aB c4 aN)))
     ·have c5:=lT i1 x1.length (by omega);refine pA 3 [.rg 16 [.v,.v,.e (nI x1.length),.e (.bool true),.v,.v,.v,.e (.dptr (aR (x1.getD i1 ⟨[],0⟩))),.v,.v,.v,.v,.v,.e (.dptr (aq (x0.Terms.getD i0 ⟨[],0⟩))),.v,.v] [.v,.v]] [.only [1,2,4,5,6,7,8,39] [2]] 3 [] ⟨68,[(1,dS aR x1),(2,.hptr 2 0),(4,iI 0),(5,iI 0),(6,iI s0),(7,nI i0),(8,nI i1),(39,.bool (!(((x1.getD i1 ⟨[],0⟩).Var)==((x0.Terms.getD i0 ⟨[],0⟩).Var))))],[(2,.cells 39 [iI x0.Const,dS aq x0.Terms])]⟩ (aT (aC (aA aR x1) (aB c5 (aI dI x1 i1 ⟨[],0⟩ (aI cU x0.Terms i0 ⟨[],0⟩ aN))))) ?_;refine aK h9 (fun c6 H5 => ?_) (fun c7 H6 => ?_)
      ·obtain rfl:=sI H5;obtain rfl:=jz h10;exact pB 3 [.eqT 39 (.bool false)] [.only [1,2,4,5,6,7,8] [2]] (nh x0 x1 i0 s0 i1) (aM c6 aN)
      ·refine bu 1 (ps:=[(x1.map aR).length≤9223372036854775807]) (by kernel_rfl) (fun l0 => ?_);have l1:x1.length≤9223372036854775807:=by simpa only [bt,KW] using l0
       clear l0;obtain rfl:=sI H6;exact pB 5 [.eqT 39 (.bool true),V3] [.only [1,2,4,5,6,7,8] [2]] (nK x0 x1 i0 s0 (i1+1) ()) (aM c7 (aH i1 aN))
    ·subst e2;have H7:=cn H4;refine aK H7 (fun c8 H8 => ?_) (fun c9 H9 => ?_)
     ·obtain rfl:=sI H8;obtain rfl:=aw h5;obtain rfl:=sI (ao H3);exact pR 8 [r0 [.v,.v,.e (nI x1.length),.v],.eqT 45 (.bool true),V2] [] [] (aT (aC (aA aR x1) (aB c8 aN)))
     ·refine aU H9 fun g0 H10 => ?_;refine aK H10 (fun c10 H11 => ?_) (fun c11 H12 => ?_)
      ·have c10p:=KT c10;obtain rfl:=sI H11;obtain rfl:=aw h5;obtain rfl:=sI (ao H3);exact pR 15 [r0 [.v,.v,.e (nI x1.length),.v],.eqT 45 (.bool false),r0 [.v,.v,.e (.dptr (aR (x1.getD u0 ⟨[],0⟩))),.v,.v,.v],r0 [.v,.e (.bool true),.v,.s,.s,.v],V2] [] [] (aT (aC (aA aR x1) (aB c9 (aI dI x1 u0 ⟨[],0⟩ (aB c10 aN)))))
      ·have c11p:=KS c11;refine pA 11 [r0 [.v,.v,.e (nI x1.length),.v],.eqT 45 (.bool false),r0 [.v,.v,.e (.dptr (aR (x1.getD u0 ⟨[],0⟩))),.v,.v,.v],r0 [.v,.e (.bool false),.v,.v,.v,.v]] [.only [1,2,4,5,6,7,9,56] [2]] 10 [false] ⟨68,[(1,dS aR x1),(2,.hptr 2 0),(4,iI 0),(5,iI 0),(6,iI s0),(7,nI i0),(9,iI ((x1.getD u0 ⟨[],0⟩).N)),(56,.bool (decide (((x1.getD u0 ⟨[],0⟩).N)>1000000000)))],[(2,.cells 39 [iI x0.Const,dS aq x0.Terms])]⟩ (aT (aC (aA aR x1) (aB c9 (aI dI x1 u0 ⟨[],0⟩ (aB c11 aN))))) ?_;refine aK H12 (fun c12 H13 => ?_) (fun c13 H14 => ?_)
       ·obtain rfl:=sI H13;obtain rfl:=aw h5;obtain rfl:=sI (ao H3);exact pR 5 [.eqT 56 (.bool true),V2] [] [] (aB c12 aN)
       ·have c13p:=KS c13;refine jP 2 1 (ps:=[(x0.Terms.map aq).length≤9223372036854775807]) (by kernel_rfl) (fun l2 => ?_);have l3:x0.Terms.length≤9223372036854775807:=by simpa only [bt,KW] using l2
        clear l2;obtain rfl:=sI H14;exact pB 5 [.eqT 56 (.bool false),r0 (V 4 [.e (.dptr (aq (x0.Terms.getD i0 ⟨[],0⟩))),.v,.v,.v,.w,.w,.v]),V3] [.only [1,2,4,5,6,7] [2]] (nQ x0 x1 (i0+1) (aJ (s0+(aJ (((x0.Terms.getD i0 ⟨[],0⟩).C)*((x1.getD u0 ⟨[],0⟩).N)))))) (aB c13 (aI cU x0.Terms i0 ⟨[],0⟩ (aH i0 aN)))
  ·subst e0;have H15:=aV H3;obtain rfl:=sI H15;exact pR 3 [V3] [] [] aN
 ·obtain rfl:=sI H2;exact pR 10 [r0 [.m,.v,.v],r0 [.v,.c true (.bool y0),.v],.eqT 12 (.bool true),V2] [] [] (aC Tryz.call87 (aF (fT _ _ h0) (aT (aM c1 aN))))
def ml (x0:Shape) (x1:List Value):Option ((List Int)×Int) :=
 (iQ x0).bind fun y0 =>
 bif y0 then (
  bif (x0.Row==[]) then (
   (cY (σ:=(List Int)) (ε:=(List Int)) (ρ:=((List Int)×Int)) (fun i0 s0 =>
    (lC (Linear.mk ((x0.Dims.getD i0 ⟨0,[]⟩).Const) ((x0.Dims.getD i0 ⟨0,[]⟩).Terms)) x1).bind fun y1 =>
    bif (y1.2==0) then (
     bif decide (y1.1<0) then (
      some (.ret ([],2))
     ) else (
      bif decide (y1.1>4096) then (
       some (.ret ([],2))
      ) else (
       cy ((s0.length+1)*8≤140737488355328) <|
       some (.go (s0++[y1.1]))
      )
     )
    ) else (
     some (.ret ([],y1.2))
    )
   ) (fun i0 s0=>s0) (x0.Dims.length-0) 0 []).bind <| aft fun u0 =>
   some (u0,0)
  ) else (
   some ([],13)
  )
 ) else (
  some ([],1)
 )
def nR (x0:Shape) (x1:List Value) (i0:Nat) (s0:List Int):AS:=⟨49,[(1,dS aR x1),(2,.hptr 2 0),(4,.eslice),(5,iI 0),(6,.rslice 47),(7,nI i0)],[(2,.cells 24 [.str x0.Row,dS ah x0.Dims]),(47,.row 3 1 (s0.map ab))]⟩
def rp (u1:List Int):AS:=⟨49,[(4,.eslice),(5,iI 0),(6,.rslice 47)],[(47,.row 3 1 (u1.map ab))]⟩
theorem z7 (x0:Shape) (x1:List Value) (r:(List Int)×Int) (H:ml x0 x1=some r):a8 Tryz.prog 76 [.agg [.str x0.Row,dS ah x0.Dims],dS aR x1] (.tup [dS ab r.1,iI r.2]):=by
 unfold ml at H;refine aX Tryz.func76 49 [.tmp 4,.tmp 5] ?_;refine az H fun y0 h0 H0 => ?_;refine aK H0 (fun c0 H1 => ?_) (fun c1 H2 => ?_)
 ·refine aK H1 (fun c2 H3 => ?_) (fun c3 H4 => ?_)
  ·refine pA 19 [.rg 0 [] [.m,.v,.v],.rg 0 [] [.v,.c true (.bool y0),.v,.v],.eqT 10 (.bool false),.rg 0 [] (V 4 []),.eqT 14 (.bool false),.rg 0 [] [.v],.rg 0 [] [.v]] [.er 6 47 3 1,.only [1,2,4,5,6,7] [2,47]] 17 [false,false] (nR x0 x1 0 []) (aC Tryz.call32 (aF (fW _ _ h0) (aT (aM c0 (aM c2 aN))))) ?_;refine az H3 fun R0 h1 H5 => ?_;refine pJ 1 (rp) R0 ?_ (fun u0 e0 => ?_)
   ·refine pC (nR x0 x1) h1 (fun i0 s0 h2 e1 => ?_) (fun i0 s0 h3 q0 h4 h5 => ?_)
    ·have c4:=lF i0 x0.Dims.length (by omega);subst e1;exact pB 5 [r0 [.v,.v,.v,.e (nI x0.Dims.length),.e (.bool false)]] [.only [4,5,6] [47]] (rp s0) (aT (aC (aA ah x0.Dims) (aB c4 aN)))
    ·have c5:=lT i0 x0.Dims.length (by omega);refine az h4 fun y1 h6 H6 => ?_;refine pA 12 [r0 [.v,.v,.v,.e (nI x0.Dims.length),.e (.bool true)],r0 [.v,.v,.v,.e (.dptr (ah (x0.Dims.getD i0 ⟨0,[]⟩))),.v,.v,.c true (.tup [iI y1.1,iI y1.2]),.v,.v,.v,.v,.v],V2] [.only [1,2,4,5,6,7,8,9,36] [2,47]] 12 [true] ⟨49,[(1,dS aR x1),(2,.hptr 2 0),(4,.eslice),(5,iI 0),(6,.rslice 47),(7,nI i0),(8,iI y1.1),(9,iI y1.2),(36,.bool (y1.2 != 0))],[(2,.cells 24 [.str x0.Row,dS ah x0.Dims]),(47,.row 3 1 (s0.map ab))]⟩ (aT (aC (aA ah x0.Dims) (aB c5 (aI cD x0.Dims i0 ⟨0,[]⟩ (aC Tryz.call22 (aF (Af _ _ _ h6) aN)))))) ?_;refine aK H6 (fun c6 H7 => ?_) (fun c7 H8 => ?_)
     ·refine aK H7 (fun c8 H9 => ?_) (fun c9 H10 => ?_)
      ·obtain rfl:=sI H9;obtain rfl:=aw h5;obtain rfl:=sI (ao H5);exact pR 10 [.eqT 36 (.bool false),r0 [.v,.e (.bool true),.v,.s,.s,.v],V2] [.wk 4 []] [] (aM c6 (aB c8 aN))
      ·have c9p:=KS c9;refine aK H10 (fun c10 H11 => ?_) (fun c11 H12 => ?_)
       ·obtain rfl:=sI H11;obtain rfl:=aw h5;obtain rfl:=sI (ao H5);exact pR 11 [.eqT 36 (.bool false),r0 [.v,.e (.bool false),.v,.v,.v,.v],.eqT 43 (.bool true),V2] [.wk 4 []] [] (aM c6 (aB c9 (aB c10 aN)))
       ·have c11p:=KS c11;refine aU H12 fun g0 H13 => ?_;refine jP 2 1 (ps:=[(x0.Dims.map ah).length≤9223372036854775807]) (by kernel_rfl) (fun l0 => ?_);have l1:x0.Dims.length≤9223372036854775807:=by simpa only [bt,KW] using l0
        clear l0;obtain rfl:=sI H13;exact pB 11 [.eqT 36 (.bool false),r0 [.v,.e (.bool false),.v,.v,.v,.v],.eqT 43 (.bool false),r0 [.v,.v,.b,.ap,.rwH 47 (.row 3 1 ((s0++[y1.1]).map ab)),.v],V3] [.only [1,2,4,5,6,7] [2,47]] (nR x0 x1 (i0+1) (s0++[y1.1])) (aM c6 (aB c9 (aB c11 (aY (vo (c:=ab) dW s0 [y1.1] 8 (by decide) (by simpa using g0)) (aC (xT 3 1 ab s0 [y1.1]) (aH i0 aN))))))
     ·obtain rfl:=sI H8;obtain rfl:=aw h5;obtain rfl:=sI (ao H5);exact pR 5 [.eqT 36 (.bool true),V3] [.wk 4 []] [] (aM c7 aN)
   ·subst e0;have H14:=aV H5;obtain rfl:=sI H14;exact pR 3 [V3] [.fz 47] [] aN
  ·obtain rfl:=sI H4;exact pR 15 [r0 [.m,.v,.v],r0 [.v,.c true (.bool y0),.v,.v],.eqT 10 (.bool false),V4,.eqT 14 (.bool true),V2] [.wk 4 []] [] (aC Tryz.call32 (aF (fW _ _ h0) (aT (aM c0 (aM c3 aN)))))
 ·obtain rfl:=sI H2;exact pR 11 [r0 [.m,.v,.v],r0 [.v,.c true (.bool y0),.v,.v],.eqT 10 (.bool true),V2] [.wk 4 []] [] (aC Tryz.call32 (aF (fW _ _ h0) (aT (aM c1 aN))))
def dT   : Option ((List (ai×(List ai)))×(List (ai×(List Int)))×(List (ai×(List Int)))) :=
 some ([],[],[])
theorem iq   (r:((List (ai×(List ai)))×(List (ai×(List Int)))×(List (ai×(List Int))))) (H:dT  = some r):bo Tryz.prog 131 [] [] (fun r2 h0=>r2=(.agg [.amap 1,.amap 2,.amap 3])∧h0=[(1,.smap 9 90 (r.1.map (aW aG))),(2,.rmap 3 1 (ga ab r.2.1)),(3,.rmap 3 1 (ga ab r.2.2))]):=by unfold dT at H;refine aX Tryz.func131 5 [.cell 0 144] ?_;obtain rfl:=sI H;exact pR 5 [r0 [.m],r0 [.m,.m,.tr 2 3 1,.m,.tr 3 3 1,.b,.m]] [] [1,2,3] aN
def du (x0:List ai) (x1 x2:Int) (x3:List (ai×(List ai))) (x4 x5:List (ai×(List Int))):Option ((List (ai×(List ai)))×(List (ai×(List Int)))×(List (ai×(List Int)))) :=
 (mJ x0).bind fun y0 =>
 (iN y0).bind fun y1 =>
 (mw y1 [42]).bind fun y2 =>
 cy (((bN [] y2 x4).length+[x1].length)*8≤140737488355328) <|
 cy (((bN [] y2 x5).length+[x2].length)*8≤140737488355328) <|
 cy (x4.length+1<1000000) <|
 cy (x5.length+1<1000000) <|
 some ((dL y2 y1 x3),(dL y2 ((bN [] y2 x4)++[x1]) x4),(dL y2 ((bN [] y2 x5)++[x2]) x5))
theorem jk (x0:List ai) (x1 x2:Int) (x3:List (ai×(List ai))) (x4 x5:List (ai×(List Int))) (r:(List (ai×(List ai)))×(List (ai×(List Int)))×(List (ai×(List Int)))) (H:du x0 x1 x2 x3 x4 x5=some r):bo Tryz.prog 132 [.agg [.amap 1000,.amap 1001,.amap 1002],dS ax x0,iI x1,iI x2] [(1000,.smap 9 90 (x3.map (aW aG))),(1001,.rmap 3 1 (ga ab x4)),(1002,.rmap 3 1 (ga ab x5))] (fun r2 h0=>r2=(.tup [])∧h0=[(1000,.smap 9 90 (r.1.map (aW aG))),(1001,.rmap 3 1 (ga ab r.2.1)),(1002,.rmap 3 1 (ga ab r.2.2))]):=by unfold du at H;refine aX Tryz.func132 40 [] ?_;refine az H fun y0 h1 H0 => ?_;refine az H0 fun y1 h2 H1 => ?_;refine az H1 fun y2 h3 H2 => ?_;refine aU H2 fun g0 H3 => ?_;refine aU H3 fun g1 H4 => ?_;refine aU H4 fun g2 H5 => ?_;refine aU H5 fun g3 H6 => ?_;obtain rfl:=sI H6;exact pR 9 [r0 [.m],r0 [.v,.c true (.fn 251 [.dptr [dS ax y0]]),.c true (dS ax y1),.v],r0 [.v,.c true (.str y2),.v],r0 (V 4 [.m,.rwH 1000 (.smap 9 90 ((dL y2 y1 x3).map (aW aG)))]),.rg 23 [.ent ⟨142,1001,y2,38,39,20,21,22⟩,.v,.v,.v,.v,.v,.v,.v,.v,.v,.lk ((bN [] y2 x4).map ab) (dc y2 (ga ab x4)),.v,.b,.apx (((bN [] y2 x4)++[x1]).map ab),.v,.v,.v,.lk ((bN [] y2 x5).map ab) (dc y2 (ga ab x5)),.v,.b,.apx (((bN [] y2 x5)++[x2]).map ab),.e1 (jL y2 (dc y2 (ga ab x4))),.e2,.e3 (ga ab (dL y2 ((bN [] y2 x4)++[x1]) x4))] [.ms (ga ab (dL y2 ((bN [] y2 x5)++[x2]) x5))]] [] [1000,1001,1002] (aC Tryz.call206 (aF (xW x0 y0 h1) (aC Tryz.call205 (aF (yu y0 y1 h2) (aC Tryz.call153 (aF (xA y1 [42] y2 h3) (aC (congrArg (AO.smap 9 90) (k9 (c:=aG) y2 y1 x3)) (aC (Dc ab y2 x4) (aC (zF ab y2 x4) (aC (Eq.refl (dc y2 (ga ab x4))) (aY (IA (c:=ab) dW (bN [] y2 x4) [x1] 8 (by decide) (by simpa using g0) List.map_append.symm) (aC (Dc ab y2 x5) (aC (zF ab y2 x5) (aC (Eq.refl (dc y2 (ga ab x5))) (aY (IA (c:=ab) dW (bN [] y2 x5) [x2] 8 (by decide) (by simpa using g1) List.map_append.symm) (aC (Eq.refl y2) (aC (Br ab y2 x4 g2) (aC (Eq.refl (jL y2 (dc y2 (ga ab x4)))) (aC (Ga ab y2 x4 g2) (aC (Gj ab y2 ((bN [] y2 x4)++[x1]) x4) (aC (Br ab y2 x5 g3) (aC (FZ ab y2 ((bN [] y2 x5)++[x2]) x5) aN))))))))))))))))))))))
def iy (x0:List Int):Option Bool :=
 (cY (σ:=Unit) (ε:=Unit) (ρ:=Bool) (fun i0 s0 =>
  bif decide ((x0.getD i0 0)<(-4611686018427387904)) then (
   some (.ret false)
  ) else (
   bif decide ((x0.getD i0 0)>4611686018427387904) then (
    some (.ret false)
   ) else (
    some (.go ())
   )
  )
 ) (fun i0 s0=>()) (x0.length-0) 0 ()).bind <| aft fun u0 =>
 some true
def mY (x0:List Int) (i0:Nat) (s0:Unit):AS:=⟨18,[(2,.bool false),(5,dS ab x0),(6,nI x0.length),(7,nI i0)],[]⟩
def rA (u1:Unit):AS:=⟨18,[(2,.bool false)],[]⟩
theorem fF (x0:List Int) (r:Bool) (H:iy x0=some r):a8 Tryz.prog 189 [dS ab x0] (.bool r):=by
 unfold iy at H;refine aX Tryz.func189 18 [.tmp 2] ?_;refine pA 6 [V1,r0 [.v,.e (nI x0.length),.v]] [.only [2,5,6,7] []] 6 [] (mY x0 0 ()) (aT (aC (aA ab x0) aN)) ?_;refine az H fun R0 h0 H0 => ?_;refine pJ 1 (rA) R0 ?_ (fun u0 e0 => ?_)
 ·refine pC (mY x0) h0 (fun i0 s0 h1 e1 => ?_) (fun i0 s0 h2 q0 h3 h4 => ?_)
  ·have c0:=lF i0 x0.length (by omega);subst e1;exact pB 5 [r0 [.e (.bool false)]] [.only [2] []] (rA ()) (aB c0 aN)
  ·have c1:=lT i0 x0.length (by omega);refine aK h3 (fun c2 H1 => ?_) (fun c3 H2 => ?_)
   ·have c2p:=KT c2;obtain rfl:=sI H1;obtain rfl:=aw h4;obtain rfl:=sI (ao H0);exact pR 15 [r0 [.e (.bool true)],r0 [.e (.dptr [iI (x0.getD i0 0)]),.v,.v],r0 [.v,.e (.bool true),.v,.s,.s,.v],V1] [] [] (aB c1 (aI cm x0 i0 0 (aB c2 aN)))
   ·have c3p:=KS c3;refine aK H2 (fun c4 H3 => ?_) (fun c5 H4 => ?_)
    ·have c4p:=KT c4;obtain rfl:=sI H3;obtain rfl:=aw h4;obtain rfl:=sI (ao H0);exact pR 16 [r0 [.e (.bool true)],r0 [.e (.dptr [iI (x0.getD i0 0)]),.v,.v],r0 [.v,.e (.bool false),.v,.v,.v,.v],.eqT 16 (.bool true),V1] [] [] (aB c1 (aI cm x0 i0 0 (aB c3 (aB c4 aN))))
    ·have c5p:=KS c5;refine bu 5 (ps:=[(x0.map ab).length≤9223372036854775807]) (by kernel_rfl) (fun l0 => ?_);have l1:x0.length≤9223372036854775807:=by simpa only [bt,KW] using l0
     clear l0;obtain rfl:=sI H4;exact pB 15 [r0 [.e (.bool true)],r0 [.e (.dptr [iI (x0.getD i0 0)]),.v,.v],r0 [.v,.e (.bool false),.v,.v,.v,.v],.eqT 16 (.bool false),V2] [.only [2,5,6,7] []] (mY x0 (i0+1) ()) (aB c1 (aI cm x0 i0 0 (aB c3 (aB c5 (aH i0 aN)))))
 ·subst e0;have H5:=aV H0;obtain rfl:=sI H5;exact pR 3 [V1] [] [] aN
def fD (x0:Int):Option Int :=
 bif decide (x0<0) then (
  some (aJ (0-x0))
 ) else (
  some x0
 )
theorem jV (x0 r:Int) (H:fD x0=some r):a8 Tryz.prog 239 [iI x0] (iI r):=by
 unfold fD at H;refine aX Tryz.func239 8 [.tmp 2] ?_;refine aK H (fun c0 H0 => ?_) (fun c1 H1 => ?_)
 ·obtain rfl:=sI H0;exact pR 10 [V1,V2,.eqT 4 (.bool true),r0 [.v,.w,.v]] [] [] (aB c0 aN)
 ·refine bB H1 fun e0 => ?_;subst e0;exact pR 11 [V1,V2,.eqT 4 (.bool false),V2] [] [] (aB c1 aN)
def cJ (x0 x1 x2 x3 x4 x5 x6 x7:Int):Option (Int×Int×Int×Int×Int×Int) :=
 bif (decide (x0<0)==decide (x1<0)) then (
  (fD x0).bind fun y0 =>
  (fD x1).bind fun y1 =>
  (oq (IntKind.wrap .u64 y0) (IntKind.wrap .u64 y1)).bind fun y2 =>
  (eL x2 y2.2 0).bind fun y3 =>
  (eL x3 y2.1 y3.2).bind fun y4 =>
  (eL x4 0 y4.2).bind fun y5 =>
  some (y3.1,y4.1,y5.1,x5,x6,x7)
 ) else (
  (fD x0).bind fun y6 =>
  (fD x1).bind fun y7 =>
  (oq (IntKind.wrap .u64 y6) (IntKind.wrap .u64 y7)).bind fun y8 =>
  (eL x5 y8.2 0).bind fun y9 =>
  (eL x6 y8.1 y9.2).bind fun y10 =>
  (eL x7 0 y10.2).bind fun y11 =>
  some (x2,x3,x4,y9.1,y10.1,y11.1)
 )
theorem ra (x0 x1 x2 x3 x4 x5 x6 x7:Int) (r:Int×Int×Int×Int×Int×Int) (H:cJ x0 x1 x2 x3 x4 x5 x6 x7=some r):bo Tryz.prog 190 [.hptr 1000 0,iI x0,iI x1] [(1000,.cells 202 [.int .u64 x2,.int .u64 x3,.int .u64 x4,.int .u64 x5,.int .u64 x6,.int .u64 x7])] (fun r2 h0=>r2=(.tup [])∧h0=[(1000,.cells 202 [.int .u64 r.1,.int .u64 r.2.1,.int .u64 r.2.2.1,.int .u64 r.2.2.2.1,.int .u64 r.2.2.2.2.1,.int .u64 r.2.2.2.2.2])]):=by
 unfold cJ at H;refine aX Tryz.func190 54 [] ?_;refine aK H (fun c0 H0 => ?_) (fun c1 H1 => ?_)
 ·refine az H0 fun y0 h1 H2 => ?_;refine az H2 fun y1 h2 H3 => ?_;refine az H3 fun y2 h3 H4 => ?_;refine az H4 fun y3 h4 H5 => ?_;refine az H5 fun y4 h5 H6 => ?_;refine az H6 fun y5 h6 H7 => ?_;obtain rfl:=sI H7;exact pR 57 [V1,V5,.eqT 16 (.bool false),r0 [.v,.c true (iI y0),.v,.v,.c true (iI y1),.v,.c true (.tup [.int .u64 y2.1,.int .u64 y2.2]),.v,.v,.v,.v,.v],V1,r0 [.v,.v,.b,.v],.un,V1,V4,.rg 20 (V 12 [.xc (.tup [.int .u64 y3.1,.int .u64 y3.2]),.v,.v,.v,.v,.v,.v,.m]) [.v],V2,.cv [.only [0,6,9,29,30] [1000]],V1,V4,.rg 20 (V 12 [.xc (.tup [.int .u64 y4.1,.int .u64 y4.2]),.v,.v,.v,.v,.v,.v,.m]) [.v],V2,.cv [.only [0,6,9,29,30] [1000]],V1,V4,.rg 20 (V 12 [.xc (.tup [.int .u64 y5.1,.int .u64 y5.2]),.v,.v,.v,.v,.v,.v,.m]) [.v],V2,.cv [.only [0,6,9,29,30] [1000]],V1] [] [1000] (aM c0 (aC Tryz.call239 (aF (jV _ _ h1) (aT (aC Tryz.call239 (aF (jV _ _ h2) (aT (aC Tryz.call238 (aF (uA (IntKind.wrap .u64 y0) (IntKind.wrap .u64 y1) y2 h3) (aT (aT (aT (aC (iU x2 y2.2 0 y3 h4) (aT (aT (aO (0+1) (aT (aT (aT (aC (iU x3 y2.1 y3.2 y4 h5) (aT (aT (aO (1+1) (aT (aT (aT (aC (iU x4 0 y4.2 y5 h6) (aT (aT (aO (2+1) aN))))))))))))))))))))))))))))))
 ·refine az H1 fun y6 h7 H8 => ?_;refine az H8 fun y7 h8 H9 => ?_;refine az H9 fun y8 h9 H10 => ?_;refine az H10 fun y9 h10 H11 => ?_;refine az H11 fun y10 h11 H12 => ?_;refine az H12 fun y11 h12 H13 => ?_;obtain rfl:=sI H13;exact pR 57 [V1,V5,.eqT 16 (.bool true),V1,r0 [.v,.c true (iI y6),.v,.v,.c true (iI y7),.v,.c true (.tup [.int .u64 y8.1,.int .u64 y8.2]),.v,.v,.v,.v,.v],V1,r0 [.v,.v,.b,.v],.un,V1,V4,.rg 20 (V 12 [.xc (.tup [.int .u64 y9.1,.int .u64 y9.2]),.v,.v,.v,.v,.v,.v,.m]) [.v],V2,.cv [.only [0,6,9,29,30] [1000]],V1,V4,.rg 20 (V 12 [.xc (.tup [.int .u64 y10.1,.int .u64 y10.2]),.v,.v,.v,.v,.v,.v,.m]) [.v],V2,.cv [.only [0,6,9,29,30] [1000]],V1,V4,.rg 20 (V 12 [.xc (.tup [.int .u64 y11.1,.int .u64 y11.2]),.v,.v,.v,.v,.v,.v,.m]) [.v],V2,.cv [.only [0,6,9,29,30] [1000]],V1] [] [1000] (aM c1 (aC Tryz.call239 (aF (jV _ _ h7) (aT (aC Tryz.call239 (aF (jV _ _ h8) (aT (aC Tryz.call238 (aF (uA (IntKind.wrap .u64 y6) (IntKind.wrap .u64 y7) y8 h9) (aT (aT (aT (aC (iU x5 y8.2 0 y9 h10) (aT (aT (aO (0+1) (aT (aT (aT (aC (iU x6 y8.1 y9.2 y10 h11) (aT (aT (aO (1+1) (aT (aT (aT (aC (iU x7 0 y10.2 y11 h12) (aT (aT (aO (2+1) aN))))))))))))))))))))))))))))))
def cz (x0 x1:Int×Int×Int):Option ((Int×Int×Int)×Bool) :=
 (lh x0.1 x1.1 0).bind fun y0 =>
 (lh x0.2.1 x1.2.1 y0.2).bind fun y1 =>
 (lh x0.2.2 x1.2.2 y1.2).bind fun y2 =>
 some ((y0.1,y1.1,y2.1),(y2.2==0))
theorem iV (x0 x1:Int×Int×Int) (r:(Int×Int×Int)×Bool) (H:cz x0 x1=some r):a8 Tryz.prog 241 [.agg [.int .u64 x0.1,.int .u64 x0.2.1,.int .u64 x0.2.2],.agg [.int .u64 x1.1,.int .u64 x1.2.1,.int .u64 x1.2.2]] (.tup [.agg [.int .u64 r.1.1,.int .u64 r.1.2.1,.int .u64 r.1.2.2],.bool r.2]):=by unfold cz at H;refine aX Tryz.func241 29 [.cell 4 200,.tmp 5] ?_;refine az H fun y0 h0 H0 => ?_;refine az H0 fun y1 h1 H1 => ?_;refine az H1 fun y2 h2 H2 => ?_;obtain rfl:=sI H2;exact pR 55 [r0 [.m,.m,.m,.v],r0 [.m],V1,V1,.un,V1,V2,.rg 14 (V 8 [.xc (.tup [.int .u64 y0.1,.int .u64 y0.2]),.v,.v,.v,.v,.m]) [.v],V2,.cv [.only [2,3,4,5,6,7,9] [2,3,4,6]],V1,V2,.rg 14 (V 8 [.xc (.tup [.int .u64 y1.1,.int .u64 y1.2]),.v,.v,.v,.v,.m]) [.v],V2,.cv [.only [2,3,4,5,6,7,9] [2,3,4,6]],V1,V2,.rg 14 (V 8 [.xc (.tup [.int .u64 y2.1,.int .u64 y2.2]),.v,.v,.v,.v,.m]) [.v],V2,.cv [.only [2,3,4,5,6,7,9] [2,3,4,6]],V1,r0 [.v,.v,.v,.m,.v]] [] [] (aT (aT (aC (qJ x0.1 x1.1 0 y0 h0) (aT (aO (0+1) (aT (aT (aC (qJ x0.2.1 x1.2.1 y0.2 y1 h1) (aT (aO (1+1) (aT (aT (aC (qJ x0.2.2 x1.2.2 y1.2 y2 h2) (aT (aO (2+1) aN)))))))))))))))
def eH (x0:Int):Option (Int×Int) :=
 (iy [x0]).bind fun y0 =>
 bif y0 then (
  some (x0,0)
 ) else (
  some (0,2)
 )
theorem mR (x0:Int) (r:Int×Int) (H:eH x0=some r):a8 Tryz.prog 243 [iI x0] (.tup [iI r.1,iI r.2]):=by
 unfold eH at H;refine aX Tryz.func243 9 [.tmp 2,.tmp 3] ?_;refine az H fun y0 h0 H0 => ?_;refine aK H0 (fun c0 H1 => ?_) (fun c1 H2 => ?_)
 ·obtain rfl:=sI H1;exact pR 11 [V2,r0 [.v,.b,.c true (.bool y0),.v],.eqT 7 (.bool false),V3] [] [] (aC Tryz.call189 (aF (fF _ _ h0) (aT (aM c0 aN))))
 ·obtain rfl:=sI H2;exact pR 10 [V2,r0 [.v,.b,.c true (.bool y0),.v],.eqT 7 (.bool true),V2] [] [] (aC Tryz.call189 (aF (fF _ _ h0) (aT (aM c1 aN))))
def cq (x0 x1 x2 x3 x4 x5:Int):Option (Int×Int) :=
 (cz (x0,x1,x2) (x3,x4,x5)).bind fun y0 =>
 bif y0.2 then (
  bif decide (y0.1.2.1>0) then (
   some (0,2)
  ) else (
   bif decide (y0.1.2.2>0) then (
    some (0,2)
   ) else (
    bif decide (y0.1.1>4611686018427387904) then (
     some (0,2)
    ) else (
     (eH (aJ (1*(IntKind.wrap .i64 y0.1.1)))).bind fun y1 =>
     some (y1.1,y1.2)
    )
   )
  )
 ) else (
  (cz (x3,x4,x5) (x0,x1,x2)).bind fun y2 =>
  bif y2.2 then (
   bif decide (y2.1.2.1>0) then (
    some (0,2)
   ) else (
    bif decide (y2.1.2.2>0) then (
     some (0,2)
    ) else (
     bif decide (y2.1.1>4611686018427387904) then (
      some (0,2)
     ) else (
      (eH (aJ ((-1)*(IntKind.wrap .i64 y2.1.1)))).bind fun y3 =>
      some (y3.1,y3.2)
     )
    )
   )
  ) else (
   some (0,2)
  )
 )
theorem pG (x0 x1 x2 x3 x4 x5:Int) (r:Int×Int) (H:cq x0 x1 x2 x3 x4 x5=some r):bo Tryz.prog 191 [.hptr 1000 0] [(1000,.cells 202 [.int .u64 x0,.int .u64 x1,.int .u64 x2,.int .u64 x3,.int .u64 x4,.int .u64 x5])] (fun r2 h0=>r2=(.tup [iI r.1,iI r.2])∧h0=[(1000,.cells 202 [.int .u64 x0,.int .u64 x1,.int .u64 x2,.int .u64 x3,.int .u64 x4,.int .u64 x5])]):=by
 unfold cq at H;refine aX Tryz.func191 53 [.tmp 2,.tmp 3] ?_;refine az H fun y0 h1 H0 => ?_;refine pA 22 [V2,V1,r0 [.b,.v],.un,V1,V4,.rg 18 (V 12 [.c true (.tup [.agg [.int .u64 y0.1.1,.int .u64 y0.1.2.1,.int .u64 y0.1.2.2],.bool y0.2]),.v,.v,.v,.m,.m]) [.v],V1] [.only [0,2,3,4,6,7,9,10,30] [7,1000]] 22 [true] ⟨53,[(0,.hptr 1000 0),(2,iI 0),(3,iI 0),(4,.fn 241 []),(6,iI 1),(7,.hptr 7 0),(9,.agg [iI 1,iI (-1)]),(10,iI 0),(30,.bool y0.2)],[(7,.cells 200 [.int .u64 y0.1.1,.int .u64 y0.1.2.1,.int .u64 y0.1.2.2]),(1000,.cells 202 [.int .u64 x0,.int .u64 x1,.int .u64 x2,.int .u64 x3,.int .u64 x4,.int .u64 x5])]⟩ (aT (aT (aO (1-0) (aT (aC Tryz.call241 (aF (iV _ _ _ h1) aN)))))) ?_;refine aK H0 (fun c0 H1 => ?_) (fun c1 H2 => ?_)
 ·refine aK H1 (fun c2 H3 => ?_) (fun c3 H4 => ?_)
  ·obtain rfl:=sI H3;exact pR 9 [.eqT 30 (.bool true),r0 [.v,.v,.e (.bool true),.v,.s,.s,.s,.v,.v,.s,.s,.s,.v],V2] [] [1000] (aB c0 (aT (aB c2 aN)))
  ·refine aK H4 (fun c4 H5 => ?_) (fun c5 H6 => ?_)
   ·obtain rfl:=sI H5;exact pR 9 [.eqT 30 (.bool true),r0 [.v,.v,.e (.bool false),.v,.v,.v,.e (.bool true),.v,.v,.s,.s,.s,.v],V2] [] [1000] (aB c0 (aT (aB c3 (aT (aB c4 aN)))))
   ·refine aK H6 (fun c6 H7 => ?_) (fun c7 H8 => ?_)
    ·obtain rfl:=sI H7;exact pR 10 [.eqT 30 (.bool true),r0 [.v,.v,.e (.bool false),.v,.v,.v,.e (.bool false),.v,.v,.v,.v,.v,.v],.eqT 43 (.bool true),V2] [] [1000] (aB c0 (aT (aB c3 (aT (aB c5 (aT (aB c6 aN)))))))
    ·refine az H8 fun y1 h2 H9 => ?_;obtain rfl:=sI H9;exact pR 11 [.eqT 30 (.bool true),r0 [.v,.v,.e (.bool false),.v,.v,.v,.e (.bool false),.v,.v,.v,.v,.v,.v],.eqT 43 (.bool false),r0 (V 4 [.w,.c true (.tup [iI y1.1,iI y1.2]),.v,.v,.v,.v])] [] [1000] (aB c0 (aT (aB c3 (aT (aB c5 (aT (aB c7 (aT (aT (aC Tryz.call243 (aF (mR _ _ h2) aN)))))))))))
 ·refine az H2 fun y2 h3 H10 => ?_;refine pA 18 [.eqT 30 (.bool false),V2,.cv [.only [0,2,3,4,9,10] [1000]],V1,V4,.rg 18 (V 12 [.c true (.tup [.agg [.int .u64 y2.1.1,.int .u64 y2.1.2.1,.int .u64 y2.1.2.2],.bool y2.2]),.v,.v,.v,.m,.m]) [.v],V1] [.only [0,2,3,4,6,7,9,10,30] [7,1000]] 16 [false,true] ⟨53,[(0,.hptr 1000 0),(2,iI 0),(3,iI 0),(4,.fn 241 []),(6,iI (-1)),(7,.hptr 7 0),(9,.agg [iI 1,iI (-1)]),(10,iI 1),(30,.bool y2.2)],[(7,.cells 200 [.int .u64 y2.1.1,.int .u64 y2.1.2.1,.int .u64 y2.1.2.2]),(1000,.cells 202 [.int .u64 x0,.int .u64 x1,.int .u64 x2,.int .u64 x3,.int .u64 x4,.int .u64 x5])]⟩ (aB c1 (aO (0+1) (aT (aT (aO (1-1) (aT (aC Tryz.call241 (aF (iV _ _ _ h3) aN)))))))) ?_;refine aK H10 (fun c8 H11 => ?_) (fun c9 H12 => ?_)
  ·refine aK H11 (fun c10 H13 => ?_) (fun c11 H14 => ?_)
   ·obtain rfl:=sI H13;exact pR 9 [.eqT 30 (.bool true),r0 [.v,.v,.e (.bool true),.v,.s,.s,.s,.v,.v,.s,.s,.s,.v],V2] [] [1000] (aB c8 (aT (aB c10 aN)))
   ·refine aK H14 (fun c12 H15 => ?_) (fun c13 H16 => ?_)
    ·obtain rfl:=sI H15;exact pR 9 [.eqT 30 (.bool true),r0 [.v,.v,.e (.bool false),.v,.v,.v,.e (.bool true),.v,.v,.s,.s,.s,.v],V2] [] [1000] (aB c8 (aT (aB c11 (aT (aB c12 aN)))))
    ·refine aK H16 (fun c14 H17 => ?_) (fun c15 H18 => ?_)
     ·obtain rfl:=sI H17;exact pR 10 [.eqT 30 (.bool true),r0 [.v,.v,.e (.bool false),.v,.v,.v,.e (.bool false),.v,.v,.v,.v,.v,.v],.eqT 43 (.bool true),V2] [] [1000] (aB c8 (aT (aB c11 (aT (aB c13 (aT (aB c14 aN)))))))
     ·refine az H18 fun y3 h4 H19 => ?_;obtain rfl:=sI H19;exact pR 11 [.eqT 30 (.bool true),r0 [.v,.v,.e (.bool false),.v,.v,.v,.e (.bool false),.v,.v,.v,.v,.v,.v],.eqT 43 (.bool false),r0 (V 4 [.w,.c true (.tup [iI y3.1,iI y3.2]),.v,.v,.v,.v])] [] [1000] (aB c8 (aT (aB c11 (aT (aB c13 (aT (aB c15 (aT (aT (aC Tryz.call243 (aF (mR _ _ h4) aN)))))))))))
  ·obtain rfl:=sI H12;exact pR 13 [.eqT 30 (.bool false),V2,.cv [.only [0,2,3,4,9,10] [1000]],V1,V2] [] [1000] (aB c9 (aO (1+1) aN))
def iT (x0 x1:List Int):Option (Int×Int) :=
 bif (((x0.length:Nat):Int)==((x1.length:Nat):Int)) then (
  bif decide (((x0.length:Nat):Int)>10000) then (
   some (0,3)
  ) else (
   (iy x0).bind fun y0 =>
   bif y0 then (
    (iy x1).bind fun y1 =>
    bif y1 then (
     (cY (σ:=(Int×Int×Int×Int×Int×Int)) (ε:=(Int×Int×Int×Int×Int×Int)) (ρ:=Empty) (fun i0 s0 =>
      cy (i0<x1.length) <|
      (cJ (x0.getD i0 0) (x1.getD i0 0) s0.1 s0.2.1 s0.2.2.1 s0.2.2.2.1 s0.2.2.2.2.1 s0.2.2.2.2.2).bind fun y2 =>
      some (.go (y2.1,y2.2.1,y2.2.2.1,y2.2.2.2.1,y2.2.2.2.2.1,y2.2.2.2.2.2))
     ) (fun i0 s0=>(s0.1,s0.2.1,s0.2.2.1,s0.2.2.2.1,s0.2.2.2.2.1,s0.2.2.2.2.2)) (x0.length-0) 0 (0,0,0,0,0,0)).bind <| gu fun u0 =>
     (cq u0.1 u0.2.1 u0.2.2.1 u0.2.2.2.1 u0.2.2.2.2.1 u0.2.2.2.2.2).bind fun y3 =>
     some (y3.1,y3.2)
    ) else (
     some (0,2)
    )
   ) else (
    some (0,2)
   )
  )
 ) else (
  some (0,1)
 )
def mv (x0 x1:List Int) (i0:Nat) (s0:Int×Int×Int×Int×Int×Int):AS:=⟨45,[(1,dS ab x1),(4,iI 0),(5,iI 0),(6,.hptr 6 0),(28,dS ab x0),(29,nI x0.length),(30,nI i0)],[(6,.cells 202 [.int .u64 s0.1,.int .u64 s0.2.1,.int .u64 s0.2.2.1,.int .u64 s0.2.2.2.1,.int .u64 s0.2.2.2.2.1,.int .u64 s0.2.2.2.2.2])]⟩
def qc (u1:Int×Int×Int×Int×Int×Int):AS:=⟨45,[(4,iI 0),(5,iI 0),(6,.hptr 6 0)],[(6,.cells 202 [.int .u64 u1.1,.int .u64 u1.2.1,.int .u64 u1.2.2.1,.int .u64 u1.2.2.2.1,.int .u64 u1.2.2.2.2.1,.int .u64 u1.2.2.2.2.2])]⟩
theorem yt (x0 x1:List Int) (r:Int×Int) (H:iT x0 x1=some r):a8 Tryz.prog 207 [dS ab x0,dS ab x1] (.tup [iI r.1,iI r.2]):=by
 unfold iT at H;refine aX Tryz.func207 45 [.tmp 4,.tmp 5] ?_;refine aK H (fun c0 H0 => ?_) (fun c1 H1 => ?_)
 ·refine pA 10 [.rg 0 [] [.v,.v],.rg 0 [] [.v,.e (.int .i64 ((x0.length:Nat):Int)),.v,.e (.int .i64 ((x1.length:Nat):Int)),.v,.v],.eqT 9 (.bool false),.rg 0 [] [.v,.e (.int .i64 ((x0.length:Nat):Int)),.v,.v]] [.only [0,1,4,5,15] []] 9 [false] ⟨45,[(0,.dslice (x0.map ab)),(1,.dslice (x1.map ab)),(4,.int .i64 0),(5,.int .i64 0),(15,.bool (decide (((x0.length:Nat):Int)>10000)))],[]⟩ (aT (aC (aA ab x0) (aT (aC (aA ab x1) (aM c0 (aT (aC (aA ab x0) aN))))))) ?_;refine aK H0 (fun c2 H2 => ?_) (fun c3 H3 => ?_)
  ·obtain rfl:=sI H2;exact pR 5 [.eqT 15 (.bool true),V2] [] [] (aB c2 aN)
  ·have c3p:=KS c3;refine az H3 fun y0 h0 H4 => ?_;refine aK H4 (fun c4 H5 => ?_) (fun c5 H6 => ?_)
   ·refine az H5 fun y1 h1 H7 => ?_;refine aK H7 (fun c6 H8 => ?_) (fun c7 H9 => ?_)
    ·refine pA 13 [.eqT 15 (.bool false),.rg 0 [] [.v,.c true (.bool true),.v,.v,.v,.c true (.bool y1),.v,.v,.v],.eqT 19 (.bool false),.rg 0 [] [.m],.rg 0 [] [.v,.e (.int .i64 ((x0.length:Nat):Int)),.v]] [.only [1,4,5,6,28,29,30] [6]] 11 [false,false] (mv x0 x1 0 (0,0,0,0,0,0)) (aB c3 (aC Tryz.call189 (aC (a8.eq (fF _ _ h0) (cB c4)) (aT (aC Tryz.call189 (aF (fF _ _ h1) (aT (aM c6 (aT (aC (aA ab x0) aN)))))))))) ?_;refine az H8 fun R0 h2 H10 => ?_;refine pJ 1 (qc) R0 ?_ (fun u0 e0 => ?_)
     ·refine pC (mv x0 x1) h2 (fun i0 s0 h3 e1 => ?_) (fun i0 s0 h4 q0 h5 h6 => ?_)
      ·have c8:=lF i0 x0.length (by omega);subst e1;exact pB 5 [r0 [.e (.bool false)]] [.only [4,5,6] [6]] (qc (s0.1,s0.2.1,s0.2.2.1,s0.2.2.2.1,s0.2.2.2.2.1,s0.2.2.2.2.2)) (aB c8 aN)
      ·have c9:=lT i0 x0.length (by omega);refine aU h5 fun g0 H11 => ?_;refine az H11 fun y2 h7 H12 => ?_;refine bu 28 (ps:=[(x0.map ab).length≤9223372036854775807]) (by kernel_rfl) (fun l0 => ?_);have l1:x0.length≤9223372036854775807:=by simpa only [bt,KW] using l0
       clear l0;obtain rfl:=sI H12;exact pB 11 [r0 [.e (.bool true)],r0 [.v,.e (.dptr [iI (x0.getD i0 0)]),.v,.v,.v],r0 [.v,.v,.v,.e (.dptr [iI (x1.getD i0 0)]),.v,.hR [(6,1000)] 40 (.tup []) [(1000,.cells 202 [.int .u64 y2.1,.int .u64 y2.2.1,.int .u64 y2.2.2.1,.int .u64 y2.2.2.2.1,.int .u64 y2.2.2.2.2.1,.int .u64 y2.2.2.2.2.2])]],V2] [.only [1,4,5,6,28,29,30] [6]] (mv x0 x1 (i0+1) (y2.1,y2.2.1,y2.2.2.1,y2.2.2.2.1,y2.2.2.2.2.1,y2.2.2.2.2.2)) (aB c9 (aI cm x0 i0 0 (aI cm x1 i0 0 (aC Tryz.call190 (aC (ra _ _ _ _ _ _ _ _ _ h7) (aH i0 aN))))))
     ·subst e0;have H13:=cn H10;refine az H13 fun y3 h8 H14 => ?_;obtain rfl:=sI H14;exact pR 3 [r0 [.hR [(6,1000)] 42 (.tup [iI y3.1,iI y3.2]) [(1000,.cells 202 [.int .u64 u0.1,.int .u64 u0.2.1,.int .u64 u0.2.2.1,.int .u64 u0.2.2.2.1,.int .u64 u0.2.2.2.2.1,.int .u64 u0.2.2.2.2.2])],.v,.v,.v,.v]] [] [] (aC Tryz.call191 (aC (pG _ _ _ _ _ _ _ h8) aN))
    ·obtain rfl:=sI H9;exact pR 9 [.eqT 15 (.bool false),r0 [.v,.c true (.bool true),.v,.v,.v,.c true (.bool y1),.v,.v,.v],.eqT 19 (.bool true),V2] [] [] (aB c3 (aC Tryz.call189 (aC (a8.eq (fF _ _ h0) (cB c4)) (aT (aC Tryz.call189 (aF (fF _ _ h1) (aT (aM c7 aN))))))))
   ·obtain rfl:=sI H6;exact pR 8 [.eqT 15 (.bool false),r0 [.v,.c true (.bool false),.v,.v,.s,.s,.s,.v,.v],V2] [] [] (aB c3 (aC Tryz.call189 (aC (a8.eq (fF _ _ h0) (cB c5)) (aT aN))))
 ·obtain rfl:=sI H1;exact pR 11 [V2,r0 [.v,.e (nI x0.length),.v,.e (nI x1.length),.v,.v],.eqT 9 (.bool true),V2] [] [] (aT (aC (aA ab x0) (aT (aC (aA ab x1) (aM c1 aN)))))
def cmp_isNaN_string (x0:ai):Option Bool :=
 some (!(x0==x0))
theorem a7 (x0:ai) (r:Bool) (H:cmp_isNaN_string x0=some r):a8 Tryz.prog 253 [.str x0] (.bool r):=by unfold cmp_isNaN_string at H;refine aX Tryz.func253 6 [.tmp 2] ?_;obtain rfl:=sI H;exact pR 5 [V1,V4] [] [] aN
def cmp_Less_string (x0 x1:ai):Option Bool :=
 (cmp_isNaN_string x0).bind fun y0 =>
 bif y0 then (
  (cmp_isNaN_string x1).bind fun y1 =>
  bif y1 then (
   some (Op.bytesLess x0 x1)
  ) else (
   some true
  )
 ) else (
  some (Op.bytesLess x0 x1)
 )
theorem tn (x0 x1:ai) (r:Bool) (H:cmp_Less_string x0 x1=some r):a8 Tryz.prog 210 [.str x0,.str x1] (.bool r):=by
 unfold cmp_Less_string at H;refine aX Tryz.func210 17 [.tmp 4] ?_;refine az H fun y0 h0 H0 => ?_;refine aK H0 (fun c0 H1 => ?_) (fun c1 H2 => ?_)
 ·refine az H1 fun y1 h1 H3 => ?_;refine aK H3 (fun c2 H4 => ?_) (fun c3 H5 => ?_)
  ·obtain rfl:=sI H4;exact pR 5 [V1,r0 [.v,.c true (.bool true),.v,.v,.c true (.bool true),.v,.v,.v,.v,.v,.v,.v,.v]] [] [] (aC Tryz.call253 (aC (a8.eq (a7 _ _ h0) (cB c0)) (aC Tryz.call253 (aC (a8.eq (a7 _ _ h1) (cB c2)) (aT aN)))))
  ·obtain rfl:=sI H5;exact pR 5 [V1,r0 [.v,.c true (.bool true),.v,.v,.c true (.bool false),.v,.v,.v,.s,.s,.s,.v,.v]] [] [] (aC Tryz.call253 (aC (a8.eq (a7 _ _ h0) (cB c0)) (aC Tryz.call253 (aC (a8.eq (a7 _ _ h1) (cB c3)) (aT aN)))))
 ·obtain rfl:=sI H2;exact pR 5 [V1,r0 [.v,.c true (.bool false),.v,.s,.s,.s,.v,.v,.v,.v,.v,.v,.v]] [] [] (aC Tryz.call253 (aC (a8.eq (a7 _ _ h0) (cB c1)) aN))
def cT (x0:List ai):Option Bool :=
 (xU (σ:=Int) (ε:=Unit) (ρ:=Bool) (fun s0 =>
  bif decide (s0>0) then (
   cy (0≤s0∧s0<(x0.length:Int)) <|
   cy (0≤(aJ (s0-1))∧(aJ (s0-1))<(x0.length:Int)) <|
   (cmp_Less_string (x0.getD s0.toNat []) (x0.getD (aJ (s0-1)).toNat [])).bind fun y0 =>
   bif y0 then (
    some (.ret false)
   ) else (
    some (.go (aJ (s0-1)))
   )
  ) else (
   some (.brk ())
  )
 ) 4294967296 (aJ (((x0.length:Nat):Int)-1))).bind <| aft fun u0 =>
 some true
def eF (x0:List ai) (s0:Int):AS:=⟨21,[(0,dS ax x0),(2,.bool false),(3,iI s0)],[]⟩
def hU (u1:Unit):AS:=⟨21,[(2,.bool false)],[]⟩
theorem nc (x0:List ai) (r:Bool) (H:cT x0=some r):a8 Tryz.prog 134 [dS ax x0] (.bool r):=by
 unfold cT at H;refine aX Tryz.func134 21 [.tmp 2] ?_;refine pA 6 [V1,r0 [.v,.e (nI x0.length),.w,.v]] [.only [0,2,3] []] 6 [] (eF x0 (aJ (((x0.length:Nat):Int)-1))) (aT (aC (aA ax x0) aN)) ?_;refine az H fun R0 h0 H0 => ?_;refine pJ 1 (hU) R0 ?_ (fun u0 e0 => ?_)
 ·refine AL (eF x0) (by kernel_rfl) h0 (fun s0 q0 h1 h2 => ?_)
  ·refine aK h1 (fun c0 H1 => ?_) (fun c1 H2 => ?_)
   ·refine aU H1 fun g0 H3 => ?_;refine aU H3 fun g1 H4 => ?_;refine az H4 fun y0 h3 H5 => ?_;refine pA 10 [V2,.eqT 8 (.bool true),.rg 9 [.v,.v,.e (.dptr [.str (x0.getD s0.toNat [])]),.v,.v,.v,.w,.e (.dptr [.str (x0.getD (aJ (s0-1)).toNat [])]),.v] [.c true (.bool y0)]] [.only [0,2,3,20] []] 9 [true] ⟨21,[(0,dS ax x0),(2,.bool false),(3,iI s0),(20,.bool y0)],[]⟩ (aB c0 (aY (yw (f:=ax) (l:=x0) (n:=s0) [] bM (by decide) (by exact g0)) (aY (yw (f:=ax) (l:=x0) (n:=(aJ (s0-1))) [] bM (by decide) (by exact g1)) (aC Tryz.call210 (aF (tn _ _ _ h3) aN))))) ?_;refine aK H5 (fun c2 H6 => ?_) (fun c3 H7 => ?_)
    ·obtain rfl:=sI H6;obtain rfl:=aw h2;obtain rfl:=sI (ao H0);exact pR 5 [.eqT 20 (.bool true),V1] [] [] (aB c2 aN)
    ·obtain rfl:=sI H7;exact pB 4 [.eqT 20 (.bool false),r0 [.v,.w,.v]] [.only [0,2,3] []] (eF x0 (aJ (s0-1))) (aB c3 aN)
   ·obtain rfl:=sI H2;obtain rfl:=jz h2;exact pB 6 [V2,.eqT 8 (.bool false)] [.only [2] []] (hU ()) (aB c1 aN)
 ·subst e0;have H8:=aV H0;obtain rfl:=sI H8;exact pR 3 [V1] [] [] aN
def jw (x0:ai):Option Bool :=
 (dV x0).bind fun y0 =>
 some (!y0)
theorem pS (x0:ai) (r:Bool) (H:jw x0=some r):a8 Tryz.prog 136 [.str x0] (.bool r):=by unfold jw at H;refine aX Tryz.func136 6 [.tmp 2] ?_;refine az H fun y0 h0 H0 => ?_;obtain rfl:=sI H0;exact pR 5 [V1,r0 [.v,.c true (.bool y0),.v,.v]] [] [] (aC Tryz.call96 (aF (bh _ _ h0) (aT aN)))
def dC (x0:List ai):Option Int :=
 (cY (σ:=Unit) (ε:=Unit) (ρ:=Int) (fun i0 s0 =>
  (jw (x0.getD i0 [])).bind fun y0 =>
  bif y0 then (
   some (.ret ((i0:Nat):Int))
  ) else (
   some (.go ())
  )
 ) (fun i0 s0=>()) (x0.length-0) 0 ()).bind <| aft fun u0 =>
 some (-1)
def eh (x0:List ai) (i0:Nat) (s0:Unit):AS:=⟨19,[(0,dS ax x0),(1,.fn 136 []),(4,iI 0),(7,nI x0.length),(8,nI i0)],[]⟩
def gw (u1:Unit):AS:=⟨19,[(4,iI 0)],[]⟩
theorem mG (x0:List ai) (r:Int) (H:dC x0=some r):a8 Tryz.prog 211 [dS ax x0,.fn 136 []] (iI r):=by
 unfold dC at H;refine aX Tryz.func211 19 [.tmp 4] ?_;refine pA 6 [V1,r0 [.v,.e (nI x0.length),.v]] [.only [0,1,4,7,8] []] 6 [] (eh x0 0 ()) (aT (aC (aA ax x0) aN)) ?_;refine az H fun R0 h0 H0 => ?_;refine pJ 1 (gw) R0 ?_ (fun u0 e0 => ?_)
 ·refine pC (eh x0) h0 (fun i0 s0 h1 e1 => ?_) (fun i0 s0 h2 q0 h3 h4 => ?_)
  ·have c0:=lF i0 x0.length (by omega);subst e1;exact pB 5 [r0 [.e (.bool false)]] [.only [4] []] (gw ()) (aB c0 aN)
  ·have c1:=lT i0 x0.length (by omega);refine az h3 fun y0 h5 H1 => ?_;refine aK H1 (fun c2 H2 => ?_) (fun c3 H3 => ?_)
   ·obtain rfl:=sI H2;obtain rfl:=aw h4;obtain rfl:=sI (ao H0);exact pR 16 [r0 [.e (.bool true)],V2,r0 [.v,.v,.v,.e (.dptr [.str (x0.getD i0 [])]),.v,.c true (.bool y0)],.eqT 16 (.bool true),V2] [] [] (aB c1 (aI bM x0 i0 [] (aC Tryz.call136 (aF (pS _ _ h5) (aB c2 aN)))))
   ·refine bu 0 (ps:=[(x0.map ax).length≤9223372036854775807]) (by kernel_rfl) (fun l0 => ?_);have l1:x0.length≤9223372036854775807:=by simpa only [bt,KW] using l0
    clear l0;obtain rfl:=sI H3;exact pB 15 [r0 [.e (.bool true)],V2,r0 [.v,.v,.v,.e (.dptr [.str (x0.getD i0 [])]),.v,.c true (.bool y0)],.eqT 16 (.bool false),V2] [.only [0,1,4,7,8] []] (eh x0 (i0+1) ()) (aB c1 (aI bM x0 i0 [] (aC Tryz.call136 (aF (pS _ _ h5) (aB c3 (aH i0 aN))))))
 ·subst e0;have H4:=aV H0;obtain rfl:=sI H4;exact pR 3 [V1] [] [] aN
def b5 (x0:List ai):Option Bool :=
 (dC x0).bind fun y0 =>
 some (decide (y0≥0))
theorem fL (x0:List ai) (r:Bool) (H:b5 x0=some r):a8 Tryz.prog 135 [dS ax x0,.fn 136 []] (.bool r):=by unfold b5 at H;refine aX Tryz.func135 9 [.tmp 4] ?_;refine az H fun y0 h0 H0 => ?_;obtain rfl:=sI H0;exact pR 5 [V1,r0 [.v,.v,.c true (iI y0),.v,.v]] [] [] (aC Tryz.call211 (aF (mG _ _ h0) aN))
def de (x0 x1:ai):Option Int :=
 (cmp_isNaN_string x0).bind fun y0 =>
 (cmp_isNaN_string x1).bind fun y1 =>
 bif y0 then (
  bif y1 then (
   some 0
  ) else (
   some (-1)
  )
 ) else (
  bif y1 then (
   some 1
  ) else (
   bif (Op.bytesLess x0 x1) then (
    some (-1)
   ) else (
    bif (Op.bytesLess x0 x1||x0==x1) then (
     some 0
    ) else (
     some 1
    )
   )
  )
 )
theorem qy (x0 x1:ai) (r:Int) (H:de x0 x1=some r):a8 Tryz.prog 212 [.str x0,.str x1] (iI r):=by
 unfold de at H;refine aX Tryz.func212 20 [.tmp 4] ?_;refine az H fun y0 h0 H0 => ?_;refine az H0 fun y1 h1 H1 => ?_;refine aK H1 (fun c0 H2 => ?_) (fun c1 H3 => ?_)
 ·refine aK H2 (fun c2 H4 => ?_) (fun c3 H5 => ?_)
  ·obtain rfl:=sI H4;exact pR 19 [V1,r0 [.v,.c true (.bool y0),.v],r0 [.v,.c true (.bool y1),.v],V1,.eqT 11 (.bool true),V1,.eqT 12 (.bool true),V1] [] [] (aC Tryz.call253 (aF (a7 _ _ h0) (aC Tryz.call253 (aF (a7 _ _ h1) (aB c0 (aB c2 aN))))))
  ·obtain rfl:=sI H5;exact pR 20 [V1,r0 [.v,.c true (.bool y0),.v],r0 [.v,.c true (.bool y1),.v],V1,.eqT 11 (.bool true),V1,.eqT 12 (.bool false),V1] [] [] (aC Tryz.call253 (aF (a7 _ _ h0) (aC Tryz.call253 (aF (a7 _ _ h1) (aB c0 (aB c3 aN))))))
 ·refine aK H3 (fun c4 H6 => ?_) (fun c5 H7 => ?_)
  ·obtain rfl:=sI H6;exact pR 20 [V1,r0 [.v,.c true (.bool y0),.v],r0 [.v,.c true (.bool y1),.v],V1,.eqT 11 (.bool false),V1,.eqT 13 (.bool true),V1] [] [] (aC Tryz.call253 (aF (a7 _ _ h0) (aC Tryz.call253 (aF (a7 _ _ h1) (aB c1 (aB c4 aN))))))
  ·refine pA 21 [.rg 0 [] [.v],.rg 0 [] [.v,.c true (.bool y0),.v],.rg 0 [] [.v,.c true (.bool y1),.v],.rg 0 [] [.v],.eqT 11 (.bool false),.rg 0 [] [.v],.eqT 13 (.bool false),.rg 0 [] [.v,.v,.v]] [.only [0,1,4,16] []] 19 [false,false] ⟨20,[(0,.str x0),(1,.str x1),(4,.int .i64 0),(16,.bool (Op.bytesLess x0 x1))],[]⟩ (aC Tryz.call253 (aF (a7 _ _ h0) (aC Tryz.call253 (aF (a7 _ _ h1) (aB c1 (aB c5 aN)))))) ?_;refine aK H7 (fun c6 H8 => ?_) (fun c7 H9 => ?_)
   ·obtain rfl:=sI H8;exact pR 5 [.eqT 16 (.bool true),V1] [] [] (aB c6 aN)
   ·refine aK H9 (fun c8 H10 => ?_) (fun c9 H11 => ?_)
    ·obtain rfl:=sI H10;exact pR 12 [.eqT 16 (.bool false),V3,.eqT 19 (.bool false),V1] [] [] (aB c7 (aM c8 aN))
    ·obtain rfl:=sI H11;exact pR 11 [.eqT 16 (.bool false),V3,.eqT 19 (.bool true),V1] [] [] (aB c7 (aM c9 aN))
def dd (x0 x1:List ai):Option Int :=
 (cY (σ:=Unit) (ε:=Unit) (ρ:=Int) (fun i0 s0 =>
  bif decide (((i0:Nat):Int)≥((x1.length:Nat):Int)) then (
   some (.ret 1)
  ) else (
   (de (x0.getD i0 []) (x1.getD i0 [])).bind fun y0 =>
   bif (y0==0) then (
    some (.go ())
   ) else (
    some (.ret y0)
   )
  )
 ) (fun i0 s0=>()) (x0.length-0) 0 ()).bind <| aft fun u0 =>
 bif decide (((x0.length:Nat):Int)<((x1.length:Nat):Int)) then (
  some (-1)
 ) else (
  some 0
 )
def fb (x0 x1:List ai) (i0:Nat) (s0:Unit):AS:=⟨36,[(0,dS ax x0),(1,dS ax x1),(4,iI 0),(9,dS ax x0),(10,nI x0.length),(11,nI i0)],[]⟩
def ic (x0 x1:List ai) (u1:Unit):AS:=⟨36,[(0,dS ax x0),(1,dS ax x1),(4,iI 0)],[]⟩
theorem nT (x0 x1:List ai) (r:Int) (H:dd x0 x1=some r):a8 Tryz.prog 137 [dS ax x0,dS ax x1] (iI r):=by
 unfold dd at H;refine aX Tryz.func137 36 [.tmp 4] ?_;refine pA 6 [V1,r0 [.v,.e (nI x0.length),.v]] [.only [0,1,4,9,10,11] []] 6 [] (fb x0 x1 0 ()) (aT (aC (aA ax x0) aN)) ?_;refine az H fun R0 h0 H0 => ?_;refine pJ 1 (ic x0 x1) R0 ?_ (fun u0 e0 => ?_)
 ·refine pC (fb x0 x1) h0 (fun i0 s0 h1 e1 => ?_) (fun i0 s0 h2 q0 h3 h4 => ?_)
  ·have c0:=lF i0 x0.length (by omega);subst e1;exact pB 5 [r0 [.e (.bool false)]] [.only [0,1,4] []] (ic x0 x1 ()) (aB c0 aN)
  ·have c1:=lT i0 x0.length (by omega);refine aK h3 (fun c2 H1 => ?_) (fun c3 H2 => ?_)
   ·have c2p:=KT c2;obtain rfl:=sI H1;obtain rfl:=aw h4;obtain rfl:=sI (ao H0);exact pR 17 [r0 [.e (.bool true)],r0 [.v,.e (.dptr [.str (x0.getD i0 [])]),.v,.v,.v],r0 [.v,.v,.e (nI x1.length),.v],.eqT 19 (.bool true),V1] [] [] (aB c1 (aI bM x0 i0 [] (aT (aC (aA ax x1) (aB c2 aN)))))
   ·have c3p:=KS c3;refine az H2 fun y0 h5 H3 => ?_;refine pA 21 [r0 [.e (.bool true)],r0 [.v,.e (.dptr [.str (x0.getD i0 [])]),.v,.v,.v],r0 [.v,.v,.e (nI x1.length),.v],.eqT 19 (.bool false),r0 [.v,.v,.e (.dptr [.str (x1.getD i0 [])]),.v,.v],r0 [.v,.v,.c true (iI y0),.v],V2] [.only [0,1,4,8,9,10,11,28] []] 20 [true,false] ⟨36,[(0,dS ax x0),(1,dS ax x1),(4,iI 0),(8,iI y0),(9,dS ax x0),(10,nI x0.length),(11,nI i0),(28,.bool (y0 != 0))],[]⟩ (aB c1 (aI bM x0 i0 [] (aT (aC (aA ax x1) (aB c3 (aI bM x1 i0 [] (aC Tryz.call212 (aF (qy _ _ _ h5) aN)))))))) ?_;refine aK H3 (fun c4 H4 => ?_) (fun c5 H5 => ?_)
    ·refine bu 0 (ps:=[(x0.map ax).length≤9223372036854775807]) (by kernel_rfl) (fun l0 => ?_);have l1:x0.length≤9223372036854775807:=by simpa only [bt,KW] using l0
     clear l0;obtain rfl:=sI H4;exact pB 4 [.eqT 28 (.bool false),V2] [.only [0,1,4,9,10,11] []] (fb x0 x1 (i0+1) ()) (aM c4 (aH i0 aN))
    ·obtain rfl:=sI H5;obtain rfl:=aw h4;refine bB (ao H0) fun e2 => ?_;subst e2;exact pR 5 [.eqT 28 (.bool true),V2] [] [] (aM c5 aN)
 ·subst e0;have H6:=aV H0;refine aK H6 (fun c6 H7 => ?_) (fun c7 H8 => ?_)
  ·obtain rfl:=sI H7;exact pR 8 [r0 [.v,.e (nI x0.length),.v,.e (nI x1.length),.v],.eqT 35 (.bool true),V1] [] [] (aT (aC (aA ax x0) (aT (aC (aA ax x1) (aB c6 aN)))))
  ·obtain rfl:=sI H8;exact pR 9 [r0 [.v,.e (nI x0.length),.v,.e (nI x1.length),.v],.eqT 35 (.bool false),V1] [] [] (aT (aC (aA ax x0) (aT (aC (aA ax x1) (aB c7 aN)))))
def gE (x0:List aa):Option Bool :=
 (cY (σ:=Unit) (ε:=Unit) (ρ:=Bool) (fun i0 s0 =>
  bif (((x0.getD i0 ⟨0,[]⟩).Coef)==0) then (
   some (.ret false)
  ) else (
   bif decide (((x0.getD i0 ⟨0,[]⟩).Coef)<(-1099511627776)) then (
    some (.ret false)
   ) else (
    bif decide (((x0.getD i0 ⟨0,[]⟩).Coef)>1099511627776) then (
     some (.ret false)
    ) else (
     bif decide (((((x0.getD i0 ⟨0,[]⟩).Vars).length:Nat):Int)>8) then (
      some (.ret false)
     ) else (
      (cT ((x0.getD i0 ⟨0,[]⟩).Vars)).bind fun y0 =>
      bif y0 then (
       (b5 ((x0.getD i0 ⟨0,[]⟩).Vars)).bind fun y1 =>
       bif y1 then (
        some (.ret false)
       ) else (
        ((
         bif decide (((i0:Nat):Int)>0) then (
          cy (0≤(aJ (((i0:Nat):Int)-1))∧(aJ (((i0:Nat):Int)-1))<(x0.length:Int)) <|
          (dd ((x0.getD (aJ (((i0:Nat):Int)-1)).toNat ⟨0,[]⟩).Vars) ((x0.getD i0 ⟨0,[]⟩).Vars)).bind fun y2 =>
          bif decide (y2≥0) then (
           some (.ret (.ret false))
          ) else (
           some (.brk ())
          )
         ) else (
          some (.brk ())
         )
        ):Option (Out Unit (gZ Unit Unit Bool))).bind (aft fun u0 =>
         some (.go ())
        )
       )
      ) else (
       some (.ret false)
      )
     )
    )
   )
  )
 ) (fun i0 s0=>()) (x0.length-0) 0 ()).bind <| aft fun u1 =>
 some (decide (((x0.length:Nat):Int)≤60))
def nG (x0:List aa) (i0:Nat) (s0:Unit):AS:=⟨58,[(0,dS ag x0),(2,.bool false),(5,dS ag x0),(6,nI x0.length),(7,nI i0)],[]⟩
def rv (x0:List aa) (u2:Unit):AS:=⟨58,[(0,dS ag x0),(2,.bool false)],[]⟩
def nL (x0:List aa) (i0:Nat) (u0:Unit):AS:=⟨58,[(0,dS ag x0),(2,.bool false),(5,dS ag x0),(6,nI x0.length),(7,nI i0)],[]⟩
theorem fJ (x0:List aa) (r:Bool) (H:gE x0=some r):a8 Tryz.prog 70 [dS ag x0] (.bool r):=by
 unfold gE at H;refine aX Tryz.func70 58 [.tmp 2] ?_;refine pA 6 [V1,r0 [.v,.e (nI x0.length),.v]] [.only [0,2,5,6,7] []] 6 [] (nG x0 0 ()) (aT (aC (aA ag x0) aN)) ?_;refine az H fun R0 h0 H0 => ?_;refine pJ 1 (rv x0) R0 ?_ (fun u1 e0 => ?_)
 ·refine pC (nG x0) h0 (fun i0 s0 h1 e1 => ?_) (fun i0 s0 h2 q0 h3 h4 => ?_)
  ·have c0:=lF i0 x0.length (by omega);subst e1;exact pB 5 [r0 [.e (.bool false)]] [.only [0,2] []] (rv x0 ()) (aB c0 aN)
  ·have c1:=lT i0 x0.length (by omega);refine aK h3 (fun c2 H1 => ?_) (fun c3 H2 => ?_)
   ·obtain rfl:=sI H1;obtain rfl:=aw h4;obtain rfl:=sI (ao H0);exact pR 16 [r0 [.e (.bool true)],r0 [.v,.e (.dptr (ag (x0.getD i0 ⟨0,[]⟩))),.v,.m,.v,.m],r0 [.v,.v,.e (.bool true),.v,.s,.s,.s,.v,.v,.s,.s,.s,.v,.v,.s,.s,.s,.s,.v,.v,.s,.s,.s,.s,.v],V1] [] [] (aB c1 (aI aS x0 i0 ⟨0,[]⟩ (aB c2 aN)))
   ·refine aK H2 (fun c4 H3 => ?_) (fun c5 H4 => ?_)
    ·have c4p:=KT c4;obtain rfl:=sI H3;obtain rfl:=aw h4;obtain rfl:=sI (ao H0);exact pR 16 [r0 [.e (.bool true)],r0 [.v,.e (.dptr (ag (x0.getD i0 ⟨0,[]⟩))),.v,.m,.v,.m],r0 [.v,.v,.e (.bool false),.v,.v,.v,.e (.bool true),.v,.v,.s,.s,.s,.v,.v,.s,.s,.s,.s,.v,.v,.s,.s,.s,.s,.v],V1] [] [] (aB c1 (aI aS x0 i0 ⟨0,[]⟩ (aB c3 (aB c4 aN))))
    ·have c5p:=KS c5;refine aK H4 (fun c6 H5 => ?_) (fun c7 H6 => ?_)
     ·have c6p:=KT c6;obtain rfl:=sI H5;obtain rfl:=aw h4;obtain rfl:=sI (ao H0);exact pR 16 [r0 [.e (.bool true)],r0 [.v,.e (.dptr (ag (x0.getD i0 ⟨0,[]⟩))),.v,.m,.v,.m],r0 [.v,.v,.e (.bool false),.v,.v,.v,.e (.bool false),.v,.v,.v,.v,.e (.bool true),.v,.v,.s,.s,.s,.s,.v,.v,.s,.s,.s,.s,.v],V1] [] [] (aB c1 (aI aS x0 i0 ⟨0,[]⟩ (aB c3 (aB c5 (aB c6 aN)))))
     ·have c7p:=KS c7;refine aK H6 (fun c8 H7 => ?_) (fun c9 H8 => ?_)
      ·have c8p:=KT c8;obtain rfl:=sI H7;obtain rfl:=aw h4;obtain rfl:=sI (ao H0);exact pR 16 [r0 [.e (.bool true)],r0 [.v,.e (.dptr (ag (x0.getD i0 ⟨0,[]⟩))),.v,.m,.v,.m],r0 [.v,.v,.e (.bool false),.v,.v,.v,.e (.bool false),.v,.v,.v,.v,.e (.bool false),.v,.v,.v,.v,.e (iI ((((x0.getD i0 ⟨0,[]⟩).Vars).length:Nat):Int)),.e (.bool true),.v,.v,.s,.s,.s,.s,.v],V1] [] [] (aB c1 (aI aS x0 i0 ⟨0,[]⟩ (aB c3 (aB c5 (aB c7 (aT (aC (aA ax ((x0.getD i0 ⟨0,[]⟩).Vars)) (aB c8 aN))))))))
      ·have c9p:=KS c9;refine az H8 fun y0 h5 H9 => ?_;refine pA 12 [r0 [.e (.bool true)],r0 [.v,.e (.dptr (ag (x0.getD i0 ⟨0,[]⟩))),.v,.m,.v,.m],r0 [.v,.v,.e (.bool false),.v,.v,.v,.e (.bool false),.v,.v,.v,.v,.e (.bool false),.v,.v,.v,.v,.e (iI ((((x0.getD i0 ⟨0,[]⟩).Vars).length:Nat):Int)),.e (.bool false),.v,.v,.v,.v,.c true (.bool y0),.v,.v]] [.only [0,2,3,4,5,6,7,36] [4]] 12 [true] ⟨58,[(0,dS ag x0),(2,.bool false),(3,nI i0),(4,.hptr 4 0),(5,dS ag x0),(6,nI x0.length),(7,nI i0),(36,.bool (!y0))],[(4,.cells 118 (ag (x0.getD i0 ⟨0,[]⟩)))]⟩ (aB c1 (aI aS x0 i0 ⟨0,[]⟩ (aB c3 (aB c5 (aB c7 (aT (aC (aA ax ((x0.getD i0 ⟨0,[]⟩).Vars)) (aB c9 (aC Tryz.call134 (aF (nc _ _ h5) (aT aN))))))))))) ?_;refine aK H9 (fun c10 H10 => ?_) (fun c11 H11 => ?_)
       ·refine az H10 fun y1 h6 H12 => ?_;refine aK H12 (fun c12 H13 => ?_) (fun c13 H14 => ?_)
        ·obtain rfl:=sI H13;obtain rfl:=aw h4;obtain rfl:=sI (ao H0);exact pR 11 [.eqT 36 (.bool false),r0 [.v,.v,.c true (.bool y1)],.eqT 39 (.bool true),V1] [] [] (aM c10 (aC Tryz.call135 (aF (fL _ _ h6) (aB c12 aN))))
        ·refine pA 10 [.eqT 36 (.bool false),.rg 0 [] [.v,.v,.c true (.bool y1)],.eqT 39 (.bool false)] [.only [0,2,3,4,5,6,7] [4]] 8 [false,false] ⟨58,[(0,.dslice (x0.map ag)),(2,.bool false),(3,.int .i64 ((i0:Nat):Int)),(4,.hptr 4 0),(5,.dslice (x0.map ag)),(6,.int .i64 ((x0.length:Nat):Int)),(7,.int .i64 ((i0:Nat):Int))],[(4,.cells 118 (ag (x0.getD i0 ⟨0,[]⟩)))]⟩ (aM c10 (aC Tryz.call135 (aF (fL _ _ h6) (aB c13 aN)))) ?_;refine az H14 fun v0 h7 H15 => ?_;refine pJ 2 (nL x0 i0) v0 ?_ (fun u0 e2 => ?_)
         ·refine aK h7 (fun c14 H16 => ?_) (fun c15 H17 => ?_)
          ·refine aU H16 fun g0 H18 => ?_;refine az H18 fun y2 h8 H19 => ?_;refine pA 1 [.rg 11 [.v,.e (.bool true),.v,.v,.v,.w,.e (.dptr (ag (x0.getD (aJ (((i0:Nat):Int)-1)).toNat ⟨0,[]⟩))),.v,.v,.v,.v] [.c true (iI y2),.v,.v]] [.only [0,2,5,6,7,53] []] 1 [] ⟨58,[(0,dS ag x0),(2,.bool false),(5,dS ag x0),(6,nI x0.length),(7,nI i0),(53,.bool (decide (y2≥0)))],[]⟩ (aB c14 (aY (yw (f:=ag) (l:=x0) (n:=(aJ (((i0:Nat):Int)-1))) ⟨0,[]⟩ aS (by decide) (by exact g0)) (aC Tryz.call137 (aF (nT _ _ _ h8) aN)))) ?_;refine aK H19 (fun c16 H20 => ?_) (fun c17 H21 => ?_)
           ·obtain rfl:=sI H20;obtain rfl:=sI (ao H15);obtain rfl:=aw h4;obtain rfl:=sI (ao H0);exact pR 5 [.eqT 53 (.bool true),V1] [] [] (aB c16 aN)
           ·obtain rfl:=sI H21;exact pB 3 [.eqT 53 (.bool false)] [.only [0,2,5,6,7] []] (nL x0 i0 ()) (aB c17 aN)
          ·obtain rfl:=sI H17;exact pB 3 [.rg 11 [.v,.e (.bool false),.v,.s,.s,.s,.s,.s,.s,.s,.s] [.s,.s,.v]] [.only [0,2,5,6,7] []] (nL x0 i0 ()) (aB c15 aN)
         ·subst e2;have H22:=aV H15;refine bu 0 (ps:=[(x0.map ag).length≤9223372036854775807]) (by kernel_rfl) (fun l0 => ?_);have l1:x0.length≤9223372036854775807:=by simpa only [bt,KW] using l0
          clear l0;obtain rfl:=sI H22;exact pB 1 [V2] [.only [0,2,5,6,7] []] (nG x0 (i0+1) ()) (aH i0 aN)
       ·obtain rfl:=sI H11;obtain rfl:=aw h4;obtain rfl:=sI (ao H0);exact pR 5 [.eqT 36 (.bool true),V1] [] [] (aM c11 aN)
 ·subst e0;have H23:=aV H0;obtain rfl:=sI H23;exact pR 3 [r0 [.v,.e (nI x0.length),.v,.v]] [] [] (aT (aC (aA ag x0) aN))
noncomputable def cZ (x0:List (ai×(List ai))) (x1 x2:List (ai×(List Int))):Option ((List aa)×Int) :=
 rf (σ:=(List aa)) (ε:=Empty) (β:=((List aa)×Int)) x0 (fun e0 s0 =>
  (iT (bN [] e0.1 x1) (bN [] e0.1 x2)).bind fun y0 =>
  bif (y0.2==0) then (
   bif (y0.1==0) then (
    some (.go s0)
   ) else (
    cy ((s0.length+1)*32≤140737488355328) <|
    some (.go (s0++[(aa.mk y0.1 e0.2)]))
   )
  ) else (
   some (.ret ([],3))
  )
 ) [] (fun s0 =>
  (ll (fun x=>x.Vars) s0).bind fun y1 =>
  (gE y1).bind fun y2 =>
  bif y2 then (
   some (y1,0)
  ) else (
   some ([],3)
  )
 )
def fH (x0:List (ai×(List ai))) (x1 x2:List (ai×(List Int))) (i0:List Nat) (s0:List aa):AS:=⟨45,[(1,.hptr 1 0),(2,.eslice),(3,iI 0),(4,.rslice 38),(11,.hptr 11 0)],[(1,.cells 144 [.dmap (x0.map (aW aG)),.dmap (x1.map (aW aZ)),.dmap (x2.map (aW aZ))]),(11,.iter (x0.map (aW aG)) i0),(38,.row 118 2 (s0.map ag))]⟩
theorem jd (x0:List (ai×(List ai))) (x1 x2:List (ai×(List Int))) (r:(List aa)×Int) (H:cZ x0 x1 x2=some r):bo Tryz.prog 133 [.agg [.amap 1000,.amap 1001,.amap 1002]] [(1000,.smap 9 90 (x0.map (aW aG))),(1001,.rmap 3 1 (ga ab x1)),(1002,.rmap 3 1 (ga ab x2))] (fun r2 h0=>r2=(.tup [dS ag r.1,iI r.2])∧h0=[]):=by
 unfold cZ at H;refine aX Tryz.func133 45 [.tmp 2,.tmp 3] ?_;refine pA 8 [r0 [.m,.v,.v],V1,r0 [.v,.v,.fr 1001,.rwT 0 (.agg [.amap 1000,.dmap (x1.map (aW aZ)),.amap 1002]),.rwH 1 (.cells 144 [.amap 1000,.dmap (x1.map (aW aZ)),.amap 1002]),.fr 1002,.rwT 0 (.agg [.amap 1000,.dmap (x1.map (aW aZ)),.dmap (x2.map (aW aZ))]),.rwH 1 (.cells 144 [.amap 1000,.dmap (x1.map (aW aZ)),.dmap (x2.map (aW aZ))]),.fm 1000,.m]] [.er 4 38 118 2,.only [1,2,3,4,11] [1,11,38]] 8 [] (fH x0 x1 x2 [] []) (aC (DI ab x1) (aC (congrArg (fun x:List (List UInt8×AV)=>AV.agg [.amap 1000,.dmap x,.amap 1002]) (vz ab x1)) (aC (congrArg (fun x:List (List UInt8×AV)=>AO.cells 144 [.amap 1000,.dmap x,.amap 1002]) (vz ab x1)) (aC (DI ab x2) (aC (congrArg (fun x:List (List UInt8×AV)=>AV.agg [.amap 1000,.dmap (x1.map (aW aZ)),.dmap x]) (vz ab x2)) (aC (congrArg (fun x:List (List UInt8×AV)=>AO.cells 144 [.amap 1000,.dmap (x1.map (aW aZ)),.dmap x]) (vz ab x2)) (aC (z6 w4 x0) aN))))))) ?_;refine Aw (cc:=aG) 11 (fH x0 x1 x2) (by kernel_rfl) H [.v] (fun i0 s0=>⟨by kernel_rfl,by kernel_rfl⟩) (fun i0 s0=>⟨45,[(1,.hptr 1 0),(2,.eslice),(3,iI 0),(4,.rslice 38),(11,.hptr 11 0),(12,.tup [.bool false]),(13,.bool false)],[(1,.cells 144 [.dmap (x0.map (aW aG)),.dmap (x1.map (aW aZ)),.dmap (x2.map (aW aZ))]),(11,.iter (x0.map (aW aG)) i0),(38,.row 118 2 (s0.map ag))]⟩) (fun i0 s0=>by kernel_rfl) (fun i0 s0 n0 e0=>⟨45,[(1,.hptr 1 0),(2,.eslice),(3,iI 0),(4,.rslice 38),(11,.hptr 11 0),(12,.tup [.bool true,.str e0.1,dS ax e0.2]),(13,.bool true)],[(1,.cells 144 [.dmap (x0.map (aW aG)),.dmap (x1.map (aW aZ)),.dmap (x2.map (aW aZ))]),(11,.iter (x0.map (aW aG)) (i0++[n0])),(38,.row 118 2 (s0.map ag))]⟩) (fun i0 s0 n0 e0=>by kernel_rfl) (fun i0 s0 H0 => ?_) (fun i0 s0 n0 e0 h1 q0 h2 h3 => ?_)
 ·refine az H0 fun y1 h4 H1 => ?_;refine az H1 fun y2 h5 H2 => ?_;refine aK H2 (fun c0 H3 => ?_) (fun c1 H4 => ?_)
  ·obtain rfl:=sI H3;exact pR 14 [r0 [.v,.hR [(38,1000)] 40 (.tup []) [(1000,.row 118 2 (y1.map ag))]],r0 [.v,.c false (.bool y2),.v],.eqT 43 (.bool false),V3] [.fz 38] [] (aC Tryz.call208 (aC (ve ag (fun x=>x.Vars) (fun x=>x.Coef) (fun _=>rfl) s0 y1 h4) (aC Tryz.call70 (aF (fJ _ _ h5) (aT (aM c0 aN))))))
  ·obtain rfl:=sI H4;exact pR 13 [r0 [.v,.hR [(38,1000)] 40 (.tup []) [(1000,.row 118 2 (y1.map ag))]],r0 [.v,.c false (.bool y2),.v],.eqT 43 (.bool true),V2] [.wk 2 []] [] (aC Tryz.call208 (aC (ve ag (fun x=>x.Vars) (fun x=>x.Coef) (fun _=>rfl) s0 y1 h4) (aC Tryz.call70 (aF (fJ _ _ h5) (aT (aM c1 aN))))))
 ·refine az h2 fun y0 h6 H5 => ?_;refine pA 11 [r0 [.en n0 (.tup [.str e0.1,dS ax e0.2]),.v,.v,.v,.v],r0 [.v,.v,.v,.l (.dslice ((bN [] e0.1 x1).map ab)),.v,.v,.v,.l (.dslice ((bN [] e0.1 x2).map ab)),.c true (.tup [iI y0.1,iI y0.2]),.v,.v,.v,.v,.v],V2] [.only [1,2,3,4,6,7,11,30] [1,11,38]] 11 [true] ⟨45,[(1,.hptr 1 0),(2,.eslice),(3,iI 0),(4,.rslice 38),(6,dS ax e0.2),(7,iI y0.1),(11,.hptr 11 0),(30,.bool (y0.2 != 0))],[(1,.cells 144 [.dmap (x0.map (aW aG)),.dmap (x1.map (aW aZ)),.dmap (x2.map (aW aZ))]),(11,.iter (x0.map (aW aG)) (i0++[n0])),(38,.row 118 2 (s0.map ag))]⟩ (aC (og i0 n0) (aC (AK (cc:=aG) h1) (aC (gL (c:=aZ) e0.1 [] x1) (aC (gL (c:=aZ) e0.1 [] x2) (aC Tryz.call207 (aF (yt _ _ _ h6) aN)))))) ?_;refine aK H5 (fun c2 H6 => ?_) (fun c3 H7 => ?_)
  ·refine aK H6 (fun c4 H8 => ?_) (fun c5 H9 => ?_)
   ·obtain rfl:=sI H8;exact pB 8 [.eqT 30 (.bool false),V2,.eqT 32 (.bool false)] [.only [1,2,3,4,11] [1,11,38]] (fH x0 x1 x2 (i0++[n0]) s0) (aM c2 (aM c4 aN))
   ·refine aU H9 fun g0 H10 => ?_;obtain rfl:=sI H10;exact pB 8 [.eqT 30 (.bool false),V2,.eqT 32 (.bool true),r0 [.v,.v,.v,.b,.b,.ap,.rwH 38 (.row 118 2 ((s0++[(aa.mk y0.1 e0.2)]).map ag)),.v]] [.only [1,2,3,4,11] [1,11,38]] (fH x0 x1 x2 (i0++[n0]) (s0++[(aa.mk y0.1 e0.2)])) (aM c2 (aM c5 (aY (vo (c:=ag) kY s0 [(aa.mk y0.1 e0.2)] 32 (by decide) (by simpa using g0)) (aC (xT 118 2 ag s0 [(aa.mk y0.1 e0.2)]) aN))))
  ·obtain rfl:=sI H7;obtain rfl:=sI (GM h3);exact pR 5 [.eqT 30 (.bool true),V2] [.wk 2 []] [] (aM c3 aN)
noncomputable def mI (x0:Linear):Option ((List aa)×Int) :=
 (bG x0).bind fun y0 =>
 bif y0 then (
  (dT).bind fun y1 =>
  (du [] x0.Const 1 y1.1 y1.2.1 y1.2.2).bind fun y2 =>
  (cY (σ:=((List (ai×(List Int)))×(List (ai×(List Int)))×(List (ai×(List ai))))) (ε:=((List (ai×(List Int)))×(List (ai×(List Int)))×(List (ai×(List ai))))) (ρ:=Empty) (fun i0 s0 =>
   (du [((x0.Terms.getD i0 ⟨[],0⟩).Var)] ((x0.Terms.getD i0 ⟨[],0⟩).C) 1 s0.2.2 s0.1 s0.2.1).bind fun y3 =>
   some (.go (y3.2.1,y3.2.2,y3.1))
  ) (fun i0 s0=>(s0.1,s0.2.1,s0.2.2)) (x0.Terms.length-0) 0 (y2.2.1,y2.2.2,y2.1)).bind <| gu fun u0 =>
  (cZ u0.2.2 u0.1 u0.2.1).bind fun y4 =>
  some (y4.1,y4.2)
 ) else (
  some ([],1)
 )
def rV (x0:Linear) (i0:Nat) (s0:(List (ai×(List Int)))×(List (ai×(List Int)))×(List (ai×(List ai)))):AS:=⟨34,[(2,.eslice),(3,iI 0),(4,.hptr 4 0),(16,dS aq x0.Terms),(17,nI x0.Terms.length),(18,nI i0)],[(4,.cells 144 [.amap 900,.amap 901,.amap 902]),(900,.smap 9 90 (s0.2.2.map (aW aG))),(901,.rmap 3 1 (ga ab s0.1)),(902,.rmap 3 1 (ga ab s0.2.1))]⟩
def wZ (u1:(List (ai×(List Int)))×(List (ai×(List Int)))×(List (ai×(List ai)))):AS:=⟨34,[(2,.eslice),(3,iI 0),(4,.hptr 4 0)],[(4,.cells 144 [.amap 900,.amap 901,.amap 902]),(900,.smap 9 90 (u1.2.2.map (aW aG))),(901,.rmap 3 1 (ga ab u1.1)),(902,.rmap 3 1 (ga ab u1.2.1))]⟩
theorem Fp (x0:Linear) (r:(List aa)×Int) (H:mI x0=some r):a8 Tryz.prog 67 [.agg [iI x0.Const,dS aq x0.Terms]] (.tup [dS ag r.1,iI r.2]):=by
 unfold mI at H;refine aX Tryz.func67 34 [.tmp 2,.tmp 3] ?_;refine az H fun y0 h0 H0 => ?_;refine aK H0 (fun c0 H1 => ?_) (fun c1 H2 => ?_)
 ·refine az H1 fun y1 h1 H3 => ?_;refine az H3 fun y2 h2 H4 => ?_;refine pA 16 [r0 [.m,.v,.v],r0 [.v,.c true (.bool y0),.v],.eqT 9 (.bool false),r0 [.hM [] [(1,900),(2,901),(3,902)] (.agg [.amap 1,.amap 2,.amap 3]) [(1,.smap 9 90 (y1.1.map (aW aG))),(2,.rmap 3 1 (ga ab y1.2.1)),(3,.rmap 3 1 (ga ab y1.2.2))],.m,.m],r0 [.v,.v,.v,.hR [(900,1000),(901,1001),(902,1002)] 14 (.tup []) [(1000,.smap 9 90 (y2.1.map (aW aG))),(1001,.rmap 3 1 (ga ab y2.2.1)),(1002,.rmap 3 1 (ga ab y2.2.2))]],r0 [.v,.v,.e (nI x0.Terms.length),.v]] [.only [2,3,4,16,17,18] [4,900,901,902]] 15 [false] (rV x0 0 (y2.2.1,y2.2.2,y2.1)) (aC Tryz.call99 (aF (bc _ _ h0) (aT (aM c0 (aC Tryz.call131 (aC (iq _ h1) (aC Tryz.call132 (aC (bo.es (args:=[.agg [.amap 1000,.amap 1001,.amap 1002],.eslice,iI x0.Const,iI 1]) 1 (jk _ _ _ _ _ _ _ h2) rfl) (aT (aC (aA aq x0.Terms) aN)))))))))) ?_;refine az H4 fun R0 h3 H5 => ?_;refine pJ 1 (wZ) R0 ?_ (fun u0 e0 => ?_)
  ·refine pC (rV x0) h3 (fun i0 s0 h4 e1 => ?_) (fun i0 s0 h5 q0 h6 h7 => ?_)
   ·have c2:=lF i0 x0.Terms.length (by omega);subst e1;exact pB 5 [r0 [.e (.bool false)]] [.only [2,3,4] [4,900,901,902]] (wZ (s0.1,s0.2.1,s0.2.2)) (aB c2 aN)
   ·have c3:=lT i0 x0.Terms.length (by omega);refine az h6 fun y3 h8 H6 => ?_;refine bu 16 (ps:=[(x0.Terms.map aq).length≤9223372036854775807]) (by kernel_rfl) (fun l0 => ?_);have l1:x0.Terms.length≤9223372036854775807:=by simpa only [bt,KW] using l0
    clear l0;obtain rfl:=sI H6;exact pB 11 [r0 [.e (.bool true)],r0 [.e (.dptr (aq (x0.Terms.getD i0 ⟨[],0⟩))),.v,.m,.m],r0 [.v,.v,.v,.b,.v,.v,.hR [(900,1000),(901,1001),(902,1002)] 28 (.tup []) [(1000,.smap 9 90 (y3.1.map (aW aG))),(1001,.rmap 3 1 (ga ab y3.2.1)),(1002,.rmap 3 1 (ga ab y3.2.2))]],V2] [.only [2,3,4,16,17,18] [4,900,901,902]] (rV x0 (i0+1) (y3.2.1,y3.2.2,y3.1)) (aB c3 (aI cU x0.Terms i0 ⟨[],0⟩ (aC Tryz.call132 (aC (jk _ _ _ _ _ _ _ h8) (aH i0 aN)))))
  ·subst e0;have H7:=cn H5;refine az H7 fun y4 h9 H8 => ?_;obtain rfl:=sI H8;exact pR 3 [r0 [.v,.hR [(900,1000),(901,1001),(902,1002)] 31 (.tup [dS ag y4.1,iI y4.2]) [],.v,.v,.v,.v]] [] [] (aC Tryz.call133 (aC (jd _ _ _ _ h9) aN))
 ·obtain rfl:=sI H2;exact pR 10 [r0 [.m,.v,.v],r0 [.v,.c true (.bool y0),.v],.eqT 9 (.bool true),V2] [.wk 2 []] [] (aC Tryz.call99 (aF (bc _ _ h0) (aT (aM c1 aN))))
def gG (x0 x1:aa) (x2:List (ai×(List ai))) (x3 x4:List (ai×(List Int))):Option ((List (ai×(List ai)))×(List (ai×(List Int)))×(List (ai×(List Int)))) :=
 (km [x0.Vars,x1.Vars]).bind fun y0 =>
 (du y0 x0.Coef x1.Coef x2 x3 x4).bind fun y1 =>
 some (y1.1,y1.2.1,y1.2.2)
theorem Ac (x0 x1:aa) (x2:List (ai×(List ai))) (x3 x4:List (ai×(List Int))) (r:(List (ai×(List ai)))×(List (ai×(List Int)))×(List (ai×(List Int)))) (H:gG x0 x1 x2 x3 x4=some r):bo Tryz.prog 199 [.agg [iI x0.Coef,dS ax x0.Vars],.agg [iI x1.Coef,dS ax x1.Vars],.hptr 1000 0] [(1000,.cells 144 [.amap 1001,.amap 1002,.amap 1003]),(1001,.smap 9 90 (x2.map (aW aG))),(1002,.rmap 3 1 (ga ab x3)),(1003,.rmap 3 1 (ga ab x4))] (fun r2 h0=>r2=(.tup [])∧h0=[(1000,.cells 144 [.amap 1001,.amap 1002,.amap 1003]),(1001,.smap 9 90 (r.1.map (aW aG))),(1002,.rmap 3 1 (ga ab r.2.1)),(1003,.rmap 3 1 (ga ab r.2.2))]):=by unfold gG at H;refine aX Tryz.func199 17 [] ?_;refine az H fun y0 h1 H0 => ?_;refine az H0 fun y1 h2 H1 => ?_;obtain rfl:=sI H1;exact pR 3 [r0 [.m,.m],.rg 11 (V 5 [.b,.c true (dS ax y0),.v,.v,.v,.v]) [.hR [(1001,1000),(1002,1001),(1003,1002)] 16 (.tup []) [(1000,.smap 9 90 (y1.1.map (aW aG))),(1001,.rmap 3 1 (ga ab y1.2.1)),(1002,.rmap 3 1 (ga ab y1.2.2))]]] [] [1000,1001,1002,1003] (aC Tryz.call200 (aF (yo ax [x0.Vars,x1.Vars] oT y0 h1) (aC Tryz.call132 (aC (jk _ _ _ _ _ _ _ h2) aN))))
def bY (x0 x1:List aa) (x2:List (ai×(List ai))) (x3 x4:List (ai×(List Int))):Option ((List (ai×(List ai)))×(List (ai×(List Int)))×(List (ai×(List Int)))) :=
 (cY (σ:=((List (ai×(List ai)))×(List (ai×(List Int)))×(List (ai×(List Int))))) (ε:=((List (ai×(List ai)))×(List (ai×(List Int)))×(List (ai×(List Int))))) (ρ:=((List (ai×(List ai)))×(List (ai×(List Int)))×(List (ai×(List Int))))) (fun i0 s0 =>
  (cY (σ:=((List (ai×(List ai)))×(List (ai×(List Int)))×(List (ai×(List Int))))) (ε:=((List (ai×(List ai)))×(List (ai×(List Int)))×(List (ai×(List Int))))) (ρ:=Empty) (fun i1 s1 =>
   (gG (aa.mk ((x0.getD i0 ⟨0,[]⟩).Coef) ((x0.getD i0 ⟨0,[]⟩).Vars)) (aa.mk ((x1.getD i1 ⟨0,[]⟩).Coef) ((x1.getD i1 ⟨0,[]⟩).Vars)) s1.1 s1.2.1 s1.2.2).bind fun y0 =>
   some (.go (y0.1,y0.2.1,y0.2.2))
  ) (fun i1 s1=>(s1.1,s1.2.1,s1.2.2)) (x1.length-0) 0 (s0.1,s0.2.1,s0.2.2)).bind <| gu fun u0 =>
  some (.go (u0.1,u0.2.1,u0.2.2))
 ) (fun i0 s0=>(s0.1,s0.2.1,s0.2.2)) (x0.length-0) 0 (x2,x3,x4)).bind <| aft some
def dZ (x0 x1:List aa) (i0:Nat) (s0:(List (ai×(List ai)))×(List (ai×(List Int)))×(List (ai×(List Int)))):AS:=⟨28,[(1,dS ag x1),(2,.fn 199 [.hptr 1000 0]),(10,dS ag x0),(11,nI x0.length),(12,nI i0)],[(1000,.cells 144 [.amap 1001,.amap 1002,.amap 1003]),(1001,.smap 9 90 (s0.1.map (aW aG))),(1002,.rmap 3 1 (ga ab s0.2.1)),(1003,.rmap 3 1 (ga ab s0.2.2))]⟩
def ec (x0 x1:List aa) (i0 i1:Nat) (s1:(List (ai×(List ai)))×(List (ai×(List Int)))×(List (ai×(List Int)))):AS:=⟨28,[(1,dS ag x1),(2,.fn 199 [.hptr 1000 0]),(7,.hptr 7 0),(10,dS ag x0),(11,nI x0.length),(12,nI i0),(16,dS ag x1),(17,nI x1.length),(18,nI i1)],[(7,.cells 118 [iI ((x0.getD i0 ⟨0,[]⟩).Coef),.dslice (((x0.getD i0 ⟨0,[]⟩).Vars).map ax)]),(1000,.cells 144 [.amap 1001,.amap 1002,.amap 1003]),(1001,.smap 9 90 (s1.1.map (aW aG))),(1002,.rmap 3 1 (ga ab s1.2.1)),(1003,.rmap 3 1 (ga ab s1.2.2))]⟩
def gv (x0 x1:List aa) (i0:Nat) (u1:(List (ai×(List ai)))×(List (ai×(List Int)))×(List (ai×(List Int)))):AS:=⟨28,[(1,dS ag x1),(2,.fn 199 [.hptr 1000 0]),(10,dS ag x0),(11,nI x0.length),(12,nI i0)],[(1000,.cells 144 [.amap 1001,.amap 1002,.amap 1003]),(1001,.smap 9 90 (u1.1.map (aW aG))),(1002,.rmap 3 1 (ga ab u1.2.1)),(1003,.rmap 3 1 (ga ab u1.2.2))]⟩
theorem mF (x0 x1:List aa) (x2:List (ai×(List ai))) (x3 x4:List (ai×(List Int))) (r:(List (ai×(List ai)))×(List (ai×(List Int)))×(List (ai×(List Int)))) (H:bY x0 x1 x2 x3 x4=some r):bo Tryz.prog 198 [dS ag x0,dS ag x1,.fn 199 [.hptr 1000 0]] [(1000,.cells 144 [.amap 1001,.amap 1002,.amap 1003]),(1001,.smap 9 90 (x2.map (aW aG))),(1002,.rmap 3 1 (ga ab x3)),(1003,.rmap 3 1 (ga ab x4))] (fun r2 h0=>r2=(.tup [])∧h0=[(1000,.cells 144 [.amap 1001,.amap 1002,.amap 1003]),(1001,.smap 9 90 (r.1.map (aW aG))),(1002,.rmap 3 1 (ga ab r.2.1)),(1003,.rmap 3 1 (ga ab r.2.2))]):=by
 unfold bY at H;refine aX Tryz.func198 28 [] ?_;refine pA 3 [r0 [.v,.e (nI x0.length),.v]] [.only [1,2,10,11,12] [1000,1001,1002,1003]] 3 [] (dZ x0 x1 0 (x2,x3,x4)) (aT (aC (aA ag x0) aN)) ?_;refine az H fun R0 h1 H0 => ?_;refine pC (dZ x0 x1) h1 (fun i0 s0 h2 e0 => ?_) (fun i0 s0 h3 q0 h4 h5 => ?_)
 ·have c0:=lF i0 x0.length (by omega);subst e0;obtain rfl:=sI (aV H0);exact pR 5 [r0 [.e (.bool false)]] [] [1000,1001,1002,1003] (aB c0 aN)
 ·have c1:=lT i0 x0.length (by omega);refine pA 12 [r0 [.e (.bool true)],r0 [.e (.dptr (ag (x0.getD i0 ⟨0,[]⟩))),.v,.m,.m],r0 [.v,.e (nI x1.length),.v]] [.only [1,2,7,10,11,12,16,17,18] [7,1000,1001,1002,1003]] 12 [true] (ec x0 x1 i0 0 (s0.1,s0.2.1,s0.2.2)) (aB c1 (aI aS x0 i0 ⟨0,[]⟩ (aT (aC (aA ag x1) aN)))) ?_;refine az h4 fun R1 h6 H1 => ?_;refine pJ 2 (gv x0 x1 i0) R1 ?_ (fun u0 e1 => ?_)
  ·refine pC (ec x0 x1 i0) h6 (fun i1 s1 h7 e2 => ?_) (fun i1 s1 h8 q1 h9 h10 => ?_)
   ·have c2:=lF i1 x1.length (by omega);subst e2;exact pB 5 [r0 [.e (.bool false)]] [.only [1,2,10,11,12] [1000,1001,1002,1003]] (gv x0 x1 i0 (s1.1,s1.2.1,s1.2.2)) (aB c2 aN)
   ·have c3:=lT i1 x1.length (by omega);refine az h9 fun y0 h11 H2 => ?_;refine bu 1 (ps:=[(x1.map ag).length≤9223372036854775807]) (by kernel_rfl) (fun l0 => ?_);have l1:x1.length≤9223372036854775807:=by simpa only [bt,KW] using l0
    clear l0;obtain rfl:=sI H2;exact pB 11 [r0 [.e (.bool true)],r0 [.e (.dptr (ag (x1.getD i1 ⟨0,[]⟩))),.v,.m,.m],r0 [.v,.v,.v,.hR [(1000,1000),(1001,1001),(1002,1002),(1003,1003)] 25 (.tup []) [(1000,.cells 144 [.amap 1001,.amap 1002,.amap 1003]),(1001,.smap 9 90 (y0.1.map (aW aG))),(1002,.rmap 3 1 (ga ab y0.2.1)),(1003,.rmap 3 1 (ga ab y0.2.2))]],V2] [.only [1,2,7,10,11,12,16,17,18] [7,1000,1001,1002,1003]] (ec x0 x1 i0 (i1+1) (y0.1,y0.2.1,y0.2.2)) (aB c3 (aI aS x1 i1 ⟨0,[]⟩ (aC Tryz.call199 (aC (Ac _ _ _ _ _ _ h11) (aH i1 aN)))))
  ·subst e1;have H3:=cn H1;refine bu 10 (ps:=[(x0.map ag).length≤9223372036854775807]) (by kernel_rfl) (fun l2 => ?_);have l3:x0.length≤9223372036854775807:=by simpa only [bt,KW] using l2
   clear l2;obtain rfl:=sI H3;exact pB 1 [V2] [.only [1,2,10,11,12] [1000,1001,1002,1003]] (dZ x0 x1 (i0+1) (u0.1,u0.2.1,u0.2.2)) (aH i0 aN)
noncomputable def kc (x0 x1:List aa):Option ((List aa)×Int) :=
 (dT).bind fun y0 =>
 (bY x0 x1 y0.1 y0.2.1 y0.2.2).bind fun y1 =>
 (cZ y1.1 y1.2.1 y1.2.2).bind fun y2 =>
 some (y2.1,y2.2)
theorem wW (x0 x1:List aa) (r:(List aa)×Int) (H:kc x0 x1=some r):a8 Tryz.prog 124 [dS ag x0,dS ag x1] (.tup [dS ag r.1,iI r.2]):=by unfold kc at H;refine aX Tryz.func124 16 [.tmp 4,.tmp 5] ?_;refine az H fun y0 h0 H0 => ?_;refine az H0 fun y1 h1 H1 => ?_;refine az H1 fun y2 h2 H2 => ?_;obtain rfl:=sI H2;exact pR 9 [V2,r0 [.hM [] [(1,900),(2,901),(3,902)] (.agg [.amap 1,.amap 2,.amap 3]) [(1,.smap 9 90 (y0.1.map (aW aG))),(2,.rmap 3 1 (ga ab y0.2.1)),(3,.rmap 3 1 (ga ab y0.2.2))],.m,.m],r0 [.v,.v,.v,.hR [(6,1000),(900,1001),(901,1002),(902,1003)] 11 (.tup []) [(1000,.cells 144 [.amap 1001,.amap 1002,.amap 1003]),(1001,.smap 9 90 (y1.1.map (aW aG))),(1002,.rmap 3 1 (ga ab y1.2.1)),(1003,.rmap 3 1 (ga ab y1.2.2))]],r0 [.v,.hR [(900,1000),(901,1001),(902,1002)] 13 (.tup [dS ag y2.1,iI y2.2]) [],.v,.v,.v,.v]] [] [] (aC Tryz.call131 (aC (iq _ h0) (aC Tryz.call198 (aC (mF _ _ _ _ _ _ h1) (aC Tryz.call133 (aC (jd _ _ _ _ h2) aN))))))
noncomputable def jA (x0:List Linear):Option ((List aa)×Int) :=
 (cY (σ:=(List (List aa))) (ε:=(List (List aa))) (ρ:=((List aa)×Int)) (fun i0 s0 =>
  (mI (Linear.mk ((x0.getD i0 ⟨0,[]⟩).Const) ((x0.getD i0 ⟨0,[]⟩).Terms))).bind fun y0 =>
  bif (y0.2==0) then (
   cy ((s0.length+1)*24≤140737488355328) <|
   some (.go (s0++[y0.1]))
  ) else (
   some (.ret ([],y0.2))
  )
 ) (fun i0 s0=>s0) (x0.length-0) 0 []).bind <| aft fun u0 =>
 (cY (σ:=(List aa)) (ε:=(List aa)) (ρ:=((List aa)×Int)) (fun i1 s1 =>
  (kc s1 (u0.getD i1 [])).bind fun y1 =>
  bif (y1.2==0) then (
   some (.go y1.1)
  ) else (
   some (.ret ([],y1.2))
  )
 ) (fun i1 s1=>s1) (u0.length-0) 0 [(aa.mk 1 [])]).bind <| aft fun u1 =>
 some (u1,0)
def kz (x0:List Linear) (i0:Nat) (s0:List (List aa)):AS:=⟨53,[(2,.eslice),(3,iI 0),(4,.rslice 31),(14,dS ah x0),(15,nI x0.length),(16,nI i0)],[(31,.row 70 1 (s0.map bI))]⟩
def pz (u2:List (List aa)):AS:=⟨53,[(2,.eslice),(3,iI 0),(4,.rslice 31)],[(31,.row 70 1 (u2.map bI))]⟩
def kI (u0:List (List aa)) (i1:Nat) (s1:List aa):AS:=⟨53,[(2,.eslice),(3,iI 0),(9,dS ag s1),(35,.rslice 31),(36,nI u0.length),(37,nI i1)],[(31,.row 70 1 (u0.map bI))]⟩
def pt (u3:List aa):AS:=⟨53,[(2,.eslice),(3,iI 0),(9,dS ag u3)],[]⟩
theorem xD (x0:List Linear) (r:(List aa)×Int) (H:jA x0=some r):a8 Tryz.prog 110 [dS ah x0] (.tup [dS ag r.1,iI r.2]):=by
 unfold jA at H;refine aX Tryz.func110 53 [.tmp 2,.tmp 3] ?_;refine pA 8 [V2,V1,r0 [.v,.e (nI x0.length),.v]] [.er 4 31 70 1,.only [2,3,4,14,15,16] [31]] 8 [] (kz x0 0 []) (aT (aC (aA ah x0) aN)) ?_;refine az H fun R0 h0 H0 => ?_;refine pJ 1 (pz) R0 ?_ (fun u0 e0 => ?_)
 ·refine pC (kz x0) h0 (fun i0 s0 h1 e1 => ?_) (fun i0 s0 h2 q0 h3 h4 => ?_)
  ·have c0:=lF i0 x0.length (by omega);subst e1;exact pB 5 [r0 [.e (.bool false)]] [.only [2,3,4] [31]] (pz s0) (aB c0 aN)
  ·have c1:=lT i0 x0.length (by omega);refine az h3 fun y0 h5 H1 => ?_;refine pA 14 [r0 [.e (.bool true)],r0 [.e (.dptr (ah (x0.getD i0 ⟨0,[]⟩))),.v,.m,.m],r0 [.v,.c true (.tup [dS ag y0.1,iI y0.2]),.v,.v,.v,.v,.v],V2] [.only [2,3,4,7,8,14,15,16,26] [31]] 14 [true] ⟨53,[(2,.eslice),(3,iI 0),(4,.rslice 31),(7,dS ag y0.1),(8,iI y0.2),(14,dS ah x0),(15,nI x0.length),(16,nI i0),(26,.bool (y0.2 != 0))],[(31,.row 70 1 (s0.map bI))]⟩ (aB c1 (aI cD x0 i0 ⟨0,[]⟩ (aC Tryz.call67 (aF (Fp _ _ h5) aN)))) ?_;refine aK H1 (fun c2 H2 => ?_) (fun c3 H3 => ?_)
   ·refine aU H2 fun g0 H4 => ?_;refine bu 14 (ps:=[(x0.map ah).length≤9223372036854775807]) (by kernel_rfl) (fun l0 => ?_);have l1:x0.length≤9223372036854775807:=by simpa only [bt,KW] using l0
    clear l0;obtain rfl:=sI H4;exact pB 5 [.eqT 26 (.bool false),r0 [.v,.v,.b,.ap,.rwH 31 (.row 70 1 ((s0++[y0.1]).map bI)),.v],V2] [.only [2,3,4,14,15,16] [31]] (kz x0 (i0+1) (s0++[y0.1])) (aM c2 (aY (vo (c:=bI) vj s0 [y0.1] 24 (by decide) (by simpa using g0)) (aC (xT 70 1 bI s0 [y0.1]) (aH i0 aN))))
   ·obtain rfl:=sI H3;obtain rfl:=aw h4;obtain rfl:=sI (ao H0);exact pR 5 [.eqT 26 (.bool true),V3] [.wk 2 []] [] (aM c3 aN)
 ·subst e0;have H5:=aV H0;refine pA 6 [r0 [.b,.b,.wk 34 [(0,1)],.v],r0 [.v,.e (nI u0.length),.v]] [.only [2,3,9,35,36,37] [31]] 6 [] (kI u0 0 [(aa.mk 1 [])]) (aT (aC (aA bI u0) aN)) ?_;refine az H5 fun R1 h6 H6 => ?_;refine pJ 1 (pt) R1 ?_ (fun u1 e2 => ?_)
  ·refine pC (kI u0) h6 (fun i1 s1 h7 e3 => ?_) (fun i1 s1 h8 q1 h9 h10 => ?_)
   ·have c4:=lF i1 u0.length (by omega);subst e3;exact pB 5 [r0 [.e (.bool false)]] [.only [2,3,9] []] (pt s1) (aB c4 aN)
   ·have c5:=lT i1 u0.length (by omega);refine az h9 fun y1 h11 H7 => ?_;refine pA 14 [r0 [.e (.bool true)],r0 [.v,.rl i1 0 (.dslice ((u0.getD i1 []).map ag)),.v],r0 [.v,.v,.c true (.tup [dS ag y1.1,iI y1.2]),.v,.v,.v,.v,.v],V2] [.only [2,3,9,12,13,35,36,37,48] [31]] 14 [true] ⟨53,[(2,.eslice),(3,iI 0),(9,dS ag s1),(12,dS ag y1.1),(13,iI y1.2),(35,.rslice 31),(36,nI u0.length),(37,nI i1),(48,.bool (y1.2 != 0))],[(31,.row 70 1 (u0.map bI))]⟩ (aB c5 (aC (show (0:Int)≤((i1:Nat):Int)∧((i1:Nat):Int)<((u0.map bI).length:Int) from by rw [KW];omega) (aC (Kh (f:=bI) (l:=u0) (n:=i1) 1 0 1 (by omega) (by decide)) (aC (Kt (f:=bI) (l:=u0) (n:=i1) [] 0 (by omega)) (aC Tryz.call124 (aF (wW _ _ _ h11) aN)))))) ?_;refine aK H7 (fun c6 H8 => ?_) (fun c7 H9 => ?_)
    ·refine sB 31 (n:=(u0.map bI).length) (by kernel_rfl) (fun l2 => ?_);have l3:u0.length≤9223372036854775807:=by simpa only [KW] using l2
     clear l2;obtain rfl:=sI H8;exact pB 5 [.eqT 48 (.bool false),V2,V2] [.only [2,3,9,35,36,37] [31]] (kI u0 (i1+1) y1.1) (aM c6 (aH i1 aN))
    ·obtain rfl:=sI H9;obtain rfl:=aw h10;obtain rfl:=sI (ao H6);exact pR 5 [.eqT 48 (.bool true),V3] [.wk 2 []] [] (aM c7 aN)
  ·subst e2;have H10:=aV H6;obtain rfl:=sI H10;exact pR 3 [V3] [] [] aN
noncomputable def kn (x0:Shape):Option ((List aa)×Int) :=
 (ct x0).bind fun y0 =>
 bif y0 then (
  bif (x0.Row==[]) then (
   (jA x0.Dims).bind fun y1 =>
   some (y1.1,y1.2)
  ) else (
   some ([],13)
  )
 ) else (
  some ([],1)
 )
theorem x8 (x0:Shape) (r:(List aa)×Int) (H:kn x0=some r):a8 Tryz.prog 77 [.agg [.str x0.Row,dS ah x0.Dims]] (.tup [dS ag r.1,iI r.2]):=by
 unfold kn at H;refine aX Tryz.func77 17 [.tmp 2,.tmp 3] ?_;refine az H fun y0 h0 H0 => ?_;refine aK H0 (fun c0 H1 => ?_) (fun c1 H2 => ?_)
 ·refine aK H1 (fun c2 H3 => ?_) (fun c3 H4 => ?_)
  ·refine az H3 fun y1 h1 H5 => ?_;obtain rfl:=sI H5;exact pR 16 [r0 [.m,.v,.v],r0 [.v,.c true (.bool y0),.v,.v],.eqT 4 (.bool false),V4,.eqT 8 (.bool false),r0 [.v,.v,.c true (.tup [dS ag y1.1,iI y1.2]),.v,.v,.v,.v]] [] [] (aC Tryz.call31 (aF (bj _ _ h0) (aT (aM c0 (aM c2 (aC Tryz.call110 (aF (xD _ _ h1) aN)))))))
  ·obtain rfl:=sI H4;exact pR 15 [r0 [.m,.v,.v],r0 [.v,.c true (.bool y0),.v,.v],.eqT 4 (.bool false),V4,.eqT 8 (.bool true),V2] [.wk 2 []] [] (aC Tryz.call31 (aF (bj _ _ h0) (aT (aM c0 (aM c3 aN)))))
 ·obtain rfl:=sI H2;exact pR 11 [r0 [.m,.v,.v],r0 [.v,.c true (.bool y0),.v,.v],.eqT 4 (.bool true),V2] [.wk 2 []] [] (aC Tryz.call31 (aF (bj _ _ h0) (aT (aM c1 aN))))
def dz (x0 x1:List ai):Option Int :=
 (cY (σ:=Unit) (ε:=Unit) (ρ:=Int) (fun i0 s0 =>
  bif decide (((i0:Nat):Int)<((x1.length:Nat):Int)) then (
   bif (Op.bytesLess (x0.getD i0 []) (x1.getD i0 [])) then (
    some (.ret (-1))
   ) else (
    bif (Op.bytesLess (x0.getD i0 []) (x1.getD i0 [])||(x0.getD i0 [])==(x1.getD i0 [])) then (
     some (.go ())
    ) else (
     some (.ret 1)
    )
   )
  ) else (
   some (.brk ())
  )
 ) (fun i0 s0=>()) (x0.length-0) 0 ()).bind <| aft fun u0 =>
 some (aJ (((x0.length:Nat):Int)-((x1.length:Nat):Int)))
def lM (x0 x1:List ai) (i0:Nat) (s0:Unit):AS:=⟨41,[(0,dS ax x0),(1,dS ax x1),(4,iI 0),(5,nI i0)],[]⟩
def lB (x0 x1:List ai) (u1:Unit):AS:=⟨41,[(0,dS ax x0),(1,dS ax x1),(4,iI 0)],[]⟩
theorem nA (x0 x1:List ai) (r:Int) (H:dz x0 x1=some r):a8 Tryz.prog 122 [dS ax x0,dS ax x1] (iI r):=by
 unfold dz at H;refine aX Tryz.func122 41 [.tmp 4] ?_;refine pA 6 [V1,V1] [.only [0,1,4,5] []] 6 [] (lM x0 x1 0 ()) aN ?_;refine az H fun R0 h0 H0 => ?_;refine pJ 1 (lB x0 x1) R0 ?_ (fun u0 e0 => ?_)
 ·refine pC (lM x0 x1) h0 (fun i0 s0 h1 e1 => ?_) (fun i0 s0 h2 q0 h3 h4 => ?_)
  ·have c0:=lF i0 x0.length (by omega);subst e1;exact pB 5 [r0 [.v,.v,.e (nI x0.length),.e (.bool false),.v,.s,.s,.s,.s,.v]] [.only [0,1,4] []] (lB x0 x1 ()) (aT (aC (aA ax x0) (aB c0 aN)))
  ·have c1:=lT i0 x0.length (by omega);refine aK h3 (fun c2 H1 => ?_) (fun c3 H2 => ?_)
   ·have c2p:=KT c2;refine pA 11 [r0 [.v,.v,.e (nI x0.length),.e (.bool true),.v,.v,.v,.e (nI x1.length),.v,.v],.eqT 15 (.bool true),.rg 8 [.v,.v,.e (.dptr [.str (x0.getD i0 [])]),.v,.v,.v,.e (.dptr [.str (x1.getD i0 [])]),.v] [.v]] [.only [0,1,4,5,26] []] 10 [true] ⟨41,[(0,dS ax x0),(1,dS ax x1),(4,iI 0),(5,nI i0),(26,.bool (Op.bytesLess (x0.getD i0 []) (x1.getD i0 [])))],[]⟩ (aT (aC (aA ax x0) (aB c1 (aT (aC (aA ax x1) (aB c2 (aI bM x0 i0 [] (aI bM x1 i0 [] aN)))))))) ?_;refine aK H1 (fun c4 H3 => ?_) (fun c5 H4 => ?_)
    ·obtain rfl:=sI H3;obtain rfl:=aw h4;obtain rfl:=sI (ao H0);exact pR 5 [.eqT 26 (.bool true),V1] [] [] (aB c4 aN)
    ·refine aK H4 (fun c6 H5 => ?_) (fun c7 H6 => ?_)
     ·refine bu 0 (ps:=[(x0.map ax).length≤9223372036854775807]) (by kernel_rfl) (fun l0 => ?_);have l1:x0.length≤9223372036854775807:=by simpa only [bt,KW] using l0
      clear l0;obtain rfl:=sI H5;exact pB 9 [.eqT 26 (.bool false),.rg 8 [.v,.v,.e (.dptr [.str (x0.getD i0 [])]),.v,.v,.v,.e (.dptr [.str (x1.getD i0 [])]),.v] [.v],.eqT 35 (.bool false),V3] [.only [0,1,4,5] []] (lM x0 x1 (i0+1) ()) (aB c5 (aI bM x0 i0 [] (aI bM x1 i0 [] (aM c6 (aH i0 aN)))))
     ·obtain rfl:=sI H6;obtain rfl:=aw h4;obtain rfl:=sI (ao H0);exact pR 10 [.eqT 26 (.bool false),.rg 8 [.v,.v,.e (.dptr [.str (x0.getD i0 [])]),.v,.v,.v,.e (.dptr [.str (x1.getD i0 [])]),.v] [.v],.eqT 35 (.bool true),V1] [] [] (aB c5 (aI bM x0 i0 [] (aI bM x1 i0 [] (aM c7 aN))))
   ·obtain rfl:=sI H2;obtain rfl:=jz h4;exact pB 6 [r0 [.v,.v,.e (nI x0.length),.e (.bool true),.v,.v,.v,.e (nI x1.length),.v,.v],.eqT 15 (.bool false)] [.only [0,1,4] []] (lB x0 x1 ()) (aT (aC (aA ax x0) (aB c1 (aT (aC (aA ax x1) (aB c3 aN))))))
 ·subst e0;have H7:=aV H0;obtain rfl:=sI H7;exact pR 3 [r0 [.v,.e (nI x0.length),.v,.e (nI x1.length),.w,.v]] [] [] (aT (aC (aA ax x0) (aT (aC (aA ax x1) aN))))
def cK (x0:List aa) (x1:aa):Option (List aa) :=
 (cY (σ:=((List aa)×Bool)) (ε:=((List aa)×Bool)) (ρ:=Empty) (fun i0 s0 =>
  (dz ((x0.getD i0 ⟨0,[]⟩).Vars) x1.Vars).bind fun y0 =>
  ((
   bif s0.2 then (
    some (true,false)
   ) else (
    some (false,decide (y0>0))
   )
  ):Option (Bool×Bool)).bind fun v0 =>
  ((
   bif v0.2 then (
    cy ((s0.1.length+1)*32≤140737488355328) <|
    some ((s0.1++[x1]),true)
   ) else (
    some (s0.1,v0.1)
   )
  ):Option ((List aa)×Bool)).bind fun v1 =>
  ((
   bif v1.2 then (
    some (true,false)
   ) else (
    some (false,(y0==0))
   )
  ):Option (Bool×Bool)).bind fun v2 =>
  ((
   bif v2.2 then (
    some (true,(aJ (((x0.getD i0 ⟨0,[]⟩).Coef)+x1.Coef)))
   ) else (
    some (v2.1,((x0.getD i0 ⟨0,[]⟩).Coef))
   )
  ):Option (Bool×Int)).bind fun v3 =>
  ((
   bif (v3.2==0) then (
    some v1.1
   ) else (
    cy ((v1.1.length+1)*32≤140737488355328) <|
    some (v1.1++[(aa.mk v3.2 ((x0.getD i0 ⟨0,[]⟩).Vars))])
   )
  ):Option (List aa)).bind fun v4 =>
  some (.go (v4,v3.1))
 ) (fun i0 s0=>(s0.1,s0.2)) (x0.length-0) 0 ([],(x1.Coef==0))).bind <| gu fun u0 =>
 bif u0.2 then (
  some u0.1
 ) else (
  cy ((u0.1.length+1)*32≤140737488355328) <|
  some (u0.1++[x1])
 )
def nE (x0:List aa) (x1:aa) (i0:Nat) (s0:(List aa)×Bool):AS:=⟨67,[(0,dS ag x0),(3,.hptr 3 0),(4,.eslice),(5,.rslice 59),(6,.bool s0.2),(7,nI i0)],[(3,.cells 118 [iI x1.Coef,dS ax x1.Vars]),(59,.row 118 2 (s0.1.map ag))]⟩
def rq (x1:aa) (u1:(List aa)×Bool):AS:=⟨67,[(3,.hptr 3 0),(4,.eslice),(5,.rslice 59),(6,.bool u1.2)],[(3,.cells 118 [iI x1.Coef,dS ax x1.Vars]),(59,.row 118 2 (u1.1.map ag))]⟩
def mX (x0:List aa) (x1:aa) (i0:Nat) (s0:(List aa)×Bool) (y0:Int) (v0:Bool×Bool):AS:=⟨67,[(0,dS ag x0),(3,.hptr 3 0),(4,.eslice),(5,.rslice 59),(6,.bool v0.1),(7,nI i0),(8,iI y0),(32,.bool v0.2)],[(3,.cells 118 [iI x1.Coef,dS ax x1.Vars]),(59,.row 118 2 (s0.1.map ag))]⟩
def nq (x0:List aa) (x1:aa) (i0:Nat) (y0:Int) (v1:(List aa)×Bool):AS:=⟨67,[(0,dS ag x0),(3,.hptr 3 0),(4,.eslice),(5,.rslice 59),(6,.bool v1.2),(7,nI i0),(8,iI y0)],[(3,.cells 118 [iI x1.Coef,dS ax x1.Vars]),(59,.row 118 2 (v1.1.map ag))]⟩
def nH (x0:List aa) (x1:aa) (i0:Nat) (v1:(List aa)×Bool) (v2:Bool×Bool):AS:=⟨67,[(0,dS ag x0),(3,.hptr 3 0),(4,.eslice),(5,.rslice 59),(6,.bool v2.1),(7,nI i0),(9,.hptr 9 0),(46,.bool v2.2)],[(3,.cells 118 [iI x1.Coef,dS ax x1.Vars]),(9,.cells 118 [iI ((x0.getD i0 ⟨0,[]⟩).Coef),.dslice (((x0.getD i0 ⟨0,[]⟩).Vars).map ax)]),(59,.row 118 2 (v1.1.map ag))]⟩
def nt (x0:List aa) (x1:aa) (i0:Nat) (v1:(List aa)×Bool) (v3:Bool×Int):AS:=⟨67,[(0,dS ag x0),(3,.hptr 3 0),(4,.eslice),(5,.rslice 59),(6,.bool v3.1),(7,nI i0),(9,.hptr 9 0)],[(3,.cells 118 [iI x1.Coef,dS ax x1.Vars]),(9,.cells 118 [iI v3.2,.dslice (((x0.getD i0 ⟨0,[]⟩).Vars).map ax)]),(59,.row 118 2 (v1.1.map ag))]⟩
def nB (x0:List aa) (x1:aa) (i0:Nat) (v3:Bool×Int) (v4:List aa):AS:=⟨67,[(0,dS ag x0),(3,.hptr 3 0),(4,.eslice),(5,.rslice 59),(6,.bool v3.1),(7,nI i0)],[(3,.cells 118 [iI x1.Coef,dS ax x1.Vars]),(59,.row 118 2 (v4.map ag))]⟩
theorem kZ (x0:List aa) (x1:aa) (r:List aa) (H:cK x0 x1=some r):a8 Tryz.prog 128 [dS ag x0,.agg [iI x1.Coef,dS ax x1.Vars]] (dS ag r):=by
 unfold cK at H;refine aX Tryz.func128 67 [.tmp 4] ?_;refine pA 10 [r0 [.m,.v],V1,V4,V1] [.er 5 59 118 2,.only [0,3,4,5,6,7] [3,59]] 10 [] (nE x0 x1 0 ([],(x1.Coef==0))) aN ?_;refine az H fun R0 h0 H0 => ?_;refine pJ 1 (rq x1) R0 ?_ (fun u0 e0 => ?_)
 ·refine pC (nE x0 x1) h0 (fun i0 s0 h1 e1 => ?_) (fun i0 s0 h2 q0 h3 h4 => ?_)
  ·have c0:=lF i0 x0.length (by omega);subst e1;exact pB 5 [r0 [.v,.v,.e (nI x0.length),.e (.bool false)]] [.only [3,4,5,6] [3,59]] (rq x1 (s0.1,s0.2)) (aT (aC (aA ag x0) (aB c0 aN)))
  ·have c1:=lT i0 x0.length (by omega);refine az h3 fun y0 h5 H1 => ?_;refine pA 11 [r0 [.v,.v,.e (nI x0.length),.e (.bool true)],.rg 7 [.v,.v,.e (.dptr (ag (x0.getD i0 ⟨0,[]⟩))),.v,.v,.v,.v] [.c true (iI y0),.v]] [.only [0,3,4,5,6,7,8] [3,59]] 11 [true] ⟨67,[(0,dS ag x0),(3,.hptr 3 0),(4,.eslice),(5,.rslice 59),(6,.bool s0.2),(7,nI i0),(8,iI y0)],[(3,.cells 118 [iI x1.Coef,dS ax x1.Vars]),(59,.row 118 2 (s0.1.map ag))]⟩ (aT (aC (aA ag x0) (aB c1 (aI aS x0 i0 ⟨0,[]⟩ (aC Tryz.call122 (aF (nA _ _ _ h5) aN)))))) ?_;refine az H1 fun v0 h6 H2 => ?_;refine dF 0 (mX x0 x1 i0 s0 y0 v0) (by kernel_rfl) ?_ ?_
   ·refine aK h6 (fun c2 H3 => ?_) (fun c3 H4 => ?_)
    ·obtain rfl:=sI H3;exact pB 2 [.eqT 6 (.bool true),r0 [.v,.v,.v,.s,.s,.v]] [.only [0,3,4,5,6,7,8,32] [3,59]] (mX x0 x1 i0 s0 y0 (true,false)) (aB c2 (aT aN))
    ·obtain rfl:=sI H4;exact pB 2 [.eqT 6 (.bool false),V6] [.only [0,3,4,5,6,7,8,32] [3,59]] (mX x0 x1 i0 s0 y0 (false,decide (y0>0))) (aB c3 (aT aN))
   ·refine az H2 fun v1 h7 H5 => ?_;refine dF 0 (nq x0 x1 i0 y0 v1) (by kernel_rfl) ?_ ?_
    ·refine aK h7 (fun c4 H6 => ?_) (fun c5 H7 => ?_)
     ·refine aU H6 fun g0 H8 => ?_;obtain rfl:=sI H8;exact pB 5 [.eqT 32 (.bool true),r0 [.v,.v,.b,.ap,.rwH 36 (.row 118 2 ((s0.1++[x1]).map ag)),.v],V1] [.ren [(3,3),(36,59)],.only [0,3,4,5,6,7,8] [3,59]] (nq x0 x1 i0 y0 ((s0.1++[x1]),true)) (aB c4 (aY (vo (c:=ag) kY s0.1 [x1] 32 (by decide) (by simpa using g0)) (aC (xT 118 2 ag s0.1 [x1]) aN)))
     ·obtain rfl:=sI H7;exact pB 3 [.eqT 32 (.bool false)] [.only [0,3,4,5,6,7,8] [3,59]] (nq x0 x1 i0 y0 (s0.1,v0.1)) (aB c5 aN)
    ·refine pA 4 [.rg 0 [] [.v,.v,.e (.dptr (ag (x0.getD i0 ⟨0,[]⟩))),.v,.m,.m]] [.only [0,3,4,5,6,7,8,9] [3,9,59]] 4 [] ⟨67,[(0,.dslice (x0.map ag)),(3,.hptr 3 0),(4,.eslice),(5,.rslice 59),(6,.bool v1.2),(7,.int .i64 ((i0:Nat):Int)),(8,.int .i64 y0),(9,.hptr 9 0)],[(3,.cells 118 [.int .i64 x1.Coef,.dslice (x1.Vars.map ax)]),(9,.cells 118 (ag (x0.getD i0 ⟨0,[]⟩))),(59,.row 118 2 (v1.1.map ag))]⟩ (aI aS x0 i0 ⟨0,[]⟩ aN) ?_;refine az H5 fun v2 h8 H9 => ?_;refine dF 0 (nH x0 x1 i0 v1 v2) (by kernel_rfl) ?_ ?_
     ·refine aK h8 (fun c6 H10 => ?_) (fun c7 H11 => ?_)
      ·obtain rfl:=sI H10;exact pB 2 [.eqT 6 (.bool true),r0 [.v,.v,.v,.s,.s,.v]] [.only [0,3,4,5,6,7,9,46] [3,9,59]] (nH x0 x1 i0 v1 (true,false)) (aB c6 (aT aN))
      ·obtain rfl:=sI H11;exact pB 2 [.eqT 6 (.bool false),V6] [.only [0,3,4,5,6,7,9,46] [3,9,59]] (nH x0 x1 i0 v1 (false,(y0==0))) (aB c7 (aT aN))
     ·refine az H9 fun v3 h9 H12 => ?_;refine dF 0 (nt x0 x1 i0 v1 v3) (by kernel_rfl) ?_ ?_
      ·refine aK h9 (fun c8 H13 => ?_) (fun c9 H14 => ?_)
       ·obtain rfl:=sI H13;exact pB 5 [.eqT 46 (.bool true),r0 (V 4 [.w,.v,.m]),V1] [.only [0,3,4,5,6,7,9] [3,9,59]] (nt x0 x1 i0 v1 (true,(aJ (((x0.getD i0 ⟨0,[]⟩).Coef)+x1.Coef)))) (aB c8 aN)
       ·obtain rfl:=sI H14;exact pB 3 [.eqT 46 (.bool false)] [.only [0,3,4,5,6,7,9] [3,9,59]] (nt x0 x1 i0 v1 (v2.1,((x0.getD i0 ⟨0,[]⟩).Coef))) (aB c9 aN)
      ·refine pA 2 [.rg 0 [] [.v,.v,.v]] [.only [0,3,4,5,6,7,9,55] [3,9,59]] 2 [] ⟨67,[(0,.dslice (x0.map ag)),(3,.hptr 3 0),(4,.eslice),(5,.rslice 59),(6,.bool v3.1),(7,.int .i64 ((i0:Nat):Int)),(9,.hptr 9 0),(55,.bool (v3.2 != 0))],[(3,.cells 118 [.int .i64 x1.Coef,.dslice (x1.Vars.map ax)]),(9,.cells 118 [.int .i64 v3.2,.dslice (((x0.getD i0 ⟨0,[]⟩).Vars).map ax)]),(59,.row 118 2 (v1.1.map ag))]⟩ aN ?_;refine az H12 fun v4 h10 H15 => ?_;refine dF 1 (nB x0 x1 i0 v3 v4) (by kernel_rfl) ?_ ?_
       ·refine aK h10 (fun c10 H16 => ?_) (fun c11 H17 => ?_)
        ·obtain rfl:=sI H16;exact pB 3 [.eqT 55 (.bool false)] [.only [0,3,4,5,6,7] [3,59]] (nB x0 x1 i0 v3 v1.1) (aM c10 aN)
        ·refine aU H17 fun g1 H18 => ?_;obtain rfl:=sI H18;exact pB 3 [.eqT 55 (.bool true),r0 [.v,.v,.b,.ap,.rwH 59 (.row 118 2 ((v1.1++[(aa.mk v3.2 ((x0.getD i0 ⟨0,[]⟩).Vars))]).map ag)),.v]] [.only [0,3,4,5,6,7] [3,59]] (nB x0 x1 i0 v3 (v1.1++[(aa.mk v3.2 ((x0.getD i0 ⟨0,[]⟩).Vars))])) (aM c11 (aY (vo (c:=ag) kY v1.1 [(aa.mk v3.2 ((x0.getD i0 ⟨0,[]⟩).Vars))] 32 (by decide) (by simpa using g1)) (aC (xT 118 2 ag v1.1 [(aa.mk v3.2 ((x0.getD i0 ⟨0,[]⟩).Vars))]) aN)))
       ·refine bu 0 (ps:=[(x0.map ag).length≤9223372036854775807]) (by kernel_rfl) (fun l0 => ?_);have l1:x0.length≤9223372036854775807:=by simpa only [bt,KW] using l0
        clear l0;obtain rfl:=sI H15;exact pB 1 [V3] [.only [0,3,4,5,6,7] [3,59]] (nE x0 x1 (i0+1) (v4,v3.1)) (aH i0 aN)
 ·subst e0;have H19:=cn H0;refine aK H19 (fun c12 H20 => ?_) (fun c13 H21 => ?_)
  ·obtain rfl:=sI H20;exact pR 9 [V2,.eqT 61 (.bool false),V2] [.fz 59] [] (aT (aM c12 aN))
  ·refine aU H21 fun g2 H22 => ?_;obtain rfl:=sI H22;exact pR 9 [V2,.eqT 61 (.bool true),r0 [.v,.v,.b,.ap,.rwH 65 (.row 118 2 ((u0.1++[x1]).map ag)),.v],V2] [.fz 65] [] (aT (aM c13 (aY (vo (c:=ag) kY u0.1 [x1] 32 (by decide) (by simpa using g2)) (aC (xT 118 2 ag u0.1 [x1]) aN))))
def fE (x0:List aa):Option Bool :=
 bif decide (((x0.length:Nat):Int)>60) then (
  some false
 ) else (
  (cY (σ:=Unit) (ε:=Unit) (ρ:=Bool) (fun i0 s0 =>
   ((
    bif (((x0.getD i0 ⟨0,[]⟩).Coef)==0) then (
     some (.ret (.ret false))
    ) else (
     bif decide (((x0.getD i0 ⟨0,[]⟩).Coef)<(-1099511627776)) then (
      some (.ret (.ret false))
     ) else (
      bif decide (((x0.getD i0 ⟨0,[]⟩).Coef)>1099511627776) then (
       some (.ret (.ret false))
      ) else (
       bif decide (((((x0.getD i0 ⟨0,[]⟩).Vars).length:Nat):Int)>8) then (
        some (.ret (.ret false))
       ) else (
        bif decide (((i0:Nat):Int)>0) then (
         cy (0≤(aJ (((i0:Nat):Int)-1))∧(aJ (((i0:Nat):Int)-1))<(x0.length:Int)) <|
         (dz ((x0.getD (aJ (((i0:Nat):Int)-1)).toNat ⟨0,[]⟩).Vars) ((x0.getD i0 ⟨0,[]⟩).Vars)).bind fun y0 =>
         bif decide (y0≥0) then (
          some (.ret (.ret false))
         ) else (
          some (.brk ())
         )
        ) else (
         some (.brk ())
        )
       )
      )
     )
    )
   ):Option (Out Unit (gZ Unit Unit Bool))).bind (aft fun u0 =>
    (cY (σ:=Unit) (ε:=Unit) (ρ:=(gZ Unit Unit Bool)) (fun i1 s1 =>
     (iw (((x0.getD i0 ⟨0,[]⟩).Vars).getD i1 [])).bind fun y1 =>
     ((
      bif y1 then (
       bif decide (((i1:Nat):Int)>0) then (
        cy (0≤(aJ (((i1:Nat):Int)-1))∧(aJ (((i1:Nat):Int)-1))<(((x0.getD i0 ⟨0,[]⟩).Vars).length:Int)) <|
        bif (Op.bytesLess (((x0.getD i0 ⟨0,[]⟩).Vars).getD (aJ (((i1:Nat):Int)-1)).toNat []) (((x0.getD i0 ⟨0,[]⟩).Vars).getD i1 [])||(((x0.getD i0 ⟨0,[]⟩).Vars).getD (aJ (((i1:Nat):Int)-1)).toNat [])==(((x0.getD i0 ⟨0,[]⟩).Vars).getD i1 [])) then (
         some (.brk ())
        ) else (
         some (.ret (.ret (.ret false)))
        )
       ) else (
        some (.brk ())
       )
      ) else (
       some (.ret (.ret (.ret false)))
      )
     ):Option (Out Unit (gZ Unit Unit (gZ Unit Unit Bool)))).bind (aft fun u1 =>
      some (.go ())
     )
    ) (fun i1 s1=>()) (((x0.getD i0 ⟨0,[]⟩).Vars).length-0) 0 ()).bind <| aft fun u2 =>
    some (.go ())
   )
  ) (fun i0 s0=>()) (x0.length-0) 0 ()).bind <| aft fun u3 =>
  some true
 )
def lJ (x0:List aa) (i0:Nat) (s0:Unit):AS:=⟨86,[(0,dS ag x0),(2,.bool false),(3,nI i0)],[]⟩
def pT (u4:Unit):AS:=⟨86,[(2,.bool false)],[]⟩
def lr (x0:List aa) (i0:Nat) (u0:Unit):AS:=⟨86,[(0,dS ag x0),(2,.bool false),(3,nI i0),(4,.hptr 4 0)],[(4,.cells 118 [iI ((x0.getD i0 ⟨0,[]⟩).Coef),.dslice (((x0.getD i0 ⟨0,[]⟩).Vars).map ax)])]⟩
def mi (x0:List aa) (i0 i1:Nat) (s1:Unit):AS:=⟨86,[(0,dS ag x0),(2,.bool false),(3,nI i0),(4,.hptr 4 0),(5,nI i1)],[(4,.cells 118 [iI ((x0.getD i0 ⟨0,[]⟩).Coef),.dslice (((x0.getD i0 ⟨0,[]⟩).Vars).map ax)])]⟩
def qD (x0:List aa) (i0:Nat) (u5:Unit):AS:=⟨86,[(0,dS ag x0),(2,.bool false),(3,nI i0)],[]⟩
def my (x0:List aa) (i0 i1:Nat) (u1:Unit):AS:=⟨86,[(0,dS ag x0),(2,.bool false),(3,nI i0),(4,.hptr 4 0),(5,nI i1)],[(4,.cells 118 [iI ((x0.getD i0 ⟨0,[]⟩).Coef),.dslice (((x0.getD i0 ⟨0,[]⟩).Vars).map ax)])]⟩
theorem dt (x0:List aa) (r:Bool) (H:fE x0=some r):a8 Tryz.prog 52 [dS ag x0] (.bool r):=by
 unfold fE at H;refine aX Tryz.func52 86 [.tmp 2] ?_;refine aK H (fun c0 H0 => ?_) (fun c1 H1 => ?_)
 ·obtain rfl:=sI H0;exact pR 10 [V1,r0 [.v,.e (nI x0.length),.v],.eqT 8 (.bool true),V1] [] [] (aT (aC (aA ag x0) (aB c0 aN)))
 ·have c1p:=KS c1;refine pA 12 [V1,r0 [.v,.e (nI x0.length),.v],.eqT 8 (.bool false),V1] [.only [0,2,3] []] 11 [false] (lJ x0 0 ()) (aT (aC (aA ag x0) (aB c1 aN))) ?_;refine az H1 fun R0 h0 H2 => ?_;refine pJ 1 (pT) R0 ?_ (fun u3 e0 => ?_)
  ·refine pC (lJ x0) h0 (fun i0 s0 h1 e1 => ?_) (fun i0 s0 h2 q0 h3 h4 => ?_)
   ·have c2:=lF i0 x0.length (by omega);subst e1;exact pB 5 [r0 [.v,.v,.e (nI x0.length),.e (.bool false)]] [.only [2] []] (pT ()) (aT (aC (aA ag x0) (aB c2 aN)))
   ·have c3:=lT i0 x0.length (by omega);refine pA 11 [r0 [.v,.v,.e (nI x0.length),.e (.bool true)],r0 [.v,.v,.e (.dptr (ag (x0.getD i0 ⟨0,[]⟩))),.v,.m,.m]] [.only [0,2,3,4] [4]] 11 [true] ⟨86,[(0,dS ag x0),(2,.bool false),(3,nI i0),(4,.hptr 4 0)],[(4,.cells 118 (ag (x0.getD i0 ⟨0,[]⟩)))]⟩ (aT (aC (aA ag x0) (aB c3 (aI aS x0 i0 ⟨0,[]⟩ aN)))) ?_;refine az h3 fun v0 h5 H3 => ?_;refine pJ 1 (lr x0 i0) v0 ?_ (fun u0 e2 => ?_)
    ·refine aK h5 (fun c4 H4 => ?_) (fun c5 H5 => ?_)
     ·obtain rfl:=sI H4;obtain rfl:=sI (ao H3);obtain rfl:=aw h4;obtain rfl:=sI (ao H2);exact pR 5 [.rg 31 [.v,.v,.e (.bool true),.v,.s,.s,.s,.v,.v,.s,.s,.s,.v,.v,.s,.s,.s,.s,.v,.v,.s,.s,.s,.s,.s,.s,.s,.s,.s,.s,.s] [.s,.s,.s,.v],V1] [] [] (aB c4 aN)
     ·refine aK H5 (fun c6 H6 => ?_) (fun c7 H7 => ?_)
      ·obtain rfl:=sI H6;obtain rfl:=sI (ao H3);obtain rfl:=aw h4;obtain rfl:=sI (ao H2);exact pR 5 [.rg 31 [.v,.v,.e (.bool false),.v,.v,.v,.e (.bool true),.v,.v,.s,.s,.s,.v,.v,.s,.s,.s,.s,.v,.v,.s,.s,.s,.s,.s,.s,.s,.s,.s,.s,.s] [.s,.s,.s,.v],V1] [] [] (aB c5 (aB c6 aN))
      ·refine aK H7 (fun c8 H8 => ?_) (fun c9 H9 => ?_)
       ·obtain rfl:=sI H8;obtain rfl:=sI (ao H3);obtain rfl:=aw h4;obtain rfl:=sI (ao H2);exact pR 5 [.rg 31 [.v,.v,.e (.bool false),.v,.v,.v,.e (.bool false),.v,.v,.v,.v,.e (.bool true),.v,.v,.s,.s,.s,.s,.v,.v,.s,.s,.s,.s,.s,.s,.s,.s,.s,.s,.s] [.s,.s,.s,.v],V1] [] [] (aB c5 (aB c7 (aB c8 aN)))
       ·refine aK H9 (fun c10 H10 => ?_) (fun c11 H11 => ?_)
        ·obtain rfl:=sI H10;obtain rfl:=sI (ao H3);obtain rfl:=aw h4;obtain rfl:=sI (ao H2);exact pR 5 [.rg 31 [.v,.v,.e (.bool false),.v,.v,.v,.e (.bool false),.v,.v,.v,.v,.e (.bool false),.v,.v,.v,.v,.e (iI ((((x0.getD i0 ⟨0,[]⟩).Vars).length:Nat):Int)),.e (.bool true),.v,.v,.s,.s,.s,.s,.s,.s,.s,.s,.s,.s,.s] [.s,.s,.s,.v],V1] [] [] (aB c5 (aB c7 (aB c9 (aT (aC (aA ax ((x0.getD i0 ⟨0,[]⟩).Vars)) (aB c10 aN))))))
        ·refine aK H11 (fun c12 H12 => ?_) (fun c13 H13 => ?_)
         ·refine aU H12 fun g0 H14 => ?_;refine az H14 fun y0 h6 H15 => ?_;refine pA 1 [.rg 31 [.v,.v,.e (.bool false),.v,.v,.v,.e (.bool false),.v,.v,.v,.v,.e (.bool false),.v,.v,.v,.v,.e (iI ((((x0.getD i0 ⟨0,[]⟩).Vars).length:Nat):Int)),.e (.bool false),.v,.v,.v,.e (.bool true),.v,.v,.v,.w,.e (.dptr (ag (x0.getD (aJ (((i0:Nat):Int)-1)).toNat ⟨0,[]⟩))),.v,.v,.v,.v] [.c true (iI y0),.v,.v,.v]] [.only [0,2,3,4,53] [4]] 1 [] ⟨86,[(0,dS ag x0),(2,.bool false),(3,nI i0),(4,.hptr 4 0),(53,.bool (decide (y0≥0)))],[(4,.cells 118 (ag (x0.getD i0 ⟨0,[]⟩)))]⟩ (aB c5 (aB c7 (aB c9 (aT (aC (aA ax ((x0.getD i0 ⟨0,[]⟩).Vars)) (aB c11 (aB c12 (aY (yw (f:=ag) (l:=x0) (n:=(aJ (((i0:Nat):Int)-1))) ⟨0,[]⟩ aS (by decide) (by exact g0)) (aC Tryz.call122 (aF (nA _ _ _ h6) aN)))))))))) ?_;refine aK H15 (fun c14 H16 => ?_) (fun c15 H17 => ?_)
          ·obtain rfl:=sI H16;obtain rfl:=sI (ao H3);obtain rfl:=aw h4;obtain rfl:=sI (ao H2);exact pR 5 [.eqT 53 (.bool true),V1] [] [] (aB c14 aN)
          ·obtain rfl:=sI H17;exact pB 3 [.eqT 53 (.bool false)] [.only [0,2,3,4] [4]] (lr x0 i0 ()) (aB c15 aN)
         ·obtain rfl:=sI H13;exact pB 3 [.rg 31 [.v,.v,.e (.bool false),.v,.v,.v,.e (.bool false),.v,.v,.v,.v,.e (.bool false),.v,.v,.v,.v,.e (iI ((((x0.getD i0 ⟨0,[]⟩).Vars).length:Nat):Int)),.e (.bool false),.v,.v,.v,.e (.bool false),.v,.s,.s,.s,.s,.s,.s,.s,.s] [.s,.s,.v,.v]] [.only [0,2,3,4] [4]] (lr x0 i0 ()) (aB c5 (aB c7 (aB c9 (aT (aC (aA ax ((x0.getD i0 ⟨0,[]⟩).Vars)) (aB c11 (aB c13 aN)))))))
    ·subst e2;have H18:=aV H3;refine pA 3 [V1] [.only [0,2,3,4,5] [4]] 3 [] (mi x0 i0 0 ()) aN ?_;refine az H18 fun R1 h7 H19 => ?_;refine pJ 2 (qD x0 i0) R1 ?_ (fun u2 e3 => ?_)
     ·refine pC (mi x0 i0) h7 (fun i1 s1 h8 e4 => ?_) (fun i1 s1 h9 q1 h10 h11 => ?_)
      ·have c16:=lF i1 (((x0.getD i0 ⟨0,[]⟩).Vars).length) (by omega);subst e4;exact pB 5 [r0 [.v,.v,.v,.e (iI ((((x0.getD i0 ⟨0,[]⟩).Vars).length:Nat):Int)),.e (.bool false)]] [.only [0,2,3] []] (qD x0 i0 ()) (aT (aC (aA ax ((x0.getD i0 ⟨0,[]⟩).Vars)) (aB c16 aN)))
      ·have c17:=lT i1 (((x0.getD i0 ⟨0,[]⟩).Vars).length) (by omega);refine az h10 fun y1 h12 H20 => ?_;refine pA 8 [r0 [.v,.v,.v,.e (iI ((((x0.getD i0 ⟨0,[]⟩).Vars).length:Nat):Int)),.e (.bool true)]] [.only [0,2,3,4,5] [4]] 8 [true] ⟨86,[(0,dS ag x0),(2,.bool false),(3,nI i0),(4,.hptr 4 0),(5,nI i1)],[(4,.cells 118 (ag (x0.getD i0 ⟨0,[]⟩)))]⟩ (aT (aC (aA ax ((x0.getD i0 ⟨0,[]⟩).Vars)) (aB c17 aN))) ?_;refine az H20 fun v1 h13 H21 => ?_;refine pJ 2 (my x0 i0 i1) v1 ?_ (fun u1 e5 => ?_)
       ·refine aK h13 (fun c18 H22 => ?_) (fun c19 H23 => ?_)
        ·refine aK H22 (fun c20 H24 => ?_) (fun c21 H25 => ?_)
         ·have c20p:=KT c20;refine aU H24 fun g1 H26 => ?_;refine pA 1 [.rg 22 [.v,.v,.v,.e (.dptr [.str (((x0.getD i0 ⟨0,[]⟩).Vars).getD i1 [])]),.v,.c true (.bool true),.v,.v,.v,.e (.bool true),.v,.v,.v,.v,.w,.e (.dptr [.str (((x0.getD i0 ⟨0,[]⟩).Vars).getD (aJ (((i1:Nat):Int)-1)).toNat [])]),.v,.v,.v,.v,.e (.dptr [.str (((x0.getD i0 ⟨0,[]⟩).Vars).getD i1 [])]),.v] [.v,.v,.v]] [.only [0,2,3,4,5,85] [4]] 1 [] ⟨86,[(0,dS ag x0),(2,.bool false),(3,nI i0),(4,.hptr 4 0),(5,nI i1),(85,.bool (!(Op.bytesLess (((x0.getD i0 ⟨0,[]⟩).Vars).getD (aJ (((i1:Nat):Int)-1)).toNat []) (((x0.getD i0 ⟨0,[]⟩).Vars).getD i1 [])||(((x0.getD i0 ⟨0,[]⟩).Vars).getD (aJ (((i1:Nat):Int)-1)).toNat [])==(((x0.getD i0 ⟨0,[]⟩).Vars).getD i1 []))))],[(4,.cells 118 (ag (x0.getD i0 ⟨0,[]⟩)))]⟩ (aI bM (((x0.getD i0 ⟨0,[]⟩).Vars)) i1 [] (aC Tryz.call100 (aC (a8.eq (dM _ _ h12) (cB c18)) (aT (aB c20 (aY (yw (f:=ax) (l:=((x0.getD i0 ⟨0,[]⟩).Vars)) (n:=(aJ (((i1:Nat):Int)-1))) [] bM (by decide) (by exact g1)) (aI bM (((x0.getD i0 ⟨0,[]⟩).Vars)) i1 [] aN))))))) ?_;refine aK H26 (fun c22 H27 => ?_) (fun c23 H28 => ?_)
          ·obtain rfl:=sI H27;exact pB 3 [.eqT 85 (.bool false)] [.only [0,2,3,4,5] [4]] (my x0 i0 i1 ()) (aM c22 aN)
          ·obtain rfl:=sI H28;obtain rfl:=sI (ao H21);obtain rfl:=aw h11;obtain rfl:=sI (ao H19);obtain rfl:=aw h4;obtain rfl:=sI (ao H2);exact pR 5 [.eqT 85 (.bool true),V1] [] [] (aM c23 aN)
         ·have c21p:=KS c21;obtain rfl:=sI H25;exact pB 3 [.rg 22 [.v,.v,.v,.e (.dptr [.str (((x0.getD i0 ⟨0,[]⟩).Vars).getD i1 [])]),.v,.c true (.bool true),.v,.v,.v,.e (.bool false),.v,.s,.s,.s,.s,.s,.s,.s,.s,.s,.s,.s] [.s,.v,.v]] [.only [0,2,3,4,5] [4]] (my x0 i0 i1 ()) (aI bM (((x0.getD i0 ⟨0,[]⟩).Vars)) i1 [] (aC Tryz.call100 (aC (a8.eq (dM _ _ h12) (cB c18)) (aT (aB c21 aN)))))
        ·obtain rfl:=sI H23;obtain rfl:=sI (ao H21);obtain rfl:=aw h11;obtain rfl:=sI (ao H19);obtain rfl:=aw h4;obtain rfl:=sI (ao H2);exact pR 5 [.rg 22 [.v,.v,.v,.e (.dptr [.str (((x0.getD i0 ⟨0,[]⟩).Vars).getD i1 [])]),.v,.c true (.bool false),.v,.v,.s,.s,.s,.s,.s,.s,.s,.s,.s,.s,.s,.s,.s,.s] [.s,.s,.v],V1] [] [] (aI bM (((x0.getD i0 ⟨0,[]⟩).Vars)) i1 [] (aC Tryz.call100 (aC (a8.eq (dM _ _ h12) (cB c19)) (aT aN))))
       ·subst e5;have H29:=aV H21;refine jP 4 1 (ps:=[(((x0.getD i0 ⟨0,[]⟩).Vars).map ax).length≤9223372036854775807]) (by kernel_rfl) (fun l0 => ?_);have l1:((x0.getD i0 ⟨0,[]⟩).Vars).length≤9223372036854775807:=by simpa only [bt,KW] using l0
        clear l0;obtain rfl:=sI H29;exact pB 1 [V3] [.only [0,2,3,4,5] [4]] (mi x0 i0 (i1+1) ()) (aH i1 aN)
     ·subst e3;have H30:=aV H19;refine bu 0 (ps:=[(x0.map ag).length≤9223372036854775807]) (by kernel_rfl) (fun l2 => ?_);have l3:x0.length≤9223372036854775807:=by simpa only [bt,KW] using l2
      clear l2;obtain rfl:=sI H30;exact pB 1 [V3] [.only [0,2,3] []] (lJ x0 (i0+1) ()) (aH i0 aN)
  ·subst e0;have H31:=aV H2;obtain rfl:=sI H31;exact pR 3 [V1] [] [] aN
def dv (x0:List aa):Option ((List aa)×Int) :=
 (fE x0).bind fun y0 =>
 bif y0 then (
  some (x0,0)
 ) else (
  some ([],3)
 )
theorem ky (x0:List aa) (r:(List aa)×Int) (H:dv x0=some r):a8 Tryz.prog 126 [dS ag x0] (.tup [dS ag r.1,iI r.2]):=by
 unfold dv at H;refine aX Tryz.func126 8 [.tmp 2,.tmp 3] ?_;refine az H fun y0 h0 H0 => ?_;refine aK H0 (fun c0 H1 => ?_) (fun c1 H2 => ?_)
 ·obtain rfl:=sI H1;exact pR 11 [V2,r0 [.v,.c true (.bool y0),.v],.eqT 6 (.bool false),V3] [] [] (aC Tryz.call52 (aF (dt _ _ h0) (aT (aM c0 aN))))
 ·obtain rfl:=sI H2;exact pR 10 [V2,r0 [.v,.c true (.bool y0),.v],.eqT 6 (.bool true),V2] [.wk 2 []] [] (aC Tryz.call52 (aF (dt _ _ h0) (aT (aM c1 aN))))
def gN (x0:Int):Option ((List aa)×Int) :=
 (cK [] (aa.mk x0 [])).bind fun y0 =>
 (dv y0).bind fun y1 =>
 some (y1.1,y1.2)
theorem wQ (x0:Int) (r:(List aa)×Int) (H:gN x0=some r):a8 Tryz.prog 69 [iI x0] (.tup [dS ag r.1,iI r.2]):=by unfold gN at H;refine aX Tryz.func69 10 [.tmp 2,.tmp 3] ?_;refine az H fun y0 h0 H0 => ?_;refine az H0 fun y1 h1 H1 => ?_;obtain rfl:=sI H1;exact pR 5 [V2,r0 [.v,.b,.cw true [(0,[]),(1,[(1,0)])] (dS ag y0),.c true (.tup [dS ag y1.1,iI y1.2]),.v,.v,.v,.v]] [] [] (aC Tryz.call128 (aF (kZ _ _ _ h0) (aC Tryz.call126 (aF (ky _ _ h1) aN))))
def lX (x0:Linear):Option ((List aa)×Int) :=
 (fC x0).bind fun y0 =>
 bif y0 then (
  (cK [] (aa.mk x0.Const [])).bind fun y1 =>
  (cY (σ:=(List aa)) (ε:=(List aa)) (ρ:=Empty) (fun i0 s0 =>
   (cK s0 (aa.mk ((x0.Terms.getD i0 ⟨[],0⟩).C) [((x0.Terms.getD i0 ⟨[],0⟩).Var)])).bind fun y2 =>
   some (.go y2)
  ) (fun i0 s0=>s0) (x0.Terms.length-0) 0 y1).bind <| gu fun u0 =>
  (dv u0).bind fun y3 =>
  some (y3.1,y3.2)
 ) else (
  some ([],1)
 )
def qx (x0:Linear) (i0:Nat) (s0:List aa):AS:=⟨40,[(1,.hptr 1 0),(2,.eslice),(3,iI 0),(4,dS ag s0),(5,nI i0)],[(1,.cells 39 [iI x0.Const,dS aq x0.Terms])]⟩
def uK (u1:List aa):AS:=⟨40,[(2,.eslice),(3,iI 0),(4,dS ag u1)],[]⟩
theorem CI (x0:Linear) (r:(List aa)×Int) (H:lX x0=some r):a8 Tryz.prog 68 [.agg [iI x0.Const,dS aq x0.Terms]] (.tup [dS ag r.1,iI r.2]):=by
 unfold lX at H;refine aX Tryz.func68 40 [.tmp 2,.tmp 3] ?_;refine az H fun y0 h0 H0 => ?_;refine aK H0 (fun c0 H1 => ?_) (fun c1 H2 => ?_)
 ·refine az H1 fun y1 h1 H3 => ?_;refine pA 14 [r0 [.m,.v,.v],r0 [.v,.c true (.bool y0),.v],.eqT 8 (.bool false),r0 [.v,.v,.b,.cw true [(0,[]),(1,[(1,0)])] (dS ag y1),.v],V1] [.only [1,2,3,4,5] [1]] 13 [false] (qx x0 0 y1) (aC Tryz.call87 (aF (fT _ _ h0) (aT (aM c0 (aC Tryz.call128 (aF (kZ _ _ _ h1) aN)))))) ?_;refine az H3 fun R0 h2 H4 => ?_;refine pJ 1 (uK) R0 ?_ (fun u0 e0 => ?_)
  ·refine pC (qx x0) h2 (fun i0 s0 h3 e1 => ?_) (fun i0 s0 h4 q0 h5 h6 => ?_)
   ·have c2:=lF i0 x0.Terms.length (by omega);subst e1;exact pB 5 [r0 [.v,.v,.v,.e (nI x0.Terms.length),.e (.bool false)]] [.only [2,3,4] []] (uK s0) (aT (aC (aA aq x0.Terms) (aB c2 aN)))
   ·have c3:=lT i0 x0.Terms.length (by omega);refine az h5 fun y2 h7 H5 => ?_;refine jP 1 1 (ps:=[(x0.Terms.map aq).length≤9223372036854775807]) (by kernel_rfl) (fun l0 => ?_);have l1:x0.Terms.length≤9223372036854775807:=by simpa only [bt,KW] using l0
    clear l0;obtain rfl:=sI H5;exact pB 9 [r0 [.v,.v,.v,.e (nI x0.Terms.length),.e (.bool true)],.rg 15 (V 4 [.e (.dptr (aq (x0.Terms.getD i0 ⟨[],0⟩))),.v,.v,.v,.v,.v,.e (.dptr (aq (x0.Terms.getD i0 ⟨[],0⟩))),.v,.v,.b,.b]) [.c true (dS ag y2),.v],V3] [.only [1,2,3,4,5] [1]] (qx x0 (i0+1) y2) (aT (aC (aA aq x0.Terms) (aB c3 (aI cU x0.Terms i0 ⟨[],0⟩ (aI cU x0.Terms i0 ⟨[],0⟩ (aC Tryz.call128 (aF (kZ _ _ _ h7) (aH i0 aN))))))))
  ·subst e0;have H6:=cn H4;refine az H6 fun y3 h8 H7 => ?_;obtain rfl:=sI H7;exact pR 3 [r0 [.v,.c true (.tup [dS ag y3.1,iI y3.2]),.v,.v,.v,.v]] [] [] (aC Tryz.call126 (aF (ky _ _ h8) aN))
 ·obtain rfl:=sI H2;exact pR 10 [r0 [.m,.v,.v],r0 [.v,.c true (.bool y0),.v],.eqT 8 (.bool true),V2] [.wk 2 []] [] (aC Tryz.call87 (aF (fT _ _ h0) (aT (aM c1 aN))))
def jF (x0 x1:List ai):Option (List ai) :=
 (xU (σ:=((List ai)×Int×Int)) (ε:=(List ai)) (ρ:=Empty) (fun s0 =>
  ((
   bif decide (s0.2.1<((x0.length:Nat):Int)) then (
    some (.brk ())
   ) else (
    bif decide (s0.2.2<((x1.length:Nat):Int)) then (
     some (.brk ())
    ) else (
     some (.ret (.brk s0.1))
    )
   )
  ):Option (Out Unit (gZ ((List ai)×Int×Int) (List ai) Empty))).bind (aft fun u0 =>
   ((
    bif (s0.2.2==((x1.length:Nat):Int)) then (
     some true
    ) else (
     bif decide (s0.2.1<((x0.length:Nat):Int)) then (
      cy (0≤s0.2.1∧s0.2.1<(x0.length:Int)) <|
      cy (0≤s0.2.2∧s0.2.2<(x1.length:Int)) <|
      some (Op.bytesLess (x0.getD s0.2.1.toNat []) (x1.getD s0.2.2.toNat [])||(x0.getD s0.2.1.toNat [])==(x1.getD s0.2.2.toNat []))
     ) else (
      some false
     )
    )
   ):Option Bool).bind fun v0 =>
   bif v0 then (
    cy (0≤s0.2.1∧s0.2.1<(x0.length:Int)) <|
    cy ((s0.1.length+1)*16≤140737488355328) <|
    some (.go ((s0.1++[(x0.getD s0.2.1.toNat [])]),(aJ (s0.2.1+1)),s0.2.2))
   ) else (
    cy (0≤s0.2.2∧s0.2.2<(x1.length:Int)) <|
    cy ((s0.1.length+1)*16≤140737488355328) <|
    some (.go ((s0.1++[(x1.getD s0.2.2.toNat [])]),s0.2.1,(aJ (s0.2.2+1))))
   )
  )
 ) 4294967296 ([],0,0)).bind <| gu fun u1 =>
 some u1
def j3 (x0 x1:List ai) (s0:(List ai)×Int×Int):AS:=⟨58,[(0,dS ax x0),(1,dS ax x1),(4,.eslice),(5,.rslice 54),(6,iI s0.2.1),(7,iI s0.2.2)],[(54,.row 9 1 (s0.1.map ax))]⟩
def rE (u2:List ai):AS:=⟨58,[(4,.eslice),(5,.rslice 54)],[(54,.row 9 1 (u2.map ax))]⟩
def ns (x0 x1:List ai) (s0:(List ai)×Int×Int) (u0:Unit):AS:=⟨58,[(0,dS ax x0),(1,dS ax x1),(4,.eslice),(5,.rslice 54),(6,iI s0.2.1),(7,iI s0.2.2)],[(54,.row 9 1 (s0.1.map ax))]⟩
def jZ (x0 x1:List ai) (s0:(List ai)×Int×Int) (v0:Bool):AS:=⟨58,[(0,dS ax x0),(1,dS ax x1),(4,.eslice),(5,.rslice 54),(6,iI s0.2.1),(7,iI s0.2.2),(38,.bool v0)],[(54,.row 9 1 (s0.1.map ax))]⟩
theorem zB (x0 x1 r:List ai) (H:jF x0 x1=some r):a8 Tryz.prog 129 [dS ax x0,dS ax x1] (dS ax r):=by
 unfold jF at H;refine aX Tryz.func129 58 [.tmp 4] ?_;refine pA 8 [V1,V1,V2] [.er 5 54 9 1,.only [0,1,4,5,6,7] [54]] 8 [] (j3 x0 x1 ([],0,0)) aN ?_;refine az H fun R0 h0 H0 => ?_;refine pJ 1 (rE) R0 ?_ (fun u1 e0 => ?_)
 ·refine AL (j3 x0 x1) (by kernel_rfl) h0 (fun s0 q0 h1 h2 => ?_)
  ·refine pA 2 [] [.only [0,1,4,5,6,7] [54]] 2 [] ⟨58,[(0,.dslice (x0.map ax)),(1,.dslice (x1.map ax)),(4,.eslice),(5,.rslice 54),(6,.int .i64 s0.2.1),(7,.int .i64 s0.2.2)],[(54,.row 9 1 (s0.1.map ax))]⟩ aN ?_;refine az h1 fun v1 h3 H1 => ?_;refine pJ 1 (ns x0 x1 s0) v1 ?_ (fun u0 e1 => ?_)
   ·refine aK h3 (fun c0 H2 => ?_) (fun c1 H3 => ?_)
    ·obtain rfl:=sI H2;exact pB 3 [r0 [.v,.v,.e (nI x0.length),.e (.bool true),.v,.s,.s,.s,.s,.v]] [.only [0,1,4,5,6,7] [54]] (ns x0 x1 s0 ()) (aT (aC (aA ax x0) (aB c0 aN)))
    ·refine aK H3 (fun c2 H4 => ?_) (fun c3 H5 => ?_)
     ·obtain rfl:=sI H4;exact pB 4 [r0 [.v,.v,.e (nI x0.length),.e (.bool false),.v,.v,.v,.e (nI x1.length),.v,.v],.eqT 17 (.bool true)] [.only [0,1,4,5,6,7] [54]] (ns x0 x1 s0 ()) (aT (aC (aA ax x0) (aB c1 (aT (aC (aA ax x1) (aB c2 aN))))))
     ·obtain rfl:=sI H5;obtain rfl:=sI (ao H1);obtain rfl:=jz h2;exact pB 4 [r0 [.v,.v,.e (nI x0.length),.e (.bool false),.v,.v,.v,.e (nI x1.length),.v,.v],.eqT 17 (.bool false)] [.only [4,5] [54]] (rE s0.1) (aT (aC (aA ax x0) (aB c1 (aT (aC (aA ax x1) (aB c3 aN))))))
   ·subst e1;have H6:=aV H1;refine pA 2 [] [.only [0,1,4,5,6,7] [54]] 2 [] ⟨58,[(0,dS ax x0),(1,dS ax x1),(4,.eslice),(5,.rslice 54),(6,iI s0.2.1),(7,iI s0.2.2)],[(54,.row 9 1 (s0.1.map ax))]⟩ aN ?_;refine az H6 fun v0 h4 H7 => ?_;refine dF 0 (jZ x0 x1 s0 v0) (by kernel_rfl) ?_ ?_
    ·refine aK h4 (fun c4 H8 => ?_) (fun c5 H9 => ?_)
     ·obtain rfl:=sI H8;exact pB 1 [.rg 18 [.v,.v,.e (nI x1.length),.e (.bool true),.v,.s,.s,.s,.s,.s,.s,.s,.s,.s,.s,.s,.s,.s] [.s,.s,.v]] [.only [0,1,4,5,6,7,38] [54]] (jZ x0 x1 s0 true) (aT (aC (aA ax x1) (aB c4 aN)))
     ·refine aK H9 (fun c6 H10 => ?_) (fun c7 H11 => ?_)
      ·refine aU H10 fun g0 H12 => ?_;refine aU H12 fun g1 H13 => ?_;obtain rfl:=sI H13;exact pB 1 [.rg 18 [.v,.v,.e (nI x1.length),.e (.bool false),.v,.v,.v,.e (nI x0.length),.e (.bool true),.v,.v,.v,.e (.dptr [.str (x0.getD s0.2.1.toNat [])]),.v,.v,.v,.e (.dptr [.str (x1.getD s0.2.2.toNat [])]),.v] [.v,.v,.v]] [.only [0,1,4,5,6,7,38] [54]] (jZ x0 x1 s0 (Op.bytesLess (x0.getD s0.2.1.toNat []) (x1.getD s0.2.2.toNat [])||(x0.getD s0.2.1.toNat [])==(x1.getD s0.2.2.toNat []))) (aT (aC (aA ax x1) (aB c5 (aT (aC (aA ax x0) (aB c6 (aY (yw (f:=ax) (l:=x0) (n:=s0.2.1) [] bM (by decide) (by exact g0)) (aY (yw (f:=ax) (l:=x1) (n:=s0.2.2) [] bM (by decide) (by exact g1)) aN))))))))
      ·obtain rfl:=sI H11;exact pB 1 [.rg 18 [.v,.v,.e (nI x1.length),.e (.bool false),.v,.v,.v,.e (nI x0.length),.e (.bool false),.v,.s,.s,.s,.s,.s,.s,.s,.s] [.s,.v,.v]] [.only [0,1,4,5,6,7,38] [54]] (jZ x0 x1 s0 false) (aT (aC (aA ax x1) (aB c5 (aT (aC (aA ax x0) (aB c7 aN))))))
    ·refine aK H7 (fun c8 H14 => ?_) (fun c9 H15 => ?_)
     ·refine aU H14 fun g2 H16 => ?_;refine aU H16 fun g3 H17 => ?_;obtain rfl:=sI H17;exact pB 5 [.eqT 38 (.bool true),r0 [.v,.v,.v,.e (.dptr [.str (x0.getD s0.2.1.toNat [])]),.v,.b,.ap,.rwH 45 (.row 9 1 ((s0.1++[(x0.getD s0.2.1.toNat [])]).map ax)),.v],r0 [.v,.w,.v]] [.ren [(45,54)],.only [0,1,4,5,6,7] [54]] (j3 x0 x1 ((s0.1++[(x0.getD s0.2.1.toNat [])]),(aJ (s0.2.1+1)),s0.2.2)) (aB c8 (aY (yw (f:=ax) (l:=x0) (n:=s0.2.1) [] bM (by decide) (by exact g2)) (aY (vo (c:=ax) oT s0.1 [(x0.getD s0.2.1.toNat [])] 16 (by decide) (by simpa using g3)) (aC (xT 9 1 ax s0.1 [(x0.getD s0.2.1.toNat [])]) aN))))
     ·refine aU H15 fun g4 H18 => ?_;refine aU H18 fun g5 H19 => ?_;obtain rfl:=sI H19;exact pB 5 [.eqT 38 (.bool false),r0 [.v,.v,.v,.e (.dptr [.str (x1.getD s0.2.2.toNat [])]),.v,.b,.ap,.rwH 54 (.row 9 1 ((s0.1++[(x1.getD s0.2.2.toNat [])]).map ax)),.v],r0 [.v,.w,.v]] [.only [0,1,4,5,6,7] [54]] (j3 x0 x1 ((s0.1++[(x1.getD s0.2.2.toNat [])]),s0.2.1,(aJ (s0.2.2+1)))) (aB c9 (aY (yw (f:=ax) (l:=x1) (n:=s0.2.2) [] bM (by decide) (by exact g4)) (aY (vo (c:=ax) oT s0.1 [(x1.getD s0.2.2.toNat [])] 16 (by decide) (by simpa using g5)) (aC (xT 9 1 ax s0.1 [(x1.getD s0.2.2.toNat [])]) aN))))
 ·subst e0;have H20:=cn H0;refine bB H20 fun e2 => ?_;subst e2;exact pR 3 [V2] [.fz 54] [] aN
def fR (x0:Int):Option Bool :=
 bif decide (x0≥(-4611686018427387904)) then (
  some (decide (x0≤4611686018427387904))
 ) else (
  some false
 )
theorem bO (x0:Int) (r:Bool) (H:fR x0=some r):a8 Tryz.prog 115 [iI x0] (.bool r):=by
 unfold fR at H;refine aX Tryz.func115 9 [.tmp 2] ?_;refine aK H (fun c0 H0 => ?_) (fun c1 H1 => ?_)
 ·obtain rfl:=sI H0;exact pR 5 [V1,r0 [.v,.e (.bool true),.v,.v,.v,.v,.v]] [] [] (aB c0 aN)
 ·obtain rfl:=sI H1;exact pR 5 [V1,r0 [.v,.e (.bool false),.v,.s,.s,.v,.v]] [] [] (aB c1 aN)
def cO (x0:Int):Option (Int×Int×Int) :=
 some ((x0.tmod 2097152),((aJ (x0.tdiv 2097152)).tmod 2097152),(aJ ((aJ (x0.tdiv 2097152)).tdiv 2097152)))
theorem qB (x0:Int) (r:Int×Int×Int) (H:cO x0=some r):a8 Tryz.prog 203 [iI x0] (.agg [iI r.1,iI r.2.1,iI r.2.2]):=by unfold cO at H;refine aX Tryz.func203 12 [.cell 2 217] ?_;obtain rfl:=sI H;exact pR 5 [r0 [.m],r0 [.v,.v,.v,.w,.v,.v,.w,.w,.b,.m]] [] [] (aC (show (2097152:Int)≠0 from (by decide)) (aC (show (2097152:Int)≠0 from (by decide)) (aC (show (2097152:Int)≠0 from (by decide)) (aC (show (2097152:Int)≠0 from (by decide)) (aC (show (2097152:Int)≠0 from (by decide)) aN)))))
def eI (x0 x1:Int):Option (Int×Int) :=
 (fR x0).bind fun y0 =>
 bif y0 then (
  (fR x1).bind fun y1 =>
  bif y1 then (
   bif (x1==0) then (
    some (0,1)
   ) else (
    cy ((x1:Int)≠0) <|
    ((
     bif ((x0.tmod x1)==0) then (
      some false
     ) else (
      some (!(decide (x0<0)==decide (x1<0)))
     )
    ):Option Bool).bind fun v0 =>
    bif v0 then (
     some ((aJ ((aJ (x0.tdiv x1))-1)),0)
    ) else (
     some ((aJ (x0.tdiv x1)),0)
    )
   )
  ) else (
   some (0,2)
  )
 ) else (
  some (0,2)
 )
def o7 (x0 x1:Int) (v0:Bool):AS:=⟨34,[(4,iI 0),(5,iI 0),(6,iI (aJ (x0.tdiv x1))),(30,.bool v0)],[]⟩
theorem gA (x0 x1:Int) (r:Int×Int) (H:eI x0 x1=some r):a8 Tryz.prog 204 [iI x0,iI x1] (.tup [iI r.1,iI r.2]):=by
 unfold eI at H;refine aX Tryz.func204 34 [.tmp 4,.tmp 5] ?_;refine az H fun y0 h0 H0 => ?_;refine aK H0 (fun c0 H1 => ?_) (fun c1 H2 => ?_)
 ·refine az H1 fun y1 h1 H3 => ?_;refine aK H3 (fun c2 H4 => ?_) (fun c3 H5 => ?_)
  ·refine aK H4 (fun c4 H6 => ?_) (fun c5 H7 => ?_)
   ·obtain rfl:=sI H6;exact pR 16 [V2,r0 [.v,.c true (.bool true),.v,.v,.v,.c true (.bool y1),.v,.v],.eqT 14 (.bool false),V2,.eqT 16 (.bool true),V2] [] [] (aC Tryz.call115 (aC (a8.eq (bO _ _ h0) (cB c0)) (aT (aC Tryz.call115 (aF (bO _ _ h1) (aT (aM c2 (aB c4 aN))))))))
   ·refine aU H7 fun g0 H8 => ?_;refine pA 18 [V2,r0 [.v,.c true (.bool true),.v,.v,.v,.c true (.bool y1),.v,.v],.eqT 14 (.bool false),V2,.eqT 16 (.bool false),r0 [.v,.v,.w,.v]] [.only [0,1,4,5,6] []] 16 [false,false] ⟨34,[(0,iI x0),(1,iI x1),(4,iI 0),(5,iI 0),(6,iI (aJ (x0.tdiv x1)))],[]⟩ (aC Tryz.call115 (aC (a8.eq (bO _ _ h0) (cB c0)) (aT (aC Tryz.call115 (aF (bO _ _ h1) (aT (aM c2 (aB c5 (aC (show (x1:Int)≠0 from g0) aN))))))))) ?_;refine az H8 fun v0 h2 H9 => ?_;refine dF 0 (o7 x0 x1 v0) (by kernel_rfl) ?_ ?_
    ·refine aK h2 (fun c6 H10 => ?_) (fun c7 H11 => ?_)
     ·obtain rfl:=sI H10;exact pB 1 [r0 [.v,.v,.v,.e (.bool false),.v,.s,.s,.s,.s,.s,.v]] [.only [4,5,6,30] []] (o7 x0 x1 false) (aC (show (x1:Int)≠0 from g0) (aM c6 aN))
     ·obtain rfl:=sI H11;exact pB 1 [r0 [.v,.v,.v,.e (.bool true),.v,.v,.v,.v,.v,.v,.v]] [.only [4,5,6,30] []] (o7 x0 x1 (!(decide (x0<0)==decide (x1<0)))) (aC (show (x1:Int)≠0 from g0) (aM c7 aN))
    ·refine aK H9 (fun c8 H12 => ?_) (fun c9 H13 => ?_)
     ·obtain rfl:=sI H12;exact pR 6 [.eqT 30 (.bool true),r0 [.v,.w,.v],V3] [] [] (aB c8 aN)
     ·obtain rfl:=sI H13;exact pR 6 [.eqT 30 (.bool false),V3] [] [] (aB c9 aN)
  ·obtain rfl:=sI H5;exact pR 10 [V2,r0 [.v,.c true (.bool true),.v,.v,.v,.c true (.bool y1),.v,.v],.eqT 14 (.bool true),V2] [] [] (aC Tryz.call115 (aC (a8.eq (bO _ _ h0) (cB c0)) (aT (aC Tryz.call115 (aF (bO _ _ h1) (aT (aM c3 aN)))))))
 ·obtain rfl:=sI H2;exact pR 9 [V2,r0 [.v,.c true (.bool false),.v,.v,.s,.s,.s,.v],V2] [] [] (aC Tryz.call115 (aC (a8.eq (bO _ _ h0) (cB c1)) (aT aN)))
end Go.Proofs.YtjfpcjnopbfekaaGreatDoor
