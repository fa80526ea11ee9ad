/- What functions of the program compute, walked: each as a plain function, with the theorem that the code computes it wherever that answers. Printed by a program, part 3. -/
import Derived.Test.YtoebmibmmlcfiaaGreatDoorWkbUnifyApply
set_option linter.unusedSimpArgs false
set_option linter.unusedVariables false
namespace Go.Proofs.YtoebmibmmlcfiaaGreatDoor
open Go.RowKit Go.Ab Go.Sh
def dR (x0:Linear):Option Bool :=
 (hJ x0.Const).bind fun y0 =>
 bif y0 then (
  bif decide (((x0.Terms.length:Nat):Int)>12) then (
   some false
  ) else (
   (dF (σ:=Unit) (ε:=Unit) (ρ:=Bool) (fun i0 s0 =>
    (fC ((x0.Terms.getD i0 aw).Var)).bind fun y1 =>
    ((
     bif y1 then (
      bif (((x0.Terms.getD i0 aw).C)==0) then (
       some (.ret (.ret false))
      ) else (
       (hJ ((x0.Terms.getD i0 aw).C)).bind fun y2 =>
       bif y2 then (
        bif decide (((i0:Nat):Int)>0) then (
         cb (0≤(bg (((i0:Nat):Int)-1))∧(bg (((i0:Nat):Int)-1))<(x0.Terms.length:Int)) <|
         bif (Op.bytesLess ((x0.Terms.getD (bg (((i0:Nat):Int)-1)).toNat aw).Var) ((x0.Terms.getD i0 aw).Var)) then (
          some (.brk ())
         ) else (
          some (.ret (.ret false))
         )
        ) else (
         some (.brk ())
        )
       ) else (
        some (.ret (.ret false))
       )
      )
     ) else (
      some (.ret (.ret false))
     )
    ):Option (Out Unit (kg Unit Unit Bool))).bind (aft fun u0 =>
     some (.go ())
    )
   ) (fun i0 s0=>()) (x0.Terms.length-0) 0 ()).bind <| aft fun u1 =>
   some true
  )
 ) else (
  some false
 )
def lO (x0:Linear) (i0:Nat) (s0:Unit):AS:=⟨58,[(1,.hptr 1 0),(2,.bool false),(3,nI i0)],[(1,.cells 29 [iI x0.Const,dS ai x0.Terms])]⟩
def ph (u2:Unit):AS:=⟨58,[(2,.bool false)],[]⟩
def lH (x0:Linear) (i0:Nat) (u0:Unit):AS:=⟨58,[(1,.hptr 1 0),(2,.bool false),(3,nI i0)],[(1,.cells 29 [iI x0.Const,dS ai x0.Terms])]⟩
theorem b9 (x0:Linear) (r:Bool) (H:dR x0=some r):aW Tryz.prog 18 [.agg [iI x0.Const,dS ai x0.Terms]] (.bool r):=by
 unfold dR at H;refine aX Tryz.func18 58 [.tmp 2] ?_;refine aD H fun y0 h0 H0 => ?_;refine aK H0 (fun c0 H1 => ?_) (fun c1 H2 => ?_)
 ·refine aK H1 (fun c2 H3 => ?_) (fun c3 H4 => ?_)
  ·obtain rfl:=sI H3;exact pR 10 [r0 [.m,.v],r0 [.v,.v,.c true bT,.v,.v,.v,.v,.e (nI x0.Terms.length),.v,.v],.eqT 14 bT,V1] [] [] (aC Tryz.call37 (aC (aW.eq (fa _ _ h0) (cB c0)) (aT (aT (aC (aG ai x0.Terms) (aB c2 aN))))))
  ·have c3p:=Hl c3;refine pA 12 [r0 [.m,.v],r0 [.v,.v,.c true bT,.v,.v,.v,.v,.e (nI x0.Terms.length),.v,.v],.eqT 14 bF,V1] [.only [1,2,3] [1]] 11 [false] (lO x0 0 ()) (aC Tryz.call37 (aC (aW.eq (fa _ _ h0) (cB c0)) (aT (aT (aC (aG ai x0.Terms) (aB c3 aN)))))) ?_;refine aD H4 fun R0 h1 H5 => ?_;refine pJ 1 (ph) R0 ?_ (fun u1 e0 => ?_)
   ·refine pC (lO x0) h1 (fun i0 s0 h2 e1 => ?_) (fun i0 s0 h3 q0 h4 h5 => ?_)
    ·have c4:=lF i0 x0.Terms.length (by omega);subst e1;exact pB 5 [r0 [.v,.v,.v,.e (nI x0.Terms.length),.e bF]] [.only [2] []] (ph ()) (aT (aC (aG ai x0.Terms) (aB c4 aN)))
    ·have c5:=lT i0 x0.Terms.length (by omega);refine aD h4 fun y1 h6 H6 => ?_;refine pD 10 [r0 [.v,.v,.v,.e (nI x0.Terms.length),.e bT],r0 [.v,.v,.v,.e (.dptr (ai (x0.Terms.getD i0 aw))),.v,.m,.m]] [.only [1,2,3,4] [1,4]] 10 [true] (aT (aC (aG ai x0.Terms) (aB c5 (aI bE x0.Terms i0 aw aN)))) ?_;refine aD H6 fun v0 h7 H7 => ?_;refine pJ 2 (lH x0 i0) v0 ?_ (fun u0 e2 => ?_)
     ·refine aK h7 (fun c6 H8 => ?_) (fun c7 H9 => ?_)
      ·refine aK H8 (fun c8 H10 => ?_) (fun c9 H11 => ?_)
       ·obtain rfl:=sI H10;obtain rfl:=sI (aA H7);obtain rfl:=aR h5;obtain rfl:=sI (aA H5);exact pR 5 [.rg 28 [.v,.v,.c true bT,.v,.v,.v,.v,.e bT,.v,.v,.s,.s,.s,.s,.v,.v,.s,.s,.s,.s,.s,.s,.s,.s,.s,.s,.s,.s] [.s,.s,.v],V1] [] [] (aC Tryz.call38 (aC (aW.eq (bK _ _ h6) (cB c6)) (aT (aB c8 aN))))
       ·refine aD H11 fun y2 h8 H12 => ?_;refine aK H12 (fun c10 H13 => ?_) (fun c11 H14 => ?_)
        ·refine aK H13 (fun c12 H15 => ?_) (fun c13 H16 => ?_)
         ·refine aP H15 fun g0 H17 => ?_;refine pD 1 [.rg 28 [.v,.v,.c true bT,.v,.v,.v,.v,.e bF,.v,.v,.v,.v,.c true bT,.v,.v,.v,.v,.e bT,.v,.v,.v,.v,.w,.e (.dptr (ai (x0.Terms.getD (bg (((i0:Nat):Int)-1)).toNat aw))),.v,.v,.v,.v] [.v,.v,.v]] [.only [1,2,3,57] [1]] 1 [] (aC Tryz.call38 (aC (aW.eq (bK _ _ h6) (cB c6)) (aT (aB c9 (aC Tryz.call37 (aC (aW.eq (fa _ _ h8) (cB c10)) (aT (aB c12 (a8 (Dc (f:=ai) (l:=x0.Terms) (n:=(bg (((i0:Nat):Int)-1))) aw bE (by decide) (by exact g0)) aN))))))))) ?_;refine aK H17 (fun c14 H18 => ?_) (fun c15 H19 => ?_)
          ·obtain rfl:=sI H18;exact pB 3 [.eqT 57 bF] [.only [1,2,3] [1]] (lH x0 i0 ()) (aM c14 aN)
          ·obtain rfl:=sI H19;obtain rfl:=sI (aA H7);obtain rfl:=aR h5;obtain rfl:=sI (aA H5);exact pR 5 [.eqT 57 bT,V1] [] [] (aM c15 aN)
         ·obtain rfl:=sI H16;exact pB 3 [.rg 28 [.v,.v,.c true bT,.v,.v,.v,.v,.e bF,.v,.v,.v,.v,.c true bT,.v,.v,.v,.v,.e bF,.v,.s,.s,.s,.s,.s,.s,.s,.s,.s] [.s,.v,.v]] [.only [1,2,3] [1]] (lH x0 i0 ()) (aC Tryz.call38 (aC (aW.eq (bK _ _ h6) (cB c6)) (aT (aB c9 (aC Tryz.call37 (aC (aW.eq (fa _ _ h8) (cB c10)) (aT (aB c13 aN))))))))
        ·obtain rfl:=sI H14;obtain rfl:=sI (aA H7);obtain rfl:=aR h5;obtain rfl:=sI (aA H5);exact pR 5 [.rg 28 [.v,.v,.c true bT,.v,.v,.v,.v,.e bF,.v,.v,.v,.v,.c true bF,.v,.v,.v,.s,.s,.s,.s,.s,.s,.s,.s,.s,.s,.s,.s] [.s,.s,.v],V1] [] [] (aC Tryz.call38 (aC (aW.eq (bK _ _ h6) (cB c6)) (aT (aB c9 (aC Tryz.call37 (aC (aW.eq (fa _ _ h8) (cB c11)) (aT aN)))))))
      ·obtain rfl:=sI H9;obtain rfl:=sI (aA H7);obtain rfl:=aR h5;obtain rfl:=sI (aA H5);exact pR 5 [.rg 28 [.v,.v,.c true bF,.v,.v,.s,.s,.s,.v,.v,.s,.s,.s,.s,.v,.v,.s,.s,.s,.s,.s,.s,.s,.s,.s,.s,.s,.s] [.s,.s,.v],V1] [] [] (aC Tryz.call38 (aC (aW.eq (bK _ _ h6) (cB c7)) (aT aN)))
     ·subst e2;have H20:=bl H7;refine gB 1 1 (ps:=[(x0.Terms.map ai).length≤9223372036854775807]) (by kernel_rfl) (fun l0 => ?_);have l1:x0.Terms.length≤9223372036854775807:=by simpa only [bI,Hp] using l0
      clear l0;obtain rfl:=sI H20;exact pB 1 [V3] [.only [1,2,3] [1]] (lO x0 (i0+1) ()) (aH i0 aN)
   ·subst e0;have H21:=bl H5;obtain rfl:=sI H21;exact pR 3 [V1] [] [] aN
 ·obtain rfl:=sI H2;exact pR 9 [r0 [.m,.v],r0 [.v,.v,.c true bF,.v,.v,.s,.s,.s,.s,.v],V1] [] [] (aC Tryz.call37 (aC (aW.eq (fa _ _ h0) (cB c1)) (aT aN)))
def fP (x0:Shape):Option Bool :=
 (dF (σ:=Unit) (ε:=Unit) (ρ:=Bool) (fun i0 s0 =>
  (dR (Linear.mk ((x0.Dims.getD i0 ax).Const) ((x0.Dims.getD i0 ax).Terms))).bind fun y0 =>
  bif y0 then (
   some (.go ())
  ) else (
   some (.ret false)
  )
 ) (fun i0 s0=>()) (x0.Dims.length-0) 0 ()).bind <| aft fun u0 =>
 bif decide (((x0.Dims.length:Nat):Int)≤6) then (
  bif (x0.Row==[]) then (
   some true
  ) else (
   (fC x0.Row).bind fun y1 =>
   some y1
  )
 ) else (
  some false
 )
def lC (x0:Shape) (i0:Nat) (s0:Unit):AS:=⟨32,[(1,.hptr 1 0),(2,.bool false),(3,nI i0)],[(1,.cells 34 [.str x0.Row,dS ae x0.Dims])]⟩
def pL (x0:Shape) (u1:Unit):AS:=⟨32,[(1,.hptr 1 0),(2,.bool false)],[(1,.cells 34 [.str x0.Row,dS ae x0.Dims])]⟩
theorem ef (x0:Shape) (r:Bool) (H:fP x0=some r):aW Tryz.prog 124 [.agg [.str x0.Row,dS ae x0.Dims]] (.bool r):=by
 unfold fP at H;refine aX Tryz.func124 32 [.tmp 2] ?_;refine pA 6 [r0 [.m,.v],V1] [.only [1,2,3] [1]] 6 [] (lC x0 0 ()) aN ?_;refine aD H fun R0 h0 H0 => ?_;refine pJ 1 (pL x0) R0 ?_ (fun u0 e0 => ?_)
 ·refine pC (lC x0) h0 (fun i0 s0 h1 e1 => ?_) (fun i0 s0 h2 q0 h3 h4 => ?_)
  ·have c0:=lF i0 x0.Dims.length (by omega);subst e1;exact pB 5 [r0 [.v,.v,.v,.e (nI x0.Dims.length),.e bF]] [.only [1,2] [1]] (pL x0 ()) (aT (aC (aG ae x0.Dims) (aB c0 aN)))
  ·have c1:=lT i0 x0.Dims.length (by omega);refine aD h3 fun y0 h5 H1 => ?_;refine pD 9 [r0 [.v,.v,.v,.e (nI x0.Dims.length),.e bT],r0 [.v,.v,.v,.e (.dptr (ae (x0.Dims.getD i0 ax))),.v,.c true (.bool y0),.v]] [.only [1,2,3,17] [1]] 9 [true] (aT (aC (aG ae x0.Dims) (aB c1 (aI bA x0.Dims i0 ax (aC Tryz.call18 (aF (b9 _ _ h5) (aT aN))))))) ?_;refine aK H1 (fun c2 H2 => ?_) (fun c3 H3 => ?_)
   ·refine gB 1 1 (ps:=[(x0.Dims.map ae).length≤9223372036854775807]) (by kernel_rfl) (fun l0 => ?_);have l1:x0.Dims.length≤9223372036854775807:=by simpa only [bI,Hp] using l0
    clear l0;obtain rfl:=sI H2;exact pB 4 [.eqT 17 bF,V3] [.only [1,2,3] [1]] (lC x0 (i0+1) ()) (aM c2 (aH i0 aN))
   ·obtain rfl:=sI H3;obtain rfl:=aR h4;obtain rfl:=sI (aA H0);exact pR 5 [.eqT 17 bT,V1] [] [] (aM c3 aN)
 ·subst e0;have H4:=bl H0;refine aK H4 (fun c4 H5 => ?_) (fun c5 H6 => ?_)
  ·refine aK H5 (fun c6 H7 => ?_) (fun c7 H8 => ?_)
   ·obtain rfl:=sI H7;exact pR 3 [r0 [.v,.v,.e (nI x0.Dims.length),.e bT,.v,.v,.v,.e bT,.v,.s,.s,.s,.v,.v,.v]] [] [] (aT (aC (aG ae x0.Dims) (aB c4 (aB c6 aN))))
   ·refine aD H8 fun y1 h6 H9 => ?_;refine bc H9 fun e2 => ?_;subst e2;exact pR 3 [r0 [.v,.v,.e (nI x0.Dims.length),.e bT,.v,.v,.v,.e bF,.v,.v,.v,.c true (.bool y1),.v,.v,.v]] [] [] (aT (aC (aG ae x0.Dims) (aB c4 (aB c7 (aC Tryz.call38 (aF (bK _ _ h6) aN))))))
  ·obtain rfl:=sI H6;exact pR 3 [r0 [.v,.v,.e (nI x0.Dims.length),.e bF,.v,.s,.s,.s,.s,.s,.s,.s,.s,.v,.v]] [] [] (aT (aC (aG ae x0.Dims) (aB c5 aN)))
def jM (x0:bQ):Option Bool :=
 (ju x0.Elem).bind fun y0 =>
 bif y0 then (
  (fP x0.Shape).bind fun y1 =>
  some y1
 ) else (
  some false
 )
theorem nf (x0:bQ) (r:Bool) (H:jM x0=some r):aW Tryz.prog 64 [.agg [.str x0.Elem,.str x0.Shape.Row,dS ae x0.Shape.Dims]] (.bool r):=by
 unfold jM at H;refine aX Tryz.func64 11 [.tmp 2] ?_;refine aD H fun y0 h0 H0 => ?_;refine aK H0 (fun c0 H1 => ?_) (fun c1 H2 => ?_)
 ·refine aD H1 fun y1 h1 H3 => ?_;refine bc H3 fun e0 => ?_;subst e0;exact pR 5 [r0 [.m,.v],r0 [.v,.v,.c true bT,.v,.v,.v,.c true (.bool y1),.v,.v]] [] [] (aC Tryz.call123 (aC (aW.eq (iF _ _ h0) (cB c0)) (aC Tryz.call124 (aF (ef _ _ h1) aN))))
 ·obtain rfl:=sI H2;exact pR 5 [r0 [.m,.v],r0 [.v,.v,.c true bF,.v,.s,.s,.s,.v,.v]] [] [] (aC Tryz.call123 (aC (aW.eq (iF _ _ h0) (cB c1)) aN))
def mg (x0:Linear):Option Bool :=
 bif (x0.Const==0) then (
  some (((x0.Terms.length:Nat):Int)==0)
 ) else (
  some false
 )
theorem ku (x0:Linear) (r:Bool) (H:mg x0=some r):aW Tryz.prog 130 [.agg [iI x0.Const,dS ai x0.Terms]] (.bool r):=by
 unfold mg at H;refine aX Tryz.func130 12 [.tmp 2] ?_;refine aK H (fun c0 H0 => ?_) (fun c1 H1 => ?_)
 ·obtain rfl:=sI H0;exact pR 5 [r0 [.m,.v],r0 [.v,.v,.e bT,.v,.v,.v,.e (nI x0.Terms.length),.v,.v,.v]] [] [] (aB c0 (aT (aC (aG ai x0.Terms) aN)))
 ·obtain rfl:=sI H1;exact pR 5 [r0 [.m,.v],r0 [.v,.v,.e bF,.v,.s,.s,.s,.s,.v,.v]] [] [] (aB c1 aN)
def e9 (x0:Bind):Option Bool :=
 ((
  bif (x0.Row.Row==[]) then (
   some (decide (((x0.Row.Dims.length:Nat):Int)>0))
  ) else (
   some true
  )
 ):Option Bool).bind fun v0 =>
 bif (x0.Kind==1) then (
  (fC x0.Var).bind fun y0 =>
  bif y0 then (
   (dR x0.Dim).bind fun y1 =>
   bif y1 then (
    bif v0 then (
     some false
    ) else (
     some (x0.Elem==[])
    )
   ) else (
    some false
   )
  ) else (
   some false
  )
 ) else (
  bif (x0.Kind==2) then (
   (fC x0.Var).bind fun y2 =>
   bif y2 then (
    (fP x0.Row).bind fun y3 =>
    bif y3 then (
     (mg x0.Dim).bind fun y4 =>
     bif y4 then (
      some (x0.Elem==[])
     ) else (
      some false
     )
    ) else (
     some false
    )
   ) else (
    some false
   )
  ) else (
   bif (x0.Kind==3) then (
    (fb x0.Var).bind fun y5 =>
    bif y5 then (
     (ju x0.Elem).bind fun y6 =>
     bif y6 then (
      (mg x0.Dim).bind fun y7 =>
      bif y7 then (
       some (!v0)
      ) else (
       some false
      )
     ) else (
      some false
     )
    ) else (
     some false
    )
   ) else (
    some false
   )
  )
 )
def gC (x0:Bind) (v0:Bool):AS:=⟨75,[(1,.hptr 1 0),(2,.bool false),(3,.bool v0)],[(1,.cells 62 [iI x0.Kind,.str x0.Var,iI x0.Dim.Const,dS ai x0.Dim.Terms,.str x0.Row.Row,dS ae x0.Row.Dims,.str x0.Elem])]⟩
theorem mI (x0:Bind) (r:Bool) (H:e9 x0=some r):aW Tryz.prog 70 [.agg [iI x0.Kind,.str x0.Var,iI x0.Dim.Const,dS ai x0.Dim.Terms,.str x0.Row.Row,dS ae x0.Row.Dims,.str x0.Elem]] (.bool r):=by
 unfold e9 at H;refine aX Tryz.func70 75 [.tmp 2] ?_;refine pD 3 [r0 [.m,.v]] [.only [1,2] [1]] 3 [] aN ?_;refine aD H fun v0 h0 H0 => ?_;refine cS 0 (gC x0 v0) (by kernel_rfl) ?_ ?_
 ·refine aK h0 (fun c0 H1 => ?_) (fun c1 H2 => ?_)
  ·obtain rfl:=sI H1;exact pB 1 [r0 [.v,.v,.v,.e bF,.v,.v,.v,.v,.e (nI x0.Row.Dims.length),.v,.v,.v]] [.only [1,2,3] [1]] (gC x0 (decide (((x0.Row.Dims.length:Nat):Int)>0))) (aM c0 (aT (aC (aG ae x0.Row.Dims) aN)))
  ·obtain rfl:=sI H2;exact pB 1 [r0 [.v,.v,.v,.e bT,.v,.s,.s,.s,.s,.s,.v,.v]] [.only [1,2,3] [1]] (gC x0 true) (aM c1 aN)
 ·refine aK H0 (fun c2 H3 => ?_) (fun c3 H4 => ?_)
  ·refine aD H3 fun y0 h1 H5 => ?_;refine aK H5 (fun c4 H6 => ?_) (fun c5 H7 => ?_)
   ·refine aD H6 fun y1 h2 H8 => ?_;refine aK H8 (fun c6 H9 => ?_) (fun c7 H10 => ?_)
    ·refine aK H9 (fun c8 H11 => ?_) (fun c9 H12 => ?_)
     ·obtain rfl:=sI H11;exact pR 12 [V2,V2,.eqT 17 bT,.eqT 3 bT,r0 [.v,.v,.c true bT,.v,.v,.v,.c true bT,.v,.v,.v,.v,.v,.v,.s,.s,.s,.v,.v]] [] [] (aB c2 (aB c8 (aC Tryz.call38 (aC (aW.eq (bK _ _ h1) (cB c4)) (aC Tryz.call18 (aC (aW.eq (b9 _ _ h2) (cB c6)) (aT aN)))))))
     ·obtain rfl:=sI H12;exact pR 12 [V2,V2,.eqT 17 bT,.eqT 3 bF,r0 [.v,.v,.c true bT,.v,.v,.v,.c true bT,.v,.v,.v,.v,.v,.v,.v,.v,.v,.v,.v]] [] [] (aB c2 (aB c9 (aC Tryz.call38 (aC (aW.eq (bK _ _ h1) (cB c4)) (aC Tryz.call18 (aC (aW.eq (b9 _ _ h2) (cB c6)) (aT aN)))))))
    ·obtain rfl:=sI H10;exact pR 11 [V2,V2,.eqT 17 bT,r0 [.v,.v,.c true bT,.v,.v,.v,.c true bF,.v,.v,.s,.s,.v,.v,.s,.s,.s,.v,.v]] [] [] (aB c2 (aC Tryz.call38 (aC (aW.eq (bK _ _ h1) (cB c4)) (aC Tryz.call18 (aC (aW.eq (b9 _ _ h2) (cB c7)) aN)))))
   ·obtain rfl:=sI H7;exact pR 11 [V2,V2,.eqT 17 bT,r0 [.v,.v,.c true bF,.v,.s,.s,.s,.v,.v,.s,.s,.v,.v,.s,.s,.s,.v,.v]] [] [] (aB c2 (aC Tryz.call38 (aC (aW.eq (bK _ _ h1) (cB c5)) aN)))
  ·refine aK H4 (fun c10 H13 => ?_) (fun c11 H14 => ?_)
   ·refine aD H13 fun y2 h3 H15 => ?_;refine aK H15 (fun c12 H16 => ?_) (fun c13 H17 => ?_)
    ·refine aD H16 fun y3 h4 H18 => ?_;refine aK H18 (fun c14 H19 => ?_) (fun c15 H20 => ?_)
     ·refine aD H19 fun y4 h5 H21 => ?_;refine aK H21 (fun c16 H22 => ?_) (fun c17 H23 => ?_)
      ·obtain rfl:=sI H22;exact pR 15 [V2,V2,.eqT 17 bF,V2,.eqT 36 bT,r0 [.v,.v,.c true bT,.v,.v,.v,.c true bT,.v,.v,.v,.v,.c true bT,.v,.v,.v,.v,.v,.v,.v]] [] [] (aB c3 (aB c10 (aC Tryz.call38 (aC (aW.eq (bK _ _ h3) (cB c12)) (aC Tryz.call124 (aC (aW.eq (ef _ _ h4) (cB c14)) (aC Tryz.call130 (aC (aW.eq (ku _ _ h5) (cB c16)) aN))))))))
      ·obtain rfl:=sI H23;exact pR 15 [V2,V2,.eqT 17 bF,V2,.eqT 36 bT,r0 [.v,.v,.c true bT,.v,.v,.v,.c true bT,.v,.v,.v,.v,.c true bF,.v,.v,.s,.s,.s,.v,.v]] [] [] (aB c3 (aB c10 (aC Tryz.call38 (aC (aW.eq (bK _ _ h3) (cB c12)) (aC Tryz.call124 (aC (aW.eq (ef _ _ h4) (cB c14)) (aC Tryz.call130 (aC (aW.eq (ku _ _ h5) (cB c17)) aN))))))))
     ·obtain rfl:=sI H20;exact pR 15 [V2,V2,.eqT 17 bF,V2,.eqT 36 bT,r0 [.v,.v,.c true bT,.v,.v,.v,.c true bF,.v,.v,.s,.s,.s,.v,.v,.s,.s,.s,.v,.v]] [] [] (aB c3 (aB c10 (aC Tryz.call38 (aC (aW.eq (bK _ _ h3) (cB c12)) (aC Tryz.call124 (aC (aW.eq (ef _ _ h4) (cB c15)) aN))))))
    ·obtain rfl:=sI H17;exact pR 15 [V2,V2,.eqT 17 bF,V2,.eqT 36 bT,r0 [.v,.v,.c true bF,.v,.s,.s,.s,.v,.v,.s,.s,.s,.v,.v,.s,.s,.s,.v,.v]] [] [] (aB c3 (aB c10 (aC Tryz.call38 (aC (aW.eq (bK _ _ h3) (cB c13)) aN))))
   ·refine aK H14 (fun c18 H24 => ?_) (fun c19 H25 => ?_)
    ·refine aD H24 fun y5 h6 H26 => ?_;refine aK H26 (fun c20 H27 => ?_) (fun c21 H28 => ?_)
     ·refine aD H27 fun y6 h7 H29 => ?_;refine aK H29 (fun c22 H30 => ?_) (fun c23 H31 => ?_)
      ·refine aD H30 fun y7 h8 H32 => ?_;refine aK H32 (fun c24 H33 => ?_) (fun c25 H34 => ?_)
       ·obtain rfl:=sI H33;exact pR 19 [V2,V2,.eqT 17 bF,V2,.eqT 36 bF,V2,.eqT 56 bT,r0 [.v,.v,.c true bT,.v,.v,.v,.c true bT,.v,.v,.v,.v,.c true bT,.v,.v,.v,.v,.v,.v]] [] [] (aB c3 (aB c11 (aB c18 (aC Tryz.call131 (aC (aW.eq (e8 _ _ h6) (cB c20)) (aC Tryz.call123 (aC (aW.eq (iF _ _ h7) (cB c22)) (aC Tryz.call130 (aC (aW.eq (ku _ _ h8) (cB c24)) (aT aN))))))))))
       ·obtain rfl:=sI H34;exact pR 19 [V2,V2,.eqT 17 bF,V2,.eqT 36 bF,V2,.eqT 56 bT,r0 [.v,.v,.c true bT,.v,.v,.v,.c true bT,.v,.v,.v,.v,.c true bF,.v,.v,.s,.s,.v,.v]] [] [] (aB c3 (aB c11 (aB c18 (aC Tryz.call131 (aC (aW.eq (e8 _ _ h6) (cB c20)) (aC Tryz.call123 (aC (aW.eq (iF _ _ h7) (cB c22)) (aC Tryz.call130 (aC (aW.eq (ku _ _ h8) (cB c25)) aN)))))))))
      ·obtain rfl:=sI H31;exact pR 19 [V2,V2,.eqT 17 bF,V2,.eqT 36 bF,V2,.eqT 56 bT,r0 [.v,.v,.c true bT,.v,.v,.v,.c true bF,.v,.v,.s,.s,.s,.v,.v,.s,.s,.v,.v]] [] [] (aB c3 (aB c11 (aB c18 (aC Tryz.call131 (aC (aW.eq (e8 _ _ h6) (cB c20)) (aC Tryz.call123 (aC (aW.eq (iF _ _ h7) (cB c23)) aN)))))))
     ·obtain rfl:=sI H28;exact pR 19 [V2,V2,.eqT 17 bF,V2,.eqT 36 bF,V2,.eqT 56 bT,r0 [.v,.v,.c true bF,.v,.s,.s,.s,.v,.v,.s,.s,.s,.v,.v,.s,.s,.v,.v]] [] [] (aB c3 (aB c11 (aB c18 (aC Tryz.call131 (aC (aW.eq (e8 _ _ h6) (cB c21)) aN)))))
    ·obtain rfl:=sI H25;exact pR 20 [V2,V2,.eqT 17 bF,V2,.eqT 36 bF,V2,.eqT 56 bF,V1] [] [] (aB c3 (aB c11 (aB c19 aN)))
def gK (x0:List Bind) (x1:Int) (x2:aq):Option Int :=
 (dF (σ:=Unit) (ε:=Unit) (ρ:=Int) (fun i0 s0 =>
  ((
   bif (((x0.getD i0 ak).Kind)==x1) then (
    bif (((x0.getD i0 ak).Var)==x2) then (
     some (.ret (.ret ((i0:Nat):Int)))
    ) else (
     some (.brk ())
    )
   ) else (
    some (.brk ())
   )
  ):Option (Out Unit (kg Unit Unit Int))).bind (aft fun u0 =>
   some (.go ())
  )
 ) (fun i0 s0=>()) (x0.length-0) 0 ()).bind <| aft fun u1 =>
 some (-1)
def nA (x0:List Bind) (x1:Int) (x2:aq) (i0:Nat) (s0:Unit):AS:=⟨31,[(0,dS al x0),(1,iI x1),(2,.str x2),(6,iI 0),(7,nI i0)],[]⟩
def qD (u2:Unit):AS:=⟨31,[(6,iI 0)],[]⟩
def mT (x0:List Bind) (x1:Int) (x2:aq) (i0:Nat) (u0:Unit):AS:=⟨31,[(0,dS al x0),(1,iI x1),(2,.str x2),(6,iI 0),(7,nI i0)],[]⟩
theorem ky (x0:List Bind) (x1:Int) (x2:aq) (r:Int) (H:gK x0 x1 x2=some r):aW Tryz.prog 66 [dS al x0,iI x1,.str x2] (iI r):=by
 unfold gK at H;refine aX Tryz.func66 31 [.tmp 6] ?_;refine pA 6 [V1,V1] [.only [0,1,2,6,7] []] 6 [] (nA x0 x1 x2 0 ()) aN ?_;refine aD H fun R0 h0 H0 => ?_;refine pJ 1 (qD) R0 ?_ (fun u1 e0 => ?_)
 ·refine pC (nA x0 x1 x2) h0 (fun i0 s0 h1 e1 => ?_) (fun i0 s0 h2 q0 h3 h4 => ?_)
  ·have c0:=lF i0 x0.length (by omega);subst e1;exact pB 5 [r0 [.v,.v,.e (nI x0.length),.e bF]] [.only [6] []] (qD ()) (aT (aC (aG al x0) (aB c0 aN)))
  ·have c1:=lT i0 x0.length (by omega);refine pD 8 [r0 [.v,.v,.e (nI x0.length),.e bT]] [.only [0,1,2,6,7] []] 8 [true] (aT (aC (aG al x0) (aB c1 aN))) ?_;refine aD h3 fun v0 h5 H1 => ?_;refine pJ 2 (mT x0 x1 x2 i0) v0 ?_ (fun u0 e2 => ?_)
   ·refine aK h5 (fun c2 H2 => ?_) (fun c3 H3 => ?_)
    ·refine pD 1 [.rg 0 [] [.v,.v,.e (.dptr (al (x0.getD i0 ak))),.v,.v,.v,.e bT,.v,.v,.v,.e (.dptr (al (x0.getD i0 ak))),.v,.v,.v,.v,.v]] [.only [0,1,2,6,7,29] []] 1 [] (aI aQ x0 i0 ak (aB c2 (aI aQ x0 i0 ak aN))) ?_;refine aK H2 (fun c4 H4 => ?_) (fun c5 H5 => ?_)
     ·obtain rfl:=sI H4;obtain rfl:=sI (aA H1);obtain rfl:=aR h4;obtain rfl:=sI (aA H0);exact pR 5 [.eqT 29 bT,V2] [] [] (aB c4 aN)
     ·obtain rfl:=sI H5;exact pB 3 [.eqT 29 bF] [.only [0,1,2,6,7] []] (mT x0 x1 x2 i0 ()) (aB c5 aN)
    ·obtain rfl:=sI H3;exact pB 3 [r0 [.v,.v,.e (.dptr (al (x0.getD i0 ak))),.v,.v,.v,.e bF,.v,.s,.s,.s,.s,.s,.s,.s,.v]] [.only [0,1,2,6,7] []] (mT x0 x1 x2 i0 ()) (aI aQ x0 i0 ak (aB c3 aN))
   ·subst e2;have H6:=bl H1;refine bt 0 (ps:=[(x0.map al).length≤9223372036854775807]) (by kernel_rfl) (fun l0 => ?_);have l1:x0.length≤9223372036854775807:=by simpa only [bI,Hp] using l0
    clear l0;obtain rfl:=sI H6;exact pB 1 [V3] [.only [0,1,2,6,7] []] (nA x0 x1 x2 (i0+1) ()) (aH i0 aN)
 ·subst e0;have H7:=bl H0;obtain rfl:=sI H7;exact pR 3 [V1] [] [] aN
def cR (x0:List Bind):Option Bool :=
 (dF (σ:=Unit) (ε:=Unit) (ρ:=Bool) (fun i0 s0 =>
  (e9 (Bind.mk ((x0.getD i0 ak).Kind) ((x0.getD i0 ak).Var) (Linear.mk (((x0.getD i0 ak).Dim).Const) (((x0.getD i0 ak).Dim).Terms)) (Shape.mk (((x0.getD i0 ak).Row).Row) (((x0.getD i0 ak).Row).Dims)) ((x0.getD i0 ak).Elem))).bind fun y0 =>
  bif y0 then (
   (gK (x0.take i0) ((x0.getD i0 ak).Kind) ((x0.getD i0 ak).Var)).bind fun y1 =>
   bif decide (y1≥0) then (
    some (.ret false)
   ) else (
    some (.go ())
   )
  ) else (
   some (.ret false)
  )
 ) (fun i0 s0=>()) (x0.length-0) 0 ()).bind <| aft fun u0 =>
 some true
def gb (x0:List Bind) (i0:Nat) (s0:Unit):AS:=⟨33,[(0,dS al x0),(2,.bool false),(3,nI i0)],[]⟩
def km (u1:Unit):AS:=⟨33,[(2,.bool false)],[]⟩
theorem cP (x0:List Bind) (r:Bool) (H:cR x0=some r):aW Tryz.prog 35 [dS al x0] (.bool r):=by
 unfold cR at H;refine aX Tryz.func35 33 [.tmp 2] ?_;refine pA 6 [V1,V1] [.only [0,2,3] []] 6 [] (gb x0 0 ()) aN ?_;refine aD H fun R0 h0 H0 => ?_;refine pJ 1 (km) R0 ?_ (fun u0 e0 => ?_)
 ·refine pC (gb x0) h0 (fun i0 s0 h1 e1 => ?_) (fun i0 s0 h2 q0 h3 h4 => ?_)
  ·have c0:=lF i0 x0.length (by omega);subst e1;exact pB 5 [r0 [.v,.v,.e (nI x0.length),.e bF]] [.only [2] []] (km ()) (aT (aC (aG al x0) (aB c0 aN)))
  ·have c1:=lT i0 x0.length (by omega);refine aD h3 fun y0 h5 H1 => ?_;refine aK H1 (fun c2 H2 => ?_) (fun c3 H3 => ?_)
   ·refine aD H2 fun y1 h6 H4 => ?_;refine pD 9 [r0 [.v,.v,.e (nI x0.length),.e bT],.rg 20 [.v,.v,.e (.dptr (al (x0.getD i0 ak))),.v,.c true bT,.v,.v,.v,.v,.e (.dslice ((x0.take i0).map al)),.v,.v,.e (.dptr (al (x0.getD i0 ak))),.v,.v,.v,.v,.e (.dptr (al (x0.getD i0 ak))),.v,.v] [.c true (iI y1),.v,.v]] [.only [0,2,3,32] []] 9 [true] (aT (aC (aG al x0) (aB c1 (aI aQ x0 i0 ak (aC Tryz.call70 (aC (aW.eq (mI _ _ h5) (cB c2)) (aT (aC (show ((0:Int)≤0∧0≤((i0:Nat):Int)∧((i0:Nat):Int)≤((x0.map al).length:Int))∧UL 7 (x0.map al) from ⟨by first | omega | (simp only [Hp];omega),UL.map aQ _⟩) (aC (p8 al x0 i0) (aI aQ x0 i0 ak (aI aQ x0 i0 ak (aC Tryz.call66 (aF (ky _ _ _ _ h6) aN))))))))))))) ?_;refine aK H4 (fun c4 H5 => ?_) (fun c5 H6 => ?_)
    ·obtain rfl:=sI H5;obtain rfl:=aR h4;obtain rfl:=sI (aA H0);exact pR 5 [.eqT 32 bT,V1] [] [] (aB c4 aN)
    ·have c5p:=Hl c5;refine bt 0 (ps:=[(x0.map al).length≤9223372036854775807]) (by kernel_rfl) (fun l0 => ?_);have l1:x0.length≤9223372036854775807:=by simpa only [bI,Hp] using l0
     clear l0;obtain rfl:=sI H6;exact pB 4 [.eqT 32 bF,V3] [.only [0,2,3] []] (gb x0 (i0+1) ()) (aB c5 (aH i0 aN))
   ·obtain rfl:=sI H3;obtain rfl:=aR h4;obtain rfl:=sI (aA H0);exact pR 13 [r0 [.v,.v,.e (nI x0.length),.e bT],.rg 20 [.v,.v,.e (.dptr (al (x0.getD i0 ak))),.v,.c true bF,.v,.v,.s,.s,.s,.s,.s,.s,.s,.s,.s,.s,.s,.s,.s] [.s,.s,.v],V1] [] [] (aT (aC (aG al x0) (aB c1 (aI aQ x0 i0 ak (aC Tryz.call70 (aC (aW.eq (mI _ _ h5) (cB c3)) (aT aN)))))))
 ·subst e0;have H7:=bl H0;obtain rfl:=sI H7;exact pR 3 [V1] [] [] aN
def jy (x0:List Bind) (x1:aq):Option (Linear×Bool) :=
 (dF (σ:=Unit) (ε:=Unit) (ρ:=(Linear×Bool)) (fun i0 s0 =>
  ((
   bif (((x0.getD i0 ak).Kind)==1) then (
    some (((x0.getD i0 ak).Var)==x1)
   ) else (
    some false
   )
  ):Option Bool).bind fun v0 =>
  bif v0 then (
   some (.ret ((Linear.mk (((x0.getD i0 ak).Dim).Const) (((x0.getD i0 ak).Dim).Terms)),true))
  ) else (
   some (.go ())
  )
 ) (fun i0 s0=>()) (x0.length-0) 0 ()).bind <| aft fun u0 =>
 some ((Linear.mk 0 []),false)
def lq (x0:List Bind) (x1:aq) (i0:Nat) (s0:Unit):AS:=⟨34,[(0,dS al x0),(1,.str x1),(4,.hptr 4 0),(5,.bool false),(6,nI i0)],[(4,.cells 29 [iI 0,.eslice])]⟩
def pE (u1:Unit):AS:=⟨34,[(4,.hptr 4 0),(5,.bool false)],[(4,.cells 29 [iI 0,.eslice])]⟩
def lu (x0:List Bind) (x1:aq) (i0:Nat) (v0:Bool):AS:=⟨34,[(0,dS al x0),(1,.str x1),(4,.hptr 4 0),(5,.bool false),(6,nI i0),(27,.bool v0)],[(4,.cells 29 [iI 0,.eslice])]⟩
theorem wM (x0:List Bind) (x1:aq) (r:Linear×Bool) (H:jy x0 x1=some r):aW Tryz.prog 167 [dS al x0,.str x1] (.tup [.agg [iI r.1.Const,dS ai r.1.Terms],.bool r.2]):=by
 unfold jy at H;refine aX Tryz.func167 34 [.cell 4 29,.tmp 5] ?_;refine pA 6 [r0 [.m,.v],V1] [.only [0,1,4,5,6] [4]] 6 [] (lq x0 x1 0 ()) aN ?_;refine aD H fun R0 h0 H0 => ?_;refine pJ 1 (pE) R0 ?_ (fun u0 e0 => ?_)
 ·refine pC (lq x0 x1) h0 (fun i0 s0 h1 e1 => ?_) (fun i0 s0 h2 q0 h3 h4 => ?_)
  ·have c0:=lF i0 x0.length (by omega);subst e1;exact pB 5 [r0 [.v,.v,.e (nI x0.length),.e bF]] [.only [4,5] [4]] (pE ()) (aT (aC (aG al x0) (aB c0 aN)))
  ·have c1:=lT i0 x0.length (by omega);refine pD 8 [r0 [.v,.v,.e (nI x0.length),.e bT]] [.only [0,1,4,5,6] [4]] 8 [true] (aT (aC (aG al x0) (aB c1 aN))) ?_;refine aD h3 fun v0 h5 H1 => ?_;refine cS 0 (lu x0 x1 i0 v0) (by kernel_rfl) ?_ ?_
   ·refine aK h5 (fun c2 H2 => ?_) (fun c3 H3 => ?_)
    ·obtain rfl:=sI H2;exact pB 1 [r0 [.v,.v,.e (.dptr (al (x0.getD i0 ak))),.v,.v,.e bT,.v,.v,.v,.e (.dptr (al (x0.getD i0 ak))),.v,.v,.v,.v,.v]] [.only [0,1,4,5,6,27] [4]] (lu x0 x1 i0 (((x0.getD i0 ak).Var)==x1)) (aI aQ x0 i0 ak (aB c2 (aI aQ x0 i0 ak aN)))
    ·obtain rfl:=sI H3;exact pB 1 [r0 [.v,.v,.e (.dptr (al (x0.getD i0 ak))),.v,.v,.e bF,.v,.s,.s,.s,.s,.s,.s,.s,.v]] [.only [0,1,4,5,6,27] [4]] (lu x0 x1 i0 false) (aI aQ x0 i0 ak (aB c3 aN))
   ·refine aK H1 (fun c4 H4 => ?_) (fun c5 H5 => ?_)
    ·obtain rfl:=sI H4;obtain rfl:=aR h4;obtain rfl:=sI (aA H0);exact pR 5 [.eqT 27 bT,r0 [.v,.v,.e (.dptr (al (x0.getD i0 ak))),.v,.v,.m,.v]] [] [] (aB c4 (aI aQ x0 i0 ak aN))
    ·refine bt 0 (ps:=[(x0.map al).length≤9223372036854775807]) (by kernel_rfl) (fun l0 => ?_);have l1:x0.length≤9223372036854775807:=by simpa only [bI,Hp] using l0
     clear l0;obtain rfl:=sI H5;exact pB 4 [.eqT 27 bF,V3] [.only [0,1,4,5,6] [4]] (lq x0 x1 (i0+1) ()) (aB c5 (aH i0 aN))
 ·subst e0;have H6:=bl H0;obtain rfl:=sI H6;exact pR 3 [r0 [.b,.m,.v]] [.wkH 4 1 []] [] aN
def nM (x0:aq):Option Linear :=
 some (Linear.mk 0 [(ay.mk x0 1)])
theorem yI (x0:aq) (r:Linear) (H:nM x0=some r):aW Tryz.prog 168 [.str x0] (.agg [iI r.Const,dS ai r.Terms]):=by unfold nM at H;refine aX Tryz.func168 7 [.cell 2 29] ?_;obtain rfl:=sI H;exact pR 5 [r0 [.m],r0 [.v,.b,.b,.b,.m]] [] [] aN
def kT (x0:Linear) (x1:aq) (x2:Int):Option Linear :=
 (dF (σ:=(Bool×(List ay))) (ε:=(Bool×(List ay))) (ρ:=Empty) (fun i0 s0 =>
  ((
   bif s0.1 then (
    some (true,false)
   ) else (
    some (false,!(Op.bytesLess ((x0.Terms.getD i0 aw).Var) x1||((x0.Terms.getD i0 aw).Var)==x1))
   )
  ):Option (Bool×Bool)).bind fun v0 =>
  ((
   bif v0.2 then (
    cb ((s0.2.length+1)*24≤140737488355328) <|
    some (true,(s0.2++[(ay.mk x1 x2)]))
   ) else (
    some (v0.1,s0.2)
   )
  ):Option (Bool×(List ay))).bind fun v1 =>
  ((
   bif (((x0.Terms.getD i0 aw).Var)==x1) then (
    some (true,(bg (((x0.Terms.getD i0 aw).C)+x2)))
   ) else (
    some (v1.1,((x0.Terms.getD i0 aw).C))
   )
  ):Option (Bool×Int)).bind fun v2 =>
  cb ((v1.2.length+1)*24≤140737488355328) <|
  some (.go (v2.1,(v1.2++[(ay.mk ((x0.Terms.getD i0 aw).Var) v2.2)])))
 ) (fun i0 s0=>(s0.1,s0.2)) (x0.Terms.length-0) 0 (false,[])).bind <| dq fun u0 =>
 ((
  bif u0.1 then (
   some u0.2
  ) else (
   cb ((u0.2.length+1)*24≤140737488355328) <|
   some (u0.2++[(ay.mk x1 x2)])
  )
 ):Option (List ay)).bind fun v3 =>
 (xv (σ:=(Int×Int×(List ay))) (ε:=(Int×(List ay))) (ρ:=Empty) (fun s1 =>
  bif decide (s1.2.1<((s1.2.2.length:Nat):Int)) then (
   cb (0≤s1.2.1∧s1.2.1<(s1.2.2.length:Int)) <|
   cb (s1.2.1.toNat<s1.2.2.length) <|
   ((
    bif (((s1.2.2.getD s1.2.1.toNat aw).C)==0) then (
     some (s1.1,s1.2.2)
    ) else (
     cb (0≤s1.1∧s1.1<(s1.2.2.length:Int)) <|
     cb (s1.1.toNat<s1.2.2.length) <|
     some ((bg (s1.1+1)),(s1.2.2.set s1.1.toNat (ay.mk ((s1.2.2.getD s1.2.1.toNat aw).Var) ((s1.2.2.getD s1.2.1.toNat aw).C))))
    )
   ):Option (Int×(List ay))).bind fun v4 =>
   some (.go (v4.1,(bg (s1.2.1+1)),v4.2))
  ) else (
   some (.brk (s1.1,s1.2.2))
  )
 ) 4294967296 (0,0,v3)).bind <| dq fun u1 =>
 cb (0≤u1.1∧u1.1≤(u1.2.length:Int)) <|
 some (Linear.mk x0.Const (u1.2.take u1.1.toNat))
def mX (x0:Linear) (x1:aq) (x2:Int) (i0:Nat) (s0:Bool×(List ay)):AS:=⟨100,[(1,.str x1),(2,iI x2),(3,.hptr 3 0),(6,.hptr 6 0),(7,.hptr 7 0),(8,.bool s0.1),(9,nI i0)],[(3,.cells 29 [iI x0.Const,dS ai x0.Terms]),(6,.cells 29 [iI 0,.eslice]),(7,.cells 29 [iI x0.Const,.rslice 57]),(57,.row 31 2 (s0.2.map ai))]⟩
def qJ (x0:Linear) (x1:aq) (x2:Int) (u2:Bool×(List ay)):AS:=⟨100,[(1,.str x1),(2,iI x2),(6,.hptr 6 0),(7,.hptr 7 0),(8,.bool u2.1)],[(6,.cells 29 [iI 0,.eslice]),(7,.cells 29 [iI x0.Const,.rslice 57]),(57,.row 31 2 (u2.2.map ai))]⟩
def mP (x0:Linear) (x1:aq) (x2:Int) (i0:Nat) (s0:Bool×(List ay)) (v0:Bool×Bool):AS:=⟨100,[(1,.str x1),(2,iI x2),(3,.hptr 3 0),(6,.hptr 6 0),(7,.hptr 7 0),(8,.bool v0.1),(9,nI i0),(10,.hptr 10 0),(35,.bool v0.2)],[(3,.cells 29 [iI x0.Const,dS ai x0.Terms]),(6,.cells 29 [iI 0,.eslice]),(7,.cells 29 [iI x0.Const,.rslice 57]),(10,.cells 31 [.str ((x0.Terms.getD i0 aw).Var),iI ((x0.Terms.getD i0 aw).C)]),(57,.row 31 2 (s0.2.map ai))]⟩
def mM (x0:Linear) (x1:aq) (x2:Int) (i0:Nat) (v1:Bool×(List ay)):AS:=⟨100,[(1,.str x1),(2,iI x2),(3,.hptr 3 0),(6,.hptr 6 0),(7,.hptr 7 0),(8,.bool v1.1),(9,nI i0),(10,.hptr 10 0)],[(3,.cells 29 [iI x0.Const,dS ai x0.Terms]),(6,.cells 29 [iI 0,.eslice]),(7,.cells 29 [iI x0.Const,.rslice 57]),(10,.cells 31 [.str ((x0.Terms.getD i0 aw).Var),iI ((x0.Terms.getD i0 aw).C)]),(57,.row 31 2 (v1.2.map ai))]⟩
def nu (x0:Linear) (x1:aq) (x2:Int) (i0:Nat) (v1:Bool×(List ay)) (v2:Bool×Int):AS:=⟨100,[(1,.str x1),(2,iI x2),(3,.hptr 3 0),(6,.hptr 6 0),(7,.hptr 7 0),(8,.bool v2.1),(9,nI i0),(10,.hptr 10 0)],[(3,.cells 29 [iI x0.Const,dS ai x0.Terms]),(6,.cells 29 [iI 0,.eslice]),(7,.cells 29 [iI x0.Const,.rslice 57]),(10,.cells 31 [.str ((x0.Terms.getD i0 aw).Var),iI v2.2]),(57,.row 31 2 (v1.2.map ai))]⟩
def mR (x0:Linear) (v3:List ay):AS:=⟨100,[(6,.hptr 6 0),(7,.hptr 7 0)],[(6,.cells 29 [iI 0,.eslice]),(7,.cells 29 [iI x0.Const,.rslice 67]),(67,.row 31 2 (v3.map ai))]⟩
def nc (x0:Linear) (s1:Int×Int×(List ay)):AS:=⟨100,[(6,.hptr 6 0),(7,.hptr 7 0),(11,iI s1.1),(12,iI s1.2.1)],[(6,.cells 29 [iI 0,.eslice]),(7,.cells 29 [iI x0.Const,.rslice 67]),(67,.row 31 2 (s1.2.2.map ai))]⟩
def qH (x0:Linear) (u3:Int×(List ay)):AS:=⟨100,[(6,.hptr 6 0),(7,.hptr 7 0),(11,iI u3.1)],[(6,.cells 29 [iI 0,.eslice]),(7,.cells 29 [iI x0.Const,.rslice 67]),(67,.row 31 2 (u3.2.map ai))]⟩
def nB (x0:Linear) (s1:Int×Int×(List ay)) (v4:Int×(List ay)):AS:=⟨100,[(6,.hptr 6 0),(7,.hptr 7 0),(11,iI v4.1),(12,iI s1.2.1)],[(6,.cells 29 [iI 0,.eslice]),(7,.cells 29 [iI x0.Const,.rslice 67]),(67,.row 31 2 (v4.2.map ai))]⟩
theorem xH (x0:Linear) (x1:aq) (x2:Int) (r:Linear) (H:kT x0 x1 x2=some r):aW Tryz.prog 207 [.agg [iI x0.Const,dS ai x0.Terms],.str x1,iI x2] (.agg [iI r.Const,dS ai r.Terms]):=by
 unfold kT at H;refine aX Tryz.func207 100 [.cell 6 29] ?_;refine pA 10 [r0 [.m,.m],r0 [.v,.v,.b,.m,.m],V1,V1] [.erH 7 1 57 31 2,.only [1,2,3,6,7,8,9] [3,6,7,57]] 10 [] (mX x0 x1 x2 0 (false,[])) aN ?_;refine aD H fun R0 h0 H0 => ?_;refine pJ 1 (qJ x0 x1 x2) R0 ?_ (fun u0 e0 => ?_)
 ·refine pC (mX x0 x1 x2) h0 (fun i0 s0 h1 e1 => ?_) (fun i0 s0 h2 q0 h3 h4 => ?_)
  ·have c0:=lF i0 x0.Terms.length (by omega);subst e1;exact pB 5 [r0 [.v,.v,.v,.e (nI x0.Terms.length),.e bF]] [.only [1,2,6,7,8] [6,7,57]] (qJ x0 x1 x2 (s0.1,s0.2)) (aT (aC (aG ai x0.Terms) (aB c0 aN)))
  ·have c1:=lT i0 x0.Terms.length (by omega);refine pD 11 [r0 [.v,.v,.v,.e (nI x0.Terms.length),.e bT],r0 [.v,.v,.v,.e (.dptr (ai (x0.Terms.getD i0 aw))),.v,.m,.m]] [.only [1,2,3,6,7,8,9,10] [3,6,7,10,57]] 11 [true] (aT (aC (aG ai x0.Terms) (aB c1 (aI bE x0.Terms i0 aw aN)))) ?_;refine aD h3 fun v0 h5 H1 => ?_;refine cS 0 (mP x0 x1 x2 i0 s0 v0) (by kernel_rfl) ?_ ?_
   ·refine aK h5 (fun c2 H2 => ?_) (fun c3 H3 => ?_)
    ·obtain rfl:=sI H2;exact pB 2 [.eqT 8 bT,r0 [.v,.v,.v,.s,.s,.s,.s,.v]] [.only [1,2,3,6,7,8,9,10,35] [3,6,7,10,57]] (mP x0 x1 x2 i0 s0 (true,false)) (aB c2 (aT aN))
    ·obtain rfl:=sI H3;exact pB 2 [.eqT 8 bF,r0 (V 8 [])] [.only [1,2,3,6,7,8,9,10,35] [3,6,7,10,57]] (mP x0 x1 x2 i0 s0 (false,!(Op.bytesLess ((x0.Terms.getD i0 aw).Var) x1||((x0.Terms.getD i0 aw).Var)==x1))) (aB c3 (aT aN))
   ·refine aD H1 fun v1 h6 H4 => ?_;refine cS 0 (mM x0 x1 x2 i0 v1) (by kernel_rfl) ?_ ?_
    ·refine aK h6 (fun c4 H5 => ?_) (fun c5 H6 => ?_)
     ·refine aP H5 fun g0 H7 => ?_;obtain rfl:=sI H7;exact pB 5 [.eqT 35 bT,r0 (V 4 [.b,.b,.ap,.rwH 42 (.row 31 2 ((s0.2++[(ay.mk x1 x2)]).map ai)),.v,.m]),V1] [.ren [(3,3),(6,6),(7,7),(10,10),(42,57)],.only [1,2,3,6,7,8,9,10] [3,6,7,10,57]] (mM x0 x1 x2 i0 (true,(s0.2++[(ay.mk x1 x2)]))) (aB c4 (a8 (qB (c:=ai) iG s0.2 [(ay.mk x1 x2)] 24 (by decide) (by first | (simp;done) | simpa using g0)) (aC (tI 31 2 ai s0.2 [(ay.mk x1 x2)]) aN)))
     ·obtain rfl:=sI H6;exact pB 3 [.eqT 35 bF] [.only [1,2,3,6,7,8,9,10] [3,6,7,10,57]] (mM x0 x1 x2 i0 (v0.1,s0.2)) (aB c5 aN)
    ·refine pD 3 [.rg 0 [] (V 4 [])] [.only [1,2,3,6,7,8,9,10,47] [3,6,7,10,57]] 3 [] aN ?_;refine aD H4 fun v2 h7 H8 => ?_;refine cS 0 (nu x0 x1 x2 i0 v1 v2) (by kernel_rfl) ?_ ?_
     ·refine aK h7 (fun c6 H9 => ?_) (fun c7 H10 => ?_)
      ·obtain rfl:=sI H9;exact pB 5 [.eqT 47 bT,r0 [.v,.v,.v,.w,.v,.m],V1] [.only [1,2,3,6,7,8,9,10] [3,6,7,10,57]] (nu x0 x1 x2 i0 v1 (true,(bg (((x0.Terms.getD i0 aw).C)+x2)))) (aB c6 aN)
      ·obtain rfl:=sI H10;exact pB 3 [.eqT 47 bF] [.only [1,2,3,6,7,8,9,10] [3,6,7,10,57]] (nu x0 x1 x2 i0 v1 (v1.1,((x0.Terms.getD i0 aw).C))) (aB c7 aN)
     ·refine aP H8 fun g1 H11 => ?_;refine gB 3 1 (ps:=[(x0.Terms.map ai).length≤9223372036854775807]) (by kernel_rfl) (fun l0 => ?_);have l1:x0.Terms.length≤9223372036854775807:=by simpa only [bI,Hp] using l0
      clear l0;obtain rfl:=sI H11;exact pB 2 [r0 [.v,.v,.v,.b,.ap,.rwH 57 (.row 31 2 ((v1.2++[(ay.mk ((x0.Terms.getD i0 aw).Var) v2.2)]).map ai)),.v,.m],V3] [.only [1,2,3,6,7,8,9] [3,6,7,57]] (mX x0 x1 x2 (i0+1) (v2.1,(v1.2++[(ay.mk ((x0.Terms.getD i0 aw).Var) v2.2)]))) (a8 (qB (c:=ai) iG v1.2 [(ay.mk ((x0.Terms.getD i0 aw).Var) v2.2)] 24 (by decide) (by first | (simp;done) | simpa using g1)) (aC (tI 31 2 ai v1.2 [(ay.mk ((x0.Terms.getD i0 aw).Var) v2.2)]) (aH i0 aN)))
 ·subst e0;have H12:=a7 H0;refine pD 3 [V2] [.only [1,2,6,7,60] [6,7,57]] 3 [] (aT aN) ?_;refine aD H12 fun v3 h8 H13 => ?_;refine cS 0 (mR x0 v3) (by kernel_rfl) ?_ ?_
  ·refine aK h8 (fun c8 H14 => ?_) (fun c9 H15 => ?_)
   ·obtain rfl:=sI H14;exact pB 3 [.eqT 60 bF] [.ren [(6,6),(7,7),(57,67)],.only [6,7] [6,7,67]] (mR x0 u0.2) (aM c8 aN)
   ·refine aP H15 fun g2 H16 => ?_;obtain rfl:=sI H16;exact pB 3 [.eqT 60 bT,r0 (V 4 [.b,.b,.ap,.rwH 67 (.row 31 2 ((u0.2++[(ay.mk x1 x2)]).map ai)),.v,.m])] [.only [6,7] [6,7,67]] (mR x0 (u0.2++[(ay.mk x1 x2)])) (aM c9 (a8 (qB (c:=ai) iG u0.2 [(ay.mk x1 x2)] 24 (by decide) (by first | (simp;done) | simpa using g2)) (aC (tI 31 2 ai u0.2 [(ay.mk x1 x2)]) aN)))
  ·refine pA 6 [.rg 0 [] [.v],.rg 0 [] [.v]] [.only [6,7,11,12] [6,7,67]] 6 [] (nc x0 (0,0,v3)) aN ?_;refine aD H13 fun R1 h9 H17 => ?_;refine pJ 1 (qH x0) R1 ?_ (fun u1 e2 => ?_)
   ·refine nG (nc x0) (by kernel_rfl) h9 (fun s1 q1 h10 h11 => ?_)
    ·refine aK h10 (fun c10 H18 => ?_) (fun c11 H19 => ?_)
     ·have c10p:=Hm c10;refine aP H18 fun g3 H20 => ?_;refine aP H20 fun g4 H21 => ?_;refine pD 10 [r0 [.v,.v,.v,.e (nI s1.2.2.length),.v],.eqT 73 bT,r0 (V 5 [.rl s1.2.1.toNat 1 (iI ((s1.2.2.getD s1.2.1.toNat aw).C)),.v])] [.only [6,7,11,12,82] [6,7,67]] 9 [true] (aT (aC (aG ai s1.2.2) (aB c10 (aC (show (0:Int)≤s1.2.1∧s1.2.1<((s1.2.2.map ai).length:Int) from by rw [Hp];exact g3) (aC (yC (f:=ai) (l:=s1.2.2) (n:=s1.2.1.toNat) 2 1 1 (by omega) (by decide)) (aC (FP (f:=ai) (l:=s1.2.2) (n:=s1.2.1.toNat) aw 1 (by omega)) aN)))))) ?_;refine aD H21 fun v4 h12 H22 => ?_;refine cS 1 (nB x0 s1 v4) (by kernel_rfl) ?_ ?_
      ·refine aK h12 (fun c12 H23 => ?_) (fun c13 H24 => ?_)
       ·obtain rfl:=sI H23;exact pB 3 [.eqT 82 bF] [.only [6,7,11,12] [6,7,67]] (nB x0 s1 (s1.1,s1.2.2)) (aM c12 aN)
       ·refine aP H24 fun g5 H25 => ?_;refine aP H25 fun g6 H26 => ?_;obtain rfl:=sI H26;exact pB 5 [.eqT 82 bT,.rg 8 (V 7 [.rl s1.2.1.toNat 0 (.agg (ai (s1.2.2.getD s1.2.1.toNat aw)))]) [.v,.rs s1.1.toNat 0,.rwH 67 (.row 31 2 ((s1.2.2.set s1.1.toNat (ay.mk ((s1.2.2.getD s1.2.1.toNat aw).Var) ((s1.2.2.getD s1.2.1.toNat aw).C))).map ai))],r0 [.v,.w,.v]] [.only [6,7,11,12] [6,7,67]] (nB x0 s1 ((bg (s1.1+1)),(s1.2.2.set s1.1.toNat (ay.mk ((s1.2.2.getD s1.2.1.toNat aw).Var) ((s1.2.2.getD s1.2.1.toNat aw).C))))) (aM c13 (aC (show (0:Int)≤s1.2.1∧s1.2.1<((s1.2.2.map ai).length:Int) from by rw [Hp];exact g3) (aC (yC (f:=ai) (l:=s1.2.2) (n:=s1.2.1.toNat) 2 0 2 (by omega) (by decide)) (aC (F0 (f:=ai) (l:=s1.2.2) (n:=s1.2.1.toNat) aw 0 2 (by omega)) (aC (show (0:Int)≤s1.1∧s1.1<((s1.2.2.map ai).length:Int) from by rw [Hp];exact g5) (aC (yC (f:=ai) (l:=s1.2.2) (n:=s1.1.toNat) 2 0 2 (by omega) (by decide)) (aC (G0 (f:=ai) 31 2 s1.2.2 s1.1.toNat aw (ay.mk ((s1.2.2.getD s1.2.1.toNat aw).Var) ((s1.2.2.getD s1.2.1.toNat aw).C)) 0 (ai (s1.2.2.getD s1.2.1.toNat aw)) (by omega) rfl) aN)))))))
      ·obtain rfl:=sI H22;exact pB 1 [r0 [.v,.w,.v]] [.only [6,7,11,12] [6,7,67]] (nc x0 (v4.1,(bg (s1.2.1+1)),v4.2)) aN
     ·obtain rfl:=sI H19;obtain rfl:=fy h11;exact pB 6 [r0 [.v,.v,.v,.e (nI s1.2.2.length),.v],.eqT 73 bF] [.only [6,7,11] [6,7,67]] (qH x0 (s1.1,s1.2.2)) (aT (aC (aG ai s1.2.2) (aB c11 aN)))
   ·subst e2;have H27:=a7 H17;refine aP H27 fun g7 H28 => ?_;obtain rfl:=sI H28;exact pR 5 [r0 [.v,.v,.v,.fz 67,.e (.dslice ((u1.2.take u1.1.toNat).map ai)),.v,.m],r0 [.v,.m]] [] [] (aC (show ((0:Int)≤0∧0≤u1.1∧u1.1≤((u1.2.map ai).length:Int))∧UL 2 (u1.2.map ai) from ⟨by first | omega | (simp only [Hp];omega),UL.map bE _⟩) (aC (p8 ai u1.2 u1.1.toNat) aN))
def hF (x0 x1:Linear) (x2:Int):Option Linear :=
 cb ((0+x0.Terms.length)*24≤140737488355328) <|
 (dF (σ:=(Int×(List ay))) (ε:=(Int×(List ay))) (ρ:=Empty) (fun i0 s0 =>
  (kT (Linear.mk s0.1 s0.2) ((x1.Terms.getD i0 aw).Var) (bg (x2*((x1.Terms.getD i0 aw).C)))).bind fun y0 =>
  some (.go (y0.Const,y0.Terms))
 ) (fun i0 s0=>(s0.1,s0.2)) (x1.Terms.length-0) 0 ((bg (x0.Const+(bg (x2*x1.Const)))),x0.Terms)).bind <| dq fun u0 =>
 some (Linear.mk u0.1 u0.2)
def lX (x1:Linear) (x2:Int) (i0:Nat) (s0:Int×(List ay)):AS:=⟨45,[(2,iI x2),(4,.hptr 4 0),(6,.hptr 6 0),(7,.hptr 7 0),(8,nI i0)],[(4,.cells 29 [iI x1.Const,dS ai x1.Terms]),(6,.cells 29 [iI 0,.eslice]),(7,.cells 29 [iI s0.1,dS ai s0.2])]⟩
def pz (u1:Int×(List ay)):AS:=⟨45,[(6,.hptr 6 0),(7,.hptr 7 0)],[(6,.cells 29 [iI 0,.eslice]),(7,.cells 29 [iI u1.1,dS ai u1.2])]⟩
theorem wu (x0 x1:Linear) (x2:Int) (r:Linear) (H:hF x0 x1 x2=some r):aW Tryz.prog 169 [.agg [iI x0.Const,dS ai x0.Terms],.agg [iI x1.Const,dS ai x1.Terms],iI x2] (.agg [iI r.Const,dS ai r.Terms]):=by
 unfold hF at H;refine aX Tryz.func169 45 [.cell 6 29] ?_;refine aP H fun g0 H0 => ?_;refine pA 8 [r0 [.m,.m,.m],.rg 13 (V 5 [.w,.w,.b,.v,.v,.apx (x0.Terms.map ai),.b,.m]) [.m],V1] [.fz 19,.only [2,4,6,7,8] [4,6,7]] 8 [] (lX x1 x2 0 ((bg (x0.Const+(bg (x2*x1.Const)))),x0.Terms)) (a8 (ET (c:=ai) iG [] x0.Terms 24 (by decide) (by first | (simp;done) | simpa using g0) rfl) aN) ?_;refine aD H0 fun R0 h0 H1 => ?_;refine pJ 1 (pz) R0 ?_ (fun u0 e0 => ?_)
 ·refine pC (lX x1 x2) h0 (fun i0 s0 h1 e1 => ?_) (fun i0 s0 h2 q0 h3 h4 => ?_)
  ·have c0:=lF i0 x1.Terms.length (by omega);subst e1;exact pB 5 [r0 [.v,.v,.v,.e (nI x1.Terms.length),.e bF]] [.only [6,7] [6,7]] (pz (s0.1,s0.2)) (aT (aC (aG ai x1.Terms) (aB c0 aN)))
  ·have c1:=lT i0 x1.Terms.length (by omega);refine aD h3 fun y0 h5 H2 => ?_;refine gB 4 1 (ps:=[(x1.Terms.map ai).length≤9223372036854775807]) (by kernel_rfl) (fun l0 => ?_);have l1:x1.Terms.length≤9223372036854775807:=by simpa only [bI,Hp] using l0
   clear l0;obtain rfl:=sI H2;exact pB 9 [r0 [.v,.v,.v,.e (nI x1.Terms.length),.e bT],.rg 15 (V 4 [.e (.dptr (ai (x1.Terms.getD i0 aw))),.v,.v,.v,.v,.v,.v,.e (.dptr (ai (x1.Terms.getD i0 aw))),.v,.v,.w]) [.c true (.agg [iI y0.Const,dS ai y0.Terms]),.m],V3] [.only [2,4,6,7,8] [4,6,7]] (lX x1 x2 (i0+1) (y0.Const,y0.Terms)) (aT (aC (aG ai x1.Terms) (aB c1 (aI bE x1.Terms i0 aw (aI bE x1.Terms i0 aw (aC Tryz.call207 (aF (xH _ _ _ _ h5) (aH i0 aN))))))))
 ·subst e0;have H3:=a7 H1;obtain rfl:=sI H3;exact pR 3 [r0 [.v,.m]] [] [] aN
def gu (x0:Linear):Option (Linear×Int) :=
 (dR x0).bind fun y0 =>
 bif y0 then (
  some (x0,0)
 ) else (
  some ((Linear.mk 0 []),3)
 )
theorem ue (x0:Linear) (r:Linear×Int) (H:gu x0=some r):aW Tryz.prog 170 [.agg [iI x0.Const,dS ai x0.Terms]] (.tup [.agg [iI r.1.Const,dS ai r.1.Terms],iI r.2]):=by
 unfold gu at H;refine aX Tryz.func170 9 [.cell 2 29,.tmp 3] ?_;refine aD H fun y0 h0 H0 => ?_;refine aK H0 (fun c0 H1 => ?_) (fun c1 H2 => ?_)
 ·obtain rfl:=sI H1;exact pR 11 [r0 [.m,.m,.v],r0 [.v,.c true (.bool y0),.v],.eqT 6 bF,r0 [.v,.m,.v]] [] [] (aC Tryz.call18 (aF (b9 _ _ h0) (aT (aM c0 aN))))
 ·obtain rfl:=sI H2;exact pR 10 [r0 [.m,.m,.v],r0 [.v,.c true (.bool y0),.v],.eqT 6 bT,r0 [.b,.m,.v]] [.wkH 2 1 []] [] (aC Tryz.call18 (aF (b9 _ _ h0) (aT (aM c1 aN))))
def jK (x0:Linear) (x1:List Bind):Option (Linear×Int) :=
 (dR x0).bind fun y0 =>
 bif y0 then (
  (dF (σ:=(Int×(List ay))) (ε:=(Int×(List ay))) (ρ:=(Linear×Int)) (fun i0 s0 =>
   (jy x1 ((x0.Terms.getD i0 aw).Var)).bind fun y1 =>
   ((
    bif y1.2 then (
     some (y1.1.Const,y1.1.Terms)
    ) else (
     (nM ((x0.Terms.getD i0 aw).Var)).bind fun y2 =>
     some (y2.Const,y2.Terms)
    )
   ):Option (Int×(List ay))).bind fun v0 =>
   (dR (Linear.mk v0.1 v0.2)).bind fun y3 =>
   bif y3 then (
    (hF (Linear.mk s0.1 s0.2) (Linear.mk v0.1 v0.2) ((x0.Terms.getD i0 aw).C)).bind fun y4 =>
    some (.go (y4.Const,y4.Terms))
   ) else (
    some (.ret ((Linear.mk 0 []),1))
   )
  ) (fun i0 s0=>(s0.1,s0.2)) (x0.Terms.length-0) 0 (x0.Const,[])).bind <| aft fun u0 =>
  (gu (Linear.mk u0.1 u0.2)).bind fun y5 =>
  some (y5.1,y5.2)
 ) else (
  some ((Linear.mk 0 []),1)
 )
def kX (x0:Linear) (x1:List Bind) (i0:Nat) (s0:Int×(List ay)):AS:=⟨55,[(1,dS al x1),(2,.hptr 2 0),(4,.hptr 4 0),(5,iI 0),(6,.hptr 6 0),(7,nI i0)],[(2,.cells 29 [iI x0.Const,dS ai x0.Terms]),(4,.cells 29 [iI 0,.eslice]),(6,.cells 29 [iI s0.1,dS ai s0.2])]⟩
def px (u1:Int×(List ay)):AS:=⟨55,[(4,.hptr 4 0),(5,iI 0),(6,.hptr 6 0)],[(4,.cells 29 [iI 0,.eslice]),(6,.cells 29 [iI u1.1,dS ai u1.2])]⟩
def lh (x0:Linear) (x1:List Bind) (i0:Nat) (s0 v0:Int×(List ay)):AS:=⟨55,[(1,dS al x1),(2,.hptr 2 0),(4,.hptr 4 0),(5,iI 0),(6,.hptr 6 0),(7,nI i0),(8,.hptr 8 0),(9,.hptr 9 0)],[(2,.cells 29 [iI x0.Const,dS ai x0.Terms]),(4,.cells 29 [iI 0,.eslice]),(6,.cells 29 [iI s0.1,dS ai s0.2]),(8,.cells 31 [.str ((x0.Terms.getD i0 aw).Var),iI ((x0.Terms.getD i0 aw).C)]),(9,.cells 29 [iI v0.1,dS ai v0.2])]⟩
theorem wN (x0:Linear) (x1:List Bind) (r:Linear×Int) (H:jK x0 x1=some r):aW Tryz.prog 125 [.agg [iI x0.Const,dS ai x0.Terms],dS al x1] (.tup [.agg [iI r.1.Const,dS ai r.1.Terms],iI r.2]):=by
 unfold jK at H;refine aX Tryz.func125 55 [.cell 4 29,.tmp 5] ?_;refine aD H fun y0 h0 H0 => ?_;refine aK H0 (fun c0 H1 => ?_) (fun c1 H2 => ?_)
 ·refine pA 14 [.rg 0 [] [.m,.m,.v],.rg 0 [] [.v,.c true (.bool y0),.v],.eqT 13 bF,.rg 0 [] [.v,.v,.b,.m,.m],.rg 0 [] [.v]] [.wkH 6 1 [],.only [1,2,4,5,6,7] [2,4,6]] 13 [false] (kX x0 x1 0 (x0.Const,[])) (aC Tryz.call18 (aF (b9 _ _ h0) (aT (aM c0 aN)))) ?_;refine aD H1 fun R0 h1 H3 => ?_;refine pJ 1 (px) R0 ?_ (fun u0 e0 => ?_)
  ·refine pC (kX x0 x1) h1 (fun i0 s0 h2 e1 => ?_) (fun i0 s0 h3 q0 h4 h5 => ?_)
   ·have c2:=lF i0 x0.Terms.length (by omega);subst e1;exact pB 5 [r0 [.v,.v,.v,.e (nI x0.Terms.length),.e bF]] [.only [4,5,6] [4,6]] (px (s0.1,s0.2)) (aT (aC (aG ai x0.Terms) (aB c2 aN)))
   ·have c3:=lT i0 x0.Terms.length (by omega);refine aD h4 fun y1 h6 H4 => ?_;refine pD 14 [r0 [.v,.v,.v,.e (nI x0.Terms.length),.e bT],r0 [.v,.v,.v,.e (.dptr (ai (x0.Terms.getD i0 aw))),.v,.m,.m],r0 [.v,.v,.v,.c true (.tup [.agg [iI y1.1.Const,dS ai y1.1.Terms],.bool y1.2]),.v,.v,.v,.m,.m,.v],V2] [.only [1,2,4,5,6,7,8,9,38] [2,4,6,8,9]] 14 [true] (aT (aC (aG ai x0.Terms) (aB c3 (aI bE x0.Terms i0 aw (aC Tryz.call167 (aF (wM _ _ _ h6) (aT aN))))))) ?_;refine aD H4 fun v0 h7 H5 => ?_;refine cS 0 (lh x0 x1 i0 s0 v0) (by kernel_rfl) ?_ ?_
    ·refine aK h7 (fun c4 H6 => ?_) (fun c5 H7 => ?_)
     ·obtain rfl:=sI H6;exact pB 3 [.eqT 38 bF] [.only [1,2,4,5,6,7,8,9] [2,4,6,8,9]] (lh x0 x1 i0 s0 (y1.1.Const,y1.1.Terms)) (aM c4 aN)
     ·refine aD H7 fun y2 h8 H8 => ?_;obtain rfl:=sI H8;exact pB 3 [.eqT 38 bT,r0 [.v,.v,.c true (.agg [iI y2.Const,dS ai y2.Terms]),.m]] [.only [1,2,4,5,6,7,8,9] [2,4,6,8,9]] (lh x0 x1 i0 s0 (y2.Const,y2.Terms)) (aM c5 (aC Tryz.call168 (aF (yI _ _ h8) aN)))
    ·refine aD H5 fun y3 h9 H9 => ?_;refine aK H9 (fun c6 H10 => ?_) (fun c7 H11 => ?_)
     ·refine aD H10 fun y4 h10 H12 => ?_;refine gB 2 1 (ps:=[(x0.Terms.map ai).length≤9223372036854775807]) (by kernel_rfl) (fun l0 => ?_);have l1:x0.Terms.length≤9223372036854775807:=by simpa only [bI,Hp] using l0
      clear l0;obtain rfl:=sI H12;exact pB 8 [r0 [.v,.c true (.bool y3),.v],.eqT 44 bF,r0 (V 4 [.c true (.agg [iI y4.Const,dS ai y4.Terms]),.m]),V3] [.only [1,2,4,5,6,7] [2,4,6]] (kX x0 x1 (i0+1) (y4.Const,y4.Terms)) (aC Tryz.call18 (aF (b9 _ _ h9) (aT (aM c6 (aC Tryz.call169 (aF (wu _ _ _ _ h10) (aH i0 aN)))))))
     ·obtain rfl:=sI H11;obtain rfl:=aR h5;obtain rfl:=sI (aA H3);exact pR 8 [r0 [.v,.c true (.bool y3),.v],.eqT 44 bT,r0 [.b,.m,.v]] [.wkH 4 1 []] [] (aC Tryz.call18 (aF (b9 _ _ h9) (aT (aM c7 aN))))
  ·subst e0;have H13:=bl H3;refine aD H13 fun y5 h11 H14 => ?_;obtain rfl:=sI H14;exact pR 3 [r0 [.v,.c true (.tup [.agg [iI y5.1.Const,dS ai y5.1.Terms],iI y5.2]),.v,.v,.m,.v]] [] [] (aC Tryz.call170 (aF (ue _ _ h11) aN))
 ·obtain rfl:=sI H2;exact pR 10 [r0 [.m,.m,.v],r0 [.v,.c true (.bool y0),.v],.eqT 13 bT,r0 [.b,.m,.v]] [.wkH 4 1 []] [] (aC Tryz.call18 (aF (b9 _ _ h0) (aT (aM c1 aN))))
def iY (x0:aq) (x1 x2:List Linear):Option (Shape×Int) :=
 bif decide ((bg (((x1.length:Nat):Int)+((x2.length:Nat):Int)))>6) then (
  some ((Shape.mk [] []),3)
 ) else (
  cb (x1.length*32≤140737488355328) <|
  cb ((x1.length+x2.length)*32≤140737488355328) <|
  some ((Shape.mk x0 (x1++x2)),0)
 )
theorem se (x0:aq) (x1 x2:List Linear) (r:Shape×Int) (H:iY x0 x1 x2=some r):aW Tryz.prog 126 [.str x0,dS ae x1,dS ae x2] (.tup [.agg [.str r.1.Row,dS ae r.1.Dims],iI r.2]):=by
 unfold iY at H;refine aX Tryz.func126 22 [.cell 6 34,.tmp 7] ?_;refine aK H (fun c0 H0 => ?_) (fun c1 H1 => ?_)
 ·obtain rfl:=sI H0;exact pR 10 [r0 [.m,.v],r0 [.v,.e (nI x1.length),.v,.e (nI x2.length),.w,.v],.eqT 13 bT,r0 [.b,.m,.v]] [.wkH 6 1 []] [] (aT (aC (aG ae x1) (aT (aC (aG ae x2) (aB c0 aN)))))
 ·refine aP H1 fun g0 H2 => ?_;refine aP H2 fun g1 H3 => ?_;obtain rfl:=sI H3;exact pR 11 [r0 [.m,.v],r0 [.v,.e (nI x1.length),.v,.e (nI x2.length),.w,.v],.eqT 13 bF,r0 [.v,.b,.v,.er 16 18 29 2,.ap,.rwH 18 (.row 29 2 (x1.map ae)),.v,.ap,.rwH 20 (.row 29 2 ((x1++x2).map ae)),.b,.m,.v]] [.fz 20] [] (aT (aC (aG ae x1) (aT (aC (aG ae x2) (aB c1 (a8 (qB (c:=ae) fF [] x1 32 (by decide) (by first | (simp;done) | simpa using g0)) (aC (CR 29 2 ae x1) (a8 (qB (c:=ae) fF x1 x2 32 (by decide) (by first | (simp;done) | simpa using g1)) (aC (tI 29 2 ae x1 x2) aN)))))))))
def jA (x0:Shape) (x1:List Bind):Option (Shape×Int) :=
 (fP x0).bind fun y0 =>
 bif y0 then (
  (cR x1).bind fun y1 =>
  bif y1 then (
   (dF (σ:=(List Linear)) (ε:=(List Linear)) (ρ:=(Shape×Int)) (fun i0 s0 =>
    (jK (Linear.mk ((x0.Dims.getD i0 ax).Const) ((x0.Dims.getD i0 ax).Terms)) x1).bind fun y2 =>
    bif (y2.2==0) then (
     cb ((s0.length+1)*32≤140737488355328) <|
     some (.go (s0++[y2.1]))
    ) else (
     some (.ret ((Shape.mk [] []),y2.2))
    )
   ) (fun i0 s0=>s0) (x0.Dims.length-0) 0 []).bind <| aft fun u0 =>
   (gK x1 2 x0.Row).bind fun y3 =>
   ((
    bif (x0.Row==[]) then (
     some true
    ) else (
     some (decide (y3<0))
    )
   ):Option Bool).bind fun v0 =>
   bif v0 then (
    (iY x0.Row [] u0).bind fun y4 =>
    some (y4.1,y4.2)
   ) else (
    cb (0≤y3∧y3<(x1.length:Int)) <|
    (iY (((x1.getD y3.toNat ak).Row).Row) (((x1.getD y3.toNat ak).Row).Dims) u0).bind fun y5 =>
    some (y5.1,y5.2)
   )
  ) else (
   some ((Shape.mk [] []),1)
  )
 ) else (
  some ((Shape.mk [] []),1)
 )
def lD (x0:Shape) (x1:List Bind) (i0:Nat) (s0:List Linear):AS:=⟨78,[(1,dS al x1),(2,.hptr 2 0),(4,.hptr 4 0),(5,iI 0),(6,.rslice 44),(7,nI i0)],[(2,.cells 34 [.str x0.Row,dS ae x0.Dims]),(4,.cells 34 [.str [],.eslice]),(44,.row 29 2 (s0.map ae))]⟩
def pP (x0:Shape) (x1:List Bind) (u1:List Linear):AS:=⟨78,[(1,dS al x1),(2,.hptr 2 0),(4,.hptr 4 0),(5,iI 0),(6,.rslice 44)],[(2,.cells 34 [.str x0.Row,dS ae x0.Dims]),(4,.cells 34 [.str [],.eslice]),(44,.row 29 2 (u1.map ae))]⟩
def lZ (x0:Shape) (x1:List Bind) (u0:List Linear) (y3:Int) (v0:Bool):AS:=⟨78,[(1,dS al x1),(2,.hptr 2 0),(4,.hptr 4 0),(5,iI 0),(6,.rslice 44),(10,iI y3),(55,.bool v0)],[(2,.cells 34 [.str x0.Row,dS ae x0.Dims]),(4,.cells 34 [.str [],.eslice]),(44,.row 29 2 (u0.map ae))]⟩
theorem wU (x0:Shape) (x1:List Bind) (r:Shape×Int) (H:jA x0 x1=some r):aW Tryz.prog 65 [.agg [.str x0.Row,dS ae x0.Dims],dS al x1] (.tup [.agg [.str r.1.Row,dS ae r.1.Dims],iI r.2]):=by
 unfold jA at H;refine aX Tryz.func65 78 [.cell 4 34,.tmp 5] ?_;refine aD H fun y0 h0 H0 => ?_;refine aK H0 (fun c0 H1 => ?_) (fun c1 H2 => ?_)
 ·refine aD H1 fun y1 h1 H3 => ?_;refine aK H3 (fun c2 H4 => ?_) (fun c3 H5 => ?_)
  ·refine pA 14 [.rg 0 [] [.m,.m,.v],.rg 0 [] [.v,.c true bT,.v,.v,.v,.c true (.bool y1),.v,.v],.eqT 18 bF,.rg 0 [] [.v],.rg 0 [] [.v]] [.er 6 44 29 2,.only [1,2,4,5,6,7] [2,4,44]] 13 [false] (lD x0 x1 0 []) (aC Tryz.call124 (aC (aW.eq (ef _ _ h0) (cB c0)) (aT (aC Tryz.call35 (aF (cP _ _ h1) (aT (aM c2 aN))))))) ?_;refine aD H4 fun R0 h2 H6 => ?_;refine pJ 1 (pP x0 x1) R0 ?_ (fun u0 e0 => ?_)
   ·refine pC (lD x0 x1) h2 (fun i0 s0 h3 e1 => ?_) (fun i0 s0 h4 q0 h5 h6 => ?_)
    ·have c4:=lF i0 x0.Dims.length (by omega);subst e1;exact pB 5 [r0 [.v,.v,.v,.e (nI x0.Dims.length),.e bF]] [.only [1,2,4,5,6] [2,4,44]] (pP x0 x1 s0) (aT (aC (aG ae x0.Dims) (aB c4 aN)))
    ·have c5:=lT i0 x0.Dims.length (by omega);refine aD h5 fun y2 h7 H7 => ?_;refine pD 12 [r0 [.v,.v,.v,.e (nI x0.Dims.length),.e bT],r0 [.v,.v,.v,.e (.dptr (ae (x0.Dims.getD i0 ax))),.v,.v,.c true (.tup [.agg [iI y2.1.Const,dS ai y2.1.Terms],iI y2.2]),.v,.v,.v,.m,.m,.v],V2] [.only [1,2,4,5,6,7,8,9,38] [2,4,8,44]] 12 [true] (aT (aC (aG ae x0.Dims) (aB c5 (aI bA x0.Dims i0 ax (aC Tryz.call125 (aF (wN _ _ _ h7) aN)))))) ?_;refine aK H7 (fun c6 H8 => ?_) (fun c7 H9 => ?_)
     ·refine aP H8 fun g0 H10 => ?_;refine gB 2 1 (ps:=[(x0.Dims.map ae).length≤9223372036854775807]) (by kernel_rfl) (fun l0 => ?_);have l1:x0.Dims.length≤9223372036854775807:=by simpa only [bI,Hp] using l0
      clear l0;obtain rfl:=sI H10;exact pB 5 [.eqT 38 bF,r0 [.v,.v,.b,.ap,.rwH 44 (.row 29 2 ((s0++[y2.1]).map ae)),.v],V3] [.only [1,2,4,5,6,7] [2,4,44]] (lD x0 x1 (i0+1) (s0++[y2.1])) (aM c6 (a8 (qB (c:=ae) fF s0 [y2.1] 32 (by decide) (by first | (simp;done) | simpa using g0)) (aC (tI 29 2 ae s0 [y2.1]) (aH i0 aN))))
     ·obtain rfl:=sI H9;obtain rfl:=aR h6;obtain rfl:=sI (aA H6);exact pR 5 [.eqT 38 bT,r0 [.b,.v,.m,.v]] [.wkH 4 1 []] [] (aM c7 aN)
   ·subst e0;have H11:=bl H6;refine aD H11 fun y3 h8 H12 => ?_;refine pD 4 [r0 [.v,.v,.v,.c true (iI y3),.v]] [.only [1,2,4,5,6,10] [2,4,44]] 4 [] (aC Tryz.call66 (aF (ky _ _ _ _ h8) aN)) ?_;refine aD H12 fun v0 h9 H13 => ?_;refine cS 0 (lZ x0 x1 u0 y3 v0) (by kernel_rfl) ?_ ?_
    ·refine aK h9 (fun c8 H14 => ?_) (fun c9 H15 => ?_)
     ·obtain rfl:=sI H14;exact pB 1 [r0 [.v,.v,.e bT,.v,.s,.s,.v]] [.only [1,2,4,5,6,10,55] [2,4,44]] (lZ x0 x1 u0 y3 true) (aB c8 aN)
     ·obtain rfl:=sI H15;exact pB 1 [r0 [.v,.v,.e bF,.v,.v,.v,.v]] [.only [1,2,4,5,6,10,55] [2,4,44]] (lZ x0 x1 u0 y3 (decide (y3<0))) (aB c9 aN)
    ·refine aK H13 (fun c10 H16 => ?_) (fun c11 H17 => ?_)
     ·refine aD H16 fun y4 h10 H18 => ?_;obtain rfl:=sI H18;exact pR 5 [.eqT 55 bT,r0 [.v,.v,.v,.fz 44,.cw true [(1,[])] (.tup [.agg [.str y4.1.Row,dS ae y4.1.Dims],iI y4.2]),.v,.v,.m,.v]] [] [] (aB c10 (aC Tryz.call126 (aF (se _ _ _ _ h10) aN)))
     ·refine aP H17 fun g1 H19 => ?_;refine aD H19 fun y5 h11 H20 => ?_;obtain rfl:=sI H20;exact pR 7 [.eqT 55 bF,.cv [.fz 44],.rg 16 [.v,.v,.e (.dptr (al (x1.getD y3.toNat ak))),.v,.v,.v,.v,.v,.e (.dptr (al (x1.getD y3.toNat ak))),.v,.v,.v,.v,.c true (.tup [.agg [.str y5.1.Row,dS ae y5.1.Dims],iI y5.2]),.v,.v] [.m,.v]] [] [] (aB c11 (a8 (Dc (f:=al) (l:=x1) (n:=y3) ak aQ (by decide) (by exact g1)) (a8 (Dc (f:=al) (l:=x1) (n:=y3) ak aQ (by decide) (by exact g1)) (aC Tryz.call126 (aF (se _ _ _ _ h11) aN)))))
  ·obtain rfl:=sI H5;exact pR 10 [r0 [.m,.m,.v],r0 [.v,.c true bT,.v,.v,.v,.c true (.bool y1),.v,.v],.eqT 18 bT,r0 [.b,.m,.v]] [.wkH 4 1 []] [] (aC Tryz.call124 (aC (aW.eq (ef _ _ h0) (cB c0)) (aT (aC Tryz.call35 (aF (cP _ _ h1) (aT (aM c3 aN)))))))
 ·obtain rfl:=sI H2;exact pR 9 [r0 [.m,.m,.v],r0 [.v,.c true bF,.v,.v,.s,.s,.s,.v],r0 [.b,.m,.v]] [.wkH 4 1 []] [] (aC Tryz.call124 (aC (aW.eq (ef _ _ h0) (cB c1)) (aT aN)))
def fJ (x0:bQ) (x1:List Bind):Option (bQ×Int) :=
 (jM x0).bind fun y0 =>
 bif y0 then (
  (cR x1).bind fun y1 =>
  bif y1 then (
   (jA x0.Shape x1).bind fun y2 =>
   bif (y2.2==0) then (
    (gK x1 3 x0.Elem).bind fun y3 =>
    bif decide (y3≥0) then (
     cb (0≤y3∧y3<(x1.length:Int)) <|
     some ((bQ.mk ((x1.getD y3.toNat ak).Elem) y2.1),0)
    ) else (
     some ((bQ.mk x0.Elem y2.1),0)
    )
   ) else (
    some ((bQ.mk [] (Shape.mk [] [])),y2.2)
   )
  ) else (
   some ((bQ.mk [] (Shape.mk [] [])),1)
  )
 ) else (
  some ((bQ.mk [] (Shape.mk [] [])),1)
 )
theorem nl (x0:bQ) (x1:List Bind) (r:bQ×Int) (H:fJ x0 x1=some r):aW Tryz.prog 31 [.agg [.str x0.Elem,.str x0.Shape.Row,dS ae x0.Shape.Dims],dS al x1] (.tup [.agg [.str r.1.Elem,.str r.1.Shape.Row,dS ae r.1.Shape.Dims],iI r.2]):=by
 unfold fJ at H;refine aX Tryz.func31 47 [.cell 4 36,.tmp 5] ?_;refine aD H fun y0 h0 H0 => ?_;refine aK H0 (fun c0 H1 => ?_) (fun c1 H2 => ?_)
 ·refine aD H1 fun y1 h1 H3 => ?_;refine aK H3 (fun c2 H4 => ?_) (fun c3 H5 => ?_)
  ·refine aD H4 fun y2 h2 H6 => ?_;refine pD 13 [r0 [.m,.m,.v],r0 [.v,.c true bT,.v,.v,.v,.c true (.bool y1),.v,.v],.eqT 17 bF,r0 [.v,.v,.v,.c true (.tup [.agg [.str y2.1.Row,dS ae y2.1.Dims],iI y2.2]),.v,.v,.v,.m,.m,.v],V2] [.only [1,2,4,5,6,7,27] [2,4,6]] 12 [false] (aC Tryz.call64 (aC (aW.eq (nf _ _ h0) (cB c0)) (aT (aC Tryz.call35 (aF (cP _ _ h1) (aT (aM c2 (aC Tryz.call65 (aF (wU _ _ _ h2) aN))))))))) ?_;refine aK H6 (fun c4 H7 => ?_) (fun c5 H8 => ?_)
   ·refine aD H7 fun y3 h3 H9 => ?_;refine aK H9 (fun c6 H10 => ?_) (fun c7 H11 => ?_)
    ·refine aP H10 fun g0 H12 => ?_;obtain rfl:=sI H12;exact pR 16 [.eqT 27 bF,r0 [.v,.v,.v,.b,.m,.m],r0 [.v,.v,.v,.c true (iI y3),.v],V2,.eqT 39 bT,r0 [.v,.v,.e (.dptr (al (x1.getD y3.toNat ak))),.v,.v,.v,.m],r0 [.v,.m,.v]] [] [] (aM c4 (aC Tryz.call66 (aF (ky _ _ _ _ h3) (aB c6 (a8 (Dc (f:=al) (l:=x1) (n:=y3) ak aQ (by decide) (by exact g0)) aN)))))
    ·obtain rfl:=sI H11;exact pR 16 [.eqT 27 bF,r0 [.v,.v,.v,.b,.m,.m],r0 [.v,.v,.v,.c true (iI y3),.v],V2,.eqT 39 bF,r0 [.v,.m,.v]] [] [] (aM c4 (aC Tryz.call66 (aF (ky _ _ _ _ h3) (aB c7 aN))))
   ·obtain rfl:=sI H8;exact pR 5 [.eqT 27 bT,r0 [.b,.v,.m,.v]] [.wkH 4 2 []] [] (aM c5 aN)
  ·obtain rfl:=sI H5;exact pR 10 [r0 [.m,.m,.v],r0 [.v,.c true bT,.v,.v,.v,.c true (.bool y1),.v,.v],.eqT 17 bT,r0 [.b,.m,.v]] [.wkH 4 2 []] [] (aC Tryz.call64 (aC (aW.eq (nf _ _ h0) (cB c0)) (aT (aC Tryz.call35 (aF (cP _ _ h1) (aT (aM c3 aN)))))))
 ·obtain rfl:=sI H2;exact pR 9 [r0 [.m,.m,.v],r0 [.v,.c true bF,.v,.v,.s,.s,.s,.v],r0 [.b,.m,.v]] [.wkH 4 2 []] [] (aC Tryz.call64 (aC (aW.eq (nf _ _ h0) (cB c1)) (aT aN)))
def mK (x0:bQ) (x1:List Bind):Option (bQ×Int) :=
 (fJ x0 x1).bind fun y0 =>
 some (y0.1,y0.2)
theorem wL (x0:bQ) (x1:List Bind) (r:bQ×Int) (H:mK x0 x1=some r):aW Tryz.prog 12 [.agg [.str x0.Elem,.str x0.Shape.Row,dS ae x0.Shape.Dims],dS al x1] (.tup [.agg [.str r.1.Elem,.str r.1.Shape.Row,dS ae r.1.Shape.Dims],iI r.2]):=by unfold mK at H;refine aX Tryz.func12 11 [.cell 4 36,.tmp 5] ?_;refine aD H fun y0 h0 H0 => ?_;obtain rfl:=sI H0;exact pR 5 [r0 [.m,.m,.v],r0 [.v,.v,.c true (.tup [.agg [.str y0.1.Elem,.str y0.1.Shape.Row,dS ae y0.1.Shape.Dims],iI y0.2]),.v,.v,.m,.v]] [] [] (aC Tryz.call31 (aF (nl _ _ _ h0) aN))
def jw (x0 x1:Linear):Option Int :=
 (dF (σ:=Unit) (ε:=Unit) (ρ:=Int) (fun i0 s0 =>
  bif decide (((i0:Nat):Int)<((x1.Terms.length:Nat):Int)) then (
   ((
    bif (Op.bytesLess ((x0.Terms.getD i0 aw).Var) ((x1.Terms.getD i0 aw).Var)) then (
     some (.ret (.ret (-1)))
    ) else (
     bif (((x0.Terms.getD i0 aw).Var)==((x1.Terms.getD i0 aw).Var)) then (
      bif decide (((x0.Terms.getD i0 aw).C)<((x1.Terms.getD i0 aw).C)) then (
       some (.ret (.ret (-1)))
      ) else (
       bif ((((x0.Terms.getD i0 aw).Var)==((x1.Terms.getD i0 aw).Var))&&((((x0.Terms.getD i0 aw).C)==((x1.Terms.getD i0 aw).C))&&true)) then (
        some (.brk ())
       ) else (
        some (.ret (.ret 1))
       )
      )
     ) else (
      bif ((((x0.Terms.getD i0 aw).Var)==((x1.Terms.getD i0 aw).Var))&&((((x0.Terms.getD i0 aw).C)==((x1.Terms.getD i0 aw).C))&&true)) then (
       some (.brk ())
      ) else (
       some (.ret (.ret 1))
      )
     )
    )
   ):Option (Out Unit (kg Unit Unit Int))).bind (aft fun u0 =>
    some (.go ())
   )
  ) else (
   some (.brk ())
  )
 ) (fun i0 s0=>()) (x0.Terms.length-0) 0 ()).bind <| aft fun u1 =>
 bif decide (((x0.Terms.length:Nat):Int)<((x1.Terms.length:Nat):Int)) then (
  some (-1)
 ) else (
  bif (((x0.Terms.length:Nat):Int)==((x1.Terms.length:Nat):Int)) then (
   bif decide (x0.Const<x1.Const) then (
    some (-1)
   ) else (
    bif decide (((x0.Terms.length:Nat):Int)>((x1.Terms.length:Nat):Int)) then (
     some 1
    ) else (
     bif decide (x0.Const>x1.Const) then (
      some 1
     ) else (
      some 0
     )
    )
   )
  ) else (
   bif decide (((x0.Terms.length:Nat):Int)>((x1.Terms.length:Nat):Int)) then (
    some 1
   ) else (
    bif decide (x0.Const>x1.Const) then (
     some 1
    ) else (
     some 0
    )
   )
  )
 )
def iV (x0 x1:Linear) (i0:Nat) (s0:Unit):AS:=⟨95,[(2,.hptr 2 0),(3,.hptr 3 0),(4,iI 0),(5,nI i0)],[(2,.cells 29 [iI x0.Const,dS ai x0.Terms]),(3,.cells 29 [iI x1.Const,dS ai x1.Terms])]⟩
def jr (x0 x1:Linear) (u2:Unit):AS:=⟨95,[(2,.hptr 2 0),(3,.hptr 3 0),(4,iI 0)],[(2,.cells 29 [iI x0.Const,dS ai x0.Terms]),(3,.cells 29 [iI x1.Const,dS ai x1.Terms])]⟩
def ja (x0 x1:Linear) (i0:Nat) (u0:Unit):AS:=⟨95,[(2,.hptr 2 0),(3,.hptr 3 0),(4,iI 0),(5,nI i0)],[(2,.cells 29 [iI x0.Const,dS ai x0.Terms]),(3,.cells 29 [iI x1.Const,dS ai x1.Terms])]⟩
theorem tS (x0 x1:Linear) (r:Int) (H:jw x0 x1=some r):aW Tryz.prog 127 [.agg [iI x0.Const,dS ai x0.Terms],.agg [iI x1.Const,dS ai x1.Terms]] (iI r):=by
 unfold jw at H;refine aX Tryz.func127 95 [.tmp 4] ?_;refine pA 6 [r0 [.m,.m,.v],V1] [.only [2,3,4,5] [2,3]] 6 [] (iV x0 x1 0 ()) aN ?_;refine aD H fun R0 h0 H0 => ?_;refine pJ 1 (jr x0 x1) R0 ?_ (fun u1 e0 => ?_)
 ·refine pC (iV x0 x1) h0 (fun i0 s0 h1 e1 => ?_) (fun i0 s0 h2 q0 h3 h4 => ?_)
  ·have c0:=lF i0 x0.Terms.length (by omega);subst e1;exact pB 5 [r0 [.v,.v,.v,.e (nI x0.Terms.length),.e bF,.v,.s,.s,.s,.s,.s,.v]] [.only [2,3,4] [2,3]] (jr x0 x1 ()) (aT (aC (aG ai x0.Terms) (aB c0 aN)))
  ·have c1:=lT i0 x0.Terms.length (by omega);refine aK h3 (fun c2 H1 => ?_) (fun c3 H2 => ?_)
   ·have c2p:=Hm c2;refine pD 12 [r0 [.v,.v,.v,.e (nI x0.Terms.length),.e bT,.v,.v,.v,.v,.e (nI x1.Terms.length),.v,.v],.eqT 19 bT,.rg 13 [.v,.v,.v,.e (.dptr (ai (x0.Terms.getD i0 aw))),.v,.v,.v,.v,.e (.dptr (ai (x1.Terms.getD i0 aw))),.v,.m,.m,.m] [.m]] [.only [2,3,4,5,6,7] [2,3,6,7]] 11 [true] (aT (aC (aG ai x0.Terms) (aB c1 (aT (aC (aG ai x1.Terms) (aB c2 (aI bE x0.Terms i0 aw (aI bE x1.Terms i0 aw aN)))))))) ?_;refine aD H1 fun v0 h5 H3 => ?_;refine pJ 3 (ja x0 x1 i0) v0 ?_ (fun u0 e2 => ?_)
    ·refine aK h5 (fun c4 H4 => ?_) (fun c5 H5 => ?_)
     ·obtain rfl:=sI H4;obtain rfl:=sI (aA H3);obtain rfl:=aR h4;obtain rfl:=sI (aA H0);exact pR 5 [r0 (V 4 [.e bT,.v,.s,.s,.s,.s,.s,.s,.s,.s,.s,.s,.s,.s,.v,.v]),V1] [] [] (aB c4 aN)
     ·refine aK H5 (fun c6 H6 => ?_) (fun c7 H7 => ?_)
      ·refine aK H6 (fun c8 H8 => ?_) (fun c9 H9 => ?_)
       ·obtain rfl:=sI H8;obtain rfl:=sI (aA H3);obtain rfl:=aR h4;obtain rfl:=sI (aA H0);exact pR 6 [r0 (V 4 [.e bF,.v,.v,.v,.v,.v,.e bT,.v,.v,.v,.v,.v,.v,.v,.v,.v]),.eqT 32 bT,V1] [] [] (aB c5 (aB c6 (aB c8 aN)))
       ·refine aK H9 (fun c10 H10 => ?_) (fun c11 H11 => ?_)
        ·obtain rfl:=sI H10;exact pB 8 [r0 (V 4 [.e bF,.v,.v,.v,.v,.v,.e bT,.v,.v,.v,.v,.v,.v,.v,.v,.v]),.eqT 32 bF,r0 [.v,.v,.w,.v],.eqT 52 bF] [.only [2,3,4,5] [2,3]] (ja x0 x1 i0 ()) (aB c5 (aB c6 (aB c9 (aM c10 aN))))
        ·obtain rfl:=sI H11;obtain rfl:=sI (aA H3);obtain rfl:=aR h4;obtain rfl:=sI (aA H0);exact pR 10 [r0 (V 4 [.e bF,.v,.v,.v,.v,.v,.e bT,.v,.v,.v,.v,.v,.v,.v,.v,.v]),.eqT 32 bF,r0 [.v,.v,.w,.v],.eqT 52 bT,V1] [] [] (aB c5 (aB c6 (aB c9 (aM c11 aN))))
      ·refine aK H7 (fun c12 H12 => ?_) (fun c13 H13 => ?_)
       ·obtain rfl:=sI H12;exact pB 7 [r0 (V 4 [.e bF,.v,.v,.v,.v,.v,.e bF,.v,.s,.s,.s,.s,.s,.v,.v,.v]),r0 [.v,.v,.w,.v],.eqT 52 bF] [.only [2,3,4,5] [2,3]] (ja x0 x1 i0 ()) (aB c5 (aB c7 (aM c12 aN)))
       ·obtain rfl:=sI H13;obtain rfl:=sI (aA H3);obtain rfl:=aR h4;obtain rfl:=sI (aA H0);exact pR 9 [r0 (V 4 [.e bF,.v,.v,.v,.v,.v,.e bF,.v,.s,.s,.s,.s,.s,.v,.v,.v]),r0 [.v,.v,.w,.v],.eqT 52 bT,V1] [] [] (aB c5 (aB c7 (aM c13 aN)))
    ·subst e2;have H14:=bl H3;refine gB 2 1 (ps:=[(x0.Terms.map ai).length≤9223372036854775807]) (by kernel_rfl) (fun l0 => ?_);have l1:x0.Terms.length≤9223372036854775807:=by simpa only [bI,Hp] using l0
     clear l0;obtain rfl:=sI H14;exact pB 1 [V3] [.only [2,3,4,5] [2,3]] (iV x0 x1 (i0+1) ()) (aH i0 aN)
   ·obtain rfl:=sI H2;obtain rfl:=fy h4;exact pB 6 [r0 [.v,.v,.v,.e (nI x0.Terms.length),.e bT,.v,.v,.v,.v,.e (nI x1.Terms.length),.v,.v],.eqT 19 bF] [.only [2,3,4] [2,3]] (jr x0 x1 ()) (aT (aC (aG ai x0.Terms) (aB c1 (aT (aC (aG ai x1.Terms) (aB c3 aN))))))
 ·subst e0;have H15:=bl H0;refine aK H15 (fun c14 H16 => ?_) (fun c15 H17 => ?_)
  ·obtain rfl:=sI H16;exact pR 8 [r0 [.v,.v,.e (nI x0.Terms.length),.v,.v,.e (nI x1.Terms.length),.e bT,.v,.s,.s,.s,.s,.s,.s,.s,.s,.s,.s,.s,.s,.s,.s,.v,.v],V1] [] [] (aT (aC (aG ai x0.Terms) (aT (aC (aG ai x1.Terms) (aB c14 aN)))))
  ·refine aK H17 (fun c16 H18 => ?_) (fun c17 H19 => ?_)
   ·refine pD 4 [.rg 0 [] [.v,.v,.e (.int .i64 ((x0.Terms.length:Nat):Int)),.v,.v,.e (.int .i64 ((x1.Terms.length:Nat):Int)),.e bF,.v,.v,.v,.e (.int .i64 ((x0.Terms.length:Nat):Int)),.v,.v,.e (.int .i64 ((x1.Terms.length:Nat):Int)),.e bT,.v,.v,.v,.v,.v,.v,.v,.v,.v]] [.only [2,3,4,56] [2,3]] 4 [] (aT (aC (aG ai x0.Terms) (aT (aC (aG ai x1.Terms) (aB c15 (aT (aC (aG ai x0.Terms) (aT (aC (aG ai x1.Terms) (aB c16 aN)))))))))) ?_;refine aK H18 (fun c18 H20 => ?_) (fun c19 H21 => ?_)
    ·obtain rfl:=sI H20;exact pR 5 [.eqT 56 bT,V1] [] [] (aB c18 aN)
    ·refine aK H21 (fun c20 H22 => ?_) (fun c21 H23 => ?_)
     ·obtain rfl:=sI H22;exact pR 8 [.eqT 56 bF,r0 [.v,.v,.e (nI x0.Terms.length),.v,.v,.e (nI x1.Terms.length),.e bT,.v,.s,.s,.s,.s,.s,.v,.v],V1] [] [] (aB c19 (aT (aC (aG ai x0.Terms) (aT (aC (aG ai x1.Terms) (aB c20 aN))))))
     ·refine aK H23 (fun c22 H24 => ?_) (fun c23 H25 => ?_)
      ·obtain rfl:=sI H24;exact pR 9 [.eqT 56 bF,r0 [.v,.v,.e (nI x0.Terms.length),.v,.v,.e (nI x1.Terms.length),.e bF,.v,.v,.v,.v,.v,.v,.v,.v],.eqT 80 bT,V1] [] [] (aB c19 (aT (aC (aG ai x0.Terms) (aT (aC (aG ai x1.Terms) (aB c21 (aB c22 aN)))))))
      ·obtain rfl:=sI H25;exact pR 10 [.eqT 56 bF,r0 [.v,.v,.e (nI x0.Terms.length),.v,.v,.e (nI x1.Terms.length),.e bF,.v,.v,.v,.v,.v,.v,.v,.v],.eqT 80 bF,V1] [] [] (aB c19 (aT (aC (aG ai x0.Terms) (aT (aC (aG ai x1.Terms) (aB c21 (aB c23 aN)))))))
   ·refine pD 6 [.rg 0 [] [.v,.v,.e (.int .i64 ((x0.Terms.length:Nat):Int)),.v,.v,.e (.int .i64 ((x1.Terms.length:Nat):Int)),.e bF,.v,.v,.v,.e (.int .i64 ((x0.Terms.length:Nat):Int)),.v,.v,.e (.int .i64 ((x1.Terms.length:Nat):Int)),.e bF,.v,.s,.s,.s,.s,.s,.v,.v,.v]] [.only [2,3,4] [2,3]] 6 [false] (aT (aC (aG ai x0.Terms) (aT (aC (aG ai x1.Terms) (aB c15 (aT (aC (aG ai x0.Terms) (aT (aC (aG ai x1.Terms) (aB c17 aN)))))))))) ?_;refine aK H19 (fun c24 H26 => ?_) (fun c25 H27 => ?_)
    ·obtain rfl:=sI H26;exact pR 5 [r0 [.v,.v,.e (nI x0.Terms.length),.v,.v,.e (nI x1.Terms.length),.e bT,.v,.s,.s,.s,.s,.s,.v,.v],V1] [] [] (aT (aC (aG ai x0.Terms) (aT (aC (aG ai x1.Terms) (aB c24 aN)))))
    ·refine aK H27 (fun c26 H28 => ?_) (fun c27 H29 => ?_)
     ·obtain rfl:=sI H28;exact pR 6 [r0 [.v,.v,.e (nI x0.Terms.length),.v,.v,.e (nI x1.Terms.length),.e bF,.v,.v,.v,.v,.v,.v,.v,.v],.eqT 80 bT,V1] [] [] (aT (aC (aG ai x0.Terms) (aT (aC (aG ai x1.Terms) (aB c25 (aB c26 aN))))))
     ·obtain rfl:=sI H29;exact pR 7 [r0 [.v,.v,.e (nI x0.Terms.length),.v,.v,.e (nI x1.Terms.length),.e bF,.v,.v,.v,.v,.v,.v,.v,.v],.eqT 80 bF,V1] [] [] (aT (aC (aG ai x0.Terms) (aT (aC (aG ai x1.Terms) (aB c25 (aB c27 aN))))))
def jz (x0 x1:Linear):Option Bool :=
 (jw x0 x1).bind fun y0 =>
 some (y0==0)
theorem wC (x0 x1:Linear) (r:Bool) (H:jz x0 x1=some r):aW Tryz.prog 67 [.agg [iI x0.Const,dS ai x0.Terms],.agg [iI x1.Const,dS ai x1.Terms]] (.bool r):=by unfold jz at H;refine aX Tryz.func67 9 [.tmp 4] ?_;refine aD H fun y0 h0 H0 => ?_;obtain rfl:=sI H0;exact pR 5 [r0 [.m,.m,.v],r0 [.v,.v,.c true (iI y0),.v,.v]] [] [] (aC Tryz.call127 (aF (tS _ _ _ h0) aN))
def jP (x0 x1:Shape):Option Bool :=
 bif (x0.Row==x1.Row) then (
  bif (((x0.Dims.length:Nat):Int)==((x1.Dims.length:Nat):Int)) then (
   (dF (σ:=Unit) (ε:=Unit) (ρ:=Bool) (fun i0 s0 =>
    cb (i0<x1.Dims.length) <|
    (jz (Linear.mk ((x0.Dims.getD i0 ax).Const) ((x0.Dims.getD i0 ax).Terms)) (Linear.mk ((x1.Dims.getD i0 ax).Const) ((x1.Dims.getD i0 ax).Terms))).bind fun y0 =>
    bif y0 then (
     some (.go ())
    ) else (
     some (.ret false)
    )
   ) (fun i0 s0=>()) (x0.Dims.length-0) 0 ()).bind <| aft fun u0 =>
   some true
  ) else (
   some false
  )
 ) else (
  some false
 )
def k7 (x0 x1:Shape) (i0:Nat) (s0:Unit):AS:=⟨39,[(2,.hptr 2 0),(3,.hptr 3 0),(4,.bool false),(5,nI i0)],[(2,.cells 34 [.str x0.Row,dS ae x0.Dims]),(3,.cells 34 [.str x1.Row,dS ae x1.Dims])]⟩
def qf (u1:Unit):AS:=⟨39,[(4,.bool false)],[]⟩
theorem wT (x0 x1:Shape) (r:Bool) (H:jP x0 x1=some r):aW Tryz.prog 32 [.agg [.str x0.Row,dS ae x0.Dims],.agg [.str x1.Row,dS ae x1.Dims]] (.bool r):=by
 unfold jP at H;refine aX Tryz.func32 39 [.tmp 4] ?_;refine aK H (fun c0 H0 => ?_) (fun c1 H1 => ?_)
 ·refine aK H0 (fun c2 H2 => ?_) (fun c3 H3 => ?_)
  ·refine pA 12 [.rg 0 [] [.m,.m,.v],.rg 0 [] (V 4 [.e bF,.v,.v,.v,.e (.int .i64 ((x0.Dims.length:Nat):Int)),.v,.v,.e (.int .i64 ((x1.Dims.length:Nat):Int)),.v,.v]),.eqT 19 bF,.rg 0 [] [.v]] [.only [2,3,4,5] [2,3]] 11 [false] (k7 x0 x1 0 ()) (aM c0 (aT (aC (aG ae x0.Dims) (aT (aC (aG ae x1.Dims) (aM c2 aN)))))) ?_;refine aD H2 fun R0 h0 H4 => ?_;refine pJ 1 (qf) R0 ?_ (fun u0 e0 => ?_)
   ·refine pC (k7 x0 x1) h0 (fun i0 s0 h1 e1 => ?_) (fun i0 s0 h2 q0 h3 h4 => ?_)
    ·have c4:=lF i0 x0.Dims.length (by omega);subst e1;exact pB 5 [r0 [.v,.v,.v,.e (nI x0.Dims.length),.e bF]] [.only [4] []] (qf ()) (aT (aC (aG ae x0.Dims) (aB c4 aN)))
    ·have c5:=lT i0 x0.Dims.length (by omega);refine aP h3 fun g0 H5 => ?_;refine aD H5 fun y0 h5 H6 => ?_;refine pD 9 [r0 [.v,.v,.v,.e (nI x0.Dims.length),.e bT],.rg 10 [.v,.v,.v,.e (.dptr (ae (x0.Dims.getD i0 ax))),.v,.v,.v,.v,.e (.dptr (ae (x1.Dims.getD i0 ax))),.v] [.c true (.bool y0),.v]] [.only [2,3,4,5,38] [2,3]] 9 [true] (aT (aC (aG ae x0.Dims) (aB c5 (aI bA x0.Dims i0 ax (aI bA x1.Dims i0 ax (aC Tryz.call67 (aF (wC _ _ _ h5) (aT aN)))))))) ?_;refine aK H6 (fun c6 H7 => ?_) (fun c7 H8 => ?_)
     ·refine gB 2 1 (ps:=[(x0.Dims.map ae).length≤9223372036854775807]) (by kernel_rfl) (fun l0 => ?_);have l1:x0.Dims.length≤9223372036854775807:=by simpa only [bI,Hp] using l0
      clear l0;obtain rfl:=sI H7;exact pB 4 [.eqT 38 bF,V3] [.only [2,3,4,5] [2,3]] (k7 x0 x1 (i0+1) ()) (aM c6 (aH i0 aN))
     ·obtain rfl:=sI H8;obtain rfl:=aR h4;obtain rfl:=sI (aA H4);exact pR 5 [.eqT 38 bT,V1] [] [] (aM c7 aN)
   ·subst e0;have H9:=bl H4;obtain rfl:=sI H9;exact pR 3 [V1] [] [] aN
  ·obtain rfl:=sI H3;exact pR 10 [r0 [.m,.m,.v],r0 (V 4 [.e bF,.v,.v,.v,.e (nI x0.Dims.length),.v,.v,.e (nI x1.Dims.length),.v,.v]),.eqT 19 bT,V1] [] [] (aM c0 (aT (aC (aG ae x0.Dims) (aT (aC (aG ae x1.Dims) (aM c3 aN))))))
 ·obtain rfl:=sI H1;exact pR 9 [r0 [.m,.m,.v],r0 (V 4 [.e bT,.v,.s,.s,.s,.s,.s,.s,.s,.v]),V1] [] [] (aM c1 aN)
def gS (x0 x1:bQ):Option Bool :=
 bif (x0.Elem==x1.Elem) then (
  (jP x0.Shape x1.Shape).bind fun y0 =>
  some y0
 ) else (
  some false
 )
theorem gv (x0 x1:bQ) (r:Bool) (H:gS x0 x1=some r):aW Tryz.prog 13 [.agg [.str x0.Elem,.str x0.Shape.Row,dS ae x0.Shape.Dims],.agg [.str x1.Elem,.str x1.Shape.Row,dS ae x1.Shape.Dims]] (.bool r):=by
 unfold gS at H;refine aX Tryz.func13 17 [.tmp 4] ?_;refine aK H (fun c0 H0 => ?_) (fun c1 H1 => ?_)
 ·refine aD H0 fun y0 h0 H2 => ?_;refine bc H2 fun e0 => ?_;subst e0;exact pR 5 [r0 [.m,.m,.v],r0 (V 4 [.e bT,.v,.v,.v,.v,.v,.c true (.bool y0),.v,.v])] [] [] (aB c0 (aC Tryz.call32 (aF (wT _ _ _ h0) aN)))
 ·obtain rfl:=sI H1;exact pR 5 [r0 [.m,.m,.v],r0 (V 4 [.e bF,.v,.s,.s,.s,.s,.s,.v,.v])] [] [] (aB c1 aN)
def nF (x0:List ah):Option (List ah) :=
 (dF (σ:=(List ah)) (ε:=(List ah)) (ρ:=Empty) (fun i0 s0 =>
  cb ((s0.length+1)*112≤140737488355328) <|
  some (.go (s0++[(ah.mk (bQ.mk (((x0.getD i0 aa).A).Elem) (Shape.mk ((((x0.getD i0 aa).A).Shape).Row) ((((x0.getD i0 aa).A).Shape).Dims))) (bQ.mk (((x0.getD i0 aa).B).Elem) (Shape.mk ((((x0.getD i0 aa).B).Shape).Row) ((((x0.getD i0 aa).B).Shape).Dims))))]))
 ) (fun i0 s0=>s0) (x0.length-0) 0 []).bind <| dq fun u0 =>
 some u0
def oF (x0:List ah) (i0:Nat) (s0:List ah):AS:=⟨18,[(2,.eslice),(3,.rslice 15),(6,dS ag x0),(7,nI x0.length),(8,nI i0)],[(15,.row 38 6 (s0.map ag))]⟩
def rQ (u1:List ah):AS:=⟨18,[(2,.eslice),(3,.rslice 15)],[(15,.row 38 6 (u1.map ag))]⟩
theorem zw (x0 r:List ah) (H:nF x0=some r):aW Tryz.prog 15 [dS ag x0] (dS ag r):=by
 unfold nF at H;refine aX Tryz.func15 18 [.tmp 2] ?_;refine pA 8 [V1,V1,r0 [.v,.e (nI x0.length),.v]] [.er 3 15 38 6,.only [2,3,6,7,8] [15]] 8 [] (oF x0 0 []) (aT (aC (aG ag x0) aN)) ?_;refine aD H fun R0 h0 H0 => ?_;refine pJ 1 (rQ) R0 ?_ (fun u0 e0 => ?_)
 ·refine pC (oF x0) h0 (fun i0 s0 h1 e1 => ?_) (fun i0 s0 h2 q0 h3 h4 => ?_)
  ·have c0:=lF i0 x0.length (by omega);subst e1;exact pB 5 [r0 [.e bF]] [.only [2,3] [15]] (rQ s0) (aB c0 aN)
  ·have c1:=lT i0 x0.length (by omega);refine aP h3 fun g0 H1 => ?_;refine bt 6 (ps:=[(x0.map ag).length≤9223372036854775807]) (by kernel_rfl) (fun l0 => ?_);have l1:x0.length≤9223372036854775807:=by simpa only [bI,Hp] using l0
   clear l0;obtain rfl:=sI H1;exact pB 11 [r0 [.e bT],r0 [.e (.dptr [.str (((x0.getD i0 aa).A).Elem),.str ((((x0.getD i0 aa).A).Shape).Row),.dslice (((((x0.getD i0 aa).A).Shape).Dims).map ae),.str (((x0.getD i0 aa).B).Elem),.str ((((x0.getD i0 aa).B).Shape).Row),.dslice (((((x0.getD i0 aa).B).Shape).Dims).map ae)]),.v,.m,.m],r0 [.v,.v,.b,.ap,.rwH 15 (.row 38 6 ((s0++[(ah.mk (bQ.mk (((x0.getD i0 aa).A).Elem) (Shape.mk ((((x0.getD i0 aa).A).Shape).Row) ((((x0.getD i0 aa).A).Shape).Dims))) (bQ.mk (((x0.getD i0 aa).B).Elem) (Shape.mk ((((x0.getD i0 aa).B).Shape).Row) ((((x0.getD i0 aa).B).Shape).Dims))))]).map ag)),.v],V2] [.only [2,3,6,7,8] [15]] (oF x0 (i0+1) (s0++[(ah.mk (bQ.mk (((x0.getD i0 aa).A).Elem) (Shape.mk ((((x0.getD i0 aa).A).Shape).Row) ((((x0.getD i0 aa).A).Shape).Dims))) (bQ.mk (((x0.getD i0 aa).B).Elem) (Shape.mk ((((x0.getD i0 aa).B).Shape).Row) ((((x0.getD i0 aa).B).Shape).Dims))))])) (aB c1 (aI aS x0 i0 aa (a8 (qB (c:=ag) nE s0 [(ah.mk (bQ.mk (((x0.getD i0 aa).A).Elem) (Shape.mk ((((x0.getD i0 aa).A).Shape).Row) ((((x0.getD i0 aa).A).Shape).Dims))) (bQ.mk (((x0.getD i0 aa).B).Elem) (Shape.mk ((((x0.getD i0 aa).B).Shape).Row) ((((x0.getD i0 aa).B).Shape).Dims))))] 112 (by decide) (by first | (simp;done) | simpa using g0)) (aC (tI 38 6 ag s0 [(ah.mk (bQ.mk (((x0.getD i0 aa).A).Elem) (Shape.mk ((((x0.getD i0 aa).A).Shape).Row) ((((x0.getD i0 aa).A).Shape).Dims))) (bQ.mk (((x0.getD i0 aa).B).Elem) (Shape.mk ((((x0.getD i0 aa).B).Shape).Row) ((((x0.getD i0 aa).B).Shape).Dims))))]) (aH i0 aN)))))
 ·subst e0;have H2:=a7 H0;refine bc H2 fun e2 => ?_;subst e2;exact pR 3 [V2] [.fz 15] [] aN
def cD (x0 x1:List ay):Option Bool :=
 bif (((x0.length:Nat):Int)==((x1.length:Nat):Int)) then (
  (dF (σ:=Unit) (ε:=Unit) (ρ:=Bool) (fun i0 s0 =>
   cb (i0<x1.length) <|
   bif ((((x0.getD i0 aw).Var)==((x1.getD i0 aw).Var))&&((((x0.getD i0 aw).C)==((x1.getD i0 aw).C))&&true)) then (
    some (.go ())
   ) else (
    some (.ret false)
   )
  ) (fun i0 s0=>()) (x0.length-0) 0 ()).bind <| aft fun u0 =>
  some true
 ) else (
  some false
 )
def eh (x0 x1:List ay) (i0:Nat) (s0:Unit):AS:=⟨26,[(0,dS ai x0),(1,dS ai x1),(4,.bool false),(12,nI x0.length),(13,nI i0)],[]⟩
def gn (u1:Unit):AS:=⟨26,[(4,.bool false)],[]⟩
theorem nO (x0 x1:List ay) (r:Bool) (H:cD x0 x1=some r):aW Tryz.prog 171 [dS ai x0,dS ai x1] (.bool r):=by
 unfold cD at H;refine aX Tryz.func171 26 [.tmp 4] ?_;refine aK H (fun c0 H0 => ?_) (fun c1 H1 => ?_)
 ·refine pA 12 [.rg 0 [] [.v],.rg 0 [] [.v,.e (.int .i64 ((x0.length:Nat):Int)),.v,.e (.int .i64 ((x1.length:Nat):Int)),.v],.eqT 10 bF,.rg 0 [] [.v,.e (.int .i64 ((x0.length:Nat):Int)),.v]] [.only [0,1,4,12,13] []] 11 [false] (eh x0 x1 0 ()) (aT (aC (aG ai x0) (aT (aC (aG ai x1) (aM c0 (aT (aC (aG ai x0) aN))))))) ?_;refine aD H0 fun R0 h0 H2 => ?_;refine pJ 1 (gn) R0 ?_ (fun u0 e0 => ?_)
  ·refine pC (eh x0 x1) h0 (fun i0 s0 h1 e1 => ?_) (fun i0 s0 h2 q0 h3 h4 => ?_)
   ·have c2:=lF i0 x0.length (by omega);subst e1;exact pB 5 [r0 [.e bF]] [.only [4] []] (gn ()) (aB c2 aN)
   ·have c3:=lT i0 x0.length (by omega);refine aP h3 fun g0 H3 => ?_;refine pD 11 [r0 [.e bT],V2,.rg 8 [.v,.v,.e (.dptr (ai (x0.getD i0 aw))),.v,.v,.v,.e (.dptr (ai (x1.getD i0 aw))),.v] [.w]] [.only [0,1,4,12,13,24] []] 11 [true] (aB c3 (aI bE x0 i0 aw (aI bE x1 i0 aw aN))) ?_;refine aK H3 (fun c4 H4 => ?_) (fun c5 H5 => ?_)
    ·refine bt 0 (ps:=[(x0.map ai).length≤9223372036854775807]) (by kernel_rfl) (fun l0 => ?_);have l1:x0.length≤9223372036854775807:=by simpa only [bI,Hp] using l0
     clear l0;obtain rfl:=sI H4;exact pB 4 [.eqT 24 bF,V2] [.only [0,1,4,12,13] []] (eh x0 x1 (i0+1) ()) (aM c4 (aH i0 aN))
    ·obtain rfl:=sI H5;obtain rfl:=aR h4;obtain rfl:=sI (aA H2);exact pR 5 [.eqT 24 bT,V1] [] [] (aM c5 aN)
  ·subst e0;have H6:=bl H2;obtain rfl:=sI H6;exact pR 3 [V1] [] [] aN
 ·obtain rfl:=sI H1;exact pR 10 [V1,r0 [.v,.e (nI x0.length),.v,.e (nI x1.length),.v],.eqT 10 bT,V1] [] [] (aT (aC (aG ai x0) (aT (aC (aG ai x1) (aM c1 aN)))))
def lr (x0 x1:Linear):Option Bool :=
 bif (x0.Const==x1.Const) then (
  (cD x0.Terms x1.Terms).bind fun y0 =>
  some y0
 ) else (
  some false
 )
theorem xF (x0 x1:Linear) (r:Bool) (H:lr x0 x1=some r):aW Tryz.prog 129 [.agg [iI x0.Const,dS ai x0.Terms],.agg [iI x1.Const,dS ai x1.Terms]] (.bool r):=by
 unfold lr at H;refine aX Tryz.func129 17 [.tmp 4] ?_;refine aK H (fun c0 H0 => ?_) (fun c1 H1 => ?_)
 ·refine aD H0 fun y0 h0 H2 => ?_;refine bc H2 fun e0 => ?_;subst e0;exact pR 5 [r0 [.m,.m,.v],r0 (V 4 [.e bT,.v,.v,.v,.v,.v,.c true (.bool y0),.v,.v])] [] [] (aB c0 (aC Tryz.call171 (aF (nO _ _ _ h0) aN)))
 ·obtain rfl:=sI H1;exact pR 5 [r0 [.m,.m,.v],r0 (V 4 [.e bF,.v,.s,.s,.s,.s,.s,.v,.v])] [] [] (aB c1 aN)
def bJ (x0 x1:List Linear):Option Bool :=
 bif (((x0.length:Nat):Int)==((x1.length:Nat):Int)) then (
  (dF (σ:=Unit) (ε:=Unit) (ρ:=Bool) (fun i0 s0 =>
   cb (i0<x1.length) <|
   (lr (Linear.mk ((x0.getD i0 ax).Const) ((x0.getD i0 ax).Terms)) (Linear.mk ((x1.getD i0 ax).Const) ((x1.getD i0 ax).Terms))).bind fun y0 =>
   bif y0 then (
    some (.go ())
   ) else (
    some (.ret false)
   )
  ) (fun i0 s0=>()) (x0.length-0) 0 ()).bind <| aft fun u0 =>
  some true
 ) else (
  some false
 )
def cG (x0 x1:List Linear) (i0:Nat) (s0:Unit):AS:=⟨32,[(1,dS ae x1),(2,.fn 129 []),(6,.bool false),(15,dS ae x0),(16,nI x0.length),(17,nI i0)],[]⟩
def eM (u1:Unit):AS:=⟨32,[(6,.bool false)],[]⟩
theorem jB (x0 x1:List Linear) (r:Bool) (H:bJ x0 x1=some r):aW Tryz.prog 128 [dS ae x0,dS ae x1,.fn 129 []] (.bool r):=by
 unfold bJ at H;refine aX Tryz.func128 32 [.tmp 6] ?_;refine aK H (fun c0 H0 => ?_) (fun c1 H1 => ?_)
 ·refine pA 12 [.rg 0 [] [.v],.rg 0 [] [.v,.e (.int .i64 ((x0.length:Nat):Int)),.v,.e (.int .i64 ((x1.length:Nat):Int)),.v],.eqT 14 bF,.rg 0 [] [.v,.e (.int .i64 ((x0.length:Nat):Int)),.v]] [.only [1,2,6,15,16,17] []] 11 [false] (cG x0 x1 0 ()) (aT (aC (aG ae x0) (aT (aC (aG ae x1) (aM c0 (aT (aC (aG ae x0) aN))))))) ?_;refine aD H0 fun R0 h0 H2 => ?_;refine pJ 1 (eM) R0 ?_ (fun u0 e0 => ?_)
  ·refine pC (cG x0 x1) h0 (fun i0 s0 h1 e1 => ?_) (fun i0 s0 h2 q0 h3 h4 => ?_)
   ·have c2:=lF i0 x0.length (by omega);subst e1;exact pB 5 [r0 [.e bF]] [.only [6] []] (eM ()) (aB c2 aN)
   ·have c3:=lT i0 x0.length (by omega);refine aP h3 fun g0 H3 => ?_;refine aD H3 fun y0 h5 H4 => ?_;refine pD 13 [r0 [.e bT],r0 [.v,.e (.dptr (ae (x0.getD i0 ax))),.v,.m,.v,.m],r0 [.v,.v,.e (.dptr (ae (x1.getD i0 ax))),.v,.m,.m],r0 [.v,.v,.v,.c true (.bool y0),.v]] [.only [1,2,6,15,16,17,30] []] 13 [true] (aB c3 (aI bA x0 i0 ax (aI bA x1 i0 ax (aC Tryz.call129 (aF (xF _ _ _ h5) (aT aN)))))) ?_;refine aK H4 (fun c4 H5 => ?_) (fun c5 H6 => ?_)
    ·refine bt 15 (ps:=[(x0.map ae).length≤9223372036854775807]) (by kernel_rfl) (fun l0 => ?_);have l1:x0.length≤9223372036854775807:=by simpa only [bI,Hp] using l0
     clear l0;obtain rfl:=sI H5;exact pB 4 [.eqT 30 bF,V2] [.only [1,2,6,15,16,17] []] (cG x0 x1 (i0+1) ()) (aM c4 (aH i0 aN))
    ·obtain rfl:=sI H6;obtain rfl:=aR h4;obtain rfl:=sI (aA H2);exact pR 5 [.eqT 30 bT,V1] [] [] (aM c5 aN)
  ·subst e0;have H7:=bl H2;obtain rfl:=sI H7;exact pR 3 [V1] [] [] aN
 ·obtain rfl:=sI H1;exact pR 10 [V1,r0 [.v,.e (nI x0.length),.v,.e (nI x1.length),.v],.eqT 14 bT,V1] [] [] (aT (aC (aG ae x0) (aT (aC (aG ae x1) (aM c1 aN)))))
def jQ (x0 x1:Shape):Option Bool :=
 bif (x0.Row==x1.Row) then (
  (bJ x0.Dims x1.Dims).bind fun y0 =>
  some y0
 ) else (
  some false
 )
theorem wo (x0 x1:Shape) (r:Bool) (H:jQ x0 x1=some r):aW Tryz.prog 69 [.agg [.str x0.Row,dS ae x0.Dims],.agg [.str x1.Row,dS ae x1.Dims]] (.bool r):=by
 unfold jQ at H;refine aX Tryz.func69 17 [.tmp 4] ?_;refine aK H (fun c0 H0 => ?_) (fun c1 H1 => ?_)
 ·refine aD H0 fun y0 h0 H2 => ?_;refine bc H2 fun e0 => ?_;subst e0;exact pR 5 [r0 [.m,.m,.v],r0 (V 4 [.e bT,.v,.v,.v,.v,.v,.c true (.bool y0),.v,.v])] [] [] (aB c0 (aC Tryz.call128 (aF (jB _ _ _ h0) aN)))
 ·obtain rfl:=sI H1;exact pR 5 [r0 [.m,.m,.v],r0 (V 4 [.e bF,.v,.s,.s,.s,.s,.s,.v,.v])] [] [] (aB c1 aN)
def jH (x0 x1:bQ):Option Bool :=
 bif (x0.Elem==x1.Elem) then (
  (jQ x0.Shape x1.Shape).bind fun y0 =>
  some y0
 ) else (
  some false
 )
theorem qL (x0 x1:bQ) (r:Bool) (H:jH x0 x1=some r):aW Tryz.prog 34 [.agg [.str x0.Elem,.str x0.Shape.Row,dS ae x0.Shape.Dims],.agg [.str x1.Elem,.str x1.Shape.Row,dS ae x1.Shape.Dims]] (.bool r):=by
 unfold jH at H;refine aX Tryz.func34 17 [.tmp 4] ?_;refine aK H (fun c0 H0 => ?_) (fun c1 H1 => ?_)
 ·refine aD H0 fun y0 h0 H2 => ?_;refine bc H2 fun e0 => ?_;subst e0;exact pR 5 [r0 [.m,.m,.v],r0 (V 4 [.e bT,.v,.v,.v,.v,.v,.c true (.bool y0),.v,.v])] [] [] (aB c0 (aC Tryz.call69 (aF (wo _ _ _ h0) aN)))
 ·obtain rfl:=sI H1;exact pR 5 [r0 [.m,.m,.v],r0 (V 4 [.e bF,.v,.s,.s,.s,.s,.s,.v,.v])] [] [] (aB c1 aN)
noncomputable def iB (x0:List ah) (x1:List Bind):Option Bool :=
 (cH x1).bind fun y0 =>
 bif y0 then (
  (dF (σ:=Unit) (ε:=Unit) (ρ:=Bool) (fun i0 s0 =>
   (dN (bQ.mk (((x0.getD i0 aa).A).Elem) (Shape.mk ((((x0.getD i0 aa).A).Shape).Row) ((((x0.getD i0 aa).A).Shape).Dims))) x1).bind fun y1 =>
   (dN (bQ.mk (((x0.getD i0 aa).B).Elem) (Shape.mk ((((x0.getD i0 aa).B).Shape).Row) ((((x0.getD i0 aa).B).Shape).Dims))) x1).bind fun y2 =>
   bif (y1.2==0) then (
    bif (y2.2==0) then (
     (jH y1.1 y2.1).bind fun y3 =>
     bif y3 then (
      some (.go ())
     ) else (
      some (.ret false)
     )
    ) else (
     some (.ret false)
    )
   ) else (
    some (.ret false)
   )
  ) (fun i0 s0=>()) (x0.length-0) 0 ()).bind <| aft fun u0 =>
  some true
 ) else (
  some false
 )
def j9 (x0:List ah) (x1:List Bind) (i0:Nat) (s0:Unit):AS:=⟨47,[(1,dS al x1),(4,.bool false),(14,dS ag x0),(15,nI x0.length),(16,nI i0)],[]⟩
def oR (u1:Unit):AS:=⟨47,[(4,.bool false)],[]⟩
theorem vZ (x0:List ah) (x1:List Bind) (r:Bool) (H:iB x0 x1=some r):aW Tryz.prog 14 [dS ag x0,dS al x1] (.bool r):=by
 unfold iB at H;refine aX Tryz.func14 47 [.tmp 4] ?_;refine aD H fun y0 h0 H0 => ?_;refine aK H0 (fun c0 H1 => ?_) (fun c1 H2 => ?_)
 ·refine pA 12 [.rg 0 [] [.v],.rg 0 [] [.v,.c true (.bool y0),.v],.eqT 13 bF,.rg 0 [] [.v,.e (.int .i64 ((x0.length:Nat):Int)),.v]] [.only [1,4,14,15,16] []] 11 [false] (j9 x0 x1 0 ()) (aC Tryz.call33 (aF (cL _ _ h0) (aT (aM c0 (aT (aC (aG ag x0) aN)))))) ?_;refine aD H1 fun R0 h1 H3 => ?_;refine pJ 1 (oR) R0 ?_ (fun u0 e0 => ?_)
  ·refine pC (j9 x0 x1) h1 (fun i0 s0 h2 e1 => ?_) (fun i0 s0 h3 q0 h4 h5 => ?_)
   ·have c2:=lF i0 x0.length (by omega);subst e1;exact pB 5 [r0 [.e bF]] [.only [4] []] (oR ()) (aB c2 aN)
   ·have c3:=lT i0 x0.length (by omega);refine aD h4 fun y1 h6 H4 => ?_;refine aD H4 fun y2 h7 H5 => ?_;refine pD 14 [r0 [.e bT],r0 [.e (.dptr [.str (((x0.getD i0 aa).A).Elem),.str ((((x0.getD i0 aa).A).Shape).Row),.dslice (((((x0.getD i0 aa).A).Shape).Dims).map ae),.str (((x0.getD i0 aa).B).Elem),.str ((((x0.getD i0 aa).B).Shape).Row),.dslice (((((x0.getD i0 aa).B).Shape).Dims).map ae)]),.v,.m,.m],r0 [.v,.v,.v,.c true (.tup [.agg [.str y1.1.Elem,.str y1.1.Shape.Row,dS ae y1.1.Shape.Dims],iI y1.2]),.v,.v,.v,.m,.m,.v],r0 [.v,.v,.v,.c true (.tup [.agg [.str y2.1.Elem,.str y2.1.Shape.Row,dS ae y2.1.Shape.Dims],iI y2.2]),.v,.v,.v,.m,.m,.v]] [.only [1,4,7,8,9,10,14,15,16] [7,9]] 14 [true] (aB c3 (aI aS x0 i0 aa (aC Tryz.call28 (aF (gh _ _ _ h6) (aC Tryz.call28 (aF (gh _ _ _ h7) aN)))))) ?_;refine aK H5 (fun c4 H6 => ?_) (fun c5 H7 => ?_)
    ·refine aK H6 (fun c6 H8 => ?_) (fun c7 H9 => ?_)
     ·refine aD H8 fun y3 h8 H10 => ?_;refine aK H10 (fun c8 H11 => ?_) (fun c9 H12 => ?_)
      ·refine bt 14 (ps:=[(x0.map ag).length≤9223372036854775807]) (by kernel_rfl) (fun l0 => ?_);have l1:x0.length≤9223372036854775807:=by simpa only [bI,Hp] using l0
       clear l0;obtain rfl:=sI H11;exact pB 5 [r0 [.v,.e bF,.v,.v,.e bF,.v,.v,.v,.v,.c true (.bool y3),.v,.v],.eqT 45 bF,V2] [.only [1,4,14,15,16] []] (j9 x0 x1 (i0+1) ()) (aM c4 (aM c6 (aC Tryz.call34 (aF (qL _ _ _ h8) (aT (aM c8 (aH i0 aN)))))))
      ·obtain rfl:=sI H12;obtain rfl:=aR h5;obtain rfl:=sI (aA H3);exact pR 6 [r0 [.v,.e bF,.v,.v,.e bF,.v,.v,.v,.v,.c true (.bool y3),.v,.v],.eqT 45 bT,V1] [] [] (aM c4 (aM c6 (aC Tryz.call34 (aF (qL _ _ _ h8) (aT (aM c9 aN))))))
     ·obtain rfl:=sI H9;obtain rfl:=aR h5;obtain rfl:=sI (aA H3);exact pR 5 [r0 [.v,.e bF,.v,.v,.e bT,.v,.v,.s,.s,.s,.s,.v],V1] [] [] (aM c4 (aM c7 aN))
    ·obtain rfl:=sI H7;obtain rfl:=aR h5;obtain rfl:=sI (aA H3);exact pR 5 [r0 [.v,.e bT,.v,.s,.s,.v,.v,.s,.s,.s,.s,.v],V1] [] [] (aM c5 aN)
  ·subst e0;have H13:=bl H3;obtain rfl:=sI H13;exact pR 3 [V1] [] [] aN
 ·obtain rfl:=sI H2;exact pR 10 [V1,r0 [.v,.c true (.bool y0),.v],.eqT 13 bT,V1] [] [] (aC Tryz.call33 (aF (cL _ _ h0) (aT (aM c1 aN))))
def iJ (x0:List ah) (x1:List Bind):Option Bool :=
 (cR x1).bind fun y0 =>
 bif y0 then (
  (dF (σ:=Unit) (ε:=Unit) (ρ:=Bool) (fun i0 s0 =>
   (fJ (bQ.mk (((x0.getD i0 aa).A).Elem) (Shape.mk ((((x0.getD i0 aa).A).Shape).Row) ((((x0.getD i0 aa).A).Shape).Dims))) x1).bind fun y1 =>
   (fJ (bQ.mk (((x0.getD i0 aa).B).Elem) (Shape.mk ((((x0.getD i0 aa).B).Shape).Row) ((((x0.getD i0 aa).B).Shape).Dims))) x1).bind fun y2 =>
   bif (y1.2==0) then (
    bif (y2.2==0) then (
     (gS y1.1 y2.1).bind fun y3 =>
     bif y3 then (
      some (.go ())
     ) else (
      some (.ret false)
     )
    ) else (
     some (.ret false)
    )
   ) else (
    some (.ret false)
   )
  ) (fun i0 s0=>()) (x0.length-0) 0 ()).bind <| aft fun u0 =>
  some true
 ) else (
  some false
 )
def jT (x0:List ah) (x1:List Bind) (i0:Nat) (s0:Unit):AS:=⟨51,[(0,dS ag x0),(1,dS al x1),(4,.bool false),(5,nI i0)],[]⟩
def oW (u1:Unit):AS:=⟨51,[(4,.bool false)],[]⟩
theorem vH (x0:List ah) (x1:List Bind) (r:Bool) (H:iJ x0 x1=some r):aW Tryz.prog 16 [dS ag x0,dS al x1] (.bool r):=by
 unfold iJ at H;refine aX Tryz.func16 51 [.tmp 4] ?_;refine aD H fun y0 h0 H0 => ?_;refine aK H0 (fun c0 H1 => ?_) (fun c1 H2 => ?_)
 ·refine pA 12 [.rg 0 [] [.v],.rg 0 [] [.v,.c true (.bool y0),.v],.eqT 12 bF,.rg 0 [] [.v]] [.only [0,1,4,5] []] 11 [false] (jT x0 x1 0 ()) (aC Tryz.call35 (aF (cP _ _ h0) (aT (aM c0 aN)))) ?_;refine aD H1 fun R0 h1 H3 => ?_;refine pJ 1 (oW) R0 ?_ (fun u0 e0 => ?_)
  ·refine pC (jT x0 x1) h1 (fun i0 s0 h2 e1 => ?_) (fun i0 s0 h3 q0 h4 h5 => ?_)
   ·have c2:=lF i0 x0.length (by omega);subst e1;exact pB 5 [r0 [.v,.v,.e (nI x0.length),.e bF]] [.only [4] []] (oW ()) (aT (aC (aG ag x0) (aB c2 aN)))
   ·have c3:=lT i0 x0.length (by omega);refine aD h4 fun y1 h6 H4 => ?_;refine aD H4 fun y2 h7 H5 => ?_;refine pD 12 [r0 [.v,.v,.e (nI x0.length),.e bT],r0 [.v,.v,.e (.dptr [.str (((x0.getD i0 aa).A).Elem),.str ((((x0.getD i0 aa).A).Shape).Row),.dslice (((((x0.getD i0 aa).A).Shape).Dims).map ae),.str (((x0.getD i0 aa).B).Elem),.str ((((x0.getD i0 aa).B).Shape).Row),.dslice (((((x0.getD i0 aa).B).Shape).Dims).map ae)]),.v,.v,.v,.c true (.tup [.agg [.str y1.1.Elem,.str y1.1.Shape.Row,dS ae y1.1.Shape.Dims],iI y1.2]),.v,.v,.v,.m,.m,.v],r0 [.v,.v,.e (.dptr [.str (((x0.getD i0 aa).A).Elem),.str ((((x0.getD i0 aa).A).Shape).Row),.dslice (((((x0.getD i0 aa).A).Shape).Dims).map ae),.str (((x0.getD i0 aa).B).Elem),.str ((((x0.getD i0 aa).B).Shape).Row),.dslice (((((x0.getD i0 aa).B).Shape).Dims).map ae)]),.v,.v,.v,.c true (.tup [.agg [.str y2.1.Elem,.str y2.1.Shape.Row,dS ae y2.1.Shape.Dims],iI y2.2]),.v,.v,.v,.m,.m,.v]] [.only [0,1,4,5,6,7,8,9] [6,8]] 12 [true] (aT (aC (aG ag x0) (aB c3 (aI aS x0 i0 aa (aC Tryz.call31 (aF (nl _ _ _ h6) (aI aS x0 i0 aa (aC Tryz.call31 (aF (nl _ _ _ h7) aN))))))))) ?_;refine aK H5 (fun c4 H6 => ?_) (fun c5 H7 => ?_)
    ·refine aK H6 (fun c6 H8 => ?_) (fun c7 H9 => ?_)
     ·refine aD H8 fun y3 h8 H10 => ?_;refine aK H10 (fun c8 H11 => ?_) (fun c9 H12 => ?_)
      ·refine bt 0 (ps:=[(x0.map ag).length≤9223372036854775807]) (by kernel_rfl) (fun l0 => ?_);have l1:x0.length≤9223372036854775807:=by simpa only [bI,Hp] using l0
       clear l0;obtain rfl:=sI H11;exact pB 5 [r0 [.v,.e bF,.v,.v,.e bF,.v,.v,.v,.v,.c true (.bool y3),.v,.v],.eqT 50 bF,V3] [.only [0,1,4,5] []] (jT x0 x1 (i0+1) ()) (aM c4 (aM c6 (aC Tryz.call13 (aF (gv _ _ _ h8) (aT (aM c8 (aH i0 aN)))))))
      ·obtain rfl:=sI H12;obtain rfl:=aR h5;obtain rfl:=sI (aA H3);exact pR 6 [r0 [.v,.e bF,.v,.v,.e bF,.v,.v,.v,.v,.c true (.bool y3),.v,.v],.eqT 50 bT,V1] [] [] (aM c4 (aM c6 (aC Tryz.call13 (aF (gv _ _ _ h8) (aT (aM c9 aN))))))
     ·obtain rfl:=sI H9;obtain rfl:=aR h5;obtain rfl:=sI (aA H3);exact pR 5 [r0 [.v,.e bF,.v,.v,.e bT,.v,.v,.s,.s,.s,.s,.v],V1] [] [] (aM c4 (aM c7 aN))
    ·obtain rfl:=sI H7;obtain rfl:=aR h5;obtain rfl:=sI (aA H3);exact pR 5 [r0 [.v,.e bT,.v,.s,.s,.v,.v,.s,.s,.s,.s,.v],V1] [] [] (aM c5 aN)
  ·subst e0;have H13:=bl H3;obtain rfl:=sI H13;exact pR 3 [V1] [] [] aN
 ·obtain rfl:=sI H2;exact pR 10 [V1,r0 [.v,.c true (.bool y0),.v],.eqT 12 bT,V1] [] [] (aC Tryz.call35 (aF (cP _ _ h0) (aT (aM c1 aN))))
noncomputable def fS (x0:bQ) (x1:List ah) (x2:List Bind):Option Bool :=
 (eN).bind fun y0 =>
 bif y0 then (
  (dX x0).bind fun y1 =>
  bif y1 then (
   (nV x1).bind fun y2 =>
   bif y2 then (
    (fL x2).bind fun y3 =>
    bif y3 then (
     (mB x0 x2).bind fun y4 =>
     (mK x0 x2).bind fun y5 =>
     (gS y4.1 y5.1).bind fun y6 =>
     bif y6 then (
      bif (y4.2==y5.2) then (
       (nF x1).bind fun y7 =>
       (iB y7 x2).bind fun y8 =>
       (iJ x1 x2).bind fun y9 =>
       some (y8==y9)
      ) else (
       some false
      )
     ) else (
      some false
     )
    ) else (
     (eN).bind fun y10 =>
     some y10
    )
   ) else (
    (eN).bind fun y11 =>
    some y11
   )
  ) else (
   (eN).bind fun y12 =>
   some y12
  )
 ) else (
  (eN).bind fun y13 =>
  some y13
 )
theorem rB (x0:bQ) (x1:List ah) (x2:List Bind) (r:Bool) (H:fS x0 x1 x2=some r):aW Tryz.prog 4 [.agg [.str x0.Elem,.str x0.Shape.Row,dS ae x0.Shape.Dims],dS ag x1,dS al x2] (.bool r):=by
 unfold fS at H;refine aX Tryz.func4 59 [.tmp 6] ?_;refine aD H fun y0 h0 H0 => ?_;refine aK H0 (fun c0 H1 => ?_) (fun c1 H2 => ?_)
 ·refine aD H1 fun y1 h1 H3 => ?_;refine aK H3 (fun c2 H4 => ?_) (fun c3 H5 => ?_)
  ·refine aD H4 fun y2 h2 H6 => ?_;refine aK H6 (fun c4 H7 => ?_) (fun c5 H8 => ?_)
   ·refine aD H7 fun y3 h3 H9 => ?_;refine pD 5 [r0 [.m,.v],r0 [.c true bT,.v,.v,.v,.c true bT,.v,.v,.v,.v,.c true bT,.v,.v,.v,.v,.c true (.bool y3),.v,.v]] [.only [1,2,3,6,27] [3]] 5 [] (aC Tryz.call5 (aC (aW.eq (dn _ h0) (cB c0)) (aT (aC Tryz.call8 (aC (aW.eq (dH _ _ h1) (cB c2)) (aT (aC Tryz.call9 (aC (aW.eq (tK _ _ h2) (cB c4)) (aT (aC Tryz.call10 (aF (sJ _ _ h3) (aT aN)))))))))))) ?_;refine aK H9 (fun c6 H10 => ?_) (fun c7 H11 => ?_)
    ·refine aD H10 fun y4 h4 H12 => ?_;refine aD H12 fun y5 h5 H13 => ?_;refine aD H13 fun y6 h6 H14 => ?_;refine pD 8 [.eqT 27 bF,r0 [.v,.v,.c true (.tup [.agg [.str y4.1.Elem,.str y4.1.Shape.Row,dS ae y4.1.Shape.Dims],iI y4.2]),.v,.v,.v,.m,.m,.v],r0 [.v,.v,.c true (.tup [.agg [.str y5.1.Elem,.str y5.1.Shape.Row,dS ae y5.1.Shape.Dims],iI y5.2]),.v,.v,.v,.m,.m,.v]] [.only [1,2,6,7,8,9,10] [7,9]] 7 [false] (aM c6 (aC Tryz.call11 (aF (wS _ _ _ h4) (aC Tryz.call12 (aF (wL _ _ _ h5) aN))))) ?_;refine aK H14 (fun c8 H15 => ?_) (fun c9 H16 => ?_)
     ·refine aK H15 (fun c10 H17 => ?_) (fun c11 H18 => ?_)
      ·refine aD H17 fun y7 h7 H19 => ?_;refine aD H19 fun y8 h8 H20 => ?_;refine aD H20 fun y9 h9 H21 => ?_;obtain rfl:=sI H21;exact pR 2 [r0 [.v,.v,.c true bT,.v,.v,.v,.e bT,.v,.v,.v,.c true (dS ag y7),.v,.c true (.bool y8),.v,.v,.c true (.bool y9),.v,.v,.v]] [] [] (aC Tryz.call13 (aC (aW.eq (gv _ _ _ h6) (cB c8)) (aB c10 (aC Tryz.call15 (aF (zw _ _ h7) (aC Tryz.call14 (aF (vZ _ _ _ h8) (aC Tryz.call16 (aF (vH _ _ _ h9) aN)))))))))
      ·obtain rfl:=sI H18;exact pR 2 [r0 [.v,.v,.c true bT,.v,.v,.v,.e bF,.v,.v,.s,.s,.s,.s,.s,.s,.s,.s,.v,.v]] [] [] (aC Tryz.call13 (aC (aW.eq (gv _ _ _ h6) (cB c8)) (aB c11 aN)))
     ·obtain rfl:=sI H16;exact pR 2 [r0 [.v,.v,.c true bF,.v,.s,.s,.s,.v,.v,.s,.s,.s,.s,.s,.s,.s,.s,.v,.v]] [] [] (aC Tryz.call13 (aC (aW.eq (gv _ _ _ h6) (cB c9)) aN))
    ·refine aD H11 fun y10 h10 H22 => ?_;refine bc H22 fun e0 => ?_;subst e0;exact pR 5 [.eqT 27 bT,r0 [.c true (.bool y10),.v]] [] [] (aM c7 (aC Tryz.call5 (aF (dn _ h10) aN)))
   ·refine aD H8 fun y11 h11 H23 => ?_;refine bc H23 fun e1 => ?_;subst e1;exact pR 9 [r0 [.m,.v],r0 [.c true bT,.v,.v,.v,.c true bT,.v,.v,.v,.v,.c true bF,.v,.v,.v,.s,.s,.s,.v],r0 [.c true (.bool y11),.v]] [] [] (aC Tryz.call5 (aC (aW.eq (dn _ h0) (cB c0)) (aT (aC Tryz.call8 (aC (aW.eq (dH _ _ h1) (cB c2)) (aT (aC Tryz.call9 (aC (aW.eq (tK _ _ h2) (cB c5)) (aT (aC Tryz.call5 (aF (dn _ h11) aN)))))))))))
  ·refine aD H5 fun y12 h12 H24 => ?_;refine bc H24 fun e2 => ?_;subst e2;exact pR 9 [r0 [.m,.v],r0 [.c true bT,.v,.v,.v,.c true bF,.v,.v,.v,.s,.s,.s,.v,.v,.s,.s,.s,.v],r0 [.c true (.bool y12),.v]] [] [] (aC Tryz.call5 (aC (aW.eq (dn _ h0) (cB c0)) (aT (aC Tryz.call8 (aC (aW.eq (dH _ _ h1) (cB c3)) (aT (aC Tryz.call5 (aF (dn _ h12) aN))))))))
 ·refine aD H2 fun y13 h13 H25 => ?_;refine bc H25 fun e3 => ?_;subst e3;exact pR 9 [r0 [.m,.v],r0 [.c true bF,.v,.v,.s,.s,.s,.v,.v,.s,.s,.s,.v,.v,.s,.s,.s,.v],r0 [.c true (.bool y13),.v]] [] [] (aC Tryz.call5 (aC (aW.eq (dn _ h0) (cB c1)) (aT (aC Tryz.call5 (aF (dn _ h13) aN)))))
end Go.Proofs.YtoebmibmmlcfiaaGreatDoor
