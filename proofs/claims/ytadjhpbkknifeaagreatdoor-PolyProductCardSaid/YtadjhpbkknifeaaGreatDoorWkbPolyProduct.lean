/- What functions of the program compute, walked: each as a plain function, with the theorem that the code computes it wherever that answers. Printed by a program, part 2. -/
import Derived.Test.YtadjhpbkknifeaaGreatDoorWkaPolyProduct
set_option linter.unusedSimpArgs false
set_option linter.unusedVariables false
namespace Go.Proofs.YtadjhpbkknifeaaGreatDoor
open Go.RowKit Go.Ab Go.Sh
def gX (x0:UInt8):Option Bool :=
 bif decide (((x0).toNat:Int)≥97) then (
  some (decide (((x0).toNat:Int)≤122))
 ) else (
  some false
 )
theorem kc (x0:UInt8) (r:Bool) (H:gX x0=some r):bI Tryz.prog 72 [.int .u8 ((x0).toNat:Int)] (.bool r):=by
 unfold gX at H;refine aX Tryz.func72 9 [.tmp 2] ?_;refine a7 H (fun c0 H0 => ?_) (fun c1 H1 => ?_)
 ·obtain rfl:=sI H0;exact pR 5 [V1,r0 [.v,.e (.bool true),.v,.v,.v,.v,.v]] [] [] (aB c0 aN)
 ·obtain rfl:=sI H1;exact pR 5 [V1,r0 [.v,.e (.bool false),.v,.s,.s,.v,.v]] [] [] (aB c1 aN)
def iv (x0:ah):Option Bool :=
 bif (((x0.length:Nat):Int)==0) then (
  some false
 ) else (
  bif decide (((x0.length:Nat):Int)>30) then (
   some false
  ) else (
   bZ (0<x0.length) <|
   bif (((x0.getD 0 0).toNat:Int)==95) then (
    bif decide (((x0.length:Nat):Int)<2) then (
     some false
    ) else (
     bif decide (((x0.length:Nat):Int)>10) then (
      some false
     ) else (
      bZ (1<x0.length) <|
      bif (((x0.getD 1 0).toNat:Int)==48) then (
       some false
      ) else (
       (cL (σ:=Unit) (ε:=Unit) (ρ:=Bool) (fun i0 s0 =>
        (gE (x0.getD i0 0)).bind fun y0 =>
        bif y0 then (
         some (.go ())
        ) else (
         some (.ret false)
        )
       ) (fun i0 s0=>()) (x0.length-1) 1 ()).bind <| aft fun u0 =>
       some true
      )
     )
    )
   ) else (
    (cL (σ:=Unit) (ε:=Unit) (ρ:=Bool) (fun i1 s1 =>
     (gX (x0.getD i1 0)).bind fun y1 =>
     ((
      bif y1 then (
       some (.brk ())
      ) else (
       bif (((i1:Nat):Int)==0) then (
        some (.ret (.ret false))
       ) else (
        (gE (x0.getD i1 0)).bind fun y2 =>
        bif y2 then (
         some (.brk ())
        ) else (
         some (.ret (.ret false))
        )
       )
      )
     ):Option (Out Unit (ff Unit Unit Bool))).bind (aft fun u1 =>
      some (.go ())
     )
    ) (fun i1 s1=>()) (x0.length-0) 0 ()).bind <| aft fun u2 =>
    some true
   )
  )
 )
def lQ (x0:ah) (i0:Nat) (s0:Unit):AS:=⟨62,[(0,.str x0),(2,.bool false),(3,nI i0)],[]⟩
def pH (x0:ah) (u3:Unit):AS:=⟨62,[(0,.str x0),(2,.bool false)],[]⟩
def ll (x0:ah) (i1:Nat) (s1:Unit):AS:=⟨62,[(0,.str x0),(2,.bool false),(4,nI i1)],[]⟩
def px (u4:Unit):AS:=⟨62,[(2,.bool false)],[]⟩
def k9 (x0:ah) (i1:Nat) (u1:Unit):AS:=⟨62,[(0,.str x0),(2,.bool false),(4,nI i1)],[]⟩
theorem dT (x0:ah) (r:Bool) (H:iv x0=some r):bI Tryz.prog 40 [.str x0] (.bool r):=by
 unfold iv at H;refine aX Tryz.func40 62 [.tmp 2] ?_;refine a7 H (fun c0 H0 => ?_) (fun c1 H1 => ?_)
 ·obtain rfl:=sI H0;exact pR 9 [V1,r0 [.v,.v,.e (.bool true),.v,.s,.s,.s,.v],V1] [] [] (aT (aB c0 aN))
 ·refine a7 H1 (fun c2 H2 => ?_) (fun c3 H3 => ?_)
  ·obtain rfl:=sI H2;exact pR 10 [V1,r0 [.v,.v,.e (.bool false),.v,.v,.v,.v,.v],.eqT 12 (.bool true),V1] [] [] (aT (aB c1 (aT (aB c2 aN))))
  ·have c3p:=JQ c3;refine aY H3 fun g0 H4 => ?_;refine a7 H4 (fun c4 H5 => ?_) (fun c5 H6 => ?_)
   ·refine a7 H5 (fun c6 H7 => ?_) (fun c7 H8 => ?_)
    ·have c6p:=JR c6;obtain rfl:=sI H7;exact pR 20 [V1,r0 [.v,.v,.e (.bool false),.v,.v,.v,.v,.v],.eqT 12 (.bool false),V3,.eqT 15 (.bool true),r0 [.v,.v,.e (.bool true),.v,.s,.s,.s,.v,.v,.s,.s,.s,.v],V1] [] [] (aT (aB c1 (aT (aB c3 (aC (show (0:Int)≤0∧0<(x0.length:Int) from by omega) (aB c4 (aT (aB c6 aN))))))))
    ·have c7p:=JQ c7;refine a7 H8 (fun c8 H9 => ?_) (fun c9 H10 => ?_)
     ·have c8p:=JR c8;obtain rfl:=sI H9;exact pR 20 [V1,r0 [.v,.v,.e (.bool false),.v,.v,.v,.v,.v],.eqT 12 (.bool false),V3,.eqT 15 (.bool true),r0 [.v,.v,.e (.bool false),.v,.v,.v,.e (.bool true),.v,.v,.s,.s,.s,.v],V1] [] [] (aT (aB c1 (aT (aB c3 (aC (show (0:Int)≤0∧0<(x0.length:Int) from by omega) (aB c4 (aT (aB c7 (aT (aB c8 aN))))))))))
     ·have c9p:=JQ c9;refine aY H10 fun g1 H11 => ?_;refine pA 16 [V1,r0 [.v,.v,.e (.bool false),.v,.v,.v,.v,.v],.eqT 12 (.bool false),V3,.eqT 15 (.bool true),r0 [.v,.v,.e (.bool false),.v,.v,.v,.e (.bool false),.v,.v,.v,.v,.v,.v]] [.only [0,2,28] []] 14 [false,true] ⟨62,[(0,.str x0),(2,.bool false),(28,.bool (((x0.getD 1 0).toNat:Int)==48))],[]⟩ (aT (aB c1 (aT (aB c3 (aC (show (0:Int)≤0∧0<(x0.length:Int) from by omega) (aB c4 (aT (aB c7 (aT (aB c9 (aC (show (0:Int)≤1∧1<(x0.length:Int) from by omega) aN))))))))))) ?_;refine a7 H11 (fun c10 H12 => ?_) (fun c11 H13 => ?_)
      ·obtain rfl:=sI H12;exact pR 5 [.eqT 28 (.bool true),V1] [] [] (aB c10 aN)
      ·refine pA 7 [.eqT 28 (.bool false),.rg 0 [] [.v]] [.only [0,2,3] []] 6 [false] (lQ x0 1 ()) (aB c11 aN) ?_;refine aU H13 fun R0 h0 H14 => ?_;refine pJ 1 (pH x0) R0 ?_ (fun u0 e0 => ?_)
       ·refine pC (lQ x0) h0 (fun i0 s0 h1 e1 => ?_) (fun i0 s0 h2 q0 h3 h4 => ?_)
        ·have c12:=lF i0 x0.length (by omega);subst e1;exact pB 5 [r0 [.v,.v,.v,.e (.bool false)]] [.only [0,2] []] (pH x0 ()) (aT (aB c12 aN))
        ·have c13:=lT i0 x0.length (by omega);refine aU h3 fun y0 h5 H15 => ?_;refine a7 H15 (fun c14 H16 => ?_) (fun c15 H17 => ?_)
         ·refine bn 0 (ps:=[x0.length≤9223372036854775807]) (by kernel_rfl) (fun l0 => ?_);have l1:x0.length≤9223372036854775807:=by simpa only [bt,JV] using l0
          clear l0;obtain rfl:=sI H16;exact pB 13 [r0 [.v,.v,.v,.e (.bool true)],r0 [.v,.v,.v,.c true (.bool y0),.v],.eqT 39 (.bool false),V3] [.only [0,2,3] []] (lQ x0 (i0+1) ()) (aT (aB c13 (aC (show (0:Int)≤((i0:Nat):Int)∧((i0:Nat):Int)<(x0.length:Int) from by omega) (aC Tryz.call71 (aF (k7 _ _ h5) (aT (aM c14 (aH i0 aN))))))))
         ·obtain rfl:=sI H17;obtain rfl:=aA h4;obtain rfl:=sI (ao H14);exact pR 14 [r0 [.v,.v,.v,.e (.bool true)],r0 [.v,.v,.v,.c true (.bool y0),.v],.eqT 39 (.bool true),V1] [] [] (aT (aB c13 (aC (show (0:Int)≤((i0:Nat):Int)∧((i0:Nat):Int)<(x0.length:Int) from by omega) (aC Tryz.call71 (aF (k7 _ _ h5) (aT (aM c15 aN)))))))
       ·subst e0;have H18:=aW H14;obtain rfl:=sI H18;exact pR 3 [V1] [] [] aN
   ·refine pA 18 [.rg 0 [] [.v],.rg 0 [] [.v,.v,.e (.bool false),.v,.v,.v,.v,.v],.eqT 12 (.bool false),.rg 0 [] [.v,.v,.v],.eqT 15 (.bool false),.rg 0 [] [.v]] [.only [0,2,4] []] 16 [false,false] (ll x0 0 ()) (aT (aB c1 (aT (aB c3 (aC (show (0:Int)≤0∧0<(x0.length:Int) from by omega) (aB c5 aN)))))) ?_;refine aU H6 fun R1 h6 H19 => ?_;refine pJ 1 (px) R1 ?_ (fun u2 e2 => ?_)
    ·refine pC (ll x0) h6 (fun i1 s1 h7 e3 => ?_) (fun i1 s1 h8 q1 h9 h10 => ?_)
     ·have c16:=lF i1 x0.length (by omega);subst e3;exact pB 5 [r0 [.v,.v,.v,.e (.bool false)]] [.only [2] []] (px ()) (aT (aB c16 aN))
     ·have c17:=lT i1 x0.length (by omega);refine aU h9 fun y1 h11 H20 => ?_;refine pA 8 [r0 [.v,.v,.v,.e (.bool true)]] [.only [0,2,4] []] 8 [true] ⟨62,[(0,.str x0),(2,.bool false),(4,nI i1)],[]⟩ (aT (aB c17 aN)) ?_;refine aU H20 fun v0 h12 H21 => ?_;refine pJ 2 (k9 x0 i1) v0 ?_ (fun u1 e4 => ?_)
      ·refine a7 h12 (fun c18 H22 => ?_) (fun c19 H23 => ?_)
       ·obtain rfl:=sI H22;exact pB 3 [r0 [.v,.v,.v,.c true (.bool true),.v,.v,.s,.s,.s,.s,.s,.s,.s,.s,.s,.v]] [.only [0,2,4] []] (k9 x0 i1 ()) (aC (show (0:Int)≤((i1:Nat):Int)∧((i1:Nat):Int)<(x0.length:Int) from by omega) (aC Tryz.call72 (aC (bI.eq (kc _ _ h11) (cB c18)) (aT aN))))
       ·refine a7 H23 (fun c20 H24 => ?_) (fun c21 H25 => ?_)
        ·obtain rfl:=sI H24;obtain rfl:=sI (ao H21);obtain rfl:=aA h10;obtain rfl:=sI (ao H19);exact pR 5 [r0 [.v,.v,.v,.c true (.bool false),.v,.v,.v,.e (.bool true),.v,.s,.s,.s,.s,.s,.v,.v],V1] [] [] (aC (show (0:Int)≤((i1:Nat):Int)∧((i1:Nat):Int)<(x0.length:Int) from by omega) (aC Tryz.call72 (aC (bI.eq (kc _ _ h11) (cB c19)) (aT (aB c20 aN)))))
        ·refine aU H25 fun y2 h13 H26 => ?_;refine pA 1 [r0 [.v,.v,.v,.c true (.bool false),.v,.v,.v,.e (.bool false),.v,.v,.v,.v,.c true (.bool y2),.v,.v,.v]] [.only [0,2,4,61] []] 1 [] ⟨62,[(0,.str x0),(2,.bool false),(4,nI i1),(61,.bool (!y2))],[]⟩ (aC (show (0:Int)≤((i1:Nat):Int)∧((i1:Nat):Int)<(x0.length:Int) from by omega) (aC Tryz.call72 (aC (bI.eq (kc _ _ h11) (cB c19)) (aT (aB c21 (aC (show (0:Int)≤((i1:Nat):Int)∧((i1:Nat):Int)<(x0.length:Int) from by omega) (aC Tryz.call71 (aF (k7 _ _ h13) (aT aN))))))))) ?_;refine a7 H26 (fun c22 H27 => ?_) (fun c23 H28 => ?_)
         ·obtain rfl:=sI H27;exact pB 3 [.eqT 61 (.bool false)] [.only [0,2,4] []] (k9 x0 i1 ()) (aM c22 aN)
         ·obtain rfl:=sI H28;obtain rfl:=sI (ao H21);obtain rfl:=aA h10;obtain rfl:=sI (ao H19);exact pR 5 [.eqT 61 (.bool true),V1] [] [] (aM c23 aN)
      ·subst e4;have H29:=aW H21;refine bn 0 (ps:=[x0.length≤9223372036854775807]) (by kernel_rfl) (fun l2 => ?_);have l3:x0.length≤9223372036854775807:=by simpa only [bt,JV] using l2
       clear l2;obtain rfl:=sI H29;exact pB 1 [V3] [.only [0,2,4] []] (ll x0 (i1+1) ()) (aH i1 aN)
    ·subst e2;have H30:=aW H19;obtain rfl:=sI H30;exact pR 3 [V1] [] [] aN
def gD (x0:Linear):Option Bool :=
 (gH x0.Const).bind fun y0 =>
 bif y0 then (
  bif decide (((x0.Terms.length:Nat):Int)>12) then (
   some false
  ) else (
   (cL (σ:=Unit) (ε:=Unit) (ρ:=Bool) (fun i0 s0 =>
    (iv ((x0.Terms.getD i0 ⟨[],0⟩).Var)).bind fun y1 =>
    ((
     bif y1 then (
      bif (((x0.Terms.getD i0 ⟨[],0⟩).C)==0) then (
       some (.ret (.ret false))
      ) else (
       (gH ((x0.Terms.getD i0 ⟨[],0⟩).C)).bind fun y2 =>
       bif y2 then (
        bif decide (((i0:Nat):Int)>0) then (
         bZ (0≤(aS (((i0:Nat):Int)-1))∧(aS (((i0:Nat):Int)-1))<(x0.Terms.length:Int)) <|
         bif (Op.bytesLess ((x0.Terms.getD (aS (((i0:Nat):Int)-1)).toNat ⟨[],0⟩).Var) ((x0.Terms.getD i0 ⟨[],0⟩).Var)) then (
          some (.brk ())
         ) else (
          some (.ret (.ret false))
         )
        ) else (
         some (.brk ())
        )
       ) else (
        some (.ret (.ret false))
       )
      )
     ) else (
      some (.ret (.ret false))
     )
    ):Option (Out Unit (ff Unit Unit Bool))).bind (aft fun u0 =>
     some (.go ())
    )
   ) (fun i0 s0=>()) (x0.Terms.length-0) 0 ()).bind <| aft fun u1 =>
   some true
  )
 ) else (
  some false
 )
def j6 (x0:Linear) (i0:Nat) (s0:Unit):AS:=⟨58,[(1,.hptr 1 0),(2,.bool false),(3,nI i0)],[(1,.cells 32 [iI x0.Const,dS be x0.Terms])]⟩
def oy (u2:Unit):AS:=⟨58,[(2,.bool false)],[]⟩
def jZ (x0:Linear) (i0:Nat) (u0:Unit):AS:=⟨58,[(1,.hptr 1 0),(2,.bool false),(3,nI i0)],[(1,.cells 32 [iI x0.Const,dS be x0.Terms])]⟩
theorem lW (x0:Linear) (r:Bool) (H:gD x0=some r):bI Tryz.prog 15 [.agg [iI x0.Const,dS be x0.Terms]] (.bool r):=by
 unfold gD at H;refine aX Tryz.func15 58 [.tmp 2] ?_;refine aU H fun y0 h0 H0 => ?_;refine a7 H0 (fun c0 H1 => ?_) (fun c1 H2 => ?_)
 ·refine a7 H1 (fun c2 H3 => ?_) (fun c3 H4 => ?_)
  ·obtain rfl:=sI H3;exact pR 10 [r0 [.m,.v],r0 [.v,.v,.c true (.bool true),.v,.v,.v,.v,.e (nI x0.Terms.length),.v,.v],.eqT 14 (.bool true),V1] [] [] (aC Tryz.call41 (aC (bI.eq (fb _ _ h0) (cB c0)) (aT (aT (aC (aK be x0.Terms) (aB c2 aN))))))
  ·have c3p:=JQ c3;refine pA 12 [r0 [.m,.v],r0 [.v,.v,.c true (.bool true),.v,.v,.v,.v,.e (nI x0.Terms.length),.v,.v],.eqT 14 (.bool false),V1] [.only [1,2,3] [1]] 11 [false] (j6 x0 0 ()) (aC Tryz.call41 (aC (bI.eq (fb _ _ h0) (cB c0)) (aT (aT (aC (aK be x0.Terms) (aB c3 aN)))))) ?_;refine aU H4 fun R0 h1 H5 => ?_;refine pJ 1 (oy) R0 ?_ (fun u1 e0 => ?_)
   ·refine pC (j6 x0) h1 (fun i0 s0 h2 e1 => ?_) (fun i0 s0 h3 q0 h4 h5 => ?_)
    ·have c4:=lF i0 x0.Terms.length (by omega);subst e1;exact pB 5 [r0 [.v,.v,.v,.e (nI x0.Terms.length),.e (.bool false)]] [.only [2] []] (oy ()) (aT (aC (aK be x0.Terms) (aB c4 aN)))
    ·have c5:=lT i0 x0.Terms.length (by omega);refine aU h4 fun y1 h6 H6 => ?_;refine pA 10 [r0 [.v,.v,.v,.e (nI x0.Terms.length),.e (.bool true)],r0 [.v,.v,.v,.e (.dptr (be (x0.Terms.getD i0 ⟨[],0⟩))),.v,.m,.m]] [.only [1,2,3,4] [1,4]] 10 [true] ⟨58,[(1,.hptr 1 0),(2,.bool false),(3,nI i0),(4,.hptr 4 0)],[(1,.cells 32 [iI x0.Const,dS be x0.Terms]),(4,.cells 62 (be (x0.Terms.getD i0 ⟨[],0⟩)))]⟩ (aT (aC (aK be x0.Terms) (aB c5 (aI gr x0.Terms i0 ⟨[],0⟩ aN)))) ?_;refine aU H6 fun v0 h7 H7 => ?_;refine pJ 2 (jZ x0 i0) v0 ?_ (fun u0 e2 => ?_)
     ·refine a7 h7 (fun c6 H8 => ?_) (fun c7 H9 => ?_)
      ·refine a7 H8 (fun c8 H10 => ?_) (fun c9 H11 => ?_)
       ·obtain rfl:=sI H10;obtain rfl:=sI (ao H7);obtain rfl:=aA h5;obtain rfl:=sI (ao H5);exact pR 5 [.rg 28 [.v,.v,.c true (.bool true),.v,.v,.v,.v,.e (.bool true),.v,.v,.s,.s,.s,.s,.v,.v,.s,.s,.s,.s,.s,.s,.s,.s,.s,.s,.s,.s] [.s,.s,.v],V1] [] [] (aC Tryz.call40 (aC (bI.eq (dT _ _ h6) (cB c6)) (aT (aB c8 aN))))
       ·refine aU H11 fun y2 h8 H12 => ?_;refine a7 H12 (fun c10 H13 => ?_) (fun c11 H14 => ?_)
        ·refine a7 H13 (fun c12 H15 => ?_) (fun c13 H16 => ?_)
         ·refine aY H15 fun g0 H17 => ?_;refine pA 1 [.rg 28 [.v,.v,.c true (.bool true),.v,.v,.v,.v,.e (.bool false),.v,.v,.v,.v,.c true (.bool true),.v,.v,.v,.v,.e (.bool true),.v,.v,.v,.v,.w,.e (.dptr (be (x0.Terms.getD (aS (((i0:Nat):Int)-1)).toNat ⟨[],0⟩))),.v,.v,.v,.v] [.v,.v,.v]] [.only [1,2,3,57] [1]] 1 [] ⟨58,[(1,.hptr 1 0),(2,.bool false),(3,nI i0),(57,.bool (!(Op.bytesLess ((x0.Terms.getD (aS (((i0:Nat):Int)-1)).toNat ⟨[],0⟩).Var) ((x0.Terms.getD i0 ⟨[],0⟩).Var))))],[(1,.cells 32 [iI x0.Const,dS be x0.Terms])]⟩ (aC Tryz.call40 (aC (bI.eq (dT _ _ h6) (cB c6)) (aT (aB c9 (aC Tryz.call41 (aC (bI.eq (fb _ _ h8) (cB c10)) (aT (aB c12 (aV (vy (f:=be) (l:=x0.Terms) (n:=(aS (((i0:Nat):Int)-1))) ⟨[],0⟩ gr (by decide) (by exact g0)) aN))))))))) ?_;refine a7 H17 (fun c14 H18 => ?_) (fun c15 H19 => ?_)
          ·obtain rfl:=sI H18;exact pB 3 [.eqT 57 (.bool false)] [.only [1,2,3] [1]] (jZ x0 i0 ()) (aM c14 aN)
          ·obtain rfl:=sI H19;obtain rfl:=sI (ao H7);obtain rfl:=aA h5;obtain rfl:=sI (ao H5);exact pR 5 [.eqT 57 (.bool true),V1] [] [] (aM c15 aN)
         ·obtain rfl:=sI H16;exact pB 3 [.rg 28 [.v,.v,.c true (.bool true),.v,.v,.v,.v,.e (.bool false),.v,.v,.v,.v,.c true (.bool true),.v,.v,.v,.v,.e (.bool false),.v,.s,.s,.s,.s,.s,.s,.s,.s,.s] [.s,.v,.v]] [.only [1,2,3] [1]] (jZ x0 i0 ()) (aC Tryz.call40 (aC (bI.eq (dT _ _ h6) (cB c6)) (aT (aB c9 (aC Tryz.call41 (aC (bI.eq (fb _ _ h8) (cB c10)) (aT (aB c13 aN))))))))
        ·obtain rfl:=sI H14;obtain rfl:=sI (ao H7);obtain rfl:=aA h5;obtain rfl:=sI (ao H5);exact pR 5 [.rg 28 [.v,.v,.c true (.bool true),.v,.v,.v,.v,.e (.bool false),.v,.v,.v,.v,.c true (.bool false),.v,.v,.v,.s,.s,.s,.s,.s,.s,.s,.s,.s,.s,.s,.s] [.s,.s,.v],V1] [] [] (aC Tryz.call40 (aC (bI.eq (dT _ _ h6) (cB c6)) (aT (aB c9 (aC Tryz.call41 (aC (bI.eq (fb _ _ h8) (cB c11)) (aT aN)))))))
      ·obtain rfl:=sI H9;obtain rfl:=sI (ao H7);obtain rfl:=aA h5;obtain rfl:=sI (ao H5);exact pR 5 [.rg 28 [.v,.v,.c true (.bool false),.v,.v,.s,.s,.s,.v,.v,.s,.s,.s,.s,.v,.v,.s,.s,.s,.s,.s,.s,.s,.s,.s,.s,.s,.s] [.s,.s,.v],V1] [] [] (aC Tryz.call40 (aC (bI.eq (dT _ _ h6) (cB c7)) (aT aN)))
     ·subst e2;have H20:=aW H7;refine qj 1 1 (ps:=[(x0.Terms.map be).length≤9223372036854775807]) (by kernel_rfl) (fun l0 => ?_);have l1:x0.Terms.length≤9223372036854775807:=by simpa only [bt,JV] using l0
      clear l0;obtain rfl:=sI H20;exact pB 1 [V3] [.only [1,2,3] [1]] (j6 x0 (i0+1) ()) (aH i0 aN)
   ·subst e0;have H21:=aW H5;obtain rfl:=sI H21;exact pR 3 [V1] [] [] aN
 ·obtain rfl:=sI H2;exact pR 9 [r0 [.m,.v],r0 [.v,.v,.c true (.bool false),.v,.v,.s,.s,.s,.s,.v],V1] [] [] (aC Tryz.call41 (aC (bI.eq (fb _ _ h0) (cB c1)) (aT aN)))
def cW (x0 x1:List ah):Option Int :=
 (cL (σ:=Unit) (ε:=Unit) (ρ:=Int) (fun i0 s0 =>
  bif decide (((i0:Nat):Int)<((x1.length:Nat):Int)) then (
   bif (Op.bytesLess (x0.getD i0 []) (x1.getD i0 [])) then (
    some (.ret (-1))
   ) else (
    bif (Op.bytesLess (x0.getD i0 []) (x1.getD i0 [])||(x0.getD i0 [])==(x1.getD i0 [])) then (
     some (.go ())
    ) else (
     some (.ret 1)
    )
   )
  ) else (
   some (.brk ())
  )
 ) (fun i0 s0=>()) (x0.length-0) 0 ()).bind <| aft fun u0 =>
 some (aS (((x0.length:Nat):Int)-((x1.length:Nat):Int)))
def kB (x0 x1:List ah) (i0:Nat) (s0:Unit):AS:=⟨41,[(0,dS ak x0),(1,dS ak x1),(4,iI 0),(5,nI i0)],[]⟩
def ku (x0 x1:List ah) (u1:Unit):AS:=⟨41,[(0,dS ak x0),(1,dS ak x1),(4,iI 0)],[]⟩
theorem lD (x0 x1:List ah) (r:Int) (H:cW x0 x1=some r):bI Tryz.prog 39 [dS ak x0,dS ak x1] (iI r):=by
 unfold cW at H;refine aX Tryz.func39 41 [.tmp 4] ?_;refine pA 6 [V1,V1] [.only [0,1,4,5] []] 6 [] (kB x0 x1 0 ()) aN ?_;refine aU H fun R0 h0 H0 => ?_;refine pJ 1 (ku x0 x1) R0 ?_ (fun u0 e0 => ?_)
 ·refine pC (kB x0 x1) h0 (fun i0 s0 h1 e1 => ?_) (fun i0 s0 h2 q0 h3 h4 => ?_)
  ·have c0:=lF i0 x0.length (by omega);subst e1;exact pB 5 [r0 [.v,.v,.e (nI x0.length),.e (.bool false),.v,.s,.s,.s,.s,.v]] [.only [0,1,4] []] (ku x0 x1 ()) (aT (aC (aK ak x0) (aB c0 aN)))
  ·have c1:=lT i0 x0.length (by omega);refine a7 h3 (fun c2 H1 => ?_) (fun c3 H2 => ?_)
   ·have c2p:=JR c2;refine pA 11 [r0 [.v,.v,.e (nI x0.length),.e (.bool true),.v,.v,.v,.e (nI x1.length),.v,.v],.eqT 15 (.bool true),.rg 8 [.v,.v,.e (.dptr [.str (x0.getD i0 [])]),.v,.v,.v,.e (.dptr [.str (x1.getD i0 [])]),.v] [.v]] [.only [0,1,4,5,26] []] 10 [true] ⟨41,[(0,dS ak x0),(1,dS ak x1),(4,iI 0),(5,nI i0),(26,.bool (Op.bytesLess (x0.getD i0 []) (x1.getD i0 [])))],[]⟩ (aT (aC (aK ak x0) (aB c1 (aT (aC (aK ak x1) (aB c2 (aI aZ x0 i0 [] (aI aZ x1 i0 [] aN)))))))) ?_;refine a7 H1 (fun c4 H3 => ?_) (fun c5 H4 => ?_)
    ·obtain rfl:=sI H3;obtain rfl:=aA h4;obtain rfl:=sI (ao H0);exact pR 5 [.eqT 26 (.bool true),V1] [] [] (aB c4 aN)
    ·refine a7 H4 (fun c6 H5 => ?_) (fun c7 H6 => ?_)
     ·refine bn 0 (ps:=[(x0.map ak).length≤9223372036854775807]) (by kernel_rfl) (fun l0 => ?_);have l1:x0.length≤9223372036854775807:=by simpa only [bt,JV] using l0
      clear l0;obtain rfl:=sI H5;exact pB 9 [.eqT 26 (.bool false),.rg 8 [.v,.v,.e (.dptr [.str (x0.getD i0 [])]),.v,.v,.v,.e (.dptr [.str (x1.getD i0 [])]),.v] [.v],.eqT 35 (.bool false),V3] [.only [0,1,4,5] []] (kB x0 x1 (i0+1) ()) (aB c5 (aI aZ x0 i0 [] (aI aZ x1 i0 [] (aM c6 (aH i0 aN)))))
     ·obtain rfl:=sI H6;obtain rfl:=aA h4;obtain rfl:=sI (ao H0);exact pR 10 [.eqT 26 (.bool false),.rg 8 [.v,.v,.e (.dptr [.str (x0.getD i0 [])]),.v,.v,.v,.e (.dptr [.str (x1.getD i0 [])]),.v] [.v],.eqT 35 (.bool true),V1] [] [] (aB c5 (aI aZ x0 i0 [] (aI aZ x1 i0 [] (aM c7 aN))))
   ·obtain rfl:=sI H2;obtain rfl:=eL h4;exact pB 6 [r0 [.v,.v,.e (nI x0.length),.e (.bool true),.v,.v,.v,.e (nI x1.length),.v,.v],.eqT 15 (.bool false)] [.only [0,1,4] []] (ku x0 x1 ()) (aT (aC (aK ak x0) (aB c1 (aT (aC (aK ak x1) (aB c3 aN))))))
 ·subst e0;have H7:=aW H0;obtain rfl:=sI H7;exact pR 3 [r0 [.v,.e (nI x0.length),.v,.e (nI x1.length),.w,.v]] [] [] (aT (aC (aK ak x0) (aT (aC (aK ak x1) aN))))
def bP (x0:List aa) (x1:aa):Option (List aa) :=
 (cL (σ:=((List aa)×Bool)) (ε:=((List aa)×Bool)) (ρ:=Empty) (fun i0 s0 =>
  (cW ((x0.getD i0 ⟨0,[]⟩).Vars) x1.Vars).bind fun y0 =>
  ((
   bif s0.2 then (
    some (true,false)
   ) else (
    some (false,decide (y0>0))
   )
  ):Option (Bool×Bool)).bind fun v0 =>
  ((
   bif v0.2 then (
    bZ ((s0.1.length+1)*32≤140737488355328) <|
    some ((s0.1++[x1]),true)
   ) else (
    some (s0.1,v0.1)
   )
  ):Option ((List aa)×Bool)).bind fun v1 =>
  ((
   bif v1.2 then (
    some (true,false)
   ) else (
    some (false,(y0==0))
   )
  ):Option (Bool×Bool)).bind fun v2 =>
  ((
   bif v2.2 then (
    some (true,(aS (((x0.getD i0 ⟨0,[]⟩).Coef)+x1.Coef)))
   ) else (
    some (v2.1,((x0.getD i0 ⟨0,[]⟩).Coef))
   )
  ):Option (Bool×Int)).bind fun v3 =>
  ((
   bif (v3.2==0) then (
    some v1.1
   ) else (
    bZ ((v1.1.length+1)*32≤140737488355328) <|
    some (v1.1++[(aa.mk v3.2 ((x0.getD i0 ⟨0,[]⟩).Vars))])
   )
  ):Option (List aa)).bind fun v4 =>
  some (.go (v4,v3.1))
 ) (fun i0 s0=>(s0.1,s0.2)) (x0.length-0) 0 ([],(x1.Coef==0))).bind <| aftE fun u0 =>
 bif u0.2 then (
  some u0.1
 ) else (
  bZ ((u0.1.length+1)*32≤140737488355328) <|
  some (u0.1++[x1])
 )
def la (x0:List aa) (x1:aa) (i0:Nat) (s0:(List aa)×Bool):AS:=⟨67,[(0,dS ab x0),(3,.hptr 3 0),(4,.eslice),(5,.rslice 59),(6,.bool s0.2),(7,nI i0)],[(3,.cells 67 [iI x1.Coef,dS ak x1.Vars]),(59,.row 67 2 (s0.1.map ab))]⟩
def po (x1:aa) (u1:(List aa)×Bool):AS:=⟨67,[(3,.hptr 3 0),(4,.eslice),(5,.rslice 59),(6,.bool u1.2)],[(3,.cells 67 [iI x1.Coef,dS ak x1.Vars]),(59,.row 67 2 (u1.1.map ab))]⟩
def lM (x0:List aa) (x1:aa) (i0:Nat) (s0:(List aa)×Bool) (y0:Int) (v0:Bool×Bool):AS:=⟨67,[(0,dS ab x0),(3,.hptr 3 0),(4,.eslice),(5,.rslice 59),(6,.bool v0.1),(7,nI i0),(8,iI y0),(32,.bool v0.2)],[(3,.cells 67 [iI x1.Coef,dS ak x1.Vars]),(59,.row 67 2 (s0.1.map ab))]⟩
def lL (x0:List aa) (x1:aa) (i0:Nat) (y0:Int) (v1:(List aa)×Bool):AS:=⟨67,[(0,dS ab x0),(3,.hptr 3 0),(4,.eslice),(5,.rslice 59),(6,.bool v1.2),(7,nI i0),(8,iI y0)],[(3,.cells 67 [iI x1.Coef,dS ak x1.Vars]),(59,.row 67 2 (v1.1.map ab))]⟩
def lg (x0:List aa) (x1:aa) (i0:Nat) (v1:(List aa)×Bool) (v2:Bool×Bool):AS:=⟨67,[(0,dS ab x0),(3,.hptr 3 0),(4,.eslice),(5,.rslice 59),(6,.bool v2.1),(7,nI i0),(9,.hptr 9 0),(46,.bool v2.2)],[(3,.cells 67 [iI x1.Coef,dS ak x1.Vars]),(9,.cells 67 [iI ((x0.getD i0 ⟨0,[]⟩).Coef),.dslice (((x0.getD i0 ⟨0,[]⟩).Vars).map ak)]),(59,.row 67 2 (v1.1.map ab))]⟩
def lX (x0:List aa) (x1:aa) (i0:Nat) (v1:(List aa)×Bool) (v3:Bool×Int):AS:=⟨67,[(0,dS ab x0),(3,.hptr 3 0),(4,.eslice),(5,.rslice 59),(6,.bool v3.1),(7,nI i0),(9,.hptr 9 0)],[(3,.cells 67 [iI x1.Coef,dS ak x1.Vars]),(9,.cells 67 [iI v3.2,.dslice (((x0.getD i0 ⟨0,[]⟩).Vars).map ak)]),(59,.row 67 2 (v1.1.map ab))]⟩
def kV (x0:List aa) (x1:aa) (i0:Nat) (v3:Bool×Int) (v4:List aa):AS:=⟨67,[(0,dS ab x0),(3,.hptr 3 0),(4,.eslice),(5,.rslice 59),(6,.bool v3.1),(7,nI i0)],[(3,.cells 67 [iI x1.Coef,dS ak x1.Vars]),(59,.row 67 2 (v4.map ab))]⟩
theorem gO (x0:List aa) (x1:aa) (r:List aa) (H:bP x0 x1=some r):bI Tryz.prog 66 [dS ab x0,.agg [iI x1.Coef,dS ak x1.Vars]] (dS ab r):=by
 unfold bP at H;refine aX Tryz.func66 67 [.tmp 4] ?_;refine pA 10 [r0 [.m,.v],V1,V4,V1] [.er 5 59 67 2,.only [0,3,4,5,6,7] [3,59]] 10 [] (la x0 x1 0 ([],(x1.Coef==0))) aN ?_;refine aU H fun R0 h0 H0 => ?_;refine pJ 1 (po x1) R0 ?_ (fun u0 e0 => ?_)
 ·refine pC (la x0 x1) h0 (fun i0 s0 h1 e1 => ?_) (fun i0 s0 h2 q0 h3 h4 => ?_)
  ·have c0:=lF i0 x0.length (by omega);subst e1;exact pB 5 [r0 [.v,.v,.e (nI x0.length),.e (.bool false)]] [.only [3,4,5,6] [3,59]] (po x1 (s0.1,s0.2)) (aT (aC (aK ab x0) (aB c0 aN)))
  ·have c1:=lT i0 x0.length (by omega);refine aU h3 fun y0 h5 H1 => ?_;refine pA 11 [r0 [.v,.v,.e (nI x0.length),.e (.bool true)],.rg 7 [.v,.v,.e (.dptr (ab (x0.getD i0 ⟨0,[]⟩))),.v,.v,.v,.v] [.c true (iI y0),.v]] [.only [0,3,4,5,6,7,8] [3,59]] 11 [true] ⟨67,[(0,dS ab x0),(3,.hptr 3 0),(4,.eslice),(5,.rslice 59),(6,.bool s0.2),(7,nI i0),(8,iI y0)],[(3,.cells 67 [iI x1.Coef,dS ak x1.Vars]),(59,.row 67 2 (s0.1.map ab))]⟩ (aT (aC (aK ab x0) (aB c1 (aI au x0 i0 ⟨0,[]⟩ (aC Tryz.call39 (aF (lD _ _ _ h5) aN)))))) ?_;refine aU H1 fun v0 h6 H2 => ?_;refine dd 0 (lM x0 x1 i0 s0 y0 v0) (by kernel_rfl) ?_ ?_
   ·refine a7 h6 (fun c2 H3 => ?_) (fun c3 H4 => ?_)
    ·obtain rfl:=sI H3;exact pB 2 [.eqT 6 (.bool true),r0 [.v,.v,.v,.s,.s,.v]] [.only [0,3,4,5,6,7,8,32] [3,59]] (lM x0 x1 i0 s0 y0 (true,false)) (aB c2 (aT aN))
    ·obtain rfl:=sI H4;exact pB 2 [.eqT 6 (.bool false),V6] [.only [0,3,4,5,6,7,8,32] [3,59]] (lM x0 x1 i0 s0 y0 (false,decide (y0>0))) (aB c3 (aT aN))
   ·refine aU H2 fun v1 h7 H5 => ?_;refine dd 0 (lL x0 x1 i0 y0 v1) (by kernel_rfl) ?_ ?_
    ·refine a7 h7 (fun c4 H6 => ?_) (fun c5 H7 => ?_)
     ·refine aY H6 fun g0 H8 => ?_;obtain rfl:=sI H8;exact pB 5 [.eqT 32 (.bool true),r0 [.v,.v,.b,.ap,.rwH 36 (.row 67 2 ((s0.1++[x1]).map ab)),.v],V1] [.ren [(3,3),(36,59)],.only [0,3,4,5,6,7,8] [3,59]] (lL x0 x1 i0 y0 ((s0.1++[x1]),true)) (aB c4 (aV (wB (c:=ab) fN s0.1 [x1] 32 (by decide) (by simpa using g0)) (aC (ya 67 2 ab s0.1 [x1]) aN)))
     ·obtain rfl:=sI H7;exact pB 3 [.eqT 32 (.bool false)] [.only [0,3,4,5,6,7,8] [3,59]] (lL x0 x1 i0 y0 (s0.1,v0.1)) (aB c5 aN)
    ·refine pA 4 [.rg 0 [] [.v,.v,.e (.dptr (ab (x0.getD i0 ⟨0,[]⟩))),.v,.m,.m]] [.only [0,3,4,5,6,7,8,9] [3,9,59]] 4 [] ⟨67,[(0,.dslice (x0.map ab)),(3,.hptr 3 0),(4,.eslice),(5,.rslice 59),(6,.bool v1.2),(7,.int .i64 ((i0:Nat):Int)),(8,.int .i64 y0),(9,.hptr 9 0)],[(3,.cells 67 [.int .i64 x1.Coef,.dslice (x1.Vars.map ak)]),(9,.cells 67 (ab (x0.getD i0 ⟨0,[]⟩))),(59,.row 67 2 (v1.1.map ab))]⟩ (aI au x0 i0 ⟨0,[]⟩ aN) ?_;refine aU H5 fun v2 h8 H9 => ?_;refine dd 0 (lg x0 x1 i0 v1 v2) (by kernel_rfl) ?_ ?_
     ·refine a7 h8 (fun c6 H10 => ?_) (fun c7 H11 => ?_)
      ·obtain rfl:=sI H10;exact pB 2 [.eqT 6 (.bool true),r0 [.v,.v,.v,.s,.s,.v]] [.only [0,3,4,5,6,7,9,46] [3,9,59]] (lg x0 x1 i0 v1 (true,false)) (aB c6 (aT aN))
      ·obtain rfl:=sI H11;exact pB 2 [.eqT 6 (.bool false),V6] [.only [0,3,4,5,6,7,9,46] [3,9,59]] (lg x0 x1 i0 v1 (false,(y0==0))) (aB c7 (aT aN))
     ·refine aU H9 fun v3 h9 H12 => ?_;refine dd 0 (lX x0 x1 i0 v1 v3) (by kernel_rfl) ?_ ?_
      ·refine a7 h9 (fun c8 H13 => ?_) (fun c9 H14 => ?_)
       ·obtain rfl:=sI H13;exact pB 5 [.eqT 46 (.bool true),r0 (V 4 [.w,.v,.m]),V1] [.only [0,3,4,5,6,7,9] [3,9,59]] (lX x0 x1 i0 v1 (true,(aS (((x0.getD i0 ⟨0,[]⟩).Coef)+x1.Coef)))) (aB c8 aN)
       ·obtain rfl:=sI H14;exact pB 3 [.eqT 46 (.bool false)] [.only [0,3,4,5,6,7,9] [3,9,59]] (lX x0 x1 i0 v1 (v2.1,((x0.getD i0 ⟨0,[]⟩).Coef))) (aB c9 aN)
      ·refine pA 2 [.rg 0 [] [.v,.v,.v]] [.only [0,3,4,5,6,7,9,55] [3,9,59]] 2 [] ⟨67,[(0,.dslice (x0.map ab)),(3,.hptr 3 0),(4,.eslice),(5,.rslice 59),(6,.bool v3.1),(7,.int .i64 ((i0:Nat):Int)),(9,.hptr 9 0),(55,.bool (v3.2 != 0))],[(3,.cells 67 [.int .i64 x1.Coef,.dslice (x1.Vars.map ak)]),(9,.cells 67 [.int .i64 v3.2,.dslice (((x0.getD i0 ⟨0,[]⟩).Vars).map ak)]),(59,.row 67 2 (v1.1.map ab))]⟩ aN ?_;refine aU H12 fun v4 h10 H15 => ?_;refine dd 1 (kV x0 x1 i0 v3 v4) (by kernel_rfl) ?_ ?_
       ·refine a7 h10 (fun c10 H16 => ?_) (fun c11 H17 => ?_)
        ·obtain rfl:=sI H16;exact pB 3 [.eqT 55 (.bool false)] [.only [0,3,4,5,6,7] [3,59]] (kV x0 x1 i0 v3 v1.1) (aM c10 aN)
        ·refine aY H17 fun g1 H18 => ?_;obtain rfl:=sI H18;exact pB 3 [.eqT 55 (.bool true),r0 [.v,.v,.b,.ap,.rwH 59 (.row 67 2 ((v1.1++[(aa.mk v3.2 ((x0.getD i0 ⟨0,[]⟩).Vars))]).map ab)),.v]] [.only [0,3,4,5,6,7] [3,59]] (kV x0 x1 i0 v3 (v1.1++[(aa.mk v3.2 ((x0.getD i0 ⟨0,[]⟩).Vars))])) (aM c11 (aV (wB (c:=ab) fN v1.1 [(aa.mk v3.2 ((x0.getD i0 ⟨0,[]⟩).Vars))] 32 (by decide) (by simpa using g1)) (aC (ya 67 2 ab v1.1 [(aa.mk v3.2 ((x0.getD i0 ⟨0,[]⟩).Vars))]) aN)))
       ·refine bn 0 (ps:=[(x0.map ab).length≤9223372036854775807]) (by kernel_rfl) (fun l0 => ?_);have l1:x0.length≤9223372036854775807:=by simpa only [bt,JV] using l0
        clear l0;obtain rfl:=sI H15;exact pB 1 [V3] [.only [0,3,4,5,6,7] [3,59]] (la x0 x1 (i0+1) (v4,v3.1)) (aH i0 aN)
 ·subst e0;have H19:=bT H0;refine a7 H19 (fun c12 H20 => ?_) (fun c13 H21 => ?_)
  ·obtain rfl:=sI H20;exact pR 9 [V2,.eqT 61 (.bool false),V2] [.fz 59] [] (aT (aM c12 aN))
  ·refine aY H21 fun g2 H22 => ?_;obtain rfl:=sI H22;exact pR 9 [V2,.eqT 61 (.bool true),r0 [.v,.v,.b,.ap,.rwH 65 (.row 67 2 ((u0.1++[x1]).map ab)),.v],V2] [.fz 65] [] (aT (aM c13 (aV (wB (c:=ab) fN u0.1 [x1] 32 (by decide) (by simpa using g2)) (aC (ya 67 2 ab u0.1 [x1]) aN))))
def cV (x0:List aa):Option Bool :=
 bif decide (((x0.length:Nat):Int)>60) then (
  some false
 ) else (
  (cL (σ:=Unit) (ε:=Unit) (ρ:=Bool) (fun i0 s0 =>
   ((
    bif (((x0.getD i0 ⟨0,[]⟩).Coef)==0) then (
     some (.ret (.ret false))
    ) else (
     bif decide (((x0.getD i0 ⟨0,[]⟩).Coef)<(-1099511627776)) then (
      some (.ret (.ret false))
     ) else (
      bif decide (((x0.getD i0 ⟨0,[]⟩).Coef)>1099511627776) then (
       some (.ret (.ret false))
      ) else (
       bif decide (((((x0.getD i0 ⟨0,[]⟩).Vars).length:Nat):Int)>8) then (
        some (.ret (.ret false))
       ) else (
        bif decide (((i0:Nat):Int)>0) then (
         bZ (0≤(aS (((i0:Nat):Int)-1))∧(aS (((i0:Nat):Int)-1))<(x0.length:Int)) <|
         (cW ((x0.getD (aS (((i0:Nat):Int)-1)).toNat ⟨0,[]⟩).Vars) ((x0.getD i0 ⟨0,[]⟩).Vars)).bind fun y0 =>
         bif decide (y0≥0) then (
          some (.ret (.ret false))
         ) else (
          some (.brk ())
         )
        ) else (
         some (.brk ())
        )
       )
      )
     )
    )
   ):Option (Out Unit (ff Unit Unit Bool))).bind (aft fun u0 =>
    (cL (σ:=Unit) (ε:=Unit) (ρ:=(ff Unit Unit Bool)) (fun i1 s1 =>
     (iv (((x0.getD i0 ⟨0,[]⟩).Vars).getD i1 [])).bind fun y1 =>
     ((
      bif y1 then (
       bif decide (((i1:Nat):Int)>0) then (
        bZ (0≤(aS (((i1:Nat):Int)-1))∧(aS (((i1:Nat):Int)-1))<(((x0.getD i0 ⟨0,[]⟩).Vars).length:Int)) <|
        bif (Op.bytesLess (((x0.getD i0 ⟨0,[]⟩).Vars).getD (aS (((i1:Nat):Int)-1)).toNat []) (((x0.getD i0 ⟨0,[]⟩).Vars).getD i1 [])||(((x0.getD i0 ⟨0,[]⟩).Vars).getD (aS (((i1:Nat):Int)-1)).toNat [])==(((x0.getD i0 ⟨0,[]⟩).Vars).getD i1 [])) then (
         some (.brk ())
        ) else (
         some (.ret (.ret (.ret false)))
        )
       ) else (
        some (.brk ())
       )
      ) else (
       some (.ret (.ret (.ret false)))
      )
     ):Option (Out Unit (ff Unit Unit (ff Unit Unit Bool)))).bind (aft fun u1 =>
      some (.go ())
     )
    ) (fun i1 s1=>()) (((x0.getD i0 ⟨0,[]⟩).Vars).length-0) 0 ()).bind <| aft fun u2 =>
    some (.go ())
   )
  ) (fun i0 s0=>()) (x0.length-0) 0 ()).bind <| aft fun u3 =>
  some true
 )
def kn (x0:List aa) (i0:Nat) (s0:Unit):AS:=⟨86,[(0,dS ab x0),(2,.bool false),(3,nI i0)],[]⟩
def od (u4:Unit):AS:=⟨86,[(2,.bool false)],[]⟩
def kx (x0:List aa) (i0:Nat) (u0:Unit):AS:=⟨86,[(0,dS ab x0),(2,.bool false),(3,nI i0),(4,.hptr 4 0)],[(4,.cells 67 [iI ((x0.getD i0 ⟨0,[]⟩).Coef),.dslice (((x0.getD i0 ⟨0,[]⟩).Vars).map ak)])]⟩
def kd (x0:List aa) (i0 i1:Nat) (s1:Unit):AS:=⟨86,[(0,dS ab x0),(2,.bool false),(3,nI i0),(4,.hptr 4 0),(5,nI i1)],[(4,.cells 67 [iI ((x0.getD i0 ⟨0,[]⟩).Coef),.dslice (((x0.getD i0 ⟨0,[]⟩).Vars).map ak)])]⟩
def n5 (x0:List aa) (i0:Nat) (u5:Unit):AS:=⟨86,[(0,dS ab x0),(2,.bool false),(3,nI i0)],[]⟩
def kA (x0:List aa) (i0 i1:Nat) (u1:Unit):AS:=⟨86,[(0,dS ab x0),(2,.bool false),(3,nI i0),(4,.hptr 4 0),(5,nI i1)],[(4,.cells 67 [iI ((x0.getD i0 ⟨0,[]⟩).Coef),.dslice (((x0.getD i0 ⟨0,[]⟩).Vars).map ak)])]⟩
theorem bu (x0:List aa) (r:Bool) (H:cV x0=some r):bI Tryz.prog 14 [dS ab x0] (.bool r):=by
 unfold cV at H;refine aX Tryz.func14 86 [.tmp 2] ?_;refine a7 H (fun c0 H0 => ?_) (fun c1 H1 => ?_)
 ·obtain rfl:=sI H0;exact pR 10 [V1,r0 [.v,.e (nI x0.length),.v],.eqT 8 (.bool true),V1] [] [] (aT (aC (aK ab x0) (aB c0 aN)))
 ·have c1p:=JQ c1;refine pA 12 [V1,r0 [.v,.e (nI x0.length),.v],.eqT 8 (.bool false),V1] [.only [0,2,3] []] 11 [false] (kn x0 0 ()) (aT (aC (aK ab x0) (aB c1 aN))) ?_;refine aU H1 fun R0 h0 H2 => ?_;refine pJ 1 (od) R0 ?_ (fun u3 e0 => ?_)
  ·refine pC (kn x0) h0 (fun i0 s0 h1 e1 => ?_) (fun i0 s0 h2 q0 h3 h4 => ?_)
   ·have c2:=lF i0 x0.length (by omega);subst e1;exact pB 5 [r0 [.v,.v,.e (nI x0.length),.e (.bool false)]] [.only [2] []] (od ()) (aT (aC (aK ab x0) (aB c2 aN)))
   ·have c3:=lT i0 x0.length (by omega);refine pA 11 [r0 [.v,.v,.e (nI x0.length),.e (.bool true)],r0 [.v,.v,.e (.dptr (ab (x0.getD i0 ⟨0,[]⟩))),.v,.m,.m]] [.only [0,2,3,4] [4]] 11 [true] ⟨86,[(0,dS ab x0),(2,.bool false),(3,nI i0),(4,.hptr 4 0)],[(4,.cells 67 (ab (x0.getD i0 ⟨0,[]⟩)))]⟩ (aT (aC (aK ab x0) (aB c3 (aI au x0 i0 ⟨0,[]⟩ aN)))) ?_;refine aU h3 fun v0 h5 H3 => ?_;refine pJ 1 (kx x0 i0) v0 ?_ (fun u0 e2 => ?_)
    ·refine a7 h5 (fun c4 H4 => ?_) (fun c5 H5 => ?_)
     ·obtain rfl:=sI H4;obtain rfl:=sI (ao H3);obtain rfl:=aA h4;obtain rfl:=sI (ao H2);exact pR 5 [.rg 31 [.v,.v,.e (.bool true),.v,.s,.s,.s,.v,.v,.s,.s,.s,.v,.v,.s,.s,.s,.s,.v,.v,.s,.s,.s,.s,.s,.s,.s,.s,.s,.s,.s] [.s,.s,.s,.v],V1] [] [] (aB c4 aN)
     ·refine a7 H5 (fun c6 H6 => ?_) (fun c7 H7 => ?_)
      ·obtain rfl:=sI H6;obtain rfl:=sI (ao H3);obtain rfl:=aA h4;obtain rfl:=sI (ao H2);exact pR 5 [.rg 31 [.v,.v,.e (.bool false),.v,.v,.v,.e (.bool true),.v,.v,.s,.s,.s,.v,.v,.s,.s,.s,.s,.v,.v,.s,.s,.s,.s,.s,.s,.s,.s,.s,.s,.s] [.s,.s,.s,.v],V1] [] [] (aB c5 (aB c6 aN))
      ·refine a7 H7 (fun c8 H8 => ?_) (fun c9 H9 => ?_)
       ·obtain rfl:=sI H8;obtain rfl:=sI (ao H3);obtain rfl:=aA h4;obtain rfl:=sI (ao H2);exact pR 5 [.rg 31 [.v,.v,.e (.bool false),.v,.v,.v,.e (.bool false),.v,.v,.v,.v,.e (.bool true),.v,.v,.s,.s,.s,.s,.v,.v,.s,.s,.s,.s,.s,.s,.s,.s,.s,.s,.s] [.s,.s,.s,.v],V1] [] [] (aB c5 (aB c7 (aB c8 aN)))
       ·refine a7 H9 (fun c10 H10 => ?_) (fun c11 H11 => ?_)
        ·obtain rfl:=sI H10;obtain rfl:=sI (ao H3);obtain rfl:=aA h4;obtain rfl:=sI (ao H2);exact pR 5 [.rg 31 [.v,.v,.e (.bool false),.v,.v,.v,.e (.bool false),.v,.v,.v,.v,.e (.bool false),.v,.v,.v,.v,.e (iI ((((x0.getD i0 ⟨0,[]⟩).Vars).length:Nat):Int)),.e (.bool true),.v,.v,.s,.s,.s,.s,.s,.s,.s,.s,.s,.s,.s] [.s,.s,.s,.v],V1] [] [] (aB c5 (aB c7 (aB c9 (aT (aC (aK ak ((x0.getD i0 ⟨0,[]⟩).Vars)) (aB c10 aN))))))
        ·refine a7 H11 (fun c12 H12 => ?_) (fun c13 H13 => ?_)
         ·refine aY H12 fun g0 H14 => ?_;refine aU H14 fun y0 h6 H15 => ?_;refine pA 1 [.rg 31 [.v,.v,.e (.bool false),.v,.v,.v,.e (.bool false),.v,.v,.v,.v,.e (.bool false),.v,.v,.v,.v,.e (iI ((((x0.getD i0 ⟨0,[]⟩).Vars).length:Nat):Int)),.e (.bool false),.v,.v,.v,.e (.bool true),.v,.v,.v,.w,.e (.dptr (ab (x0.getD (aS (((i0:Nat):Int)-1)).toNat ⟨0,[]⟩))),.v,.v,.v,.v] [.c true (iI y0),.v,.v,.v]] [.only [0,2,3,4,53] [4]] 1 [] ⟨86,[(0,dS ab x0),(2,.bool false),(3,nI i0),(4,.hptr 4 0),(53,.bool (decide (y0≥0)))],[(4,.cells 67 (ab (x0.getD i0 ⟨0,[]⟩)))]⟩ (aB c5 (aB c7 (aB c9 (aT (aC (aK ak ((x0.getD i0 ⟨0,[]⟩).Vars)) (aB c11 (aB c12 (aV (vy (f:=ab) (l:=x0) (n:=(aS (((i0:Nat):Int)-1))) ⟨0,[]⟩ au (by decide) (by exact g0)) (aC Tryz.call39 (aF (lD _ _ _ h6) aN)))))))))) ?_;refine a7 H15 (fun c14 H16 => ?_) (fun c15 H17 => ?_)
          ·obtain rfl:=sI H16;obtain rfl:=sI (ao H3);obtain rfl:=aA h4;obtain rfl:=sI (ao H2);exact pR 5 [.eqT 53 (.bool true),V1] [] [] (aB c14 aN)
          ·obtain rfl:=sI H17;exact pB 3 [.eqT 53 (.bool false)] [.only [0,2,3,4] [4]] (kx x0 i0 ()) (aB c15 aN)
         ·obtain rfl:=sI H13;exact pB 3 [.rg 31 [.v,.v,.e (.bool false),.v,.v,.v,.e (.bool false),.v,.v,.v,.v,.e (.bool false),.v,.v,.v,.v,.e (iI ((((x0.getD i0 ⟨0,[]⟩).Vars).length:Nat):Int)),.e (.bool false),.v,.v,.v,.e (.bool false),.v,.s,.s,.s,.s,.s,.s,.s,.s] [.s,.s,.v,.v]] [.only [0,2,3,4] [4]] (kx x0 i0 ()) (aB c5 (aB c7 (aB c9 (aT (aC (aK ak ((x0.getD i0 ⟨0,[]⟩).Vars)) (aB c11 (aB c13 aN)))))))
    ·subst e2;have H18:=aW H3;refine pA 3 [V1] [.only [0,2,3,4,5] [4]] 3 [] (kd x0 i0 0 ()) aN ?_;refine aU H18 fun R1 h7 H19 => ?_;refine pJ 2 (n5 x0 i0) R1 ?_ (fun u2 e3 => ?_)
     ·refine pC (kd x0 i0) h7 (fun i1 s1 h8 e4 => ?_) (fun i1 s1 h9 q1 h10 h11 => ?_)
      ·have c16:=lF i1 (((x0.getD i0 ⟨0,[]⟩).Vars).length) (by omega);subst e4;exact pB 5 [r0 [.v,.v,.v,.e (iI ((((x0.getD i0 ⟨0,[]⟩).Vars).length:Nat):Int)),.e (.bool false)]] [.only [0,2,3] []] (n5 x0 i0 ()) (aT (aC (aK ak ((x0.getD i0 ⟨0,[]⟩).Vars)) (aB c16 aN)))
      ·have c17:=lT i1 (((x0.getD i0 ⟨0,[]⟩).Vars).length) (by omega);refine aU h10 fun y1 h12 H20 => ?_;refine pA 8 [r0 [.v,.v,.v,.e (iI ((((x0.getD i0 ⟨0,[]⟩).Vars).length:Nat):Int)),.e (.bool true)]] [.only [0,2,3,4,5] [4]] 8 [true] ⟨86,[(0,dS ab x0),(2,.bool false),(3,nI i0),(4,.hptr 4 0),(5,nI i1)],[(4,.cells 67 (ab (x0.getD i0 ⟨0,[]⟩)))]⟩ (aT (aC (aK ak ((x0.getD i0 ⟨0,[]⟩).Vars)) (aB c17 aN))) ?_;refine aU H20 fun v1 h13 H21 => ?_;refine pJ 2 (kA x0 i0 i1) v1 ?_ (fun u1 e5 => ?_)
       ·refine a7 h13 (fun c18 H22 => ?_) (fun c19 H23 => ?_)
        ·refine a7 H22 (fun c20 H24 => ?_) (fun c21 H25 => ?_)
         ·have c20p:=JR c20;refine aY H24 fun g1 H26 => ?_;refine pA 1 [.rg 22 [.v,.v,.v,.e (.dptr [.str (((x0.getD i0 ⟨0,[]⟩).Vars).getD i1 [])]),.v,.c true (.bool true),.v,.v,.v,.e (.bool true),.v,.v,.v,.v,.w,.e (.dptr [.str (((x0.getD i0 ⟨0,[]⟩).Vars).getD (aS (((i1:Nat):Int)-1)).toNat [])]),.v,.v,.v,.v,.e (.dptr [.str (((x0.getD i0 ⟨0,[]⟩).Vars).getD i1 [])]),.v] [.v,.v,.v]] [.only [0,2,3,4,5,85] [4]] 1 [] ⟨86,[(0,dS ab x0),(2,.bool false),(3,nI i0),(4,.hptr 4 0),(5,nI i1),(85,.bool (!(Op.bytesLess (((x0.getD i0 ⟨0,[]⟩).Vars).getD (aS (((i1:Nat):Int)-1)).toNat []) (((x0.getD i0 ⟨0,[]⟩).Vars).getD i1 [])||(((x0.getD i0 ⟨0,[]⟩).Vars).getD (aS (((i1:Nat):Int)-1)).toNat [])==(((x0.getD i0 ⟨0,[]⟩).Vars).getD i1 []))))],[(4,.cells 67 (ab (x0.getD i0 ⟨0,[]⟩)))]⟩ (aI aZ (((x0.getD i0 ⟨0,[]⟩).Vars)) i1 [] (aC Tryz.call40 (aC (bI.eq (dT _ _ h12) (cB c18)) (aT (aB c20 (aV (vy (f:=ak) (l:=((x0.getD i0 ⟨0,[]⟩).Vars)) (n:=(aS (((i1:Nat):Int)-1))) [] aZ (by decide) (by exact g1)) (aI aZ (((x0.getD i0 ⟨0,[]⟩).Vars)) i1 [] aN))))))) ?_;refine a7 H26 (fun c22 H27 => ?_) (fun c23 H28 => ?_)
          ·obtain rfl:=sI H27;exact pB 3 [.eqT 85 (.bool false)] [.only [0,2,3,4,5] [4]] (kA x0 i0 i1 ()) (aM c22 aN)
          ·obtain rfl:=sI H28;obtain rfl:=sI (ao H21);obtain rfl:=aA h11;obtain rfl:=sI (ao H19);obtain rfl:=aA h4;obtain rfl:=sI (ao H2);exact pR 5 [.eqT 85 (.bool true),V1] [] [] (aM c23 aN)
         ·have c21p:=JQ c21;obtain rfl:=sI H25;exact pB 3 [.rg 22 [.v,.v,.v,.e (.dptr [.str (((x0.getD i0 ⟨0,[]⟩).Vars).getD i1 [])]),.v,.c true (.bool true),.v,.v,.v,.e (.bool false),.v,.s,.s,.s,.s,.s,.s,.s,.s,.s,.s,.s] [.s,.v,.v]] [.only [0,2,3,4,5] [4]] (kA x0 i0 i1 ()) (aI aZ (((x0.getD i0 ⟨0,[]⟩).Vars)) i1 [] (aC Tryz.call40 (aC (bI.eq (dT _ _ h12) (cB c18)) (aT (aB c21 aN)))))
        ·obtain rfl:=sI H23;obtain rfl:=sI (ao H21);obtain rfl:=aA h11;obtain rfl:=sI (ao H19);obtain rfl:=aA h4;obtain rfl:=sI (ao H2);exact pR 5 [.rg 22 [.v,.v,.v,.e (.dptr [.str (((x0.getD i0 ⟨0,[]⟩).Vars).getD i1 [])]),.v,.c true (.bool false),.v,.v,.s,.s,.s,.s,.s,.s,.s,.s,.s,.s,.s,.s,.s,.s] [.s,.s,.v],V1] [] [] (aI aZ (((x0.getD i0 ⟨0,[]⟩).Vars)) i1 [] (aC Tryz.call40 (aC (bI.eq (dT _ _ h12) (cB c19)) (aT aN))))
       ·subst e5;have H29:=aW H21;refine qj 4 1 (ps:=[(((x0.getD i0 ⟨0,[]⟩).Vars).map ak).length≤9223372036854775807]) (by kernel_rfl) (fun l0 => ?_);have l1:((x0.getD i0 ⟨0,[]⟩).Vars).length≤9223372036854775807:=by simpa only [bt,JV] using l0
        clear l0;obtain rfl:=sI H29;exact pB 1 [V3] [.only [0,2,3,4,5] [4]] (kd x0 i0 (i1+1) ()) (aH i1 aN)
     ·subst e3;have H30:=aW H19;refine bn 0 (ps:=[(x0.map ab).length≤9223372036854775807]) (by kernel_rfl) (fun l2 => ?_);have l3:x0.length≤9223372036854775807:=by simpa only [bt,JV] using l2
      clear l2;obtain rfl:=sI H30;exact pB 1 [V3] [.only [0,2,3] []] (kn x0 (i0+1) ()) (aH i0 aN)
  ·subst e0;have H31:=aW H2;obtain rfl:=sI H31;exact pR 3 [V1] [] [] aN
def ct (x0:List aa):Option ((List aa)×Int) :=
 (cV x0).bind fun y0 =>
 bif y0 then (
  some (x0,0)
 ) else (
  some ([],3)
 )
theorem gg (x0:List aa) (r:(List aa)×Int) (H:ct x0=some r):bI Tryz.prog 42 [dS ab x0] (.tup [dS ab r.1,iI r.2]):=by
 unfold ct at H;refine aX Tryz.func42 8 [.tmp 2,.tmp 3] ?_;refine aU H fun y0 h0 H0 => ?_;refine a7 H0 (fun c0 H1 => ?_) (fun c1 H2 => ?_)
 ·obtain rfl:=sI H1;exact pR 11 [V2,r0 [.v,.c true (.bool y0),.v],.eqT 6 (.bool false),V3] [] [] (aC Tryz.call14 (aF (bu _ _ h0) (aT (aM c0 aN))))
 ·obtain rfl:=sI H2;exact pR 10 [V2,r0 [.v,.c true (.bool y0),.v],.eqT 6 (.bool true),V2] [.wk 2 []] [] (aC Tryz.call14 (aF (bu _ _ h0) (aT (aM c1 aN))))
def dj (x0:Int):Option ((List aa)×Int) :=
 (bP [] (aa.mk x0 [])).bind fun y0 =>
 (ct y0).bind fun y1 =>
 some (y1.1,y1.2)
theorem nW (x0:Int) (r:(List aa)×Int) (H:dj x0=some r):bI Tryz.prog 30 [iI x0] (.tup [dS ab r.1,iI r.2]):=by unfold dj at H;refine aX Tryz.func30 10 [.tmp 2,.tmp 3] ?_;refine aU H fun y0 h0 H0 => ?_;refine aU H0 fun y1 h1 H1 => ?_;obtain rfl:=sI H1;exact pR 5 [V2,r0 [.v,.b,.cw true [(0,[]),(1,[(1,0)])] (dS ab y0),.c true (.tup [dS ab y1.1,iI y1.2]),.v,.v,.v,.v]] [] [] (aC Tryz.call66 (aF (gO _ _ _ h0) (aC Tryz.call42 (aF (gg _ _ h1) aN))))
def eS (x0:Linear):Option ((List aa)×Int) :=
 (gD x0).bind fun y0 =>
 bif y0 then (
  (bP [] (aa.mk x0.Const [])).bind fun y1 =>
  (cL (σ:=(List aa)) (ε:=(List aa)) (ρ:=Empty) (fun i0 s0 =>
   (bP s0 (aa.mk ((x0.Terms.getD i0 ⟨[],0⟩).C) [((x0.Terms.getD i0 ⟨[],0⟩).Var)])).bind fun y2 =>
   some (.go y2)
  ) (fun i0 s0=>s0) (x0.Terms.length-0) 0 y1).bind <| aftE fun u0 =>
  (ct u0).bind fun y3 =>
  some (y3.1,y3.2)
 ) else (
  some ([],1)
 )
def oz (x0:Linear) (i0:Nat) (s0:List aa):AS:=⟨40,[(1,.hptr 1 0),(2,.eslice),(3,iI 0),(4,dS ab s0),(5,nI i0)],[(1,.cells 32 [iI x0.Const,dS be x0.Terms])]⟩
def sV (u1:List aa):AS:=⟨40,[(2,.eslice),(3,iI 0),(4,dS ab u1)],[]⟩
theorem pX (x0:Linear) (r:(List aa)×Int) (H:eS x0=some r):bI Tryz.prog 31 [.agg [iI x0.Const,dS be x0.Terms]] (.tup [dS ab r.1,iI r.2]):=by
 unfold eS at H;refine aX Tryz.func31 40 [.tmp 2,.tmp 3] ?_;refine aU H fun y0 h0 H0 => ?_;refine a7 H0 (fun c0 H1 => ?_) (fun c1 H2 => ?_)
 ·refine aU H1 fun y1 h1 H3 => ?_;refine pA 14 [r0 [.m,.v,.v],r0 [.v,.c true (.bool y0),.v],.eqT 8 (.bool false),r0 [.v,.v,.b,.cw true [(0,[]),(1,[(1,0)])] (dS ab y1),.v],V1] [.only [1,2,3,4,5] [1]] 13 [false] (oz x0 0 y1) (aC Tryz.call15 (aF (lW _ _ h0) (aT (aM c0 (aC Tryz.call66 (aF (gO _ _ _ h1) aN)))))) ?_;refine aU H3 fun R0 h2 H4 => ?_;refine pJ 1 (sV) R0 ?_ (fun u0 e0 => ?_)
  ·refine pC (oz x0) h2 (fun i0 s0 h3 e1 => ?_) (fun i0 s0 h4 q0 h5 h6 => ?_)
   ·have c2:=lF i0 x0.Terms.length (by omega);subst e1;exact pB 5 [r0 [.v,.v,.v,.e (nI x0.Terms.length),.e (.bool false)]] [.only [2,3,4] []] (sV s0) (aT (aC (aK be x0.Terms) (aB c2 aN)))
   ·have c3:=lT i0 x0.Terms.length (by omega);refine aU h5 fun y2 h7 H5 => ?_;refine qj 1 1 (ps:=[(x0.Terms.map be).length≤9223372036854775807]) (by kernel_rfl) (fun l0 => ?_);have l1:x0.Terms.length≤9223372036854775807:=by simpa only [bt,JV] using l0
    clear l0;obtain rfl:=sI H5;exact pB 9 [r0 [.v,.v,.v,.e (nI x0.Terms.length),.e (.bool true)],.rg 15 (V 4 [.e (.dptr (be (x0.Terms.getD i0 ⟨[],0⟩))),.v,.v,.v,.v,.v,.e (.dptr (be (x0.Terms.getD i0 ⟨[],0⟩))),.v,.v,.b,.b]) [.c true (dS ab y2),.v],V3] [.only [1,2,3,4,5] [1]] (oz x0 (i0+1) y2) (aT (aC (aK be x0.Terms) (aB c3 (aI gr x0.Terms i0 ⟨[],0⟩ (aI gr x0.Terms i0 ⟨[],0⟩ (aC Tryz.call66 (aF (gO _ _ _ h7) (aH i0 aN))))))))
  ·subst e0;have H6:=bT H4;refine aU H6 fun y3 h8 H7 => ?_;obtain rfl:=sI H7;exact pR 3 [r0 [.v,.c true (.tup [dS ab y3.1,iI y3.2]),.v,.v,.v,.v]] [] [] (aC Tryz.call42 (aF (gg _ _ h8) aN))
 ·obtain rfl:=sI H2;exact pR 10 [r0 [.m,.v,.v],r0 [.v,.c true (.bool y0),.v],.eqT 8 (.bool true),V2] [.wk 2 []] [] (aC Tryz.call15 (aF (lW _ _ h0) (aT (aM c1 aN))))
def iD (x0 x1:List ah):Option (List ah) :=
 (mC (σ:=((List ah)×Int×Int)) (ε:=(List ah)) (ρ:=Empty) (fun s0 =>
  ((
   bif decide (s0.2.1<((x0.length:Nat):Int)) then (
    some (.brk ())
   ) else (
    bif decide (s0.2.2<((x1.length:Nat):Int)) then (
     some (.brk ())
    ) else (
     some (.ret (.brk s0.1))
    )
   )
  ):Option (Out Unit (ff ((List ah)×Int×Int) (List ah) Empty))).bind (aft fun u0 =>
   ((
    bif (s0.2.2==((x1.length:Nat):Int)) then (
     some true
    ) else (
     bif decide (s0.2.1<((x0.length:Nat):Int)) then (
      bZ (0≤s0.2.1∧s0.2.1<(x0.length:Int)) <|
      bZ (0≤s0.2.2∧s0.2.2<(x1.length:Int)) <|
      some (Op.bytesLess (x0.getD s0.2.1.toNat []) (x1.getD s0.2.2.toNat [])||(x0.getD s0.2.1.toNat [])==(x1.getD s0.2.2.toNat []))
     ) else (
      some false
     )
    )
   ):Option Bool).bind fun v0 =>
   bif v0 then (
    bZ (0≤s0.2.1∧s0.2.1<(x0.length:Int)) <|
    bZ ((s0.1.length+1)*16≤140737488355328) <|
    some (.go ((s0.1++[(x0.getD s0.2.1.toNat [])]),(aS (s0.2.1+1)),s0.2.2))
   ) else (
    bZ (0≤s0.2.2∧s0.2.2<(x1.length:Int)) <|
    bZ ((s0.1.length+1)*16≤140737488355328) <|
    some (.go ((s0.1++[(x1.getD s0.2.2.toNat [])]),s0.2.1,(aS (s0.2.2+1))))
   )
  )
 ) 4294967296 ([],0,0)).bind <| aftE fun u1 =>
 some u1
def iO (x0 x1:List ah) (s0:(List ah)×Int×Int):AS:=⟨58,[(0,dS ak x0),(1,dS ak x1),(4,.eslice),(5,.rslice 54),(6,iI s0.2.1),(7,iI s0.2.2)],[(54,.row 9 1 (s0.1.map ak))]⟩
def pt (u2:List ah):AS:=⟨58,[(4,.eslice),(5,.rslice 54)],[(54,.row 9 1 (u2.map ak))]⟩
def lU (x0 x1:List ah) (s0:(List ah)×Int×Int) (u0:Unit):AS:=⟨58,[(0,dS ak x0),(1,dS ak x1),(4,.eslice),(5,.rslice 54),(6,iI s0.2.1),(7,iI s0.2.2)],[(54,.row 9 1 (s0.1.map ak))]⟩
def iM (x0 x1:List ah) (s0:(List ah)×Int×Int) (v0:Bool):AS:=⟨58,[(0,dS ak x0),(1,dS ak x1),(4,.eslice),(5,.rslice 54),(6,iI s0.2.1),(7,iI s0.2.2),(38,.bool v0)],[(54,.row 9 1 (s0.1.map ak))]⟩
theorem yC (x0 x1 r:List ah) (H:iD x0 x1=some r):bI Tryz.prog 67 [dS ak x0,dS ak x1] (dS ak r):=by
 unfold iD at H;refine aX Tryz.func67 58 [.tmp 4] ?_;refine pA 8 [V1,V1,V2] [.er 5 54 9 1,.only [0,1,4,5,6,7] [54]] 8 [] (iO x0 x1 ([],0,0)) aN ?_;refine aU H fun R0 h0 H0 => ?_;refine pJ 1 (pt) R0 ?_ (fun u1 e0 => ?_)
 ·refine pr (iO x0 x1) (by kernel_rfl) h0 (fun s0 q0 h1 h2 => ?_)
  ·refine pA 2 [] [.only [0,1,4,5,6,7] [54]] 2 [] ⟨58,[(0,.dslice (x0.map ak)),(1,.dslice (x1.map ak)),(4,.eslice),(5,.rslice 54),(6,.int .i64 s0.2.1),(7,.int .i64 s0.2.2)],[(54,.row 9 1 (s0.1.map ak))]⟩ aN ?_;refine aU h1 fun v1 h3 H1 => ?_;refine pJ 1 (lU x0 x1 s0) v1 ?_ (fun u0 e1 => ?_)
   ·refine a7 h3 (fun c0 H2 => ?_) (fun c1 H3 => ?_)
    ·obtain rfl:=sI H2;exact pB 3 [r0 [.v,.v,.e (nI x0.length),.e (.bool true),.v,.s,.s,.s,.s,.v]] [.only [0,1,4,5,6,7] [54]] (lU x0 x1 s0 ()) (aT (aC (aK ak x0) (aB c0 aN)))
    ·refine a7 H3 (fun c2 H4 => ?_) (fun c3 H5 => ?_)
     ·obtain rfl:=sI H4;exact pB 4 [r0 [.v,.v,.e (nI x0.length),.e (.bool false),.v,.v,.v,.e (nI x1.length),.v,.v],.eqT 17 (.bool true)] [.only [0,1,4,5,6,7] [54]] (lU x0 x1 s0 ()) (aT (aC (aK ak x0) (aB c1 (aT (aC (aK ak x1) (aB c2 aN))))))
     ·obtain rfl:=sI H5;obtain rfl:=sI (ao H1);obtain rfl:=eL h2;exact pB 4 [r0 [.v,.v,.e (nI x0.length),.e (.bool false),.v,.v,.v,.e (nI x1.length),.v,.v],.eqT 17 (.bool false)] [.only [4,5] [54]] (pt s0.1) (aT (aC (aK ak x0) (aB c1 (aT (aC (aK ak x1) (aB c3 aN))))))
   ·subst e1;have H6:=aW H1;refine pA 2 [] [.only [0,1,4,5,6,7] [54]] 2 [] ⟨58,[(0,dS ak x0),(1,dS ak x1),(4,.eslice),(5,.rslice 54),(6,iI s0.2.1),(7,iI s0.2.2)],[(54,.row 9 1 (s0.1.map ak))]⟩ aN ?_;refine aU H6 fun v0 h4 H7 => ?_;refine dd 0 (iM x0 x1 s0 v0) (by kernel_rfl) ?_ ?_
    ·refine a7 h4 (fun c4 H8 => ?_) (fun c5 H9 => ?_)
     ·obtain rfl:=sI H8;exact pB 1 [.rg 18 [.v,.v,.e (nI x1.length),.e (.bool true),.v,.s,.s,.s,.s,.s,.s,.s,.s,.s,.s,.s,.s,.s] [.s,.s,.v]] [.only [0,1,4,5,6,7,38] [54]] (iM x0 x1 s0 true) (aT (aC (aK ak x1) (aB c4 aN)))
     ·refine a7 H9 (fun c6 H10 => ?_) (fun c7 H11 => ?_)
      ·refine aY H10 fun g0 H12 => ?_;refine aY H12 fun g1 H13 => ?_;obtain rfl:=sI H13;exact pB 1 [.rg 18 [.v,.v,.e (nI x1.length),.e (.bool false),.v,.v,.v,.e (nI x0.length),.e (.bool true),.v,.v,.v,.e (.dptr [.str (x0.getD s0.2.1.toNat [])]),.v,.v,.v,.e (.dptr [.str (x1.getD s0.2.2.toNat [])]),.v] [.v,.v,.v]] [.only [0,1,4,5,6,7,38] [54]] (iM x0 x1 s0 (Op.bytesLess (x0.getD s0.2.1.toNat []) (x1.getD s0.2.2.toNat [])||(x0.getD s0.2.1.toNat [])==(x1.getD s0.2.2.toNat []))) (aT (aC (aK ak x1) (aB c5 (aT (aC (aK ak x0) (aB c6 (aV (vy (f:=ak) (l:=x0) (n:=s0.2.1) [] aZ (by decide) (by exact g0)) (aV (vy (f:=ak) (l:=x1) (n:=s0.2.2) [] aZ (by decide) (by exact g1)) aN))))))))
      ·obtain rfl:=sI H11;exact pB 1 [.rg 18 [.v,.v,.e (nI x1.length),.e (.bool false),.v,.v,.v,.e (nI x0.length),.e (.bool false),.v,.s,.s,.s,.s,.s,.s,.s,.s] [.s,.v,.v]] [.only [0,1,4,5,6,7,38] [54]] (iM x0 x1 s0 false) (aT (aC (aK ak x1) (aB c5 (aT (aC (aK ak x0) (aB c7 aN))))))
    ·refine a7 H7 (fun c8 H14 => ?_) (fun c9 H15 => ?_)
     ·refine aY H14 fun g2 H16 => ?_;refine aY H16 fun g3 H17 => ?_;obtain rfl:=sI H17;exact pB 5 [.eqT 38 (.bool true),r0 [.v,.v,.v,.e (.dptr [.str (x0.getD s0.2.1.toNat [])]),.v,.b,.ap,.rwH 45 (.row 9 1 ((s0.1++[(x0.getD s0.2.1.toNat [])]).map ak)),.v],r0 [.v,.w,.v]] [.ren [(45,54)],.only [0,1,4,5,6,7] [54]] (iO x0 x1 ((s0.1++[(x0.getD s0.2.1.toNat [])]),(aS (s0.2.1+1)),s0.2.2)) (aB c8 (aV (vy (f:=ak) (l:=x0) (n:=s0.2.1) [] aZ (by decide) (by exact g2)) (aV (wB (c:=ak) iL s0.1 [(x0.getD s0.2.1.toNat [])] 16 (by decide) (by simpa using g3)) (aC (ya 9 1 ak s0.1 [(x0.getD s0.2.1.toNat [])]) aN))))
     ·refine aY H15 fun g4 H18 => ?_;refine aY H18 fun g5 H19 => ?_;obtain rfl:=sI H19;exact pB 5 [.eqT 38 (.bool false),r0 [.v,.v,.v,.e (.dptr [.str (x1.getD s0.2.2.toNat [])]),.v,.b,.ap,.rwH 54 (.row 9 1 ((s0.1++[(x1.getD s0.2.2.toNat [])]).map ak)),.v],r0 [.v,.w,.v]] [.only [0,1,4,5,6,7] [54]] (iO x0 x1 ((s0.1++[(x1.getD s0.2.2.toNat [])]),s0.2.1,(aS (s0.2.2+1)))) (aB c9 (aV (vy (f:=ak) (l:=x1) (n:=s0.2.2) [] aZ (by decide) (by exact g4)) (aV (wB (c:=ak) iL s0.1 [(x1.getD s0.2.2.toNat [])] 16 (by decide) (by simpa using g5)) (aC (ya 9 1 ak s0.1 [(x1.getD s0.2.2.toNat [])]) aN))))
 ·subst e0;have H20:=bT H0;refine cK H20 fun e2 => ?_;subst e2;exact pR 3 [V2] [.fz 54] [] aN
def gN (x0:Int):Option Bool :=
 bif decide (x0≥(-4611686018427387904)) then (
  some (decide (x0≤4611686018427387904))
 ) else (
  some false
 )
theorem dE (x0:Int) (r:Bool) (H:gN x0=some r):bI Tryz.prog 49 [iI x0] (.bool r):=by
 unfold gN at H;refine aX Tryz.func49 9 [.tmp 2] ?_;refine a7 H (fun c0 H0 => ?_) (fun c1 H1 => ?_)
 ·obtain rfl:=sI H0;exact pR 5 [V1,r0 [.v,.e (.bool true),.v,.v,.v,.v,.v]] [] [] (aB c0 aN)
 ·obtain rfl:=sI H1;exact pR 5 [V1,r0 [.v,.e (.bool false),.v,.s,.s,.v,.v]] [] [] (aB c1 aN)
def cu (x0:Int):Option (Int×Int×Int) :=
 some ((x0.tmod 2097152),((aS (x0.tdiv 2097152)).tmod 2097152),(aS ((aS (x0.tdiv 2097152)).tdiv 2097152)))
theorem oL (x0:Int) (r:Int×Int×Int) (H:cu x0=some r):bI Tryz.prog 100 [iI x0] (.agg [iI r.1,iI r.2.1,iI r.2.2]):=by unfold cu at H;refine aX Tryz.func100 12 [.cell 2 145] ?_;obtain rfl:=sI H;exact pR 5 [r0 [.m],r0 [.v,.v,.v,.w,.v,.v,.w,.w,.b,.m]] [] [] (aC (show (2097152:Int)≠0 from (by decide)) (aC (show (2097152:Int)≠0 from (by decide)) (aC (show (2097152:Int)≠0 from (by decide)) (aC (show (2097152:Int)≠0 from (by decide)) (aC (show (2097152:Int)≠0 from (by decide)) aN)))))
def dN (x0 x1:Int):Option (Int×Int) :=
 (gN x0).bind fun y0 =>
 bif y0 then (
  (gN x1).bind fun y1 =>
  bif y1 then (
   bif (x1==0) then (
    some (0,1)
   ) else (
    bZ ((x1:Int)≠0) <|
    ((
     bif ((x0.tmod x1)==0) then (
      some false
     ) else (
      some (!(decide (x0<0)==decide (x1<0)))
     )
    ):Option Bool).bind fun v0 =>
    bif v0 then (
     some ((aS ((aS (x0.tdiv x1))-1)),0)
    ) else (
     some ((aS (x0.tdiv x1)),0)
    )
   )
  ) else (
   some (0,2)
  )
 ) else (
  some (0,2)
 )
def mW (x0 x1:Int) (v0:Bool):AS:=⟨34,[(4,iI 0),(5,iI 0),(6,iI (aS (x0.tdiv x1))),(30,.bool v0)],[]⟩
theorem fx (x0 x1:Int) (r:Int×Int) (H:dN x0 x1=some r):bI Tryz.prog 101 [iI x0,iI x1] (.tup [iI r.1,iI r.2]):=by
 unfold dN at H;refine aX Tryz.func101 34 [.tmp 4,.tmp 5] ?_;refine aU H fun y0 h0 H0 => ?_;refine a7 H0 (fun c0 H1 => ?_) (fun c1 H2 => ?_)
 ·refine aU H1 fun y1 h1 H3 => ?_;refine a7 H3 (fun c2 H4 => ?_) (fun c3 H5 => ?_)
  ·refine a7 H4 (fun c4 H6 => ?_) (fun c5 H7 => ?_)
   ·obtain rfl:=sI H6;exact pR 16 [V2,r0 [.v,.c true (.bool true),.v,.v,.v,.c true (.bool y1),.v,.v],.eqT 14 (.bool false),V2,.eqT 16 (.bool true),V2] [] [] (aC Tryz.call49 (aC (bI.eq (dE _ _ h0) (cB c0)) (aT (aC Tryz.call49 (aF (dE _ _ h1) (aT (aM c2 (aB c4 aN))))))))
   ·refine aY H7 fun g0 H8 => ?_;refine pA 18 [V2,r0 [.v,.c true (.bool true),.v,.v,.v,.c true (.bool y1),.v,.v],.eqT 14 (.bool false),V2,.eqT 16 (.bool false),r0 [.v,.v,.w,.v]] [.only [0,1,4,5,6] []] 16 [false,false] ⟨34,[(0,iI x0),(1,iI x1),(4,iI 0),(5,iI 0),(6,iI (aS (x0.tdiv x1)))],[]⟩ (aC Tryz.call49 (aC (bI.eq (dE _ _ h0) (cB c0)) (aT (aC Tryz.call49 (aF (dE _ _ h1) (aT (aM c2 (aB c5 (aC (show (x1:Int)≠0 from g0) aN))))))))) ?_;refine aU H8 fun v0 h2 H9 => ?_;refine dd 0 (mW x0 x1 v0) (by kernel_rfl) ?_ ?_
    ·refine a7 h2 (fun c6 H10 => ?_) (fun c7 H11 => ?_)
     ·obtain rfl:=sI H10;exact pB 1 [r0 [.v,.v,.v,.e (.bool false),.v,.s,.s,.s,.s,.s,.v]] [.only [4,5,6,30] []] (mW x0 x1 false) (aC (show (x1:Int)≠0 from g0) (aM c6 aN))
     ·obtain rfl:=sI H11;exact pB 1 [r0 [.v,.v,.v,.e (.bool true),.v,.v,.v,.v,.v,.v,.v]] [.only [4,5,6,30] []] (mW x0 x1 (!(decide (x0<0)==decide (x1<0)))) (aC (show (x1:Int)≠0 from g0) (aM c7 aN))
    ·refine a7 H9 (fun c8 H12 => ?_) (fun c9 H13 => ?_)
     ·obtain rfl:=sI H12;exact pR 6 [.eqT 30 (.bool true),r0 [.v,.w,.v],V3] [] [] (aB c8 aN)
     ·obtain rfl:=sI H13;exact pR 6 [.eqT 30 (.bool false),V3] [] [] (aB c9 aN)
  ·obtain rfl:=sI H5;exact pR 10 [V2,r0 [.v,.c true (.bool true),.v,.v,.v,.c true (.bool y1),.v,.v],.eqT 14 (.bool true),V2] [] [] (aC Tryz.call49 (aC (bI.eq (dE _ _ h0) (cB c0)) (aT (aC Tryz.call49 (aF (dE _ _ h1) (aT (aM c3 aN)))))))
 ·obtain rfl:=sI H2;exact pR 9 [V2,r0 [.v,.c true (.bool false),.v,.v,.s,.s,.s,.v],V2] [] [] (aC Tryz.call49 (aC (bI.eq (dE _ _ h0) (cB c1)) (aT aN)))
def gu (x0 x1:List Int):Option (Int×Int) :=
 bif (((x0.length:Nat):Int)==((x1.length:Nat):Int)) then (
  bif decide (((x0.length:Nat):Int)>10000) then (
   some (0,3)
  ) else (
   (cL (σ:=Unit) (ε:=Unit) (ρ:=(Int×Int)) (fun i0 s0 =>
    (gN (x0.getD i0 0)).bind fun y0 =>
    bif y0 then (
     bZ (i0<x1.length) <|
     (gN (x1.getD i0 0)).bind fun y1 =>
     bif y1 then (
      some (.go ())
     ) else (
      some (.ret (0,2))
     )
    ) else (
     some (.ret (0,2))
    )
   ) (fun i0 s0=>()) (x0.length-0) 0 ()).bind <| aft fun u0 =>
   (cL (σ:=(Int×Int×Int×Int×Int)) (ε:=(Int×Int×Int×Int×Int)) (ρ:=Empty) (fun i1 s1 =>
    (cu (x0.getD i1 0)).bind fun y2 =>
    bZ (i1<x1.length) <|
    (cu (x1.getD i1 0)).bind fun y3 =>
    some (.go ((aS (s1.1+(aS (y2.1*y3.1)))),(aS ((aS (s1.2.1+(aS (y2.1*y3.2.1))))+(aS (y2.2.1*y3.1)))),(aS ((aS ((aS (s1.2.2.1+(aS (y2.1*y3.2.2))))+(aS (y2.2.1*y3.2.1))))+(aS (y2.2.2*y3.1)))),(aS ((aS (s1.2.2.2.1+(aS (y2.2.1*y3.2.2))))+(aS (y2.2.2*y3.2.1)))),(aS (s1.2.2.2.2+(aS (y2.2.2*y3.2.2))))))
   ) (fun i1 s1=>(s1.1,s1.2.1,s1.2.2.1,s1.2.2.2.1,s1.2.2.2.2)) (x0.length-0) 0 (0,0,0,0,0)).bind <| aftE fun u1 =>
   (dN u1.1 2097152).bind fun y4 =>
   (some (aS (u1.1-(aS (y4.1*2097152))))).bind fun y5 =>
   (dN (aS (u1.2.1+y4.1)) 2097152).bind fun y6 =>
   (some (aS ((aS (u1.2.1+y4.1))-(aS (y6.1*2097152))))).bind fun y7 =>
   (dN (aS (u1.2.2.1+y6.1)) 2097152).bind fun y8 =>
   (some (aS ((aS (u1.2.2.1+y6.1))-(aS (y8.1*2097152))))).bind fun y9 =>
   (dN (aS (u1.2.2.2.1+y8.1)) 2097152).bind fun y10 =>
   (some (aS ((aS (u1.2.2.2.1+y8.1))-(aS (y10.1*2097152))))).bind fun y11 =>
   (dN (aS (u1.2.2.2.2+y10.1)) 2097152).bind fun y12 =>
   (some (aS ((aS (u1.2.2.2.2+y10.1))-(aS (y12.1*2097152))))).bind fun y13 =>
   (dN (aS (0+y12.1)) 2097152).bind fun y14 =>
   (some (aS ((aS (0+y12.1))-(aS (y14.1*2097152))))).bind fun y15 =>
   (dN (aS (0+y14.1)) 2097152).bind fun y16 =>
   (some (aS ((aS (0+y14.1))-(aS (y16.1*2097152))))).bind fun y17 =>
   bif decide ((aS (0+(aS (0+y16.1))))>2199023255552) then (
    some (0,2)
   ) else (
    bif decide ((aS (0+(aS (0+y16.1))))<(-2199023255552)) then (
     some (0,2)
    ) else (
     (some (aS ((aS (0+(aS (0+y16.1))))*2097152))).bind fun y18 =>
     bif decide ((aS (y18+y17))>2199023255552) then (
      some (0,2)
     ) else (
      bif decide ((aS (y18+y17))<(-2199023255552)) then (
       some (0,2)
      ) else (
       (some (aS ((aS (y18+y17))*2097152))).bind fun y19 =>
       bif decide ((aS (y19+y15))>2199023255552) then (
        some (0,2)
       ) else (
        bif decide ((aS (y19+y15))<(-2199023255552)) then (
         some (0,2)
        ) else (
         (some (aS ((aS (y19+y15))*2097152))).bind fun y20 =>
         bif decide ((aS (y20+y13))>2199023255552) then (
          some (0,2)
         ) else (
          bif decide ((aS (y20+y13))<(-2199023255552)) then (
           some (0,2)
          ) else (
           (some (aS ((aS (y20+y13))*2097152))).bind fun y21 =>
           bif decide ((aS (y21+y11))>2199023255552) then (
            some (0,2)
           ) else (
            bif decide ((aS (y21+y11))<(-2199023255552)) then (
             some (0,2)
            ) else (
             (some (aS ((aS (y21+y11))*2097152))).bind fun y22 =>
             bif decide ((aS (y22+y9))>2199023255552) then (
              some (0,2)
             ) else (
              bif decide ((aS (y22+y9))<(-2199023255552)) then (
               some (0,2)
              ) else (
               (some (aS ((aS (y22+y9))*2097152))).bind fun y23 =>
               bif decide ((aS (y23+y7))>2199023255552) then (
                some (0,2)
               ) else (
                bif decide ((aS (y23+y7))<(-2199023255552)) then (
                 some (0,2)
                ) else (
                 (some (aS ((aS (y23+y7))*2097152))).bind fun y24 =>
                 (gN (aS (y24+y5))).bind fun y25 =>
                 bif y25 then (
                  some ((aS (y24+y5)),0)
                 ) else (
                  some (0,2)
                 )
                )
               )
              )
             )
            )
           )
          )
         )
        )
       )
      )
     )
    )
   )
  )
 ) else (
  some (0,1)
 )
def mF (x0 x1:List Int) (i0:Nat) (s0:Unit):AS:=⟨130,[(0,dS ag x0),(1,dS ag x1),(4,iI 0),(5,iI 0),(6,nI i0)],[]⟩
def qG (x0 x1:List Int) (u2:Unit):AS:=⟨130,[(0,dS ag x0),(1,dS ag x1),(4,iI 0),(5,iI 0)],[]⟩
def mE (x0 x1:List Int) (i1:Nat) (s1:Int×Int×Int×Int×Int):AS:=⟨130,[(0,dS ag x0),(1,dS ag x1),(4,iI 0),(5,iI 0),(7,.hptr 7 0),(8,nI i1)],[(7,.cells 144 [iI s1.1,iI s1.2.1,iI s1.2.2.1,iI s1.2.2.2.1,iI s1.2.2.2.2,iI 0,iI 0,iI 0])]⟩
def ri (u3:Int×Int×Int×Int×Int):AS:=⟨130,[(4,iI 0),(5,iI 0),(7,.hptr 7 0)],[(7,.cells 144 [iI u3.1,iI u3.2.1,iI u3.2.2.1,iI u3.2.2.2.1,iI u3.2.2.2.2,iI 0,iI 0,iI 0])]⟩
theorem zJ (x0 x1:List Int) (r:Int×Int) (H:gu x0 x1=some r):bI Tryz.prog 68 [dS ag x0,dS ag x1] (.tup [iI r.1,iI r.2]):=by
 unfold gu at H;refine aX Tryz.func68 130 [.tmp 4,.tmp 5] ?_;refine a7 H (fun c0 H0 => ?_) (fun c1 H1 => ?_)
 ·refine pA 11 [.rg 0 [] [.v,.v],.rg 0 [] [.v,.e (.int .i64 ((x0.length:Nat):Int)),.v,.e (.int .i64 ((x1.length:Nat):Int)),.v],.eqT 22 (.bool false),.rg 0 [] [.v,.e (.int .i64 ((x0.length:Nat):Int)),.v]] [.only [0,1,4,5,25] []] 10 [false] ⟨130,[(0,.dslice (x0.map ag)),(1,.dslice (x1.map ag)),(4,.int .i64 0),(5,.int .i64 0),(25,.bool (decide (((x0.length:Nat):Int)>10000)))],[]⟩ (aT (aC (aK ag x0) (aT (aC (aK ag x1) (aM c0 (aT (aC (aK ag x0) aN))))))) ?_;refine a7 H0 (fun c2 H2 => ?_) (fun c3 H3 => ?_)
  ·obtain rfl:=sI H2;exact pR 5 [.eqT 25 (.bool true),V2] [] [] (aB c2 aN)
  ·have c3p:=JQ c3;refine pA 7 [.eqT 25 (.bool false),V1] [.only [0,1,4,5,6] []] 6 [false] (mF x0 x1 0 ()) (aB c3 aN) ?_;refine aU H3 fun R0 h0 H4 => ?_;refine pJ 1 (qG x0 x1) R0 ?_ (fun u0 e0 => ?_)
   ·refine pC (mF x0 x1) h0 (fun i0 s0 h1 e1 => ?_) (fun i0 s0 h2 q0 h3 h4 => ?_)
    ·have c4:=lF i0 x0.length (by omega);subst e1;exact pB 5 [r0 [.v,.v,.e (nI x0.length),.e (.bool false)]] [.only [0,1,4,5] []] (qG x0 x1 ()) (aT (aC (aK ag x0) (aB c4 aN)))
    ·have c5:=lT i0 x0.length (by omega);refine aU h3 fun y0 h5 H5 => ?_;refine a7 H5 (fun c6 H6 => ?_) (fun c7 H7 => ?_)
     ·refine aY H6 fun g0 H8 => ?_;refine aU H8 fun y1 h6 H9 => ?_;refine pA 9 [r0 [.v,.v,.e (nI x0.length),.e (.bool true)],r0 [.v,.v,.e (.dptr [iI (x0.getD i0 0)]),.v,.c true (.bool true),.v,.v,.v,.v,.e (.dptr [iI (x1.getD i0 0)]),.v,.c true (.bool y1),.v,.v]] [.only [0,1,4,5,6,45] []] 9 [true] ⟨130,[(0,dS ag x0),(1,dS ag x1),(4,iI 0),(5,iI 0),(6,nI i0),(45,.bool (!y1))],[]⟩ (aT (aC (aK ag x0) (aB c5 (aI bF x0 i0 0 (aC Tryz.call49 (aC (bI.eq (dE _ _ h5) (cB c6)) (aT (aI bF x1 i0 0 (aC Tryz.call49 (aF (dE _ _ h6) (aT aN))))))))))) ?_;refine a7 H9 (fun c8 H10 => ?_) (fun c9 H11 => ?_)
      ·refine bn 0 (ps:=[(x0.map ag).length≤9223372036854775807]) (by kernel_rfl) (fun l0 => ?_);have l1:x0.length≤9223372036854775807:=by simpa only [bt,JV] using l0
       clear l0;obtain rfl:=sI H10;exact pB 4 [.eqT 45 (.bool false),V3] [.only [0,1,4,5,6] []] (mF x0 x1 (i0+1) ()) (aM c8 (aH i0 aN))
      ·obtain rfl:=sI H11;obtain rfl:=aA h4;obtain rfl:=sI (ao H4);exact pR 5 [.eqT 45 (.bool true),V2] [] [] (aM c9 aN)
     ·obtain rfl:=sI H7;obtain rfl:=aA h4;obtain rfl:=sI (ao H4);exact pR 13 [r0 [.v,.v,.e (nI x0.length),.e (.bool true)],r0 [.v,.v,.e (.dptr [iI (x0.getD i0 0)]),.v,.c true (.bool false),.v,.v,.s,.s,.s,.s,.s,.s,.v],V2] [] [] (aT (aC (aK ag x0) (aB c5 (aI bF x0 i0 0 (aC Tryz.call49 (aC (bI.eq (dE _ _ h5) (cB c7)) (aT aN)))))))
   ·subst e0;have H12:=aW H4;refine pA 6 [r0 [.m],V1] [.only [0,1,4,5,7,8] [7]] 6 [] (mE x0 x1 0 (0,0,0,0,0)) aN ?_;refine aU H12 fun R1 h7 H13 => ?_;refine pJ 1 (ri) R1 ?_ (fun u1 e2 => ?_)
    ·refine pC (mE x0 x1) h7 (fun i1 s1 h8 e3 => ?_) (fun i1 s1 h9 q1 h10 h11 => ?_)
     ·have c10:=lF i1 x0.length (by omega);subst e3;exact pB 5 [r0 [.v,.v,.e (nI x0.length),.e (.bool false)]] [.only [4,5,7] [7]] (ri (s1.1,s1.2.1,s1.2.2.1,s1.2.2.2.1,s1.2.2.2.2)) (aT (aC (aK ag x0) (aB c10 aN)))
     ·have c11:=lT i1 x0.length (by omega);refine aU h10 fun y2 h12 H14 => ?_;refine aY H14 fun g1 H15 => ?_;refine aU H15 fun y3 h13 H16 => ?_;refine bn 0 (ps:=[(x0.map ag).length≤9223372036854775807]) (by kernel_rfl) (fun l2 => ?_);have l3:x0.length≤9223372036854775807:=by simpa only [bt,JV] using l2
      clear l2;obtain rfl:=sI H16;exact pB 163 [r0 [.v,.v,.e (nI x0.length),.e (.bool true)],.rg 12 [.v,.v,.e (.dptr [iI (x0.getD i1 0)]),.v,.c true (.agg [iI y2.1,iI y2.2.1,iI y2.2.2]),.v,.v,.e (.dptr [iI (x1.getD i1 0)]),.v,.c true (.agg [iI y3.1,iI y3.2.1,iI y3.2.2]),.m,.m] [.m,.m],V1,.un,V2,V1,.un,V2,.rg 12 (V 11 [.w]) [.w,.v,.m],V3,.cv [.only [0,1,4,5,7,8,9,10,11,12] [7,9,10]],V2,.rg 12 (V 11 [.w]) [.w,.v,.m],V3,.cv [.only [0,1,4,5,7,8,9,10,11,12] [7,9,10]],V2,.rg 12 (V 11 [.w]) [.w,.v,.m],V3,.cv [.only [0,1,4,5,7,8,9,10,11,12] [7,9,10]],V2,V3,.cv [.only [0,1,4,5,7,8,9,10,11] [7,9,10]],V2,V1,.un,V2,.rg 12 (V 11 [.w]) [.w,.v,.m],V3,.cv [.only [0,1,4,5,7,8,9,10,11,12] [7,9,10]],V2,.rg 12 (V 11 [.w]) [.w,.v,.m],V3,.cv [.only [0,1,4,5,7,8,9,10,11,12] [7,9,10]],V2,.rg 12 (V 11 [.w]) [.w,.v,.m],V3,.cv [.only [0,1,4,5,7,8,9,10,11,12] [7,9,10]],V2,V3,.cv [.only [0,1,4,5,7,8,9,10,11] [7,9,10]],V2,V1,.un,V2,.rg 12 (V 11 [.w]) [.w,.v,.m],V3,.cv [.only [0,1,4,5,7,8,9,10,11,12] [7,9,10]],V2,.rg 12 (V 11 [.w]) [.w,.v,.m],V3,.cv [.only [0,1,4,5,7,8,9,10,11,12] [7,9,10]],V2,.rg 12 (V 11 [.w]) [.w,.v,.m],V3,.cv [.only [0,1,4,5,7,8,9,10,11,12] [7,9,10]],V2,V3,.cv [.only [0,1,4,5,7,8,9,10,11] [7,9,10]],V2,V3] [.only [0,1,4,5,7,8] [7]] (mE x0 x1 (i1+1) ((aS (s1.1+(aS (y2.1*y3.1)))),(aS ((aS (s1.2.1+(aS (y2.1*y3.2.1))))+(aS (y2.2.1*y3.1)))),(aS ((aS ((aS (s1.2.2.1+(aS (y2.1*y3.2.2))))+(aS (y2.2.1*y3.2.1))))+(aS (y2.2.2*y3.1)))),(aS ((aS (s1.2.2.2.1+(aS (y2.2.1*y3.2.2))))+(aS (y2.2.2*y3.2.1)))),(aS (s1.2.2.2.2+(aS (y2.2.2*y3.2.2)))))) (aT (aC (aK ag x0) (aB c11 (aI bF x0 i1 0 (aC Tryz.call100 (aF (oL _ _ h12) (aI bF x1 i1 0 (aC Tryz.call100 (aF (oL _ _ h13) (aO (0+0) (aT (aT (aT (aT (aO (0+1) (aO (0+1) (aT (aT (aT (aT (aO (1+1) (aO (0+2) (aT (aT (aT (aT (aO (2+1) (aO (0+1) (aO (1+0) (aT (aT (aT (aT (aO (0+1) (aO (1+1) (aT (aT (aT (aT (aO (1+1) (aO (1+2) (aT (aT (aT (aT (aO (2+1) (aO (1+1) (aO (2+0) (aT (aT (aT (aT (aO (0+1) (aO (2+1) (aT (aT (aT (aT (aO (1+1) (aO (2+2) (aT (aT (aT (aT (aO (2+1) (aO (2+1) (aH i1 aN)))))))))))))))))))))))))))))))))))))))))))))))))))))))))))))))))))
    ·subst e2;have H17:=bT H13;refine aU H17 fun y4 h14 H18 => ?_;refine aU H18 fun y5 h15 H19 => ?_;refine aU H19 fun y6 h16 H20 => ?_;refine aU H20 fun y7 h17 H21 => ?_;refine aU H21 fun y8 h18 H22 => ?_;refine aU H22 fun y9 h19 H23 => ?_;refine aU H23 fun y10 h20 H24 => ?_;refine aU H24 fun y11 h21 H25 => ?_;refine aU H25 fun y12 h22 H26 => ?_;refine aU H26 fun y13 h23 H27 => ?_;refine aU H27 fun y14 h24 H28 => ?_;refine aU H28 fun y15 h25 H29 => ?_;refine aU H29 fun y16 h26 H30 => ?_;refine aU H30 fun y17 h27 H31 => ?_;refine pA 139 [V1,.un,V3,r0 [.v,.v,.v,.c true (.tup [iI y4.1,iI y4.2]),.v,.v,.v,.v,.v],r0 (V 4 [.w,.we (iI y5),.v,.m]),r0 (V 5 [.w,.v,.m]),V3,.cv [.only [4,5,7,13] [7]],V3,r0 [.v,.v,.v,.c true (.tup [iI y6.1,iI y6.2]),.v,.v,.v,.v,.v],r0 (V 4 [.w,.we (iI y7),.v,.m]),r0 (V 5 [.w,.v,.m]),V3,.cv [.only [4,5,7,13] [7]],V3,r0 [.v,.v,.v,.c true (.tup [iI y8.1,iI y8.2]),.v,.v,.v,.v,.v],r0 (V 4 [.w,.we (iI y9),.v,.m]),r0 (V 5 [.w,.v,.m]),V3,.cv [.only [4,5,7,13] [7]],V3,r0 [.v,.v,.v,.c true (.tup [iI y10.1,iI y10.2]),.v,.v,.v,.v,.v],r0 (V 4 [.w,.we (iI y11),.v,.m]),r0 (V 5 [.w,.v,.m]),V3,.cv [.only [4,5,7,13] [7]],V3,r0 [.v,.v,.v,.c true (.tup [iI y12.1,iI y12.2]),.v,.v,.v,.v,.v],r0 (V 4 [.w,.we (iI y13),.v,.m]),r0 (V 5 [.w,.v,.m]),V3,.cv [.only [4,5,7,13] [7]],V3,r0 [.v,.v,.v,.c true (.tup [iI y14.1,iI y14.2]),.v,.v,.v,.v,.v],r0 (V 4 [.w,.we (iI y15),.v,.m]),r0 (V 5 [.w,.v,.m]),V3,.cv [.only [4,5,7,13] [7]],V3,r0 [.v,.v,.v,.c true (.tup [iI y16.1,iI y16.2]),.v,.v,.v,.v,.v],r0 (V 4 [.w,.we (iI y17),.v,.m]),r0 (V 5 [.w,.v,.m]),V3,.cv [.only [4,5,7,13] [7]],V3,V1,V1,.un,V2,V6,r0 (V 5 [.w,.v]),V3,.cv [.only [4,5,7,16,17] [7]],V2] [.only [4,5,7,16,17] [7]] 131 [true,true,true,true,true,true,true,false,true,false,true] ⟨130,[(4,iI 0),(5,iI 0),(7,.hptr 7 0),(16,iI (aS (0+(aS (0+y16.1))))),(17,iI 6)],[(7,.cells 144 [iI y5,iI y7,iI y9,iI y11,iI y13,iI y15,iI y17,iI (aS (0+y16.1))])]⟩ (aO (0+1) (aT (aC Tryz.call101 (aF (fx _ _ _ h14) (aT (aC (congrArg (AV.int .i64) (JZ h15)) (aT (aO (0+1) (aT (aT (aO (0+1) (aO (1+1) (aT (aC Tryz.call101 (aF (fx _ _ _ h16) (aT (aC (congrArg (AV.int .i64) (JZ h17)) (aT (aO (1+1) (aT (aT (aO (1+1) (aO (2+1) (aT (aC Tryz.call101 (aF (fx _ _ _ h18) (aT (aC (congrArg (AV.int .i64) (JZ h19)) (aT (aO (2+1) (aT (aT (aO (2+1) (aO (3+1) (aT (aC Tryz.call101 (aF (fx _ _ _ h20) (aT (aC (congrArg (AV.int .i64) (JZ h21)) (aT (aO (3+1) (aT (aT (aO (3+1) (aO (4+1) (aT (aC Tryz.call101 (aF (fx _ _ _ h22) (aT (aC (congrArg (AV.int .i64) (JZ h23)) (aT (aO (4+1) (aT (aT (aO (4+1) (aO (5+1) (aT (aC Tryz.call101 (aF (fx _ _ _ h24) (aT (aC (congrArg (AV.int .i64) (JZ h25)) (aT (aO (5+1) (aT (aT (aO (5+1) (aO (6+1) (aT (aC Tryz.call101 (aF (fx _ _ _ h26) (aT (aC (congrArg (AV.int .i64) (JZ h27)) (aT (aO (6+1) (aT (aT (aO (6+1) (aO (7+1) (aO (0*2097152) (aT (aO (7-1) aN))))))))))))))))))))))))))))))))))))))))))))))))))))))))))))))))))))))))))))))))) ?_;refine a7 H31 (fun c12 H32 => ?_) (fun c13 H33 => ?_)
     ·obtain rfl:=sI H32;exact pR 5 [r0 [.v,.e (.bool true),.v,.s,.s,.v],V2] [] [] (aB c12 aN)
     ·have c13p:=JQ c13;refine a7 H33 (fun c14 H34 => ?_) (fun c15 H35 => ?_)
      ·obtain rfl:=sI H34;exact pR 6 [r0 [.v,.e (.bool false),.v,.v,.v,.v],.eqT 119 (.bool true),V2] [] [] (aB c13 (aB c14 aN))
      ·have c15p:=JQ c15;refine aU H35 fun y18 h28 H36 => ?_;refine pA 16 [r0 [.v,.e (.bool false),.v,.v,.v,.v],.eqT 119 (.bool false),r0 [.v,.we (iI y18),.v,.v,.v,.w,.v],V3,.cv [.only [4,5,7,16,17] [7]],V2] [.only [4,5,7,16,17] [7]] 14 [false,true] ⟨130,[(4,iI 0),(5,iI 0),(7,.hptr 7 0),(16,iI (aS (y18+y17))),(17,iI 5)],[(7,.cells 144 [iI y5,iI y7,iI y9,iI y11,iI y13,iI y15,iI y17,iI (aS (0+y16.1))])]⟩ (aB c13 (aB c15 (aC (congrArg (AV.int .i64) (JZ h28)) (aT (aO (6-1) aN))))) ?_;refine a7 H36 (fun c16 H37 => ?_) (fun c17 H38 => ?_)
       ·obtain rfl:=sI H37;exact pR 5 [r0 [.v,.e (.bool true),.v,.s,.s,.v],V2] [] [] (aB c16 aN)
       ·have c17p:=JQ c17;refine a7 H38 (fun c18 H39 => ?_) (fun c19 H40 => ?_)
        ·obtain rfl:=sI H39;exact pR 6 [r0 [.v,.e (.bool false),.v,.v,.v,.v],.eqT 119 (.bool true),V2] [] [] (aB c17 (aB c18 aN))
        ·have c19p:=JQ c19;refine aU H40 fun y19 h29 H41 => ?_;refine pA 16 [r0 [.v,.e (.bool false),.v,.v,.v,.v],.eqT 119 (.bool false),r0 [.v,.we (iI y19),.v,.v,.v,.w,.v],V3,.cv [.only [4,5,7,16,17] [7]],V2] [.only [4,5,7,16,17] [7]] 14 [false,true] ⟨130,[(4,iI 0),(5,iI 0),(7,.hptr 7 0),(16,iI (aS (y19+y15))),(17,iI 4)],[(7,.cells 144 [iI y5,iI y7,iI y9,iI y11,iI y13,iI y15,iI y17,iI (aS (0+y16.1))])]⟩ (aB c17 (aB c19 (aC (congrArg (AV.int .i64) (JZ h29)) (aT (aO (5-1) aN))))) ?_;refine a7 H41 (fun c20 H42 => ?_) (fun c21 H43 => ?_)
         ·obtain rfl:=sI H42;exact pR 5 [r0 [.v,.e (.bool true),.v,.s,.s,.v],V2] [] [] (aB c20 aN)
         ·have c21p:=JQ c21;refine a7 H43 (fun c22 H44 => ?_) (fun c23 H45 => ?_)
          ·obtain rfl:=sI H44;exact pR 6 [r0 [.v,.e (.bool false),.v,.v,.v,.v],.eqT 119 (.bool true),V2] [] [] (aB c21 (aB c22 aN))
          ·have c23p:=JQ c23;refine aU H45 fun y20 h30 H46 => ?_;refine pA 16 [r0 [.v,.e (.bool false),.v,.v,.v,.v],.eqT 119 (.bool false),r0 [.v,.we (iI y20),.v,.v,.v,.w,.v],V3,.cv [.only [4,5,7,16,17] [7]],V2] [.only [4,5,7,16,17] [7]] 14 [false,true] ⟨130,[(4,iI 0),(5,iI 0),(7,.hptr 7 0),(16,iI (aS (y20+y13))),(17,iI 3)],[(7,.cells 144 [iI y5,iI y7,iI y9,iI y11,iI y13,iI y15,iI y17,iI (aS (0+y16.1))])]⟩ (aB c21 (aB c23 (aC (congrArg (AV.int .i64) (JZ h30)) (aT (aO (4-1) aN))))) ?_;refine a7 H46 (fun c24 H47 => ?_) (fun c25 H48 => ?_)
           ·obtain rfl:=sI H47;exact pR 5 [r0 [.v,.e (.bool true),.v,.s,.s,.v],V2] [] [] (aB c24 aN)
           ·have c25p:=JQ c25;refine a7 H48 (fun c26 H49 => ?_) (fun c27 H50 => ?_)
            ·obtain rfl:=sI H49;exact pR 6 [r0 [.v,.e (.bool false),.v,.v,.v,.v],.eqT 119 (.bool true),V2] [] [] (aB c25 (aB c26 aN))
            ·have c27p:=JQ c27;refine aU H50 fun y21 h31 H51 => ?_;refine pA 16 [r0 [.v,.e (.bool false),.v,.v,.v,.v],.eqT 119 (.bool false),r0 [.v,.we (iI y21),.v,.v,.v,.w,.v],V3,.cv [.only [4,5,7,16,17] [7]],V2] [.only [4,5,7,16,17] [7]] 14 [false,true] ⟨130,[(4,iI 0),(5,iI 0),(7,.hptr 7 0),(16,iI (aS (y21+y11))),(17,iI 2)],[(7,.cells 144 [iI y5,iI y7,iI y9,iI y11,iI y13,iI y15,iI y17,iI (aS (0+y16.1))])]⟩ (aB c25 (aB c27 (aC (congrArg (AV.int .i64) (JZ h31)) (aT (aO (3-1) aN))))) ?_;refine a7 H51 (fun c28 H52 => ?_) (fun c29 H53 => ?_)
             ·obtain rfl:=sI H52;exact pR 5 [r0 [.v,.e (.bool true),.v,.s,.s,.v],V2] [] [] (aB c28 aN)
             ·have c29p:=JQ c29;refine a7 H53 (fun c30 H54 => ?_) (fun c31 H55 => ?_)
              ·obtain rfl:=sI H54;exact pR 6 [r0 [.v,.e (.bool false),.v,.v,.v,.v],.eqT 119 (.bool true),V2] [] [] (aB c29 (aB c30 aN))
              ·have c31p:=JQ c31;refine aU H55 fun y22 h32 H56 => ?_;refine pA 16 [r0 [.v,.e (.bool false),.v,.v,.v,.v],.eqT 119 (.bool false),r0 [.v,.we (iI y22),.v,.v,.v,.w,.v],V3,.cv [.only [4,5,7,16,17] [7]],V2] [.only [4,5,7,16,17] [7]] 14 [false,true] ⟨130,[(4,iI 0),(5,iI 0),(7,.hptr 7 0),(16,iI (aS (y22+y9))),(17,iI 1)],[(7,.cells 144 [iI y5,iI y7,iI y9,iI y11,iI y13,iI y15,iI y17,iI (aS (0+y16.1))])]⟩ (aB c29 (aB c31 (aC (congrArg (AV.int .i64) (JZ h32)) (aT (aO (2-1) aN))))) ?_;refine a7 H56 (fun c32 H57 => ?_) (fun c33 H58 => ?_)
               ·obtain rfl:=sI H57;exact pR 5 [r0 [.v,.e (.bool true),.v,.s,.s,.v],V2] [] [] (aB c32 aN)
               ·have c33p:=JQ c33;refine a7 H58 (fun c34 H59 => ?_) (fun c35 H60 => ?_)
                ·obtain rfl:=sI H59;exact pR 6 [r0 [.v,.e (.bool false),.v,.v,.v,.v],.eqT 119 (.bool true),V2] [] [] (aB c33 (aB c34 aN))
                ·have c35p:=JQ c35;refine aU H60 fun y23 h33 H61 => ?_;refine pA 16 [r0 [.v,.e (.bool false),.v,.v,.v,.v],.eqT 119 (.bool false),r0 [.v,.we (iI y23),.v,.v,.v,.w,.v],V3,.cv [.only [4,5,7,16,17] [7]],V2] [.only [4,5,7,16,17] [7]] 14 [false,true] ⟨130,[(4,iI 0),(5,iI 0),(7,.hptr 7 0),(16,iI (aS (y23+y7))),(17,iI 0)],[(7,.cells 144 [iI y5,iI y7,iI y9,iI y11,iI y13,iI y15,iI y17,iI (aS (0+y16.1))])]⟩ (aB c33 (aB c35 (aC (congrArg (AV.int .i64) (JZ h33)) (aT (aO (1-1) aN))))) ?_;refine a7 H61 (fun c36 H62 => ?_) (fun c37 H63 => ?_)
                 ·obtain rfl:=sI H62;exact pR 5 [r0 [.v,.e (.bool true),.v,.s,.s,.v],V2] [] [] (aB c36 aN)
                 ·have c37p:=JQ c37;refine a7 H63 (fun c38 H64 => ?_) (fun c39 H65 => ?_)
                  ·obtain rfl:=sI H64;exact pR 6 [r0 [.v,.e (.bool false),.v,.v,.v,.v],.eqT 119 (.bool true),V2] [] [] (aB c37 (aB c38 aN))
                  ·have c39p:=JQ c39;refine aU H65 fun y24 h34 H66 => ?_;refine aU H66 fun y25 h35 H67 => ?_;refine pA 15 [r0 [.v,.e (.bool false),.v,.v,.v,.v],.eqT 119 (.bool false),r0 [.v,.we (iI y24),.v,.v,.v,.w,.v],V3,.cv [.only [4,5,7,16,17] [7]],V2,r0 [.v,.c true (.bool y25),.v]] [.only [4,5,16,128] []] 13 [false,false] ⟨130,[(4,iI 0),(5,iI 0),(16,iI (aS (y24+y5))),(128,.bool (!y25))],[]⟩ (aB c37 (aB c39 (aC (congrArg (AV.int .i64) (JZ h34)) (aT (aO (0-1) (aC Tryz.call49 (aF (dE _ _ h35) (aT aN)))))))) ?_;refine a7 H67 (fun c40 H68 => ?_) (fun c41 H69 => ?_)
                   ·obtain rfl:=sI H68;exact pR 6 [.eqT 128 (.bool false),V3] [] [] (aM c40 aN)
                   ·obtain rfl:=sI H69;exact pR 5 [.eqT 128 (.bool true),V2] [] [] (aM c41 aN)
 ·obtain rfl:=sI H1;exact pR 10 [V2,r0 [.v,.e (nI x0.length),.v,.e (nI x1.length),.v],.eqT 22 (.bool true),V2] [] [] (aT (aC (aK ag x0) (aT (aC (aK ag x1) (aM c1 aN)))))
def eI (x0 x1:List aa):Option ((List aa)×Int) :=
 (cV x0).bind fun y0 =>
 bif y0 then (
  (cV x1).bind fun y1 =>
  bif y1 then (
   (cL (σ:=((List (List ah))×(List (List Int))×(List (List Int)))) (ε:=((List (List ah))×(List (List Int))×(List (List Int)))) (ρ:=Empty) (fun i0 s0 =>
    (cL (σ:=((List (List ah))×(List (List Int))×(List (List Int)))) (ε:=((List (List ah))×(List (List Int))×(List (List Int)))) (ρ:=Empty) (fun i1 s1 =>
     (iD ((x0.getD i0 ⟨0,[]⟩).Vars) ((x1.getD i1 ⟨0,[]⟩).Vars)).bind fun y2 =>
     (cL (σ:=Unit) (ε:=Nat) (ρ:=Empty) (fun i2 s2 =>
      (cW (s1.1.getD i2 []) y2).bind fun y3 =>
      bif (y3==0) then (
       some (.brk i2)
      ) else (
       some (.go ())
      )
     ) (fun i2 s2=>i2) (s1.1.length-0) 0 ()).bind <| aftE fun u0 =>
     ((
      bif (((u0:Nat):Int)==((s1.1.length:Nat):Int)) then (
       bZ ((s1.1.length+1)*24≤140737488355328) <|
       bZ ((s1.2.2.length+1)*24≤140737488355328∧s1.2.2.length<1000000) <|
       bZ ((s1.2.1.length+1)*24≤140737488355328∧s1.2.1.length<1000000) <|
       some ((s1.1++[y2]),(s1.2.1++[[]]),(s1.2.2++[[]]))
      ) else (
       some (s1.1,s1.2.1,s1.2.2)
      )
     ):Option ((List (List ah))×(List (List Int))×(List (List Int)))).bind fun v0 =>
     bZ (u0<v0.2.2.length) <|
     bZ (((v0.2.2.getD u0 []).length+[((x0.getD i0 ⟨0,[]⟩).Coef)].length)*8≤140737488355328) <|
     bZ (u0<v0.2.1.length) <|
     bZ (((v0.2.1.getD u0 []).length+[((x1.getD i1 ⟨0,[]⟩).Coef)].length)*8≤140737488355328) <|
     some (.go (v0.1,(v0.2.1.set u0 ((v0.2.1.getD u0 [])++[((x1.getD i1 ⟨0,[]⟩).Coef)])),(v0.2.2.set u0 ((v0.2.2.getD u0 [])++[((x0.getD i0 ⟨0,[]⟩).Coef)]))))
    ) (fun i1 s1=>(s1.1,s1.2.1,s1.2.2)) (x1.length-0) 0 (s0.1,s0.2.1,s0.2.2)).bind <| aftE fun u1 =>
    some (.go (u1.1,u1.2.1,u1.2.2))
   ) (fun i0 s0=>(s0.1,s0.2.1,s0.2.2)) (x0.length-0) 0 ([],[],[])).bind <| aftE fun u2 =>
   (cL (σ:=(List aa)) (ε:=(List aa)) (ρ:=((List aa)×Int)) (fun i3 s3 =>
    bZ (i3<u2.2.2.length) <|
    bZ (i3<u2.2.1.length) <|
    (gu (u2.2.2.getD i3 []) (u2.2.1.getD i3 [])).bind fun y4 =>
    bif (y4.2==0) then (
     (bP s3 (aa.mk y4.1 (u2.1.getD i3 []))).bind fun y5 =>
     some (.go y5)
    ) else (
     some (.ret ([],3))
    )
   ) (fun i3 s3=>s3) (u2.1.length-0) 0 []).bind <| aft fun u3 =>
   (ct u3).bind fun y6 =>
   some (y6.1,y6.2)
  ) else (
   some ([],1)
  )
 ) else (
  some ([],1)
 )
def mI (x0 x1:List aa) (i0:Nat) (s0:(List (List ah))×(List (List Int))×(List (List Int))):AS:=⟨137,[(0,dS ab x0),(1,dS ab x1),(4,.eslice),(5,iI 0),(6,.rslice 70),(7,.rslice 7),(8,.rslice 8),(9,nI i0)],[(7,.rrow 81 3 1 (kF ag s0.2.2)),(8,.rrow 81 3 1 (kF ag s0.2.1)),(70,.row 49 1 (s0.1.map aD))]⟩
def qu (u4:(List (List ah))×(List (List Int))×(List (List Int))):AS:=⟨137,[(4,.eslice),(5,iI 0),(6,.rslice 70),(7,.rslice 7),(8,.rslice 8)],[(7,.rrow 81 3 1 (kF ag u4.2.2)),(8,.rrow 81 3 1 (kF ag u4.2.1)),(70,.row 49 1 (u4.1.map aD))]⟩
def mD (x0 x1:List aa) (i0 i1:Nat) (s1:(List (List ah))×(List (List Int))×(List (List Int))):AS:=⟨137,[(0,dS ab x0),(1,dS ab x1),(4,.eslice),(5,iI 0),(6,.rslice 70),(7,.rslice 7),(8,.rslice 8),(9,nI i0),(10,nI i1)],[(7,.rrow 81 3 1 (kF ag s1.2.2)),(8,.rrow 81 3 1 (kF ag s1.2.1)),(70,.row 49 1 (s1.1.map aD))]⟩
def qt (x0 x1:List aa) (i0:Nat) (u5:(List (List ah))×(List (List Int))×(List (List Int))):AS:=⟨137,[(0,dS ab x0),(1,dS ab x1),(4,.eslice),(5,iI 0),(6,.rslice 70),(7,.rslice 7),(8,.rslice 8),(9,nI i0)],[(7,.rrow 81 3 1 (kF ag u5.2.2)),(8,.rrow 81 3 1 (kF ag u5.2.1)),(70,.row 49 1 (u5.1.map aD))]⟩
def mH (x0 x1:List aa) (i0 i1:Nat) (s1:(List (List ah))×(List (List Int))×(List (List Int))) (y2:List ah) (i2:Nat) (s2:Unit):AS:=⟨137,[(0,dS ab x0),(1,dS ab x1),(4,.eslice),(5,iI 0),(6,.rslice 70),(7,.rslice 7),(8,.rslice 8),(9,nI i0),(10,nI i1),(11,dS ak y2),(12,nI i2)],[(7,.rrow 81 3 1 (kF ag s1.2.2)),(8,.rrow 81 3 1 (kF ag s1.2.1)),(70,.row 49 1 (s1.1.map aD))]⟩
def nh (x0 x1:List aa) (i0 i1:Nat) (s1:(List (List ah))×(List (List Int))×(List (List Int))) (y2:List ah) (u6:Nat):AS:=⟨137,[(0,dS ab x0),(1,dS ab x1),(4,.eslice),(5,iI 0),(6,.rslice 70),(7,.rslice 7),(8,.rslice 8),(9,nI i0),(10,nI i1),(11,dS ak y2),(12,nI u6)],[(7,.rrow 81 3 1 (kF ag s1.2.2)),(8,.rrow 81 3 1 (kF ag s1.2.1)),(70,.row 49 1 (s1.1.map aD))]⟩
def mX (x0 x1:List aa) (i0 i1 u0:Nat) (v0:(List (List ah))×(List (List Int))×(List (List Int))):AS:=⟨137,[(0,dS ab x0),(1,dS ab x1),(4,.eslice),(5,iI 0),(6,.rslice 70),(7,.rslice 7),(8,.rslice 8),(9,nI i0),(10,nI i1),(12,nI u0)],[(7,.rrow 81 3 1 (kF ag v0.2.2)),(8,.rrow 81 3 1 (kF ag v0.2.1)),(70,.row 49 1 (v0.1.map aD))]⟩
def na (u2:(List (List ah))×(List (List Int))×(List (List Int))) (i3:Nat) (s3:List aa):AS:=⟨137,[(4,.eslice),(5,iI 0),(6,.rslice 70),(7,dS az u2.2.2),(8,dS az u2.2.1),(13,dS ab s3),(14,nI i3)],[(70,.row 49 1 (u2.1.map aD))]⟩
def qm (u7:List aa):AS:=⟨137,[(4,.eslice),(5,iI 0),(13,dS ab u7)],[]⟩
theorem td (x0 x1:List aa) (r:(List aa)×Int) (H:eI x0 x1=some r):bI Tryz.prog 32 [dS ab x0,dS ab x1] (.tup [dS ab r.1,iI r.2]):=by
 unfold eI at H;refine aX Tryz.func32 137 [.tmp 4,.tmp 5] ?_;refine aU H fun y0 h0 H0 => ?_;refine a7 H0 (fun c0 H1 => ?_) (fun c1 H2 => ?_)
 ·refine aU H1 fun y1 h1 H3 => ?_;refine a7 H3 (fun c2 H4 => ?_) (fun c3 H5 => ?_)
  ·refine pA 16 [.rg 0 [] [.v,.v],.rg 0 [] [.v,.c true (.bool true),.v,.v,.v,.c true (.bool y1),.v,.v],.eqT 24 (.bool false),.rg 0 [] [.v],.rg 0 [] [.v,.ew 7 7 81 3 1,.v,.ew 8 8 81 3 1],.rg 0 [] [.v]] [.er 6 70 49 1,.only [0,1,4,5,6,7,8,9] [7,8,70]] 15 [false] (mI x0 x1 0 ([],[],[])) (aC Tryz.call14 (aC (bI.eq (bu _ _ h0) (cB c0)) (aT (aC Tryz.call14 (aF (bu _ _ h1) (aT (aM c2 aN))))))) ?_;refine aU H4 fun R0 h2 H6 => ?_;refine pJ 1 (qu) R0 ?_ (fun u2 e0 => ?_)
   ·refine pC (mI x0 x1) h2 (fun i0 s0 h3 e1 => ?_) (fun i0 s0 h4 q0 h5 h6 => ?_)
    ·have c4:=lF i0 x0.length (by omega);subst e1;exact pB 5 [r0 [.v,.v,.e (nI x0.length),.e (.bool false)]] [.only [4,5,6,7,8] [7,8,70]] (qu (s0.1,s0.2.1,s0.2.2)) (aT (aC (aK ab x0) (aB c4 aN)))
    ·have c5:=lT i0 x0.length (by omega);refine pA 10 [r0 [.v,.v,.e (nI x0.length),.e (.bool true)],V1] [.only [0,1,4,5,6,7,8,9,10] [7,8,70]] 10 [true] (mD x0 x1 i0 0 (s0.1,s0.2.1,s0.2.2)) (aT (aC (aK ab x0) (aB c5 aN))) ?_;refine aU h5 fun R1 h7 H7 => ?_;refine pJ 2 (qt x0 x1 i0) R1 ?_ (fun u1 e2 => ?_)
     ·refine pC (mD x0 x1 i0) h7 (fun i1 s1 h8 e3 => ?_) (fun i1 s1 h9 q1 h10 h11 => ?_)
      ·have c6:=lF i1 x1.length (by omega);subst e3;exact pB 5 [r0 [.v,.v,.e (nI x1.length),.e (.bool false)]] [.only [0,1,4,5,6,7,8,9] [7,8,70]] (qt x0 x1 i0 (s1.1,s1.2.1,s1.2.2)) (aT (aC (aK ab x1) (aB c6 aN)))
      ·have c7:=lT i1 x1.length (by omega);refine aU h10 fun y2 h12 H8 => ?_;refine pA 13 [r0 [.v,.v,.e (nI x1.length),.e (.bool true)],.rg 10 [.v,.v,.e (.dptr (ab (x0.getD i0 ⟨0,[]⟩))),.v,.v,.v,.v,.e (.dptr (ab (x1.getD i1 ⟨0,[]⟩))),.v,.v] [.c true (dS ak y2),.v],V1] [.only [0,1,4,5,6,7,8,9,10,11,12] [7,8,70]] 13 [true] (mH x0 x1 i0 i1 s1 y2 0 ()) (aT (aC (aK ab x1) (aB c7 (aI au x0 i0 ⟨0,[]⟩ (aI au x1 i1 ⟨0,[]⟩ (aC Tryz.call67 (aF (yC _ _ _ h12) aN))))))) ?_;refine aU H8 fun R2 h13 H9 => ?_;refine pJ 1 (nh x0 x1 i0 i1 s1 y2) R2 ?_ (fun u0 e4 => ?_)
       ·refine pC (mH x0 x1 i0 i1 s1 y2) h13 (fun i2 s2 h14 e5 => ?_) (fun i2 s2 h15 q2 h16 h17 => ?_)
        ·have c8:=lF i2 s1.1.length (by omega);subst e5;exact pB 5 [r0 [.v,.v,.e (nI s1.1.length),.e (.bool false),.v,.s,.s,.s,.s,.s,.s,.s,.v]] [.only [0,1,4,5,6,7,8,9,10,11,12] [7,8,70]] (nh x0 x1 i0 i1 s1 y2 i2) (aT (aC (aK aD s1.1) (aB c8 aN)))
        ·have c9:=lT i2 s1.1.length (by omega);refine aU h16 fun y3 h18 H10 => ?_;refine pA 3 [r0 [.v,.v,.e (nI s1.1.length),.e (.bool true),.v,.v,.v,.v,.rl i2 0 (.dslice ((s1.1.getD i2 []).map ak)),.v,.c true (iI y3),.v,.v]] [.only [0,1,4,5,6,7,8,9,10,11,12,60] [7,8,70]] 3 [] ⟨137,[(0,dS ab x0),(1,dS ab x1),(4,.eslice),(5,iI 0),(6,.rslice 70),(7,.rslice 7),(8,.rslice 8),(9,nI i0),(10,nI i1),(11,dS ak y2),(12,nI i2),(60,.bool (y3 != 0))],[(7,.rrow 81 3 1 (kF ag s1.2.2)),(8,.rrow 81 3 1 (kF ag s1.2.1)),(70,.row 49 1 (s1.1.map aD))]⟩ (aT (aC (aK aD s1.1) (aB c9 (aC (show (0:Int)≤((i2:Nat):Int)∧((i2:Nat):Int)<((s1.1.map aD).length:Int) from by rw [JV];omega) (aC (HW (f:=aD) (l:=s1.1) (n:=i2) 1 0 1 (by omega) (by decide)) (aC (IK (f:=aD) (l:=s1.1) (n:=i2) [] 0 (by omega)) (aC Tryz.call39 (aF (lD _ _ _ h18) aN)))))))) ?_;refine a7 H10 (fun c10 H11 => ?_) (fun c11 H12 => ?_)
         ·obtain rfl:=sI H11;obtain rfl:=eL h17;exact pB 3 [.eqT 60 (.bool false)] [.only [0,1,4,5,6,7,8,9,10,11,12] [7,8,70]] (nh x0 x1 i0 i1 s1 y2 i2) (aM c10 aN)
         ·refine qN 70 (n:=(s1.1.map aD).length) (by kernel_rfl) (fun l0 => ?_);have l1:s1.1.length≤9223372036854775807:=by simpa only [JV] using l0
          clear l0;obtain rfl:=sI H12;exact pB 5 [.eqT 60 (.bool true),V3] [.only [0,1,4,5,6,7,8,9,10,11,12] [7,8,70]] (mH x0 x1 i0 i1 s1 y2 (i2+1) ()) (aM c11 (aH i2 aN))
       ·subst e4;have H13:=bT H9;refine pA 3 [r0 [.v,.v,.e (nI s1.1.length),.v]] [.only [0,1,4,5,6,7,8,9,10,11,12,66] [7,8,70]] 3 [] ⟨137,[(0,dS ab x0),(1,dS ab x1),(4,.eslice),(5,iI 0),(6,.rslice 70),(7,.rslice 7),(8,.rslice 8),(9,nI i0),(10,nI i1),(11,dS ak y2),(12,nI u0),(66,.bool (((u0:Nat):Int)==((s1.1.length:Nat):Int)))],[(7,.rrow 81 3 1 (kF ag s1.2.2)),(8,.rrow 81 3 1 (kF ag s1.2.1)),(70,.row 49 1 (s1.1.map aD))]⟩ (aT (aC (aK aD s1.1) aN)) ?_;refine aU H13 fun v0 h19 H14 => ?_;refine dd 0 (mX x0 x1 i0 i1 u0 v0) (by kernel_rfl) ?_ ?_
        ·refine a7 h19 (fun c12 H15 => ?_) (fun c13 H16 => ?_)
         ·refine aY H15 fun g0 H17 => ?_;refine aY H17 fun g1 H18 => ?_;refine aY H18 fun g2 H19 => ?_;obtain rfl:=sI H19;exact pB 3 [.eqT 66 (.bool true),r0 [.v,.v,.b,.ap,.rwH 70 (.row 49 1 ((s1.1++[y2]).map aD)),.v,.b,.qo (.apr (kF ag (s1.2.2++[[]]))),.v,.b,.qo (.apr (kF ag (s1.2.1++[[]]))),.v,.v,.v]] [.only [0,1,4,5,6,7,8,9,10,12] [7,8,70]] (mX x0 x1 i0 i1 u0 ((s1.1++[y2]),(s1.2.1++[[]]),(s1.2.2++[[]]))) (aB c12 (aV (wB (c:=aD) uA s1.1 [y2] 24 (by decide) (by simpa using g0)) (aC (ya 49 1 aD s1.1 [y2]) (aC (CX ag s1.2.2 g1) (aC (C7 ag s1.2.2) (aC (CX ag s1.2.1 g2) (aC (C7 ag s1.2.1) aN)))))))
         ·obtain rfl:=sI H16;exact pB 3 [.eqT 66 (.bool false)] [.only [0,1,4,5,6,7,8,9,10,12] [7,8,70]] (mX x0 x1 i0 i1 u0 (s1.1,s1.2.1,s1.2.2)) (aB c13 aN)
        ·refine aY H14 fun g3 H20 => ?_;refine aY H20 fun g4 H21 => ?_;refine aY H21 fun g5 H22 => ?_;refine aY H22 fun g6 H23 => ?_;refine bn 1 (ps:=[(x1.map ab).length≤9223372036854775807]) (by kernel_rfl) (fun l2 => ?_);have l3:x1.length≤9223372036854775807:=by simpa only [bt,JV] using l2
         clear l2;obtain rfl:=sI H23;exact pB 2 [.rg 28 [.rr,.v,.v,.v,.v,.v,.v,.v,.qo (.tk ((v0.2.2.getD u0 []).map ag) ((kF ag v0.2.2).set u0 none)),.v,.v,.e (.dptr (ab (x0.getD i0 ⟨0,[]⟩))),.v,.v,.b,.apx (((v0.2.2.getD u0 [])++[((x0.getD i0 ⟨0,[]⟩).Coef)]).map ag),.v,.v,.v,.qo (.tk ((v0.2.1.getD u0 []).map ag) ((kF ag v0.2.1).set u0 none)),.v,.v,.e (.dptr (ab (x1.getD i1 ⟨0,[]⟩))),.v,.v,.b,.apx (((v0.2.1.getD u0 [])++[((x1.getD i1 ⟨0,[]⟩).Coef)]).map ag),.v,.qo (.st (kF ag (v0.2.2.set u0 ((v0.2.2.getD u0 [])++[((x0.getD i0 ⟨0,[]⟩).Coef)]))))] [.v,.qo (.st (kF ag (v0.2.1.set u0 ((v0.2.1.getD u0 [])++[((x1.getD i1 ⟨0,[]⟩).Coef)]))))],V3] [.only [0,1,4,5,6,7,8,9,10] [7,8,70]] (mD x0 x1 i0 (i1+1) (v0.1,(v0.2.1.set u0 ((v0.2.1.getD u0 [])++[((x1.getD i1 ⟨0,[]⟩).Coef)])),(v0.2.2.set u0 ((v0.2.2.getD u0 [])++[((x0.getD i0 ⟨0,[]⟩).Coef)])))) (aC (show (0:Int)≤((u0:Nat):Int)∧((u0:Nat):Int)<(((kF ag v0.2.2)).length:Int) from by rw [mQ];omega) (aC (ER ag v0.2.2 g3) (aC (CP ag v0.2.2 g3) (aC (Eq.refl ((kF ag v0.2.2).set u0 none)) (aI au x0 i0 ⟨0,[]⟩ (aV (DH (c:=ag) gA (v0.2.2.getD u0 []) [((x0.getD i0 ⟨0,[]⟩).Coef)] 8 (by decide) (by simpa using g4) List.map_append.symm) (aC (show (0:Int)≤((u0:Nat):Int)∧((u0:Nat):Int)<(((kF ag v0.2.1)).length:Int) from by rw [mQ];omega) (aC (ER ag v0.2.1 g5) (aC (CP ag v0.2.1 g5) (aC (Eq.refl ((kF ag v0.2.1).set u0 none)) (aI au x1 i1 ⟨0,[]⟩ (aV (DH (c:=ag) gA (v0.2.1.getD u0 []) [((x1.getD i1 ⟨0,[]⟩).Coef)] 8 (by decide) (by simpa using g6) List.map_append.symm) (aC (show (0:Int)≤((u0:Nat):Int)∧((u0:Nat):Int)<((((kF ag v0.2.2).set u0 none)).length:Int) from by rw [List.length_set,mQ];omega) (aC (CT ag v0.2.2 (i:=u0) g3) (aC (CC ag v0.2.2 u0 ((v0.2.2.getD u0 [])++[((x0.getD i0 ⟨0,[]⟩).Coef)])) (aC (show (0:Int)≤((u0:Nat):Int)∧((u0:Nat):Int)<((((kF ag v0.2.1).set u0 none)).length:Int) from by rw [List.length_set,mQ];omega) (aC (CT ag v0.2.1 (i:=u0) g5) (aC (CC ag v0.2.1 u0 ((v0.2.1.getD u0 [])++[((x1.getD i1 ⟨0,[]⟩).Coef)])) (aH i1 aN)))))))))))))))))))
     ·subst e2;have H24:=bT H7;refine bn 0 (ps:=[(x0.map ab).length≤9223372036854775807]) (by kernel_rfl) (fun l4 => ?_);have l5:x0.length≤9223372036854775807:=by simpa only [bt,JV] using l4
      clear l4;obtain rfl:=sI H24;exact pB 1 [V3] [.only [0,1,4,5,6,7,8,9] [7,8,70]] (mI x0 x1 (i0+1) (u1.1,u1.2.1,u1.2.2)) (aH i0 aN)
   ·subst e0;have H25:=bT H6;refine pA 6 [r0 [.fw 7,.rwT 7 (dS az u2.2.2),.fw 8,.rwT 8 (dS az u2.2.1),.v],V1] [.wk 13 [],.only [4,5,6,7,8,13,14] [70]] 6 [] (na u2 0 []) (aC (Cm ag u2.2.2) (aC (congrArg AV.dslice (CS ag u2.2.2)) (aC (Cm ag u2.2.1) (aC (congrArg AV.dslice (CS ag u2.2.1)) aN)))) ?_;refine aU H25 fun R3 h20 H26 => ?_;refine pJ 1 (qm) R3 ?_ (fun u3 e6 => ?_)
    ·refine pC (na u2) h20 (fun i3 s3 h21 e7 => ?_) (fun i3 s3 h22 q3 h23 h24 => ?_)
     ·have c14:=lF i3 u2.1.length (by omega);subst e7;exact pB 5 [r0 [.v,.v,.e (nI u2.1.length),.e (.bool false)]] [.only [4,5,13] []] (qm s3) (aT (aC (aK aD u2.1) (aB c14 aN)))
     ·have c15:=lT i3 u2.1.length (by omega);refine aY h23 fun g7 H27 => ?_;refine aY H27 fun g8 H28 => ?_;refine aU H28 fun y4 h25 H29 => ?_;refine pA 12 [r0 [.v,.v,.e (nI u2.1.length),.e (.bool true)],.rg 13 [.v,.v,.e (.dptr [.dslice ((u2.2.2.getD i3 []).map ag)]),.v,.v,.v,.e (.dptr [.dslice ((u2.2.1.getD i3 []).map ag)]),.v,.c true (.tup [iI y4.1,iI y4.2]),.v,.v,.v,.v] [.v],V2] [.only [4,5,6,7,8,13,14,15,124] [70]] 12 [true] ⟨137,[(4,.eslice),(5,iI 0),(6,.rslice 70),(7,dS az u2.2.2),(8,dS az u2.2.1),(13,dS ab s3),(14,nI i3),(15,iI y4.1),(124,.bool (y4.2 != 0))],[(70,.row 49 1 (u2.1.map aD))]⟩ (aT (aC (aK aD u2.1) (aB c15 (aI nu u2.2.2 i3 [] (aI nu u2.2.1 i3 [] (aC Tryz.call68 (aF (zJ _ _ _ h25) aN))))))) ?_;refine a7 H29 (fun c16 H30 => ?_) (fun c17 H31 => ?_)
      ·refine aU H30 fun y5 h26 H32 => ?_;refine qN 70 (n:=(u2.1.map aD).length) (by kernel_rfl) (fun l6 => ?_);have l7:u2.1.length≤9223372036854775807:=by simpa only [JV] using l6
       clear l6;obtain rfl:=sI H32;exact pB 5 [.eqT 124 (.bool false),r0 (V 5 [.rl i3 0 (.dslice ((u2.1.getD i3 []).map ak)),.b,.c true (dS ab y5),.v]),V3] [.only [4,5,6,7,8,13,14] [70]] (na u2 (i3+1) y5) (aM c16 (aC (show (0:Int)≤((i3:Nat):Int)∧((i3:Nat):Int)<((u2.1.map aD).length:Int) from by rw [JV];omega) (aC (HW (f:=aD) (l:=u2.1) (n:=i3) 1 0 1 (by omega) (by decide)) (aC (IK (f:=aD) (l:=u2.1) (n:=i3) [] 0 (by omega)) (aC Tryz.call66 (aF (gO _ _ _ h26) (aH i3 aN)))))))
      ·obtain rfl:=sI H31;obtain rfl:=aA h24;obtain rfl:=sI (ao H26);exact pR 5 [.eqT 124 (.bool true),V2] [.wk 4 []] [] (aM c17 aN)
    ·subst e6;have H33:=aW H26;refine aU H33 fun y6 h27 H34 => ?_;obtain rfl:=sI H34;exact pR 3 [r0 [.v,.c true (.tup [dS ab y6.1,iI y6.2]),.v,.v,.v,.v]] [] [] (aC Tryz.call42 (aF (gg _ _ h27) aN))
  ·obtain rfl:=sI H5;exact pR 10 [V2,r0 [.v,.c true (.bool true),.v,.v,.v,.c true (.bool y1),.v,.v],.eqT 24 (.bool true),V2] [.wk 4 []] [] (aC Tryz.call14 (aC (bI.eq (bu _ _ h0) (cB c0)) (aT (aC Tryz.call14 (aF (bu _ _ h1) (aT (aM c3 aN)))))))
 ·obtain rfl:=sI H2;exact pR 9 [V2,r0 [.v,.c true (.bool false),.v,.v,.s,.s,.s,.v],V2] [.wk 4 []] [] (aC Tryz.call14 (aC (bI.eq (bu _ _ h0) (cB c1)) (aT aN)))
def du (x0:List Linear):Option ((List aa)×Int) :=
 (cL (σ:=Unit) (ε:=Unit) (ρ:=((List aa)×Int)) (fun i0 s0 =>
  (gD (Linear.mk ((x0.getD i0 ⟨0,[]⟩).Const) ((x0.getD i0 ⟨0,[]⟩).Terms))).bind fun y0 =>
  bif y0 then (
   some (.go ())
  ) else (
   some (.ret ([],1))
  )
 ) (fun i0 s0=>()) (x0.length-0) 0 ()).bind <| aft fun u0 =>
 (dj 1).bind fun y1 =>
 (cL (σ:=(List aa)) (ε:=(List aa)) (ρ:=((List aa)×Int)) (fun i1 s1 =>
  (eS (Linear.mk ((x0.getD i1 ⟨0,[]⟩).Const) ((x0.getD i1 ⟨0,[]⟩).Terms))).bind fun y2 =>
  (eI s1 y2.1).bind fun y3 =>
  bif (y3.2==0) then (
   some (.go y3.1)
  ) else (
   some (.ret ([],y3.2))
  )
 ) (fun i1 s1=>s1) (x0.length-0) 0 y1.1).bind <| aft fun u1 =>
 some (u1,0)
def iH (x0:List Linear) (i0:Nat) (s0:Unit):AS:=⟨53,[(0,dS bh x0),(2,.eslice),(3,iI 0),(4,nI i0)],[]⟩
def mv (x0:List Linear) (u2:Unit):AS:=⟨53,[(0,dS bh x0),(2,.eslice),(3,iI 0)],[]⟩
def iG (x0:List Linear) (i1:Nat) (s1:List aa):AS:=⟨53,[(0,dS bh x0),(2,.eslice),(3,iI 0),(5,dS ab s1),(7,nI i1)],[]⟩
def mf (u3:List aa):AS:=⟨53,[(2,.eslice),(3,iI 0),(5,dS ab u3)],[]⟩
theorem tE (x0:List Linear) (r:(List aa)×Int) (H:du x0=some r):bI Tryz.prog 10 [dS bh x0] (.tup [dS ab r.1,iI r.2]):=by
 unfold du at H;refine aX Tryz.func10 53 [.tmp 2,.tmp 3] ?_;refine pA 6 [V2,V1] [.only [0,2,3,4] []] 6 [] (iH x0 0 ()) aN ?_;refine aU H fun R0 h0 H0 => ?_;refine pJ 1 (mv x0) R0 ?_ (fun u0 e0 => ?_)
 ·refine pC (iH x0) h0 (fun i0 s0 h1 e1 => ?_) (fun i0 s0 h2 q0 h3 h4 => ?_)
  ·have c0:=lF i0 x0.length (by omega);subst e1;exact pB 5 [r0 [.v,.v,.e (nI x0.length),.e (.bool false)]] [.only [0,2,3] []] (mv x0 ()) (aT (aC (aK bh x0) (aB c0 aN)))
  ·have c1:=lT i0 x0.length (by omega);refine aU h3 fun y0 h5 H1 => ?_;refine pA 9 [r0 [.v,.v,.e (nI x0.length),.e (.bool true)],r0 [.v,.v,.e (.dptr (bh (x0.getD i0 ⟨0,[]⟩))),.v,.c true (.bool y0),.v]] [.only [0,2,3,4,23] []] 9 [true] ⟨53,[(0,dS bh x0),(2,.eslice),(3,iI 0),(4,nI i0),(23,.bool (!y0))],[]⟩ (aT (aC (aK bh x0) (aB c1 (aI kP x0 i0 ⟨0,[]⟩ (aC Tryz.call15 (aF (lW _ _ h5) (aT aN))))))) ?_;refine a7 H1 (fun c2 H2 => ?_) (fun c3 H3 => ?_)
   ·refine bn 0 (ps:=[(x0.map bh).length≤9223372036854775807]) (by kernel_rfl) (fun l0 => ?_);have l1:x0.length≤9223372036854775807:=by simpa only [bt,JV] using l0
    clear l0;obtain rfl:=sI H2;exact pB 4 [.eqT 23 (.bool false),V3] [.only [0,2,3,4] []] (iH x0 (i0+1) ()) (aM c2 (aH i0 aN))
   ·obtain rfl:=sI H3;obtain rfl:=aA h4;obtain rfl:=sI (ao H0);exact pR 5 [.eqT 23 (.bool true),V2] [.wk 2 []] [] (aM c3 aN)
 ·subst e0;have H4:=aW H0;refine aU H4 fun y1 h6 H5 => ?_;refine pA 6 [r0 [.c true (.tup [dS ab y1.1,iI y1.2]),.v,.v,.v,.v,.v],V1] [.only [0,2,3,5,7] []] 6 [] (iG x0 0 y1.1) (aC Tryz.call30 (aF (nW _ _ h6) aN)) ?_;refine aU H5 fun R1 h7 H6 => ?_;refine pJ 1 (mf) R1 ?_ (fun u1 e2 => ?_)
  ·refine pC (iG x0) h7 (fun i1 s1 h8 e3 => ?_) (fun i1 s1 h9 q1 h10 h11 => ?_)
   ·have c4:=lF i1 x0.length (by omega);subst e3;exact pB 5 [r0 [.v,.v,.e (nI x0.length),.e (.bool false)]] [.only [2,3,5] []] (mf s1) (aT (aC (aK bh x0) (aB c4 aN)))
   ·have c5:=lT i1 x0.length (by omega);refine aU h10 fun y2 h12 H7 => ?_;refine aU H7 fun y3 h13 H8 => ?_;refine pA 14 [r0 [.v,.v,.e (nI x0.length),.e (.bool true)],r0 [.v,.v,.e (.dptr (bh (x0.getD i1 ⟨0,[]⟩))),.v,.c true (.tup [dS ab y2.1,iI y2.2]),.v,.v,.v,.v,.v],r0 [.v,.v,.c true (.tup [dS ab y3.1,iI y3.2]),.v,.v,.v,.v,.v],V2] [.only [0,2,3,5,7,10,11,49] []] 14 [true] ⟨53,[(0,dS bh x0),(2,.eslice),(3,iI 0),(5,dS ab s1),(7,nI i1),(10,dS ab y3.1),(11,iI y3.2),(49,.bool (y3.2 != 0))],[]⟩ (aT (aC (aK bh x0) (aB c5 (aI kP x0 i1 ⟨0,[]⟩ (aC Tryz.call31 (aF (pX _ _ h12) (aC Tryz.call32 (aF (td _ _ _ h13) aN)))))))) ?_;refine a7 H8 (fun c6 H9 => ?_) (fun c7 H10 => ?_)
    ·refine bn 0 (ps:=[(x0.map bh).length≤9223372036854775807]) (by kernel_rfl) (fun l2 => ?_);have l3:x0.length≤9223372036854775807:=by simpa only [bt,JV] using l2
     clear l2;obtain rfl:=sI H9;exact pB 5 [.eqT 49 (.bool false),V2,V3] [.only [0,2,3,5,7] []] (iG x0 (i1+1) y3.1) (aM c6 (aH i1 aN))
    ·obtain rfl:=sI H10;obtain rfl:=aA h11;obtain rfl:=sI (ao H6);exact pR 5 [.eqT 49 (.bool true),V3] [.wk 2 []] [] (aM c7 aN)
  ·subst e2;have H11:=aW H6;obtain rfl:=sI H11;exact pR 3 [V3] [] [] aN
def iu (x0:List aa):Option (List ah) :=
 (bo x0).bind fun y0 =>
 bif y0 then (
  (cL (σ:=(List ah)) (ε:=(List ah)) (ρ:=Empty) (fun i0 s0 =>
   bZ ((s0.length+((x0.getD i0 ⟨0,[]⟩).Vars).length)*16≤140737488355328) <|
   some (.go (s0++((x0.getD i0 ⟨0,[]⟩).Vars)))
  ) (fun i0 s0=>s0) (x0.length-0) 0 []).bind <| aftE fun u0 =>
  (oc u0).bind fun y1 =>
  (jf y1).bind fun y2 =>
  some y2
 ) else (
  some []
 )
def nb (x0:List aa) (i0:Nat) (s0:List ah):AS:=⟨24,[(2,.eslice),(3,.rslice 18),(9,dS ab x0),(10,nI x0.length),(11,nI i0)],[(18,.row 9 1 (s0.map ak))]⟩
def rj (u1:List ah):AS:=⟨24,[(2,.eslice),(3,.rslice 18)],[(18,.row 9 1 (u1.map ak))]⟩
theorem zR (x0:List aa) (r:List ah) (H:iu x0=some r):bI Tryz.prog 33 [dS ab x0] (dS ak r):=by
 unfold iu at H;refine aX Tryz.func33 24 [.tmp 2] ?_;refine aU H fun y0 h0 H0 => ?_;refine a7 H0 (fun c0 H1 => ?_) (fun c1 H2 => ?_)
 ·refine pA 14 [.rg 0 [] [.v],.rg 0 [] [.v,.c true (.bool y0),.v],.eqT 8 (.bool false),.rg 0 [] [.v],.rg 0 [] [.v,.e (.int .i64 ((x0.length:Nat):Int)),.v]] [.er 3 18 9 1,.only [2,3,9,10,11] [18]] 13 [false] (nb x0 0 []) (aC Tryz.call27 (aF (a6 _ _ h0) (aT (aM c0 (aT (aC (aK ab x0) aN)))))) ?_;refine aU H1 fun R0 h1 H3 => ?_;refine pJ 1 (rj) R0 ?_ (fun u0 e0 => ?_)
  ·refine pC (nb x0) h1 (fun i0 s0 h2 e1 => ?_) (fun i0 s0 h3 q0 h4 h5 => ?_)
   ·have c2:=lF i0 x0.length (by omega);subst e1;exact pB 5 [r0 [.e (.bool false)]] [.only [2,3] [18]] (rj s0) (aB c2 aN)
   ·have c3:=lT i0 x0.length (by omega);refine aY h4 fun g0 H4 => ?_;refine bn 9 (ps:=[(x0.map ab).length≤9223372036854775807]) (by kernel_rfl) (fun l0 => ?_);have l1:x0.length≤9223372036854775807:=by simpa only [bt,JV] using l0
    clear l0;obtain rfl:=sI H4;exact pB 11 [r0 [.e (.bool true)],r0 [.e (.dptr (ab (x0.getD i0 ⟨0,[]⟩))),.v,.m,.m],r0 [.v,.v,.v,.ap,.rwH 18 (.row 9 1 ((s0++((x0.getD i0 ⟨0,[]⟩).Vars)).map ak)),.v],V2] [.only [2,3,9,10,11] [18]] (nb x0 (i0+1) (s0++((x0.getD i0 ⟨0,[]⟩).Vars))) (aB c3 (aI au x0 i0 ⟨0,[]⟩ (aV (wB (c:=ak) iL s0 ((x0.getD i0 ⟨0,[]⟩).Vars) 16 (by decide) (by simpa using g0)) (aC (ya 9 1 ak s0 ((x0.getD i0 ⟨0,[]⟩).Vars)) (aH i0 aN)))))
  ·subst e0;have H5:=bT H3;refine aU H5 fun y1 h6 H6 => ?_;refine aU H6 fun y2 h7 H7 => ?_;refine cK H7 fun e2 => ?_;subst e2;exact pR 5 [r0 [.v,.hR [(18,1000)] 21 (.tup []) [(1000,.row 9 1 (y1.map ak))]],r0 [.v,.hR [(18,1000)] 23 (.rslice 0) [(0,.row 9 1 (y2.map ak))],.v]] [.fz 23] [] (aC Tryz.call69 (aC (Bj u0 y1 h6) (aC Tryz.call70 (aC (wF y1 y2 h7) aN))))
 ·obtain rfl:=sI H2;exact pR 10 [V1,r0 [.v,.c true (.bool y0),.v],.eqT 8 (.bool true),V1] [.wk 2 []] [] (aC Tryz.call27 (aF (a6 _ _ h0) (aT (aM c1 aN))))
def mZ (x0:ah):Option Linear :=
 some (Linear.mk 0 [(Coef.mk x0 1)])
theorem yO (x0:ah) (r:Linear) (H:mZ x0=some r):bI Tryz.prog 34 [.str x0] (.agg [iI r.Const,dS be r.Terms]):=by unfold mZ at H;refine aX Tryz.func34 7 [.cell 2 32] ?_;obtain rfl:=sI H;exact pR 5 [r0 [.m],r0 [.v,.b,.b,.b,.m]] [] [] aN
def hU (x0:Bind) (x1:ah):Option Bool :=
 bif (x0.Kind==1) then (
  some (x0.Var==x1)
 ) else (
  some false
 )
theorem vx (x0:Bind) (x1:ah) (r:Bool) (H:hU x0 x1=some r):bI Tryz.prog 36 [.agg [iI x0.Kind,.str x0.Var,iI x0.Dim.Const,dS be x0.Dim.Terms,.str x0.Row.Row,dS bh x0.Row.Dims,.str x0.Elem],.dptr [.str x1]] (.bool r):=by
 unfold hU at H;refine aX Tryz.func36 13 [.tmp 3] ?_;refine a7 H (fun c0 H0 => ?_) (fun c1 H1 => ?_)
 ·obtain rfl:=sI H0;exact pR 5 [r0 [.m,.v],r0 [.v,.v,.e (.bool true),.v,.v,.v,.v,.v,.v,.v]] [] [] (aB c0 aN)
 ·obtain rfl:=sI H1;exact pR 5 [r0 [.m,.v],r0 [.v,.v,.e (.bool false),.v,.s,.s,.s,.s,.v,.v]] [] [] (aB c1 aN)
def bY (x0:List Bind) (x1:ah):Option Int :=
 (cL (σ:=Unit) (ε:=Unit) (ρ:=Int) (fun i0 s0 =>
  (hU (Bind.mk ((x0.getD i0 (⟨0,[],⟨0,[]⟩,⟨[],[]⟩,[]⟩)).Kind) ((x0.getD i0 (⟨0,[],⟨0,[]⟩,⟨[],[]⟩,[]⟩)).Var) (Linear.mk (((x0.getD i0 (⟨0,[],⟨0,[]⟩,⟨[],[]⟩,[]⟩)).Dim).Const) (((x0.getD i0 (⟨0,[],⟨0,[]⟩,⟨[],[]⟩,[]⟩)).Dim).Terms)) (Shape.mk (((x0.getD i0 (⟨0,[],⟨0,[]⟩,⟨[],[]⟩,[]⟩)).Row).Row) (((x0.getD i0 (⟨0,[],⟨0,[]⟩,⟨[],[]⟩,[]⟩)).Row).Dims)) ((x0.getD i0 (⟨0,[],⟨0,[]⟩,⟨[],[]⟩,[]⟩)).Elem)) x1).bind fun y0 =>
  bif y0 then (
   some (.ret ((i0:Nat):Int))
  ) else (
   some (.go ())
  )
 ) (fun i0 s0=>()) (x0.length-0) 0 ()).bind <| aft fun u0 =>
 some (-1)
def db (x0:List Bind) (x1:ah) (i0:Nat) (s0:Unit):AS:=⟨19,[(0,dS cm x0),(1,.fn 36 [.hptr 1000 0]),(4,iI 0),(7,nI x0.length),(8,nI i0)],[(1000,.cells 9 [.str x1])]⟩
def eT (x1:ah) (u1:Unit):AS:=⟨19,[(4,iI 0)],[(1000,.cells 9 [.str x1])]⟩
theorem jM (x0:List Bind) (x1:ah) (r:Int) (H:bY x0 x1=some r):bG Tryz.prog 35 [dS cm x0,.fn 36 [.hptr 1000 0]] [(1000,.cells 9 [.str x1])] (fun r2 h0=>r2=(iI r)∧h0=[(1000,.cells 9 [.str x1])]):=by
 unfold bY at H;refine aX Tryz.func35 19 [.tmp 4] ?_;refine pA 6 [V1,r0 [.v,.e (nI x0.length),.v]] [.only [0,1,4,7,8] [1000]] 6 [] (db x0 x1 0 ()) (aT (aC (aK cm x0) aN)) ?_;refine aU H fun R0 h1 H0 => ?_;refine pJ 1 (eT x1) R0 ?_ (fun u0 e0 => ?_)
 ·refine pC (db x0 x1) h1 (fun i0 s0 h2 e1 => ?_) (fun i0 s0 h3 q0 h4 h5 => ?_)
  ·have c0:=lF i0 x0.length (by omega);subst e1;exact pB 5 [r0 [.e (.bool false)]] [.only [4] [1000]] (eT x1 ()) (aB c0 aN)
  ·have c1:=lT i0 x0.length (by omega);refine aU h4 fun y0 h6 H1 => ?_;refine pA 11 [r0 [.e (.bool true)],V2,r0 [.v,.v,.v,.e (.dptr (cm (x0.getD i0 (⟨0,[],⟨0,[]⟩,⟨[],[]⟩,[]⟩)))),.v,.c false (.bool y0)]] [.only [0,1,4,5,7,8,16] [1000]] 11 [true] ⟨19,[(0,dS cm x0),(1,.fn 36 [.hptr 1000 0]),(4,iI 0),(5,nI i0),(7,nI x0.length),(8,nI i0),(16,.bool y0)],[(1000,.cells 9 [.str x1])]⟩ (aB c1 (aI ig x0 i0 (⟨0,[],⟨0,[]⟩,⟨[],[]⟩,[]⟩) (aC Tryz.call36 (aF (vx _ _ _ h6) aN)))) ?_;refine a7 H1 (fun c2 H2 => ?_) (fun c3 H3 => ?_)
   ·obtain rfl:=sI H2;obtain rfl:=aA h5;obtain rfl:=sI (ao H0);exact pR 5 [.eqT 16 (.bool true),V2] [] [1000] (aB c2 aN)
   ·refine bn 0 (ps:=[(x0.map cm).length≤9223372036854775807]) (by kernel_rfl) (fun l0 => ?_);have l1:x0.length≤9223372036854775807:=by simpa only [bt,JV] using l0
    clear l0;obtain rfl:=sI H3;exact pB 4 [.eqT 16 (.bool false),V2] [.only [0,1,4,7,8] [1000]] (db x0 x1 (i0+1) ()) (aB c3 (aH i0 aN))
 ·subst e0;have H4:=aW H0;obtain rfl:=sI H4;exact pR 3 [V1] [] [1000] aN
def eE (x0:aa) (x1:Int) (x2:List (ah×(List ah))) (x3 x4:List (ah×(List Int))):Option ((List (ah×(List ah)))×(List (ah×(List Int)))×(List (ah×(List Int)))) :=
 (bW x0.Vars x0.Coef x1 x2 x3 x4).bind fun y0 =>
 some (y0.1,y0.2.1,y0.2.2)
theorem sl (x0:aa) (x1:Int) (x2:List (ah×(List ah))) (x3 x4:List (ah×(List Int))) (r:(List (ah×(List ah)))×(List (ah×(List Int)))×(List (ah×(List Int)))) (H:eE x0 x1 x2 x3 x4=some r):bG Tryz.prog 79 [.agg [iI x0.Coef,dS ak x0.Vars],iI x1,.hptr 1000 0] [(1000,.cells 90 [.amap 1001,.amap 1002,.amap 1003]),(1001,.smap 9 49 (x2.map (bC aD))),(1002,.rmap 3 1 (dH ag x3)),(1003,.rmap 3 1 (dH ag x4))] (fun r2 h0=>r2=(.tup [])∧h0=[(1000,.cells 90 [.amap 1001,.amap 1002,.amap 1003]),(1001,.smap 9 49 (r.1.map (bC aD))),(1002,.rmap 3 1 (dH ag r.2.1)),(1003,.rmap 3 1 (dH ag r.2.2))]):=by unfold eE at H;refine aX Tryz.func79 12 [] ?_;refine aU H fun y0 h1 H0 => ?_;obtain rfl:=sI H0;exact pR 3 [r0 [.m],r0 (V 6 [.hR [(1001,1000),(1002,1001),(1003,1002)] 11 (.tup []) [(1000,.smap 9 49 (y0.1.map (bC aD))),(1001,.rmap 3 1 (dH ag y0.2.1)),(1002,.rmap 3 1 (dH ag y0.2.2))]])] [] [1000,1001,1002,1003] (aC Tryz.call53 (aC (gM _ _ _ _ _ _ _ h1) aN))
def eG (x0:List aa) (x1:List Int) (x2:List (ah×(List ah))) (x3 x4:List (ah×(List Int))):Option ((List (ah×(List ah)))×(List (ah×(List Int)))×(List (ah×(List Int)))) :=
 (cL (σ:=((List (ah×(List ah)))×(List (ah×(List Int)))×(List (ah×(List Int))))) (ε:=((List (ah×(List ah)))×(List (ah×(List Int)))×(List (ah×(List Int))))) (ρ:=((List (ah×(List ah)))×(List (ah×(List Int)))×(List (ah×(List Int))))) (fun i0 s0 =>
  (cL (σ:=((List (ah×(List ah)))×(List (ah×(List Int)))×(List (ah×(List Int))))) (ε:=((List (ah×(List ah)))×(List (ah×(List Int)))×(List (ah×(List Int))))) (ρ:=Empty) (fun i1 s1 =>
   (eE (aa.mk ((x0.getD i0 ⟨0,[]⟩).Coef) ((x0.getD i0 ⟨0,[]⟩).Vars)) (x1.getD i1 0) s1.1 s1.2.1 s1.2.2).bind fun y0 =>
   some (.go (y0.1,y0.2.1,y0.2.2))
  ) (fun i1 s1=>(s1.1,s1.2.1,s1.2.2)) (x1.length-0) 0 (s0.1,s0.2.1,s0.2.2)).bind <| aftE fun u0 =>
  some (.go (u0.1,u0.2.1,u0.2.2))
 ) (fun i0 s0=>(s0.1,s0.2.1,s0.2.2)) (x0.length-0) 0 (x2,x3,x4)).bind <| aft some
def gV (x0:List aa) (x1:List Int) (i0:Nat) (s0:(List (ah×(List ah)))×(List (ah×(List Int)))×(List (ah×(List Int)))):AS:=⟨28,[(1,dS ag x1),(2,.fn 79 [.hptr 1000 0]),(10,dS ab x0),(11,nI x0.length),(12,nI i0)],[(1000,.cells 90 [.amap 1001,.amap 1002,.amap 1003]),(1001,.smap 9 49 (s0.1.map (bC aD))),(1002,.rmap 3 1 (dH ag s0.2.1)),(1003,.rmap 3 1 (dH ag s0.2.2))]⟩
def gW (x0:List aa) (x1:List Int) (i0 i1:Nat) (s1:(List (ah×(List ah)))×(List (ah×(List Int)))×(List (ah×(List Int)))):AS:=⟨28,[(1,dS ag x1),(2,.fn 79 [.hptr 1000 0]),(7,.hptr 7 0),(10,dS ab x0),(11,nI x0.length),(12,nI i0),(16,dS ag x1),(17,nI x1.length),(18,nI i1)],[(7,.cells 67 [iI ((x0.getD i0 ⟨0,[]⟩).Coef),.dslice (((x0.getD i0 ⟨0,[]⟩).Vars).map ak)]),(1000,.cells 90 [.amap 1001,.amap 1002,.amap 1003]),(1001,.smap 9 49 (s1.1.map (bC aD))),(1002,.rmap 3 1 (dH ag s1.2.1)),(1003,.rmap 3 1 (dH ag s1.2.2))]⟩
def kL (x0:List aa) (x1:List Int) (i0:Nat) (u1:(List (ah×(List ah)))×(List (ah×(List Int)))×(List (ah×(List Int)))):AS:=⟨28,[(1,dS ag x1),(2,.fn 79 [.hptr 1000 0]),(10,dS ab x0),(11,nI x0.length),(12,nI i0)],[(1000,.cells 90 [.amap 1001,.amap 1002,.amap 1003]),(1001,.smap 9 49 (u1.1.map (bC aD))),(1002,.rmap 3 1 (dH ag u1.2.1)),(1003,.rmap 3 1 (dH ag u1.2.2))]⟩
theorem sj (x0:List aa) (x1:List Int) (x2:List (ah×(List ah))) (x3 x4:List (ah×(List Int))) (r:(List (ah×(List ah)))×(List (ah×(List Int)))×(List (ah×(List Int)))) (H:eG x0 x1 x2 x3 x4=some r):bG Tryz.prog 78 [dS ab x0,dS ag x1,.fn 79 [.hptr 1000 0]] [(1000,.cells 90 [.amap 1001,.amap 1002,.amap 1003]),(1001,.smap 9 49 (x2.map (bC aD))),(1002,.rmap 3 1 (dH ag x3)),(1003,.rmap 3 1 (dH ag x4))] (fun r2 h0=>r2=(.tup [])∧h0=[(1000,.cells 90 [.amap 1001,.amap 1002,.amap 1003]),(1001,.smap 9 49 (r.1.map (bC aD))),(1002,.rmap 3 1 (dH ag r.2.1)),(1003,.rmap 3 1 (dH ag r.2.2))]):=by
 unfold eG at H;refine aX Tryz.func78 28 [] ?_;refine pA 3 [r0 [.v,.e (nI x0.length),.v]] [.only [1,2,10,11,12] [1000,1001,1002,1003]] 3 [] (gV x0 x1 0 (x2,x3,x4)) (aT (aC (aK ab x0) aN)) ?_;refine aU H fun R0 h1 H0 => ?_;refine pC (gV x0 x1) h1 (fun i0 s0 h2 e0 => ?_) (fun i0 s0 h3 q0 h4 h5 => ?_)
 ·have c0:=lF i0 x0.length (by omega);subst e0;obtain rfl:=sI (aW H0);exact pR 5 [r0 [.e (.bool false)]] [] [1000,1001,1002,1003] (aB c0 aN)
 ·have c1:=lT i0 x0.length (by omega);refine pA 12 [r0 [.e (.bool true)],r0 [.e (.dptr (ab (x0.getD i0 ⟨0,[]⟩))),.v,.m,.m],r0 [.v,.e (nI x1.length),.v]] [.only [1,2,7,10,11,12,16,17,18] [7,1000,1001,1002,1003]] 12 [true] (gW x0 x1 i0 0 (s0.1,s0.2.1,s0.2.2)) (aB c1 (aI au x0 i0 ⟨0,[]⟩ (aT (aC (aK ag x1) aN)))) ?_;refine aU h4 fun R1 h6 H1 => ?_;refine pJ 2 (kL x0 x1 i0) R1 ?_ (fun u0 e1 => ?_)
  ·refine pC (gW x0 x1 i0) h6 (fun i1 s1 h7 e2 => ?_) (fun i1 s1 h8 q1 h9 h10 => ?_)
   ·have c2:=lF i1 x1.length (by omega);subst e2;exact pB 5 [r0 [.e (.bool false)]] [.only [1,2,10,11,12] [1000,1001,1002,1003]] (kL x0 x1 i0 (s1.1,s1.2.1,s1.2.2)) (aB c2 aN)
   ·have c3:=lT i1 x1.length (by omega);refine aU h9 fun y0 h11 H2 => ?_;refine bn 1 (ps:=[(x1.map ag).length≤9223372036854775807]) (by kernel_rfl) (fun l0 => ?_);have l1:x1.length≤9223372036854775807:=by simpa only [bt,JV] using l0
    clear l0;obtain rfl:=sI H2;exact pB 11 [r0 [.e (.bool true)],r0 [.e (.dptr [iI (x1.getD i1 0)]),.v,.v],r0 [.v,.v,.v,.hR [(1000,1000),(1001,1001),(1002,1002),(1003,1003)] 25 (.tup []) [(1000,.cells 90 [.amap 1001,.amap 1002,.amap 1003]),(1001,.smap 9 49 (y0.1.map (bC aD))),(1002,.rmap 3 1 (dH ag y0.2.1)),(1003,.rmap 3 1 (dH ag y0.2.2))]],V2] [.only [1,2,7,10,11,12,16,17,18] [7,1000,1001,1002,1003]] (gW x0 x1 i0 (i1+1) (y0.1,y0.2.1,y0.2.2)) (aB c3 (aI bF x1 i1 0 (aC Tryz.call79 (aC (sl _ _ _ _ _ _ h11) (aH i1 aN)))))
  ·subst e1;have H3:=bT H1;refine bn 10 (ps:=[(x0.map ab).length≤9223372036854775807]) (by kernel_rfl) (fun l2 => ?_);have l3:x0.length≤9223372036854775807:=by simpa only [bt,JV] using l2
   clear l2;obtain rfl:=sI H3;exact pB 1 [V2] [.only [1,2,10,11,12] [1000,1001,1002,1003]] (gV x0 x1 (i0+1) (u0.1,u0.2.1,u0.2.2)) (aH i0 aN)
noncomputable def fS (x0:List (List aa)) (x1:List Int):Option ((List aa)×Int) :=
 (cX).bind fun y0 =>
 (cL (σ:=((List (ah×(List ah)))×(List (ah×(List Int)))×(List (ah×(List Int))))) (ε:=((List (ah×(List ah)))×(List (ah×(List Int)))×(List (ah×(List Int))))) (ρ:=((List aa)×Int)) (fun i0 s0 =>
  (bo (x0.getD i0 [])).bind fun y1 =>
  bif y1 then (
   bZ (i0≤(i0+1)∧(i0+1)≤x1.length) <|
   (eG (x0.getD i0 []) ((x1.drop i0).take ((i0+1)-i0)) s0.1 s0.2.1 s0.2.2).bind fun y2 =>
   some (.go (y2.1,y2.2.1,y2.2.2))
  ) else (
   some (.ret ([],1))
  )
 ) (fun i0 s0=>(s0.1,s0.2.1,s0.2.2)) (x0.length-0) 0 (y0.1,y0.2.1,y0.2.2)).bind <| aft fun u0 =>
 (cg u0.1 u0.2.1 u0.2.2).bind fun y3 =>
 some (y3.1,y3.2)
def jr (x0:List (List aa)) (x1:List Int) (i0:Nat) (s0:(List (ah×(List ah)))×(List (ah×(List Int)))×(List (ah×(List Int)))):AS:=⟨33,[(1,dS ag x1),(4,.eslice),(5,iI 0),(6,.hptr 6 0),(10,dS aq x0),(11,nI x0.length),(12,nI i0)],[(6,.cells 90 [.amap 900,.amap 901,.amap 902]),(900,.smap 9 49 (s0.1.map (bC aD))),(901,.rmap 3 1 (dH ag s0.2.1)),(902,.rmap 3 1 (dH ag s0.2.2))]⟩
def ns (u1:(List (ah×(List ah)))×(List (ah×(List Int)))×(List (ah×(List Int)))):AS:=⟨33,[(4,.eslice),(5,iI 0),(6,.hptr 6 0)],[(6,.cells 90 [.amap 900,.amap 901,.amap 902]),(900,.smap 9 49 (u1.1.map (bC aD))),(901,.rmap 3 1 (dH ag u1.2.1)),(902,.rmap 3 1 (dH ag u1.2.2))]⟩
theorem uG (x0:List (List aa)) (x1:List Int) (r:(List aa)×Int) (H:fS x0 x1=some r):bI Tryz.prog 48 [dS aq x0,dS ag x1] (.tup [dS ab r.1,iI r.2]):=by
 unfold fS at H;refine aX Tryz.func48 33 [.tmp 4,.tmp 5] ?_;refine aU H fun y0 h0 H0 => ?_;refine pA 8 [V2,r0 [.hM [] [(1,900),(2,901),(3,902)] (.agg [.amap 1,.amap 2,.amap 3]) [(1,.smap 9 49 (y0.1.map (bC aD))),(2,.rmap 3 1 (dH ag y0.2.1)),(3,.rmap 3 1 (dH ag y0.2.2))],.m,.m],r0 [.v,.e (nI x0.length),.v]] [.only [1,4,5,6,10,11,12] [6,900,901,902]] 8 [] (jr x0 x1 0 (y0.1,y0.2.1,y0.2.2)) (aC Tryz.call52 (aC (kS _ h0) (aT (aC (aK aq x0) aN)))) ?_;refine aU H0 fun R0 h1 H1 => ?_;refine pJ 1 (ns) R0 ?_ (fun u0 e0 => ?_)
 ·refine pC (jr x0 x1) h1 (fun i0 s0 h2 e1 => ?_) (fun i0 s0 h3 q0 h4 h5 => ?_)
  ·have c0:=lF i0 x0.length (by omega);subst e1;exact pB 5 [r0 [.e (.bool false)]] [.only [4,5,6] [6,900,901,902]] (ns (s0.1,s0.2.1,s0.2.2)) (aB c0 aN)
  ·have c1:=lT i0 x0.length (by omega);refine aU h4 fun y1 h6 H2 => ?_;refine a7 H2 (fun c2 H3 => ?_) (fun c3 H4 => ?_)
   ·refine bn 10 (ps:=[(x0.map aq).length≤9223372036854775807]) (by kernel_rfl) (fun l0 => ?_);have l1:x0.length≤9223372036854775807:=by simpa only [bt,JV] using l0
    clear l0;refine aY H3 fun g0 H5 => ?_;refine aU H5 fun y2 h7 H6 => ?_;obtain rfl:=sI H6;exact pB 17 [r0 [.e (.bool true)],r0 [.v,.e (.dptr [.dslice ((x0.getD i0 []).map ab)]),.v,.v,.v],r0 [.v,.c true (.bool y1),.v],.eqT 19 (.bool false),r0 (V 5 [.e (.dslice (((x1.drop i0).take ((i0+1)-i0)).map ag)),.v,.hR [(6,1000),(900,1001),(901,1002),(902,1003)] 27 (.tup []) [(1000,.cells 90 [.amap 1001,.amap 1002,.amap 1003]),(1001,.smap 9 49 (y2.1.map (bC aD))),(1002,.rmap 3 1 (dH ag y2.2.1)),(1003,.rmap 3 1 (dH ag y2.2.2))]]),V2] [.only [1,4,5,6,10,11,12] [6,900,901,902]] (jr x0 x1 (i0+1) (y2.1,y2.2.1,y2.2.2)) (aB c1 (aI mq x0 i0 [] (aC Tryz.call27 (aF (a6 _ _ h6) (aT (aM c2 (aH i0 (aC (show ((0:Int)≤((i0:Nat):Int)∧((i0:Nat):Int)≤(((i0+1):Nat):Int)∧(((i0+1):Nat):Int)≤((x1.map ag).length:Int))∧UL 1 (x1.map ag) from ⟨by first | omega | (simp only [JV];omega),UL.map bF _⟩) (aC (G4 ag x1 i0 (i0+1)) (aC Tryz.call78 (aC (sj _ _ _ _ _ _ h7) (aH i0 aN))))))))))))
   ·obtain rfl:=sI H4;obtain rfl:=aA h5;obtain rfl:=sI (ao H1);exact pR 17 [r0 [.e (.bool true)],r0 [.v,.e (.dptr [.dslice ((x0.getD i0 []).map ab)]),.v,.v,.v],r0 [.v,.c true (.bool y1),.v],.eqT 19 (.bool true),V2] [.wk 4 []] [] (aB c1 (aI mq x0 i0 [] (aC Tryz.call27 (aF (a6 _ _ h6) (aT (aM c3 aN))))))
 ·subst e0;have H7:=aW H1;refine aU H7 fun y3 h8 H8 => ?_;obtain rfl:=sI H8;exact pR 3 [r0 [.v,.hR [(900,1000),(901,1001),(902,1002)] 30 (.tup [dS ab y3.1,iI y3.2]) [],.v,.v,.v,.v]] [] [] (aC Tryz.call54 (aC (gR _ _ _ _ h8) aN))
noncomputable def fX (x0 x1:List aa):Option ((List aa)×Int) :=
 (fS [x0,x1] [1,1]).bind fun y0 =>
 some (y0.1,y0.2)
theorem uO (x0 x1:List aa) (r:(List aa)×Int) (H:fX x0 x1=some r):bI Tryz.prog 20 [dS ab x0,dS ab x1] (.tup [dS ab r.1,iI r.2]):=by unfold fX at H;refine aX Tryz.func20 13 [.tmp 4,.tmp 5] ?_;refine aU H fun y0 h0 H0 => ?_;obtain rfl:=sI H0;exact pR 5 [V2,r0 [.v,.v,.b,.b,.c true (.tup [dS ab y0.1,iI y0.2]),.v,.v,.v,.v]] [] [] (aC Tryz.call48 (aF (uG _ _ _ h0) aN))
noncomputable def gn (x0:List aa) (x1:List Bind):Option ((List aa)×Int) :=
 (bo x0).bind fun y0 =>
 bif y0 then (
  (iu x0).bind fun y1 =>
  (cL (σ:=(List (ah×(List aa)))) (ε:=(List (ah×(List aa)))) (ρ:=((List aa)×Int)) (fun i0 s0 =>
   (mZ (y1.getD i0 [])).bind fun y2 =>
   (bY x1 (y1.getD i0 [])).bind fun y3 =>
   ((
    bif decide (y3≥0) then (
     bZ (0≤y3∧y3<(x1.length:Int)) <|
     some ((((x1.getD y3.toNat (⟨0,[],⟨0,[]⟩,⟨[],[]⟩,[]⟩)).Dim).Const),(((x1.getD y3.toNat (⟨0,[],⟨0,[]⟩,⟨[],[]⟩,[]⟩)).Dim).Terms))
    ) else (
     some (y2.Const,y2.Terms)
    )
   ):Option (Int×(List Coef))).bind fun v0 =>
   (dn (Linear.mk v0.1 v0.2)).bind fun y4 =>
   bif (y4.2==0) then (
    some (.go (di (y1.getD i0 []) y4.1 s0))
   ) else (
    some (.ret ([],y4.2))
   )
  ) (fun i0 s0=>s0) (y1.length-0) 0 []).bind <| aft fun u0 =>
  (cL (σ:=(List aa)) (ε:=(List aa)) (ρ:=((List aa)×Int)) (fun i1 s1 =>
   (cL (σ:=(List aa)) (ε:=(List aa)) (ρ:=(ff (List aa) (List aa) ((List aa)×Int))) (fun i2 s2 =>
    (eH s2 (dx [] (((x0.getD i1 ⟨0,[]⟩).Vars).getD i2 []) u0)).bind fun y5 =>
    bif (y5.2==0) then (
     some (.go y5.1)
    ) else (
     some (.ret (.ret ([],y5.2)))
    )
   ) (fun i2 s2=>s2) (((x0.getD i1 ⟨0,[]⟩).Vars).length-0) 0 [(aa.mk ((x0.getD i1 ⟨0,[]⟩).Coef) [])]).bind <| aft fun u1 =>
   (fX s1 u1).bind fun y6 =>
   bif (y6.2==0) then (
    some (.go y6.1)
   ) else (
    some (.ret ([],y6.2))
   )
  ) (fun i1 s1=>s1) (x0.length-0) 0 []).bind <| aft fun u2 =>
  some (u2,0)
 ) else (
  some ([],1)
 )
def kQ (x0:List aa) (x1:List Bind) (y1:List ah) (i0:Nat) (s0:List (ah×(List aa))):AS:=⟨100,[(0,dS ab x0),(1,dS cm x1),(4,.eslice),(5,iI 0),(6,.amap 26),(28,dS ak y1),(29,nI y1.length),(30,nI i0)],[(26,.smap 9 24 (s0.map (bC aq)))]⟩
def pD (x0:List aa) (u3:List (ah×(List aa))):AS:=⟨100,[(0,dS ab x0),(4,.eslice),(5,iI 0),(6,.amap 26)],[(26,.smap 9 24 (u3.map (bC aq)))]⟩
def kT (x0:List aa) (x1:List Bind) (y1:List ah) (i0:Nat) (s0:List (ah×(List aa))) (v0:Int×(List Coef)):AS:=⟨100,[(0,dS ab x0),(1,dS cm x1),(4,.eslice),(5,iI 0),(6,.amap 26),(8,.hptr 8 0),(9,.hptr 9 0),(28,dS ak y1),(29,nI y1.length),(30,nI i0)],[(8,.cells 9 [.str (y1.getD i0 [])]),(9,.cells 32 [iI v0.1,dS be v0.2]),(26,.smap 9 24 (s0.map (bC aq)))]⟩
def lr (x0:List aa) (u0:List (ah×(List aa))) (i1:Nat) (s1:List aa):AS:=⟨100,[(4,.eslice),(5,iI 0),(6,.amap 26),(13,dS ab s1),(58,dS ab x0),(59,nI x0.length),(60,nI i1)],[(26,.smap 9 24 (u0.map (bC aq)))]⟩
def pG (u4:List aa):AS:=⟨100,[(4,.eslice),(5,iI 0),(13,dS ab u4)],[]⟩
def kU (x0:List aa) (u0:List (ah×(List aa))) (i1:Nat) (s1:List aa) (i2:Nat) (s2:List aa):AS:=⟨100,[(4,.eslice),(5,iI 0),(6,.amap 26),(13,dS ab s1),(16,dS ab s2),(58,dS ab x0),(59,nI x0.length),(60,nI i1),(69,.dslice (((x0.getD i1 ⟨0,[]⟩).Vars).map ak)),(70,iI ((((x0.getD i1 ⟨0,[]⟩).Vars).length:Nat):Int)),(71,nI i2)],[(26,.smap 9 24 (u0.map (bC aq)))]⟩
def pf (x0:List aa) (u0:List (ah×(List aa))) (i1:Nat) (s1 u5:List aa):AS:=⟨100,[(4,.eslice),(5,iI 0),(6,.amap 26),(13,dS ab s1),(16,dS ab u5),(58,dS ab x0),(59,nI x0.length),(60,nI i1)],[(26,.smap 9 24 (u0.map (bC aq)))]⟩
theorem yz (x0:List aa) (x1:List Bind) (r:(List aa)×Int) (H:gn x0 x1=some r):bI Tryz.prog 11 [dS ab x0,dS cm x1] (.tup [dS ab r.1,iI r.2]):=by
 unfold gn at H;refine aX Tryz.func11 100 [.tmp 4,.tmp 5] ?_;refine aU H fun y0 h0 H0 => ?_;refine a7 H0 (fun c0 H1 => ?_) (fun c1 H2 => ?_)
 ·refine aU H1 fun y1 h1 H3 => ?_;refine pA 14 [V2,r0 [.v,.c true (.bool y0),.v],.eqT 25 (.bool false),r0 [.m,.v],r0 [.v,.c true (dS ak y1),.e (nI y1.length),.v]] [.only [0,1,4,5,6,28,29,30] [26]] 13 [false] (kQ x0 x1 y1 0 []) (aC Tryz.call27 (aF (a6 _ _ h0) (aT (aM c0 (aC Tryz.call33 (aF (zR _ _ h1) (aT (aC (aK ak y1) aN)))))))) ?_;refine aU H3 fun R0 h2 H4 => ?_;refine pJ 1 (pD x0) R0 ?_ (fun u0 e0 => ?_)
  ·refine pC (kQ x0 x1 y1) h2 (fun i0 s0 h3 e1 => ?_) (fun i0 s0 h4 q0 h5 h6 => ?_)
   ·have c2:=lF i0 y1.length (by omega);subst e1;exact pB 5 [r0 [.e (.bool false)]] [.only [0,4,5,6] [26]] (pD x0 s0) (aB c2 aN)
   ·have c3:=lT i0 y1.length (by omega);refine aU h5 fun y2 h7 H5 => ?_;refine aU H5 fun y3 h8 H6 => ?_;refine pA 16 [r0 [.e (.bool true)],r0 [.e (.dptr [.str (y1.getD i0 [])]),.v,.m,.m],r0 [.v,.c true (.agg [iI y2.Const,dS be y2.Terms]),.m,.m],r0 [.v,.v,.hR [(8,1000)] 38 (iI y3) [(1000,.cells 9 [.str (y1.getD i0 [])])],.v],V2] [.only [0,1,4,5,6,8,9,10,28,29,30,40] [8,9,26]] 16 [true] ⟨100,[(0,dS ab x0),(1,dS cm x1),(4,.eslice),(5,iI 0),(6,.amap 26),(8,.hptr 8 0),(9,.hptr 9 0),(10,iI y3),(28,dS ak y1),(29,nI y1.length),(30,nI i0),(40,.bool (decide (y3≥0)))],[(8,.cells 9 [.str (y1.getD i0 [])]),(9,.cells 32 [iI y2.Const,dS be y2.Terms]),(26,.smap 9 24 (s0.map (bC aq)))]⟩ (aB c3 (aI aZ y1 i0 [] (aC Tryz.call34 (aF (yO _ _ h7) (aC Tryz.call35 (aC (jM _ _ _ h8) aN)))))) ?_;refine aU H6 fun v0 h9 H7 => ?_;refine dd 0 (kT x0 x1 y1 i0 s0 v0) (by kernel_rfl) ?_ ?_
    ·refine a7 h9 (fun c4 H8 => ?_) (fun c5 H9 => ?_)
     ·refine aY H8 fun g0 H10 => ?_;obtain rfl:=sI H10;exact pB 3 [.eqT 40 (.bool true),r0 [.v,.v,.e (.dptr (cm (x1.getD y3.toNat (⟨0,[],⟨0,[]⟩,⟨[],[]⟩,[]⟩)))),.v,.v,.m]] [.only [0,1,4,5,6,8,9,28,29,30] [8,9,26]] (kT x0 x1 y1 i0 s0 ((((x1.getD y3.toNat (⟨0,[],⟨0,[]⟩,⟨[],[]⟩,[]⟩)).Dim).Const),(((x1.getD y3.toNat (⟨0,[],⟨0,[]⟩,⟨[],[]⟩,[]⟩)).Dim).Terms))) (aB c4 (aV (vy (f:=cm) (l:=x1) (n:=y3) (⟨0,[],⟨0,[]⟩,⟨[],[]⟩,[]⟩) ig (by decide) (by exact g0)) aN))
     ·obtain rfl:=sI H9;exact pB 3 [.eqT 40 (.bool false)] [.only [0,1,4,5,6,8,9,28,29,30] [8,9,26]] (kT x0 x1 y1 i0 s0 (y2.Const,y2.Terms)) (aB c5 aN)
    ·refine aU H7 fun y4 h10 H11 => ?_;refine a7 H11 (fun c6 H12 => ?_) (fun c7 H13 => ?_)
     ·refine bn 28 (ps:=[(y1.map ak).length≤9223372036854775807]) (by kernel_rfl) (fun l0 => ?_);have l1:y1.length≤9223372036854775807:=by simpa only [bt,JV] using l0
      clear l0;obtain rfl:=sI H12;exact pB 10 [r0 [.v,.c true (.tup [dS ab y4.1,iI y4.2]),.v,.v,.v,.v,.v],V2,.eqT 52 (.bool false),r0 [.v,.v,.v,.m,.rwH 26 (.smap 9 24 ((di (y1.getD i0 []) y4.1 s0).map (bC aq)))],V2] [.only [0,1,4,5,6,28,29,30] [26]] (kQ x0 x1 y1 (i0+1) (di (y1.getD i0 []) y4.1 s0)) (aC Tryz.call24 (aF (r8 _ _ h10) (aM c6 (aC (congrArg (AO.smap 9 24) (rG (c:=aq) (y1.getD i0 []) y4.1 s0)) (aH i0 aN)))))
     ·obtain rfl:=sI H13;obtain rfl:=aA h6;obtain rfl:=sI (ao H4);exact pR 10 [r0 [.v,.c true (.tup [dS ab y4.1,iI y4.2]),.v,.v,.v,.v,.v],V2,.eqT 52 (.bool true),V3] [.wk 4 []] [] (aC Tryz.call24 (aF (r8 _ _ h10) (aM c7 aN)))
  ·subst e0;have H14:=aW H4;refine pA 6 [V1,r0 [.v,.e (nI x0.length),.v]] [.wk 13 [],.only [4,5,6,13,58,59,60] [26]] 6 [] (lr x0 u0 0 []) (aT (aC (aK ab x0) aN)) ?_;refine aU H14 fun R1 h11 H15 => ?_;refine pJ 1 (pG) R1 ?_ (fun u2 e2 => ?_)
   ·refine pC (lr x0 u0) h11 (fun i1 s1 h12 e3 => ?_) (fun i1 s1 h13 q1 h14 h15 => ?_)
    ·have c8:=lF i1 x0.length (by omega);subst e3;exact pB 5 [r0 [.e (.bool false)]] [.only [4,5,13] []] (pG s1) (aB c8 aN)
    ·have c9:=lT i1 x0.length (by omega);refine pA 15 [r0 [.e (.bool true)],r0 [.e (.dptr (ab (x0.getD i1 ⟨0,[]⟩))),.v,.m,.m],r0 [.v,.v,.b,.b,.wk 67 [(0,1)],.v],r0 [.v,.v,.e (iI ((((x0.getD i1 ⟨0,[]⟩).Vars).length:Nat):Int)),.v]] [.only [4,5,6,13,16,58,59,60,69,70,71] [26]] 15 [true] (kU x0 u0 i1 s1 0 [(aa.mk ((x0.getD i1 ⟨0,[]⟩).Coef) [])]) (aB c9 (aI au x0 i1 ⟨0,[]⟩ (aT (aC (aK ak ((x0.getD i1 ⟨0,[]⟩).Vars)) aN)))) ?_;refine aU h14 fun R2 h16 H16 => ?_;refine pJ 1 (pf x0 u0 i1 s1) R2 ?_ (fun u1 e4 => ?_)
     ·refine pC (kU x0 u0 i1 s1) h16 (fun i2 s2 h17 e5 => ?_) (fun i2 s2 h18 q2 h19 h20 => ?_)
      ·have c10:=lF i2 (((x0.getD i1 ⟨0,[]⟩).Vars).length) (by omega);subst e5;exact pB 5 [r0 [.e (.bool false)]] [.only [4,5,6,13,16,58,59,60] [26]] (pf x0 u0 i1 s1 s2) (aB c10 aN)
      ·have c11:=lT i2 (((x0.getD i1 ⟨0,[]⟩).Vars).length) (by omega);refine aU h19 fun y5 h21 H17 => ?_;refine pA 14 [r0 [.e (.bool true)],r0 [.e (.dptr [.str (((x0.getD i1 ⟨0,[]⟩).Vars).getD i2 [])]),.v,.v],r0 [.v,.v,.v,.l (.dslice ((dx [] (((x0.getD i1 ⟨0,[]⟩).Vars).getD i2 []) u0).map ab)),.c true (.tup [dS ab y5.1,iI y5.2]),.v,.v,.v,.v,.v],V2] [.only [4,5,6,13,16,19,20,58,59,60,69,70,71,84] [26]] 14 [true] ⟨100,[(4,.eslice),(5,iI 0),(6,.amap 26),(13,dS ab s1),(16,dS ab s2),(19,dS ab y5.1),(20,iI y5.2),(58,dS ab x0),(59,nI x0.length),(60,nI i1),(69,.dslice (((x0.getD i1 ⟨0,[]⟩).Vars).map ak)),(70,iI ((((x0.getD i1 ⟨0,[]⟩).Vars).length:Nat):Int)),(71,nI i2),(84,.bool (y5.2 != 0))],[(26,.smap 9 24 (u0.map (bC aq)))]⟩ (aB c11 (aI aZ (((x0.getD i1 ⟨0,[]⟩).Vars)) i2 [] (aC (oW (c:=aq) (((x0.getD i1 ⟨0,[]⟩).Vars).getD i2 []) [] u0) (aC Tryz.call29 (aF (pS _ _ _ h21) aN))))) ?_;refine a7 H17 (fun c12 H18 => ?_) (fun c13 H19 => ?_)
       ·refine bn 69 (ps:=[(((x0.getD i1 ⟨0,[]⟩).Vars).map ak).length≤9223372036854775807]) (by kernel_rfl) (fun l2 => ?_);have l3:((x0.getD i1 ⟨0,[]⟩).Vars).length≤9223372036854775807:=by simpa only [bt,JV] using l2
        clear l2;obtain rfl:=sI H18;exact pB 5 [.eqT 84 (.bool false),V2,V2] [.only [4,5,6,13,16,58,59,60,69,70,71] [26]] (kU x0 u0 i1 s1 (i2+1) y5.1) (aM c12 (aH i2 aN))
       ·obtain rfl:=sI H19;obtain rfl:=aA h20;obtain rfl:=sI (ao H16);obtain rfl:=aA h15;obtain rfl:=sI (ao H15);exact pR 5 [.eqT 84 (.bool true),V3] [.wk 4 []] [] (aM c13 aN)
     ·subst e4;have H20:=aW H16;refine aU H20 fun y6 h22 H21 => ?_;refine a7 H21 (fun c14 H22 => ?_) (fun c15 H23 => ?_)
      ·refine bn 58 (ps:=[(x0.map ab).length≤9223372036854775807]) (by kernel_rfl) (fun l4 => ?_);have l5:x0.length≤9223372036854775807:=by simpa only [bt,JV] using l4
       clear l4;obtain rfl:=sI H22;exact pB 10 [r0 [.v,.v,.c true (.tup [dS ab y6.1,iI y6.2]),.v,.v,.v,.v,.v],V2,.eqT 95 (.bool false),V2,V2] [.only [4,5,6,13,58,59,60] [26]] (lr x0 u0 (i1+1) y6.1) (aC Tryz.call20 (aF (uO _ _ _ h22) (aM c14 (aH i1 aN))))
      ·obtain rfl:=sI H23;obtain rfl:=aA h15;obtain rfl:=sI (ao H15);exact pR 10 [r0 [.v,.v,.c true (.tup [dS ab y6.1,iI y6.2]),.v,.v,.v,.v,.v],V2,.eqT 95 (.bool true),V3] [.wk 4 []] [] (aC Tryz.call20 (aF (uO _ _ _ h22) (aM c15 aN)))
   ·subst e2;have H24:=aW H15;obtain rfl:=sI H24;exact pR 3 [V3] [] [] aN
 ·obtain rfl:=sI H2;exact pR 10 [V2,r0 [.v,.c true (.bool y0),.v],.eqT 25 (.bool true),V2] [.wk 4 []] [] (aC Tryz.call27 (aF (a6 _ _ h0) (aT (aM c1 aN))))
def gh (x0:List aa):Option (List ah) :=
 (cV x0).bind fun y0 =>
 bif y0 then (
  (cL (σ:=(List ah)) (ε:=(List ah)) (ρ:=Empty) (fun i0 s0 =>
   (mC (σ:=((List ah)×Int)) (ε:=(List ah)) (ρ:=Empty) (fun s1 =>
    bif decide (s1.2<((((x0.getD i0 ⟨0,[]⟩).Vars).length:Nat):Int)) then (
     (cL (σ:=Unit) (ε:=Nat) (ρ:=Empty) (fun i1 s2 =>
      bZ (0≤s1.2∧s1.2<(((x0.getD i0 ⟨0,[]⟩).Vars).length:Int)) <|
      bif (Op.bytesLess (s1.1.getD i1 []) (((x0.getD i0 ⟨0,[]⟩).Vars).getD s1.2.toNat [])) then (
       some (.go ())
      ) else (
       some (.brk i1)
      )
     ) (fun i1 s2=>i1) (s1.1.length-0) 0 ()).bind <| aftE fun u0 =>
     ((
      bif (((u0:Nat):Int)==((s1.1.length:Nat):Int)) then (
       some true
      ) else (
       bZ (u0<s1.1.length) <|
       bZ (0≤s1.2∧s1.2<(((x0.getD i0 ⟨0,[]⟩).Vars).length:Int)) <|
       some (!((s1.1.getD u0 [])==(((x0.getD i0 ⟨0,[]⟩).Vars).getD s1.2.toNat [])))
      )
     ):Option Bool).bind fun v0 =>
     ((
      bif v0 then (
       bZ (u0≤s1.1.length) <|
       bZ ((0+(s1.1.take u0).length)*16≤140737488355328) <|
       bZ (0≤s1.2∧s1.2<(((x0.getD i0 ⟨0,[]⟩).Vars).length:Int)) <|
       bZ (((s1.1.take u0).length+[(((x0.getD i0 ⟨0,[]⟩).Vars).getD s1.2.toNat [])].length)*16≤140737488355328) <|
       bZ ((((s1.1.take u0)++[(((x0.getD i0 ⟨0,[]⟩).Vars).getD s1.2.toNat [])]).length+(s1.1.drop u0).length)*16≤140737488355328) <|
       some (((s1.1.take u0)++[(((x0.getD i0 ⟨0,[]⟩).Vars).getD s1.2.toNat [])])++(s1.1.drop u0))
      ) else (
       some s1.1
      )
     ):Option (List ah)).bind fun v1 =>
     some (.go (v1,(aS (s1.2+1))))
    ) else (
     some (.brk s1.1)
    )
   ) 4294967296 (s0,0)).bind <| aftE fun u1 =>
   some (.go u1)
  ) (fun i0 s0=>s0) (x0.length-0) 0 []).bind <| aftE fun u2 =>
  some u2
 ) else (
  some []
 )
def lA (x0:List aa) (i0:Nat) (s0:List ah):AS:=⟨86,[(0,dS ab x0),(2,.eslice),(3,.rslice 84),(4,nI i0)],[(84,.row 9 1 (s0.map ak))]⟩
def pk (u3:List ah):AS:=⟨86,[(2,.eslice),(3,.rslice 84)],[(84,.row 9 1 (u3.map ak))]⟩
def lI (x0:List aa) (i0:Nat) (s1:(List ah)×Int):AS:=⟨86,[(0,dS ab x0),(2,.eslice),(3,.rslice 84),(4,nI i0),(5,iI s1.2)],[(84,.row 9 1 (s1.1.map ak))]⟩
def pq (x0:List aa) (i0:Nat) (u4:List ah):AS:=⟨86,[(0,dS ab x0),(2,.eslice),(3,.rslice 84),(4,nI i0)],[(84,.row 9 1 (u4.map ak))]⟩
def lJ (x0:List aa) (i0:Nat) (s1:(List ah)×Int) (i1:Nat) (s2:Unit):AS:=⟨86,[(0,dS ab x0),(2,.eslice),(3,.rslice 84),(4,nI i0),(5,iI s1.2),(6,nI i1)],[(84,.row 9 1 (s1.1.map ak))]⟩
def lq (x0:List aa) (i0:Nat) (s1:(List ah)×Int) (u5:Nat):AS:=⟨86,[(0,dS ab x0),(2,.eslice),(3,.rslice 84),(4,nI i0),(5,iI s1.2),(6,nI u5)],[(84,.row 9 1 (s1.1.map ak))]⟩
def lz (x0:List aa) (i0:Nat) (s1:(List ah)×Int) (u0:Nat) (v0:Bool):AS:=⟨86,[(0,dS ab x0),(2,.eslice),(3,.rslice 84),(4,nI i0),(5,iI s1.2),(6,nI u0),(65,.bool v0)],[(84,.row 9 1 (s1.1.map ak))]⟩
def lE (x0:List aa) (i0:Nat) (s1:(List ah)×Int) (v1:List ah):AS:=⟨86,[(0,dS ab x0),(2,.eslice),(3,.rslice 84),(4,nI i0),(5,iI s1.2)],[(84,.row 9 1 (v1.map ak))]⟩
theorem yy (x0:List aa) (r:List ah) (H:gh x0=some r):bI Tryz.prog 17 [dS ab x0] (dS ak r):=by
 unfold gh at H;refine aX Tryz.func17 86 [.tmp 2] ?_;refine aU H fun y0 h0 H0 => ?_;refine a7 H0 (fun c0 H1 => ?_) (fun c1 H2 => ?_)
 ·refine pA 14 [.rg 0 [] [.v],.rg 0 [] [.v],.rg 0 [] [.v,.c true (.bool y0),.v],.eqT 9 (.bool false),.rg 0 [] [.v]] [.er 3 84 9 1,.only [0,2,3,4] [84]] 13 [false] (lA x0 0 []) (aC Tryz.call14 (aF (bu _ _ h0) (aT (aM c0 aN)))) ?_;refine aU H1 fun R0 h1 H3 => ?_;refine pJ 1 (pk) R0 ?_ (fun u2 e0 => ?_)
  ·refine pC (lA x0) h1 (fun i0 s0 h2 e1 => ?_) (fun i0 s0 h3 q0 h4 h5 => ?_)
   ·have c2:=lF i0 x0.length (by omega);subst e1;exact pB 5 [r0 [.v,.v,.e (nI x0.length),.e (.bool false)]] [.only [2,3] [84]] (pk s0) (aT (aC (aK ab x0) (aB c2 aN)))
   ·have c3:=lT i0 x0.length (by omega);refine pA 10 [r0 [.v,.v,.e (nI x0.length),.e (.bool true)],V1] [.only [0,2,3,4,5] [84]] 10 [true] (lI x0 i0 (s0,0)) (aT (aC (aK ab x0) (aB c3 aN))) ?_;refine aU h4 fun R1 h6 H4 => ?_;refine pJ 2 (pq x0 i0) R1 ?_ (fun u1 e2 => ?_)
    ·refine pr (lI x0 i0) (by kernel_rfl) h6 (fun s1 q1 h7 h8 => ?_)
     ·refine a7 h7 (fun c4 H5 => ?_) (fun c5 H6 => ?_)
      ·have c4p:=JR c4;refine pA 12 [r0 [.v,.v,.v,.e (.dptr (ab (x0.getD i0 ⟨0,[]⟩))),.v,.v,.e (iI ((((x0.getD i0 ⟨0,[]⟩).Vars).length:Nat):Int)),.v],.eqT 23 (.bool true),V1] [.only [0,2,3,4,5,6] [84]] 11 [true] (lJ x0 i0 s1 0 ()) (aI au x0 i0 ⟨0,[]⟩ (aT (aC (aK ak ((x0.getD i0 ⟨0,[]⟩).Vars)) (aB c4 aN)))) ?_;refine aU H5 fun R2 h9 H7 => ?_;refine pJ 1 (lq x0 i0 s1) R2 ?_ (fun u0 e3 => ?_)
       ·refine pC (lJ x0 i0 s1) h9 (fun i1 s2 h10 e4 => ?_) (fun i1 s2 h11 q2 h12 h13 => ?_)
        ·have c6:=lF i1 s1.1.length (by omega);subst e4;exact pB 5 [.rg 17 [.v,.v,.e (nI s1.1.length),.e (.bool false),.v,.s,.s,.s,.s,.s,.s,.s,.s,.s,.s,.s,.s] [.s,.v]] [.only [0,2,3,4,5,6] [84]] (lq x0 i0 s1 i1) (aT (aC (aK ak s1.1) (aB c6 aN)))
        ·have c7:=lT i1 s1.1.length (by omega);refine aY h12 fun g0 H8 => ?_;refine pA 3 [.rg 17 [.v,.v,.e (nI s1.1.length),.e (.bool true),.v,.v,.v,.v,.rl i1 0 (.str (s1.1.getD i1 [])),.v,.v,.e (.dptr (ab (x0.getD i0 ⟨0,[]⟩))),.v,.v,.v,.e (.dptr [.str (((x0.getD i0 ⟨0,[]⟩).Vars).getD s1.2.toNat [])]),.v] [.v,.v]] [.only [0,2,3,4,5,6,44] [84]] 3 [] ⟨86,[(0,dS ab x0),(2,.eslice),(3,.rslice 84),(4,nI i0),(5,iI s1.2),(6,nI i1),(44,.bool (Op.bytesLess (s1.1.getD i1 []) (((x0.getD i0 ⟨0,[]⟩).Vars).getD s1.2.toNat [])))],[(84,.row 9 1 (s1.1.map ak))]⟩ (aT (aC (aK ak s1.1) (aB c7 (aC (show (0:Int)≤((i1:Nat):Int)∧((i1:Nat):Int)<((s1.1.map ak).length:Int) from by rw [JV];omega) (aC (HW (f:=ak) (l:=s1.1) (n:=i1) 1 0 1 (by omega) (by decide)) (aC (IK (f:=ak) (l:=s1.1) (n:=i1) [] 0 (by omega)) (aI au x0 i0 ⟨0,[]⟩ (aV (vy (f:=ak) (l:=((x0.getD i0 ⟨0,[]⟩).Vars)) (n:=s1.2) [] aZ (by decide) (by exact g0)) aN)))))))) ?_;refine a7 H8 (fun c8 H9 => ?_) (fun c9 H10 => ?_)
         ·refine qN 84 (n:=(s1.1.map ak).length) (by kernel_rfl) (fun l0 => ?_);have l1:s1.1.length≤9223372036854775807:=by simpa only [JV] using l0
          clear l0;obtain rfl:=sI H9;exact pB 5 [.eqT 44 (.bool true),V3] [.only [0,2,3,4,5,6] [84]] (lJ x0 i0 s1 (i1+1) ()) (aB c8 (aH i1 aN))
         ·obtain rfl:=sI H10;obtain rfl:=eL h13;exact pB 3 [.eqT 44 (.bool false)] [.only [0,2,3,4,5,6] [84]] (lq x0 i0 s1 i1) (aB c9 aN)
       ·subst e3;have H11:=bT H7;refine pA 1 [] [.only [0,2,3,4,5,6] [84]] 1 [] ⟨86,[(0,dS ab x0),(2,.eslice),(3,.rslice 84),(4,nI i0),(5,iI s1.2),(6,nI u0)],[(84,.row 9 1 (s1.1.map ak))]⟩ aN ?_;refine aU H11 fun v0 h14 H12 => ?_;refine dd 0 (lz x0 i0 s1 u0 v0) (by kernel_rfl) ?_ ?_
        ·refine a7 h14 (fun c10 H13 => ?_) (fun c11 H14 => ?_)
         ·obtain rfl:=sI H13;exact pB 1 [.rg 17 [.v,.v,.e (nI s1.1.length),.e (.bool true),.v,.s,.s,.s,.s,.s,.s,.s,.s,.s,.s,.s,.s] [.s,.v]] [.only [0,2,3,4,5,6,65] [84]] (lz x0 i0 s1 u0 true) (aT (aC (aK ak s1.1) (aB c10 aN)))
         ·refine aY H14 fun g1 H15 => ?_;refine aY H15 fun g2 H16 => ?_;obtain rfl:=sI H16;exact pB 1 [.rg 17 [.v,.v,.e (nI s1.1.length),.e (.bool false),.v,.v,.v,.v,.rl u0 0 (.str (s1.1.getD u0 [])),.v,.v,.e (.dptr (ab (x0.getD i0 ⟨0,[]⟩))),.v,.v,.v,.e (.dptr [.str (((x0.getD i0 ⟨0,[]⟩).Vars).getD s1.2.toNat [])]),.v] [.v,.v]] [.only [0,2,3,4,5,6,65] [84]] (lz x0 i0 s1 u0 (!((s1.1.getD u0 [])==(((x0.getD i0 ⟨0,[]⟩).Vars).getD s1.2.toNat [])))) (aT (aC (aK ak s1.1) (aB c11 (aC (show (0:Int)≤((u0:Nat):Int)∧((u0:Nat):Int)<((s1.1.map ak).length:Int) from by rw [JV];omega) (aC (HW (f:=ak) (l:=s1.1) (n:=u0) 1 0 1 (by omega) (by decide)) (aC (IK (f:=ak) (l:=s1.1) (n:=u0) [] 0 (by omega)) (aI au x0 i0 ⟨0,[]⟩ (aV (vy (f:=ak) (l:=((x0.getD i0 ⟨0,[]⟩).Vars)) (n:=s1.2) [] aZ (by decide) (by exact g2)) aN))))))))
        ·refine aU H12 fun v1 h15 H17 => ?_;refine dd 1 (lE x0 i0 s1 v1) (by kernel_rfl) ?_ ?_
         ·refine a7 h15 (fun c12 H18 => ?_) (fun c13 H19 => ?_)
          ·refine aY H18 fun g3 H20 => ?_;refine aY H20 fun g4 H21 => ?_;refine aY H21 fun g5 H22 => ?_;refine aY H22 fun g6 H23 => ?_;refine aY H23 fun g7 H24 => ?_;obtain rfl:=sI H24;exact pB 4 [.eqT 65 (.bool true),.cv [.fz 84],.rg 18 [.b,.v,.v,.e (.dslice ((s1.1.take u0).map ak)),.apx ((s1.1.take u0).map ak),.v,.v,.e (.dptr (ab (x0.getD i0 ⟨0,[]⟩))),.v,.v,.v,.e (.dptr [.str (((x0.getD i0 ⟨0,[]⟩).Vars).getD s1.2.toNat [])]),.v,.b,.apx (((s1.1.take u0)++[(((x0.getD i0 ⟨0,[]⟩).Vars).getD s1.2.toNat [])]).map ak),.v,.v,.e (.dslice ((s1.1.drop u0).map ak))] [.ap,.rwH 84 (.row 9 1 ((((s1.1.take u0)++[(((x0.getD i0 ⟨0,[]⟩).Vars).getD s1.2.toNat [])])++(s1.1.drop u0)).map ak)),.v]] [.only [0,2,3,4,5] [84]] (lE x0 i0 s1 (((s1.1.take u0)++[(((x0.getD i0 ⟨0,[]⟩).Vars).getD s1.2.toNat [])])++(s1.1.drop u0))) (aB c12 (aC (show ((0:Int)≤0∧0≤((u0:Nat):Int)∧((u0:Nat):Int)≤((s1.1.map ak).length:Int))∧UL 1 (s1.1.map ak) from ⟨by first | omega | (simp only [JV];omega),UL.map aZ _⟩) (aC (Es ak s1.1 u0) (aV (DH (c:=ak) iL [] (s1.1.take u0) 16 (by decide) (by simpa using g4) rfl) (aI au x0 i0 ⟨0,[]⟩ (aV (vy (f:=ak) (l:=((x0.getD i0 ⟨0,[]⟩).Vars)) (n:=s1.2) [] aZ (by decide) (by exact g5)) (aV (DH (c:=ak) iL (s1.1.take u0) [(((x0.getD i0 ⟨0,[]⟩).Vars).getD s1.2.toNat [])] 16 (by decide) (by simpa using g6) List.map_append.symm) (aC (show ((0:Int)≤((u0:Nat):Int)∧((u0:Nat):Int)≤((s1.1.map ak).length:Int)∧((s1.1.map ak).length:Int)≤((s1.1.map ak).length:Int))∧UL 1 (s1.1.map ak) from ⟨by first | omega | (simp only [JV];omega),UL.map aZ _⟩) (aC (Ep ak s1.1 u0) (aV (wB (c:=ak) iL ((s1.1.take u0)++[(((x0.getD i0 ⟨0,[]⟩).Vars).getD s1.2.toNat [])]) (s1.1.drop u0) 16 (by decide) (by simpa using g7)) (aC (ya 9 1 ak ((s1.1.take u0)++[(((x0.getD i0 ⟨0,[]⟩).Vars).getD s1.2.toNat [])]) (s1.1.drop u0)) aN)))))))))))
          ·obtain rfl:=sI H19;exact pB 3 [.eqT 65 (.bool false)] [.only [0,2,3,4,5] [84]] (lE x0 i0 s1 s1.1) (aB c13 aN)
         ·obtain rfl:=sI H17;exact pB 1 [r0 [.v,.w,.v]] [.only [0,2,3,4,5] [84]] (lI x0 i0 (v1,(aS (s1.2+1)))) aN
      ·have c5p:=JQ c5;obtain rfl:=sI H6;obtain rfl:=eL h8;exact pB 6 [r0 [.v,.v,.v,.e (.dptr (ab (x0.getD i0 ⟨0,[]⟩))),.v,.v,.e (iI ((((x0.getD i0 ⟨0,[]⟩).Vars).length:Nat):Int)),.v],.eqT 23 (.bool false)] [.only [0,2,3,4] [84]] (pq x0 i0 s1.1) (aI au x0 i0 ⟨0,[]⟩ (aT (aC (aK ak ((x0.getD i0 ⟨0,[]⟩).Vars)) (aB c5 aN))))
    ·subst e2;have H25:=bT H4;refine bn 0 (ps:=[(x0.map ab).length≤9223372036854775807]) (by kernel_rfl) (fun l2 => ?_);have l3:x0.length≤9223372036854775807:=by simpa only [bt,JV] using l2
     clear l2;obtain rfl:=sI H25;exact pB 1 [V3] [.only [0,2,3,4] [84]] (lA x0 (i0+1) u1) (aH i0 aN)
  ·subst e0;have H26:=bT H3;refine cK H26 fun e5 => ?_;subst e5;exact pR 3 [V2] [.fz 84] [] aN
 ·obtain rfl:=sI H2;exact pR 12 [V1,V1,r0 [.v,.c true (.bool y0),.v],.eqT 9 (.bool true),V1] [.wk 2 []] [] (aC Tryz.call14 (aF (bu _ _ h0) (aT (aM c1 aN))))
def o8 (x0:ah):Option Linear :=
 some (Linear.mk 0 [(Coef.mk x0 1)])
theorem Ao (x0:ah) (r:Linear) (H:o8 x0=some r):bI Tryz.prog 37 [.str x0] (.agg [iI r.Const,dS be r.Terms]):=by unfold o8 at H;refine aX Tryz.func37 7 [.cell 2 32] ?_;obtain rfl:=sI H;exact pR 5 [r0 [.m],r0 [.v,.b,.b,.b,.m]] [] [] aN
def jo (x0 x1:List aa) (x2:Int):Option (List aa) :=
 bZ (x0.length*32≤140737488355328) <|
 (cL (σ:=(List aa)) (ε:=(List aa)) (ρ:=Empty) (fun i0 s0 =>
  (bP s0 (aa.mk (aS (x2*((x1.getD i0 ⟨0,[]⟩).Coef))) ((x1.getD i0 ⟨0,[]⟩).Vars))).bind fun y0 =>
  some (.go y0)
 ) (fun i0 s0=>s0) (x1.length-0) 0 x0).bind <| aftE fun u0 =>
 some u0
def kD (x1:List aa) (x2:Int) (i0:Nat) (s0:List aa):AS:=⟨34,[(1,dS ab x1),(2,iI x2),(6,.eslice),(7,dS ab s0),(8,nI i0)],[]⟩
def oH (u1:List aa):AS:=⟨34,[(6,.eslice),(7,dS ab u1)],[]⟩
theorem w4 (x0 x1:List aa) (x2:Int) (r:List aa) (H:jo x0 x1 x2=some r):bI Tryz.prog 43 [dS ab x0,dS ab x1,iI x2] (dS ab r):=by
 unfold jo at H;refine aX Tryz.func43 34 [.tmp 6] ?_;refine aY H fun g0 H0 => ?_;refine pA 8 [V1,r0 [.b,.v,.er 9 11 67 2,.ap,.rwH 11 (.row 67 2 (x0.map ab)),.v],V1] [.fz 11,.only [1,2,6,7,8] []] 8 [] (kD x1 x2 0 x0) (aV (wB (c:=ab) fN [] x0 32 (by decide) (by simpa using g0)) (aC (Je 67 2 ab x0) aN)) ?_;refine aU H0 fun R0 h0 H1 => ?_;refine pJ 1 (oH) R0 ?_ (fun u0 e0 => ?_)
 ·refine pC (kD x1 x2) h0 (fun i0 s0 h1 e1 => ?_) (fun i0 s0 h2 q0 h3 h4 => ?_)
  ·have c0:=lF i0 x1.length (by omega);subst e1;exact pB 5 [r0 [.v,.v,.e (nI x1.length),.e (.bool false)]] [.only [6,7] []] (oH s0) (aT (aC (aK ab x1) (aB c0 aN)))
  ·have c1:=lT i0 x1.length (by omega);refine aU h3 fun y0 h5 H2 => ?_;refine bn 1 (ps:=[(x1.map ab).length≤9223372036854775807]) (by kernel_rfl) (fun l0 => ?_);have l1:x1.length≤9223372036854775807:=by simpa only [bt,JV] using l0
   clear l0;obtain rfl:=sI H2;exact pB 9 [r0 [.v,.v,.e (nI x1.length),.e (.bool true)],.rg 14 (V 4 [.e (.dptr (ab (x1.getD i0 ⟨0,[]⟩))),.v,.v,.w,.v,.v,.e (.dptr (ab (x1.getD i0 ⟨0,[]⟩))),.v,.v,.b]) [.c true (dS ab y0),.v],V3] [.only [1,2,6,7,8] []] (kD x1 x2 (i0+1) y0) (aT (aC (aK ab x1) (aB c1 (aI au x1 i0 ⟨0,[]⟩ (aI au x1 i0 ⟨0,[]⟩ (aC Tryz.call66 (aF (gO _ _ _ h5) (aH i0 aN))))))))
 ·subst e0;have H3:=bT H1;refine cK H3 fun e2 => ?_;subst e2;exact pR 3 [V2] [] [] aN
def fM (x0 x1:List aa):Option ((List aa)×Int) :=
 (cV x0).bind fun y0 =>
 bif y0 then (
  (cV x1).bind fun y1 =>
  bif y1 then (
   (jo x0 x1 1).bind fun y2 =>
   (ct y2).bind fun y3 =>
   some (y3.1,y3.2)
  ) else (
   some ([],1)
  )
 ) else (
  some ([],1)
 )
theorem te (x0 x1:List aa) (r:(List aa)×Int) (H:fM x0 x1=some r):bI Tryz.prog 16 [dS ab x0,dS ab x1] (.tup [dS ab r.1,iI r.2]):=by
 unfold fM at H;refine aX Tryz.func16 20 [.tmp 4,.tmp 5] ?_;refine aU H fun y0 h0 H0 => ?_;refine a7 H0 (fun c0 H1 => ?_) (fun c1 H2 => ?_)
 ·refine aU H1 fun y1 h1 H3 => ?_;refine a7 H3 (fun c2 H4 => ?_) (fun c3 H5 => ?_)
  ·refine aU H4 fun y2 h2 H6 => ?_;refine aU H6 fun y3 h3 H7 => ?_;obtain rfl:=sI H7;exact pR 11 [V2,r0 [.v,.c true (.bool true),.v,.v,.v,.c true (.bool y1),.v,.v],.eqT 13 (.bool false),r0 [.v,.v,.c true (dS ab y2),.c true (.tup [dS ab y3.1,iI y3.2]),.v,.v,.v,.v]] [] [] (aC Tryz.call14 (aC (bI.eq (bu _ _ h0) (cB c0)) (aT (aC Tryz.call14 (aF (bu _ _ h1) (aT (aM c2 (aC Tryz.call43 (aF (w4 _ _ _ _ h2) (aC Tryz.call42 (aF (gg _ _ h3) aN)))))))))))
  ·obtain rfl:=sI H5;exact pR 10 [V2,r0 [.v,.c true (.bool true),.v,.v,.v,.c true (.bool y1),.v,.v],.eqT 13 (.bool true),V2] [.wk 4 []] [] (aC Tryz.call14 (aC (bI.eq (bu _ _ h0) (cB c0)) (aT (aC Tryz.call14 (aF (bu _ _ h1) (aT (aM c3 aN)))))))
 ·obtain rfl:=sI H2;exact pR 9 [V2,r0 [.v,.c true (.bool false),.v,.v,.s,.s,.s,.v],V2] [.wk 4 []] [] (aC Tryz.call14 (aC (bI.eq (bu _ _ h0) (cB c1)) (aT aN)))
def fv (x0:List aa) (x1:List Bind):Option ((List aa)×Int) :=
 (cV x0).bind fun y0 =>
 bif y0 then (
  (gh x0).bind fun y1 =>
  (cL (σ:=(List (List aa))) (ε:=(List (List aa))) (ρ:=((List aa)×Int)) (fun i0 s0 =>
   (o8 (y1.getD i0 [])).bind fun y2 =>
   (mC (σ:=(Int×Int×(List Coef))) (ε:=(Int×(List Coef))) (ρ:=Empty) (fun s1 =>
    bif decide (s1.1≥0) then (
     bZ (0≤s1.1∧s1.1<(x1.length:Int)) <|
     ((
      bif (((x1.getD s1.1.toNat (⟨0,[],⟨0,[]⟩,⟨[],[]⟩,[]⟩)).Kind)==1) then (
       some (((x1.getD s1.1.toNat (⟨0,[],⟨0,[]⟩,⟨[],[]⟩,[]⟩)).Var)==(y1.getD i0 []))
      ) else (
       some false
      )
     ):Option Bool).bind fun v0 =>
     ((
      bif v0 then (
       some ((((x1.getD s1.1.toNat (⟨0,[],⟨0,[]⟩,⟨[],[]⟩,[]⟩)).Dim).Const),(((x1.getD s1.1.toNat (⟨0,[],⟨0,[]⟩,⟨[],[]⟩,[]⟩)).Dim).Terms))
      ) else (
       some (s1.2.1,s1.2.2)
      )
     ):Option (Int×(List Coef))).bind fun v1 =>
     some (.go ((aS (s1.1-1)),v1.1,v1.2))
    ) else (
     some (.brk (s1.2.1,s1.2.2))
    )
   ) 4294967296 ((aS (((x1.length:Nat):Int)-1)),y2.Const,y2.Terms)).bind <| aftE fun u0 =>
   (eS (Linear.mk u0.1 u0.2)).bind fun y3 =>
   bif (y3.2==0) then (
    bZ ((s0.length+1)*24≤140737488355328) <|
    some (.go (s0++[y3.1]))
   ) else (
    some (.ret ([],y3.2))
   )
  ) (fun i0 s0=>s0) (y1.length-0) 0 []).bind <| aft fun u1 =>
  (cL (σ:=(List aa)) (ε:=(List aa)) (ρ:=((List aa)×Int)) (fun i1 s2 =>
   (dj ((x0.getD i1 ⟨0,[]⟩).Coef)).bind fun y4 =>
   (mC (σ:=((List aa)×Int)) (ε:=(List aa)) (ρ:=(ff (List aa) (List aa) ((List aa)×Int))) (fun s3 =>
    bif decide (s3.2<((((x0.getD i1 ⟨0,[]⟩).Vars).length:Nat):Int)) then (
     (mC (σ:=Int) (ε:=Int) (ρ:=Empty) (fun s4 =>
      bZ (0≤s4∧s4<(y1.length:Int)) <|
      bZ (0≤s3.2∧s3.2<(((x0.getD i1 ⟨0,[]⟩).Vars).length:Int)) <|
      bif ((y1.getD s4.toNat [])==(((x0.getD i1 ⟨0,[]⟩).Vars).getD s3.2.toNat [])) then (
       some (.brk s4)
      ) else (
       some (.go (aS (s4+1)))
      )
     ) 4294967296 0).bind <| aftE fun u2 =>
     bZ (0≤u2∧u2<(u1.length:Int)) <|
     bZ (u2.toNat<u1.length) <|
     (eI s3.1 (u1.getD u2.toNat [])).bind fun y5 =>
     bif (y5.2==0) then (
      some (.go (y5.1,(aS (s3.2+1))))
     ) else (
      some (.ret (.ret ([],y5.2)))
     )
    ) else (
     some (.brk s3.1)
    )
   ) 4294967296 (y4.1,0)).bind <| aft fun u3 =>
   (fM s2 u3).bind fun y6 =>
   bif (y6.2==0) then (
    some (.go y6.1)
   ) else (
    some (.ret ([],y6.2))
   )
  ) (fun i1 s2=>s2) (x0.length-0) 0 []).bind <| aft fun u4 =>
  some (u4,0)
 ) else (
  some ([],1)
 )
def kf (x0:List aa) (x1:List Bind) (y1:List ah) (i0:Nat) (s0:List (List aa)):AS:=⟨145,[(0,dS ab x0),(1,dS cm x1),(4,.eslice),(5,iI 0),(6,dS ak y1),(7,.rslice 80),(8,nI i0)],[(80,.row 24 1 (s0.map aq))]⟩
def oE (x0:List aa) (y1:List ah) (u5:List (List aa)):AS:=⟨145,[(0,dS ab x0),(4,.eslice),(5,iI 0),(6,dS ak y1),(7,.rslice 80)],[(80,.row 24 1 (u5.map aq))]⟩
def j4 (x0:List aa) (x1:List Bind) (y1:List ah) (i0:Nat) (s0:List (List aa)) (s1:Int×Int×(List Coef)):AS:=⟨145,[(0,dS ab x0),(1,dS cm x1),(4,.eslice),(5,iI 0),(6,dS ak y1),(7,.rslice 80),(8,nI i0),(9,.hptr 9 0),(10,iI s1.1)],[(9,.cells 32 [iI s1.2.1,dS be s1.2.2]),(80,.row 24 1 (s0.map aq))]⟩
def nM (x0:List aa) (x1:List Bind) (y1:List ah) (i0:Nat) (s0:List (List aa)) (u6:Int×(List Coef)):AS:=⟨145,[(0,dS ab x0),(1,dS cm x1),(4,.eslice),(5,iI 0),(6,dS ak y1),(7,.rslice 80),(8,nI i0),(9,.hptr 9 0)],[(9,.cells 32 [iI u6.1,dS be u6.2]),(80,.row 24 1 (s0.map aq))]⟩
def ke (x0:List aa) (x1:List Bind) (y1:List ah) (i0:Nat) (s0:List (List aa)) (s1:Int×Int×(List Coef)) (v0:Bool):AS:=⟨145,[(0,dS ab x0),(1,dS cm x1),(4,.eslice),(5,iI 0),(6,dS ak y1),(7,.rslice 80),(8,nI i0),(9,.hptr 9 0),(10,iI s1.1),(63,.bool v0)],[(9,.cells 32 [iI s1.2.1,dS be s1.2.2]),(80,.row 24 1 (s0.map aq))]⟩
def kh (x0:List aa) (x1:List Bind) (y1:List ah) (i0:Nat) (s0:List (List aa)) (s1:Int×Int×(List Coef)) (v1:Int×(List Coef)):AS:=⟨145,[(0,dS ab x0),(1,dS cm x1),(4,.eslice),(5,iI 0),(6,dS ak y1),(7,.rslice 80),(8,nI i0),(9,.hptr 9 0),(10,iI s1.1)],[(9,.cells 32 [iI v1.1,dS be v1.2]),(80,.row 24 1 (s0.map aq))]⟩
def jU (x0:List aa) (y1:List ah) (u1:List (List aa)) (i1:Nat) (s2:List aa):AS:=⟨145,[(0,dS ab x0),(4,.eslice),(5,iI 0),(6,dS ak y1),(7,.rslice 80),(13,dS ab s2),(14,nI i1)],[(80,.row 24 1 (u1.map aq))]⟩
def og (u7:List aa):AS:=⟨145,[(4,.eslice),(5,iI 0),(13,dS ab u7)],[]⟩
def ko (x0:List aa) (y1:List ah) (u1:List (List aa)) (i1:Nat) (s2:List aa) (s3:(List aa)×Int):AS:=⟨145,[(0,dS ab x0),(4,.eslice),(5,iI 0),(6,dS ak y1),(7,.rslice 80),(13,dS ab s2),(14,nI i1),(15,dS ab s3.1),(17,iI s3.2)],[(80,.row 24 1 (u1.map aq))]⟩
def nA (x0:List aa) (y1:List ah) (u1:List (List aa)) (i1:Nat) (s2 u8:List aa):AS:=⟨145,[(0,dS ab x0),(4,.eslice),(5,iI 0),(6,dS ak y1),(7,.rslice 80),(13,dS ab s2),(14,nI i1),(15,dS ab u8)],[(80,.row 24 1 (u1.map aq))]⟩
def jw (x0:List aa) (y1:List ah) (u1:List (List aa)) (i1:Nat) (s2:List aa) (s3:(List aa)×Int) (s4:Int):AS:=⟨145,[(0,dS ab x0),(4,.eslice),(5,iI 0),(6,dS ak y1),(7,.rslice 80),(13,dS ab s2),(14,nI i1),(15,dS ab s3.1),(17,iI s3.2),(18,iI s4)],[(80,.row 24 1 (u1.map aq))]⟩
def ny (x0:List aa) (y1:List ah) (u1:List (List aa)) (i1:Nat) (s2:List aa) (s3:(List aa)×Int) (u9:Int):AS:=⟨145,[(0,dS ab x0),(4,.eslice),(5,iI 0),(6,dS ak y1),(7,.rslice 80),(13,dS ab s2),(14,nI i1),(15,dS ab s3.1),(17,iI s3.2),(18,iI u9)],[(80,.row 24 1 (u1.map aq))]⟩
theorem wY (x0:List aa) (x1:List Bind) (r:(List aa)×Int) (H:fv x0 x1=some r):bI Tryz.prog 12 [dS ab x0,dS cm x1] (.tup [dS ab r.1,iI r.2]):=by
 unfold fv at H;refine aX Tryz.func12 145 [.tmp 4,.tmp 5] ?_;refine aU H fun y0 h0 H0 => ?_;refine a7 H0 (fun c0 H1 => ?_) (fun c1 H2 => ?_)
 ·refine aU H1 fun y1 h1 H3 => ?_;refine pA 16 [V2,r0 [.v,.c true (.bool y0),.v],.eqT 25 (.bool false),r0 [.v,.c true (dS ak y1),.v],V1,V1] [.er 7 80 24 1,.only [0,1,4,5,6,7,8] [80]] 15 [false] (kf x0 x1 y1 0 []) (aC Tryz.call14 (aF (bu _ _ h0) (aT (aM c0 (aC Tryz.call17 (aF (yy _ _ h1) aN)))))) ?_;refine aU H3 fun R0 h2 H4 => ?_;refine pJ 1 (oE x0 y1) R0 ?_ (fun u1 e0 => ?_)
  ·refine pC (kf x0 x1 y1) h2 (fun i0 s0 h3 e1 => ?_) (fun i0 s0 h4 q0 h5 h6 => ?_)
   ·have c2:=lF i0 y1.length (by omega);subst e1;exact pB 5 [r0 [.v,.v,.e (nI y1.length),.e (.bool false)]] [.only [0,4,5,6,7] [80]] (oE x0 y1 s0) (aT (aC (aK ak y1) (aB c2 aN)))
   ·have c3:=lT i0 y1.length (by omega);refine aU h5 fun y2 h7 H5 => ?_;refine pA 13 [r0 [.v,.v,.e (nI y1.length),.e (.bool true)],r0 [.v,.v,.e (.dptr [.str (y1.getD i0 [])]),.v,.c true (.agg [iI y2.Const,dS be y2.Terms]),.m,.m],r0 [.v,.e (nI x1.length),.w,.v]] [.only [0,1,4,5,6,7,8,9,10] [9,80]] 13 [true] (j4 x0 x1 y1 i0 s0 ((aS (((x1.length:Nat):Int)-1)),y2.Const,y2.Terms)) (aT (aC (aK ak y1) (aB c3 (aI aZ y1 i0 [] (aC Tryz.call37 (aF (Ao _ _ h7) (aT (aC (aK cm x1) aN)))))))) ?_;refine aU H5 fun R1 h8 H6 => ?_;refine pJ 1 (nM x0 x1 y1 i0 s0) R1 ?_ (fun u0 e2 => ?_)
    ·refine pr (j4 x0 x1 y1 i0 s0) (by kernel_rfl) h8 (fun s1 q1 h9 h10 => ?_)
     ·refine a7 h9 (fun c4 H7 => ?_) (fun c5 H8 => ?_)
      ·have c4p:=JR c4;refine aY H7 fun g0 H9 => ?_;refine pA 9 [V2,.eqT 43 (.bool true)] [.only [0,1,4,5,6,7,8,9,10] [9,80]] 8 [true] ⟨145,[(0,dS ab x0),(1,dS cm x1),(4,.eslice),(5,iI 0),(6,dS ak y1),(7,.rslice 80),(8,nI i0),(9,.hptr 9 0),(10,iI s1.1)],[(9,.cells 32 [iI s1.2.1,dS be s1.2.2]),(80,.row 24 1 (s0.map aq))]⟩ (aB c4 aN) ?_;refine aU H9 fun v0 h11 H10 => ?_;refine dd 0 (ke x0 x1 y1 i0 s0 s1 v0) (by kernel_rfl) ?_ ?_
       ·refine a7 h11 (fun c6 H11 => ?_) (fun c7 H12 => ?_)
        ·obtain rfl:=sI H11;exact pB 1 [.rg 16 [.v,.v,.e (.dptr (cm (x1.getD s1.1.toNat (⟨0,[],⟨0,[]⟩,⟨[],[]⟩,[]⟩)))),.v,.v,.e (.bool true),.v,.v,.v,.e (.dptr (cm (x1.getD s1.1.toNat (⟨0,[],⟨0,[]⟩,⟨[],[]⟩,[]⟩)))),.v,.v,.v,.v,.e (.dptr [.str (y1.getD i0 [])]),.v] [.v,.v]] [.only [0,1,4,5,6,7,8,9,10,63] [9,80]] (ke x0 x1 y1 i0 s0 s1 (((x1.getD s1.1.toNat (⟨0,[],⟨0,[]⟩,⟨[],[]⟩,[]⟩)).Var)==(y1.getD i0 []))) (aV (vy (f:=cm) (l:=x1) (n:=s1.1) (⟨0,[],⟨0,[]⟩,⟨[],[]⟩,[]⟩) ig (by decide) (by exact g0)) (aB c6 (aV (vy (f:=cm) (l:=x1) (n:=s1.1) (⟨0,[],⟨0,[]⟩,⟨[],[]⟩,[]⟩) ig (by decide) (by exact g0)) (aI aZ y1 i0 [] aN))))
        ·obtain rfl:=sI H12;exact pB 1 [.rg 16 [.v,.v,.e (.dptr (cm (x1.getD s1.1.toNat (⟨0,[],⟨0,[]⟩,⟨[],[]⟩,[]⟩)))),.v,.v,.e (.bool false),.v,.s,.s,.s,.s,.s,.s,.s,.s,.s] [.s,.v]] [.only [0,1,4,5,6,7,8,9,10,63] [9,80]] (ke x0 x1 y1 i0 s0 s1 false) (aV (vy (f:=cm) (l:=x1) (n:=s1.1) (⟨0,[],⟨0,[]⟩,⟨[],[]⟩,[]⟩) ig (by decide) (by exact g0)) (aB c7 aN))
       ·refine aU H10 fun v1 h12 H13 => ?_;refine dd 1 (kh x0 x1 y1 i0 s0 s1 v1) (by kernel_rfl) ?_ ?_
        ·refine a7 h12 (fun c8 H14 => ?_) (fun c9 H15 => ?_)
         ·obtain rfl:=sI H14;exact pB 3 [.eqT 63 (.bool true),r0 [.v,.v,.e (.dptr (cm (x1.getD s1.1.toNat (⟨0,[],⟨0,[]⟩,⟨[],[]⟩,[]⟩)))),.v,.v,.m]] [.only [0,1,4,5,6,7,8,9,10] [9,80]] (kh x0 x1 y1 i0 s0 s1 ((((x1.getD s1.1.toNat (⟨0,[],⟨0,[]⟩,⟨[],[]⟩,[]⟩)).Dim).Const),(((x1.getD s1.1.toNat (⟨0,[],⟨0,[]⟩,⟨[],[]⟩,[]⟩)).Dim).Terms))) (aB c8 (aV (vy (f:=cm) (l:=x1) (n:=s1.1) (⟨0,[],⟨0,[]⟩,⟨[],[]⟩,[]⟩) ig (by decide) (by exact g0)) aN))
         ·obtain rfl:=sI H15;exact pB 3 [.eqT 63 (.bool false)] [.only [0,1,4,5,6,7,8,9,10] [9,80]] (kh x0 x1 y1 i0 s0 s1 (s1.2.1,s1.2.2)) (aB c9 aN)
        ·obtain rfl:=sI H13;exact pB 1 [r0 [.v,.w,.v]] [.only [0,1,4,5,6,7,8,9,10] [9,80]] (j4 x0 x1 y1 i0 s0 ((aS (s1.1-1)),v1.1,v1.2)) aN
      ·obtain rfl:=sI H8;obtain rfl:=eL h10;exact pB 6 [V2,.eqT 43 (.bool false)] [.only [0,1,4,5,6,7,8,9] [9,80]] (nM x0 x1 y1 i0 s0 (s1.2.1,s1.2.2)) (aB c5 aN)
    ·subst e2;have H16:=bT H6;refine aU H16 fun y3 h13 H17 => ?_;refine a7 H17 (fun c10 H18 => ?_) (fun c11 H19 => ?_)
     ·refine aY H18 fun g1 H20 => ?_;refine bn 6 (ps:=[(y1.map ak).length≤9223372036854775807]) (by kernel_rfl) (fun l0 => ?_);have l1:y1.length≤9223372036854775807:=by simpa only [bt,JV] using l0
      clear l0;obtain rfl:=sI H20;exact pB 10 [r0 [.v,.c true (.tup [dS ab y3.1,iI y3.2]),.v,.v,.v,.v,.v],V2,.eqT 75 (.bool false),r0 [.v,.v,.b,.ap,.rwH 80 (.row 24 1 ((s0++[y3.1]).map aq)),.v],V3] [.only [0,1,4,5,6,7,8] [80]] (kf x0 x1 y1 (i0+1) (s0++[y3.1])) (aC Tryz.call31 (aF (pX _ _ h13) (aM c10 (aV (wB (c:=aq) nt s0 [y3.1] 24 (by decide) (by simpa using g1)) (aC (ya 24 1 aq s0 [y3.1]) (aH i0 aN))))))
     ·obtain rfl:=sI H19;obtain rfl:=aA h6;obtain rfl:=sI (ao H4);exact pR 10 [r0 [.v,.c true (.tup [dS ab y3.1,iI y3.2]),.v,.v,.v,.v,.v],V2,.eqT 75 (.bool true),V3] [.wk 4 []] [] (aC Tryz.call31 (aF (pX _ _ h13) (aM c11 aN)))
  ·subst e0;have H21:=aW H4;refine pA 6 [V1,V1] [.wk 13 [],.only [0,4,5,6,7,13,14] [80]] 6 [] (jU x0 y1 u1 0 []) aN ?_;refine aU H21 fun R2 h14 H22 => ?_;refine pJ 1 (og) R2 ?_ (fun u4 e3 => ?_)
   ·refine pC (jU x0 y1 u1) h14 (fun i1 s2 h15 e4 => ?_) (fun i1 s2 h16 q2 h17 h18 => ?_)
    ·have c12:=lF i1 x0.length (by omega);subst e4;exact pB 5 [r0 [.v,.v,.e (nI x0.length),.e (.bool false)]] [.only [4,5,13] []] (og s2) (aT (aC (aK ab x0) (aB c12 aN)))
    ·have c13:=lT i1 x0.length (by omega);refine aU h17 fun y4 h19 H23 => ?_;refine pA 13 [r0 [.v,.v,.e (nI x0.length),.e (.bool true)],r0 [.v,.v,.e (.dptr (ab (x0.getD i1 ⟨0,[]⟩))),.v,.v,.c true (.tup [dS ab y4.1,iI y4.2]),.v,.v,.v,.v,.v],V1] [.only [0,4,5,6,7,13,14,15,17] [80]] 13 [true] (ko x0 y1 u1 i1 s2 (y4.1,0)) (aT (aC (aK ab x0) (aB c13 (aI au x0 i1 ⟨0,[]⟩ (aC Tryz.call30 (aF (nW _ _ h19) aN)))))) ?_;refine aU H23 fun R3 h20 H24 => ?_;refine pJ 1 (nA x0 y1 u1 i1 s2) R3 ?_ (fun u3 e5 => ?_)
     ·refine pr (ko x0 y1 u1 i1 s2) (by kernel_rfl) h20 (fun s3 q3 h21 h22 => ?_)
      ·refine a7 h21 (fun c14 H25 => ?_) (fun c15 H26 => ?_)
       ·have c14p:=JR c14;refine pA 12 [r0 [.v,.v,.v,.e (.dptr (ab (x0.getD i1 ⟨0,[]⟩))),.v,.v,.e (iI ((((x0.getD i1 ⟨0,[]⟩).Vars).length:Nat):Int)),.v],.eqT 103 (.bool true),V1] [.only [0,4,5,6,7,13,14,15,17,18] [80]] 11 [true] (jw x0 y1 u1 i1 s2 s3 0) (aI au x0 i1 ⟨0,[]⟩ (aT (aC (aK ak ((x0.getD i1 ⟨0,[]⟩).Vars)) (aB c14 aN)))) ?_;refine aU H25 fun R4 h23 H27 => ?_;refine pJ 1 (ny x0 y1 u1 i1 s2 s3) R4 ?_ (fun u2 e6 => ?_)
        ·refine pr (jw x0 y1 u1 i1 s2 s3) (by kernel_rfl) h23 (fun s4 q4 h24 h25 => ?_)
         ·refine aY h24 fun g2 H28 => ?_;refine aY H28 fun g3 H29 => ?_;refine pA 3 [.rg 12 [.v,.v,.e (.dptr [.str (y1.getD s4.toNat [])]),.v,.v,.v,.e (.dptr (ab (x0.getD i1 ⟨0,[]⟩))),.v,.v,.v,.e (.dptr [.str (((x0.getD i1 ⟨0,[]⟩).Vars).getD s3.2.toNat [])]),.v] [.v]] [.only [0,4,5,6,7,13,14,15,17,18,118] [80]] 3 [] ⟨145,[(0,dS ab x0),(4,.eslice),(5,iI 0),(6,dS ak y1),(7,.rslice 80),(13,dS ab s2),(14,nI i1),(15,dS ab s3.1),(17,iI s3.2),(18,iI s4),(118,.bool (!((y1.getD s4.toNat [])==(((x0.getD i1 ⟨0,[]⟩).Vars).getD s3.2.toNat []))))],[(80,.row 24 1 (u1.map aq))]⟩ (aV (vy (f:=ak) (l:=y1) (n:=s4) [] aZ (by decide) (by exact g2)) (aI au x0 i1 ⟨0,[]⟩ (aV (vy (f:=ak) (l:=((x0.getD i1 ⟨0,[]⟩).Vars)) (n:=s3.2) [] aZ (by decide) (by exact g3)) aN))) ?_;refine a7 H29 (fun c16 H30 => ?_) (fun c17 H31 => ?_)
          ·obtain rfl:=sI H30;obtain rfl:=eL h25;exact pB 3 [.eqT 118 (.bool false)] [.only [0,4,5,6,7,13,14,15,17,18] [80]] (ny x0 y1 u1 i1 s2 s3 s4) (aM c16 aN)
          ·obtain rfl:=sI H31;exact pB 5 [.eqT 118 (.bool true),r0 [.v,.w,.v]] [.only [0,4,5,6,7,13,14,15,17,18] [80]] (jw x0 y1 u1 i1 s2 s3 (aS (s4+1))) (aM c17 aN)
        ·subst e6;have H32:=bT H27;refine aY H32 fun g4 H33 => ?_;refine aY H33 fun g5 H34 => ?_;refine aU H34 fun y5 h26 H35 => ?_;refine pA 5 [r0 (V 4 [.rl u2.toNat 0 (.dslice ((u1.getD u2.toNat []).map ab)),.c true (.tup [dS ab y5.1,iI y5.2]),.v,.v,.v,.v,.v]),V2] [.only [0,4,5,6,7,13,14,15,17,19,20,131] [80]] 5 [] ⟨145,[(0,dS ab x0),(4,.eslice),(5,iI 0),(6,dS ak y1),(7,.rslice 80),(13,dS ab s2),(14,nI i1),(15,dS ab s3.1),(17,iI s3.2),(19,dS ab y5.1),(20,iI y5.2),(131,.bool (y5.2 != 0))],[(80,.row 24 1 (u1.map aq))]⟩ (aC (show (0:Int)≤u2∧u2<((u1.map aq).length:Int) from by rw [JV];exact g4) (aC (HW (f:=aq) (l:=u1) (n:=u2.toNat) 1 0 1 (by omega) (by decide)) (aC (IK (f:=aq) (l:=u1) (n:=u2.toNat) [] 0 (by omega)) (aC Tryz.call32 (aF (td _ _ _ h26) aN))))) ?_;refine a7 H35 (fun c18 H36 => ?_) (fun c19 H37 => ?_)
         ·obtain rfl:=sI H36;exact pB 5 [.eqT 131 (.bool false),V2,r0 [.v,.w,.v]] [.only [0,4,5,6,7,13,14,15,17] [80]] (ko x0 y1 u1 i1 s2 (y5.1,(aS (s3.2+1)))) (aM c18 aN)
         ·obtain rfl:=sI H37;obtain rfl:=aA h22;obtain rfl:=sI (ao H24);obtain rfl:=aA h18;obtain rfl:=sI (ao H22);exact pR 5 [.eqT 131 (.bool true),V3] [.wk 4 []] [] (aM c19 aN)
       ·have c15p:=JQ c15;obtain rfl:=sI H26;obtain rfl:=eL h22;exact pB 6 [r0 [.v,.v,.v,.e (.dptr (ab (x0.getD i1 ⟨0,[]⟩))),.v,.v,.e (iI ((((x0.getD i1 ⟨0,[]⟩).Vars).length:Nat):Int)),.v],.eqT 103 (.bool false)] [.only [0,4,5,6,7,13,14,15] [80]] (nA x0 y1 u1 i1 s2 s3.1) (aI au x0 i1 ⟨0,[]⟩ (aT (aC (aK ak ((x0.getD i1 ⟨0,[]⟩).Vars)) (aB c15 aN))))
     ·subst e5;have H38:=aW H24;refine aU H38 fun y6 h27 H39 => ?_;refine a7 H39 (fun c20 H40 => ?_) (fun c21 H41 => ?_)
      ·refine bn 0 (ps:=[(x0.map ab).length≤9223372036854775807]) (by kernel_rfl) (fun l2 => ?_);have l3:x0.length≤9223372036854775807:=by simpa only [bt,JV] using l2
       clear l2;obtain rfl:=sI H40;exact pB 10 [r0 [.v,.v,.c true (.tup [dS ab y6.1,iI y6.2]),.v,.v,.v,.v,.v],V2,.eqT 141 (.bool false),V2,V3] [.only [0,4,5,6,7,13,14] [80]] (jU x0 y1 u1 (i1+1) y6.1) (aC Tryz.call16 (aF (te _ _ _ h27) (aM c20 (aH i1 aN))))
      ·obtain rfl:=sI H41;obtain rfl:=aA h18;obtain rfl:=sI (ao H22);exact pR 10 [r0 [.v,.v,.c true (.tup [dS ab y6.1,iI y6.2]),.v,.v,.v,.v,.v],V2,.eqT 141 (.bool true),V3] [.wk 4 []] [] (aC Tryz.call16 (aF (te _ _ _ h27) (aM c21 aN)))
   ·subst e3;have H42:=aW H22;obtain rfl:=sI H42;exact pR 3 [V3] [] [] aN
 ·obtain rfl:=sI H2;exact pR 10 [V2,r0 [.v,.c true (.bool y0),.v],.eqT 25 (.bool true),V2] [.wk 4 []] [] (aC Tryz.call14 (aF (bu _ _ h0) (aT (aM c1 aN))))
def de (x0 x1:List ah):Option Bool :=
 bif (((x0.length:Nat):Int)==((x1.length:Nat):Int)) then (
  (cL (σ:=Unit) (ε:=Unit) (ρ:=Bool) (fun i0 s0 =>
   bZ (i0<x1.length) <|
   bif ((x0.getD i0 [])==(x1.getD i0 [])) then (
    some (.go ())
   ) else (
    some (.ret false)
   )
  ) (fun i0 s0=>()) (x0.length-0) 0 ()).bind <| aft fun u0 =>
  some true
 ) else (
  some false
 )
def gq (x0 x1:List ah) (i0:Nat) (s0:Unit):AS:=⟨26,[(0,dS ak x0),(1,dS ak x1),(4,.bool false),(5,nI i0)],[]⟩
def kb (u1:Unit):AS:=⟨26,[(4,.bool false)],[]⟩
theorem qi (x0 x1:List ah) (r:Bool) (H:de x0 x1=some r):bI Tryz.prog 38 [dS ak x0,dS ak x1] (.bool r):=by
 unfold de at H;refine aX Tryz.func38 26 [.tmp 4] ?_;refine a7 H (fun c0 H0 => ?_) (fun c1 H1 => ?_)
 ·refine pA 12 [.rg 0 [] [.v],.rg 0 [] [.v,.e (.int .i64 ((x0.length:Nat):Int)),.v,.e (.int .i64 ((x1.length:Nat):Int)),.v],.eqT 10 (.bool false),.rg 0 [] [.v]] [.only [0,1,4,5] []] 11 [false] (gq x0 x1 0 ()) (aT (aC (aK ak x0) (aT (aC (aK ak x1) (aM c0 aN))))) ?_;refine aU H0 fun R0 h0 H2 => ?_;refine pJ 1 (kb) R0 ?_ (fun u0 e0 => ?_)
  ·refine pC (gq x0 x1) h0 (fun i0 s0 h1 e1 => ?_) (fun i0 s0 h2 q0 h3 h4 => ?_)
   ·have c2:=lF i0 x0.length (by omega);subst e1;exact pB 5 [r0 [.v,.v,.e (nI x0.length),.e (.bool false)]] [.only [4] []] (kb ()) (aT (aC (aK ak x0) (aB c2 aN)))
   ·have c3:=lT i0 x0.length (by omega);refine aY h3 fun g0 H3 => ?_;refine pA 9 [r0 [.v,.v,.e (nI x0.length),.e (.bool true)],.rg 8 [.v,.v,.e (.dptr [.str (x0.getD i0 [])]),.v,.v,.v,.e (.dptr [.str (x1.getD i0 [])]),.v] [.v]] [.only [0,1,4,5,25] []] 9 [true] ⟨26,[(0,dS ak x0),(1,dS ak x1),(4,.bool false),(5,nI i0),(25,.bool (!((x0.getD i0 [])==(x1.getD i0 []))))],[]⟩ (aT (aC (aK ak x0) (aB c3 (aI aZ x0 i0 [] (aI aZ x1 i0 [] aN))))) ?_;refine a7 H3 (fun c4 H4 => ?_) (fun c5 H5 => ?_)
    ·refine bn 0 (ps:=[(x0.map ak).length≤9223372036854775807]) (by kernel_rfl) (fun l0 => ?_);have l1:x0.length≤9223372036854775807:=by simpa only [bt,JV] using l0
     clear l0;obtain rfl:=sI H4;exact pB 4 [.eqT 25 (.bool false),V3] [.only [0,1,4,5] []] (gq x0 x1 (i0+1) ()) (aM c4 (aH i0 aN))
    ·obtain rfl:=sI H5;obtain rfl:=aA h4;obtain rfl:=sI (ao H2);exact pR 5 [.eqT 25 (.bool true),V1] [] [] (aM c5 aN)
  ·subst e0;have H6:=aW H2;obtain rfl:=sI H6;exact pR 3 [V1] [] [] aN
 ·obtain rfl:=sI H1;exact pR 10 [V1,r0 [.v,.e (nI x0.length),.v,.e (nI x1.length),.v],.eqT 10 (.bool true),V1] [] [] (aT (aC (aK ak x0) (aT (aC (aK ak x1) (aM c1 aN)))))
end Go.Proofs.YtadjhpbkknifeaaGreatDoor
