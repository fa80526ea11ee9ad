/- What functions of the program compute, walked: each as a plain function, with the theorem that the code computes it wherever that answers. Printed by a program, part 2. -/
import Derived.Test.YtadjhpbkknifeaaGreatDoorWkaPolyValues
set_option linter.unusedSimpArgs false
set_option linter.unusedVariables false
namespace Go.Proofs.YtadjhpbkknifeaaGreatDoor
open Go.RowKit Go.Ab Go.Sh
def iw (x0:ai):Option Bool :=
 bif (((x0.length:Nat):Int)==0) then (
  some false
 ) else (
  bif decide (((x0.length:Nat):Int)>30) then (
   some false
  ) else (
   bR (0<x0.length) <|
   bif (((x0.getD 0 0).toNat:Int)==95) then (
    bif decide (((x0.length:Nat):Int)<2) then (
     some false
    ) else (
     bif decide (((x0.length:Nat):Int)>10) then (
      some false
     ) else (
      bR (1<x0.length) <|
      bif (((x0.getD 1 0).toNat:Int)==48) then (
       some false
      ) else (
       (cV (σ:=Unit) (ε:=Unit) (ρ:=Bool) (fun i0 s0 =>
        (gG (x0.getD i0 0)).bind fun y0 =>
        bif y0 then (
         some (.go ())
        ) else (
         some (.ret false)
        )
       ) (fun i0 s0=>()) (x0.length-1) 1 ()).bind <| aft fun u0 =>
       some true
      )
     )
    )
   ) else (
    (cV (σ:=Unit) (ε:=Unit) (ρ:=Bool) (fun i1 s1 =>
     (gW (x0.getD i1 0)).bind fun y1 =>
     ((
      bif y1 then (
       some (.brk ())
      ) else (
       bif (((i1:Nat):Int)==0) then (
        some (.ret (.ret false))
       ) else (
        (gG (x0.getD i1 0)).bind fun y2 =>
        bif y2 then (
         some (.brk ())
        ) else (
         some (.ret (.ret false))
        )
       )
      )
     ):Option (Out Unit (eM Unit Unit Bool))).bind (aft fun u1 =>
      some (.go ())
     )
    ) (fun i1 s1=>()) (x0.length-0) 0 ()).bind <| aft fun u2 =>
    some true
   )
  )
 )
def lV (x0:ai) (i0:Nat) (s0:Unit):AS:=⟨62,[(0,.str x0),(2,.bool false),(3,nI i0)],[]⟩
def pK (x0:ai) (u3:Unit):AS:=⟨62,[(0,.str x0),(2,.bool false)],[]⟩
def lH (x0:ai) (i1:Nat) (s1:Unit):AS:=⟨62,[(0,.str x0),(2,.bool false),(4,nI i1)],[]⟩
def pD (u4:Unit):AS:=⟨62,[(2,.bool false)],[]⟩
def la (x0:ai) (i1:Nat) (u1:Unit):AS:=⟨62,[(0,.str x0),(2,.bool false),(4,nI i1)],[]⟩
theorem dX (x0:ai) (r:Bool) (H:iw x0=some r):bF Tryz.prog 40 [.str x0] (.bool r):=by
 unfold iw at H;refine aX Tryz.func40 62 [.tmp 2] ?_;refine a7 H (fun c0 H0 => ?_) (fun c1 H1 => ?_)
 ·obtain rfl:=sI H0;exact pR 9 [V1,r0 [.v,.v,.e (.bool true),.v,.s,.s,.s,.v],V1] [] [] (aT (aB c0 aN))
 ·refine a7 H1 (fun c2 H2 => ?_) (fun c3 H3 => ?_)
  ·obtain rfl:=sI H2;exact pR 10 [V1,r0 [.v,.v,.e (.bool false),.v,.v,.v,.v,.v],.eqT 12 (.bool true),V1] [] [] (aT (aB c1 (aT (aB c2 aN))))
  ·have c3p:=KL c3;refine aR H3 fun g0 H4 => ?_;refine a7 H4 (fun c4 H5 => ?_) (fun c5 H6 => ?_)
   ·refine a7 H5 (fun c6 H7 => ?_) (fun c7 H8 => ?_)
    ·have c6p:=KM c6;obtain rfl:=sI H7;exact pR 20 [V1,r0 [.v,.v,.e (.bool false),.v,.v,.v,.v,.v],.eqT 12 (.bool false),V3,.eqT 15 (.bool true),r0 [.v,.v,.e (.bool true),.v,.s,.s,.s,.v,.v,.s,.s,.s,.v],V1] [] [] (aT (aB c1 (aT (aB c3 (aC (show (0:Int)≤0∧0<(x0.length:Int) from by omega) (aB c4 (aT (aB c6 aN))))))))
    ·have c7p:=KL c7;refine a7 H8 (fun c8 H9 => ?_) (fun c9 H10 => ?_)
     ·have c8p:=KM c8;obtain rfl:=sI H9;exact pR 20 [V1,r0 [.v,.v,.e (.bool false),.v,.v,.v,.v,.v],.eqT 12 (.bool false),V3,.eqT 15 (.bool true),r0 [.v,.v,.e (.bool false),.v,.v,.v,.e (.bool true),.v,.v,.s,.s,.s,.v],V1] [] [] (aT (aB c1 (aT (aB c3 (aC (show (0:Int)≤0∧0<(x0.length:Int) from by omega) (aB c4 (aT (aB c7 (aT (aB c8 aN))))))))))
     ·have c9p:=KL c9;refine aR H10 fun g1 H11 => ?_;refine pA 16 [V1,r0 [.v,.v,.e (.bool false),.v,.v,.v,.v,.v],.eqT 12 (.bool false),V3,.eqT 15 (.bool true),r0 [.v,.v,.e (.bool false),.v,.v,.v,.e (.bool false),.v,.v,.v,.v,.v,.v]] [.only [0,2,28] []] 14 [false,true] ⟨62,[(0,.str x0),(2,.bool false),(28,.bool (((x0.getD 1 0).toNat:Int)==48))],[]⟩ (aT (aB c1 (aT (aB c3 (aC (show (0:Int)≤0∧0<(x0.length:Int) from by omega) (aB c4 (aT (aB c7 (aT (aB c9 (aC (show (0:Int)≤1∧1<(x0.length:Int) from by omega) aN))))))))))) ?_;refine a7 H11 (fun c10 H12 => ?_) (fun c11 H13 => ?_)
      ·obtain rfl:=sI H12;exact pR 5 [.eqT 28 (.bool true),V1] [] [] (aB c10 aN)
      ·refine pA 7 [.eqT 28 (.bool false),.rg 0 [] [.v]] [.only [0,2,3] []] 6 [false] (lV x0 1 ()) (aB c11 aN) ?_;refine aS H13 fun R0 h0 H14 => ?_;refine pJ 1 (pK x0) R0 ?_ (fun u0 e0 => ?_)
       ·refine pC (lV x0) h0 (fun i0 s0 h1 e1 => ?_) (fun i0 s0 h2 q0 h3 h4 => ?_)
        ·have c12:=lF i0 x0.length (by omega);subst e1;exact pB 5 [r0 [.v,.v,.v,.e (.bool false)]] [.only [0,2] []] (pK x0 ()) (aT (aB c12 aN))
        ·have c13:=lT i0 x0.length (by omega);refine aS h3 fun y0 h5 H15 => ?_;refine a7 H15 (fun c14 H16 => ?_) (fun c15 H17 => ?_)
         ·refine bB 0 (ps:=[x0.length≤9223372036854775807]) (by kernel_rfl) (fun l0 => ?_);have l1:x0.length≤9223372036854775807:=by simpa only [br,KP] using l0
          clear l0;obtain rfl:=sI H16;exact pB 13 [r0 [.v,.v,.v,.e (.bool true)],r0 [.v,.v,.v,.c true (.bool y0),.v],.eqT 39 (.bool false),V3] [.only [0,2,3] []] (lV x0 (i0+1) ()) (aT (aB c13 (aC (show (0:Int)≤((i0:Nat):Int)∧((i0:Nat):Int)<(x0.length:Int) from by omega) (aC Tryz.call71 (aF (lS _ _ h5) (aT (aM c14 (aH i0 aN))))))))
         ·obtain rfl:=sI H17;obtain rfl:=aG h4;obtain rfl:=sI (ao H14);exact pR 14 [r0 [.v,.v,.v,.e (.bool true)],r0 [.v,.v,.v,.c true (.bool y0),.v],.eqT 39 (.bool true),V1] [] [] (aT (aB c13 (aC (show (0:Int)≤((i0:Nat):Int)∧((i0:Nat):Int)<(x0.length:Int) from by omega) (aC Tryz.call71 (aF (lS _ _ h5) (aT (aM c15 aN)))))))
       ·subst e0;have H18:=a8 H14;obtain rfl:=sI H18;exact pR 3 [V1] [] [] aN
   ·refine pA 18 [.rg 0 [] [.v],.rg 0 [] [.v,.v,.e (.bool false),.v,.v,.v,.v,.v],.eqT 12 (.bool false),.rg 0 [] [.v,.v,.v],.eqT 15 (.bool false),.rg 0 [] [.v]] [.only [0,2,4] []] 16 [false,false] (lH x0 0 ()) (aT (aB c1 (aT (aB c3 (aC (show (0:Int)≤0∧0<(x0.length:Int) from by omega) (aB c5 aN)))))) ?_;refine aS H6 fun R1 h6 H19 => ?_;refine pJ 1 (pD) R1 ?_ (fun u2 e2 => ?_)
    ·refine pC (lH x0) h6 (fun i1 s1 h7 e3 => ?_) (fun i1 s1 h8 q1 h9 h10 => ?_)
     ·have c16:=lF i1 x0.length (by omega);subst e3;exact pB 5 [r0 [.v,.v,.v,.e (.bool false)]] [.only [2] []] (pD ()) (aT (aB c16 aN))
     ·have c17:=lT i1 x0.length (by omega);refine aS h9 fun y1 h11 H20 => ?_;refine pA 8 [r0 [.v,.v,.v,.e (.bool true)]] [.only [0,2,4] []] 8 [true] ⟨62,[(0,.str x0),(2,.bool false),(4,nI i1)],[]⟩ (aT (aB c17 aN)) ?_;refine aS H20 fun v0 h12 H21 => ?_;refine pJ 2 (la x0 i1) v0 ?_ (fun u1 e4 => ?_)
      ·refine a7 h12 (fun c18 H22 => ?_) (fun c19 H23 => ?_)
       ·obtain rfl:=sI H22;exact pB 3 [r0 [.v,.v,.v,.c true (.bool true),.v,.v,.s,.s,.s,.s,.s,.s,.s,.s,.s,.v]] [.only [0,2,4] []] (la x0 i1 ()) (aC (show (0:Int)≤((i1:Nat):Int)∧((i1:Nat):Int)<(x0.length:Int) from by omega) (aC Tryz.call72 (aC (bF.eq (kE _ _ h11) (cB c18)) (aT aN))))
       ·refine a7 H23 (fun c20 H24 => ?_) (fun c21 H25 => ?_)
        ·obtain rfl:=sI H24;obtain rfl:=sI (ao H21);obtain rfl:=aG h10;obtain rfl:=sI (ao H19);exact pR 5 [r0 [.v,.v,.v,.c true (.bool false),.v,.v,.v,.e (.bool true),.v,.s,.s,.s,.s,.s,.v,.v],V1] [] [] (aC (show (0:Int)≤((i1:Nat):Int)∧((i1:Nat):Int)<(x0.length:Int) from by omega) (aC Tryz.call72 (aC (bF.eq (kE _ _ h11) (cB c19)) (aT (aB c20 aN)))))
        ·refine aS H25 fun y2 h13 H26 => ?_;refine pA 1 [r0 [.v,.v,.v,.c true (.bool false),.v,.v,.v,.e (.bool false),.v,.v,.v,.v,.c true (.bool y2),.v,.v,.v]] [.only [0,2,4,61] []] 1 [] ⟨62,[(0,.str x0),(2,.bool false),(4,nI i1),(61,.bool (!y2))],[]⟩ (aC (show (0:Int)≤((i1:Nat):Int)∧((i1:Nat):Int)<(x0.length:Int) from by omega) (aC Tryz.call72 (aC (bF.eq (kE _ _ h11) (cB c19)) (aT (aB c21 (aC (show (0:Int)≤((i1:Nat):Int)∧((i1:Nat):Int)<(x0.length:Int) from by omega) (aC Tryz.call71 (aF (lS _ _ h13) (aT aN))))))))) ?_;refine a7 H26 (fun c22 H27 => ?_) (fun c23 H28 => ?_)
         ·obtain rfl:=sI H27;exact pB 3 [.eqT 61 (.bool false)] [.only [0,2,4] []] (la x0 i1 ()) (aM c22 aN)
         ·obtain rfl:=sI H28;obtain rfl:=sI (ao H21);obtain rfl:=aG h10;obtain rfl:=sI (ao H19);exact pR 5 [.eqT 61 (.bool true),V1] [] [] (aM c23 aN)
      ·subst e4;have H29:=a8 H21;refine bB 0 (ps:=[x0.length≤9223372036854775807]) (by kernel_rfl) (fun l2 => ?_);have l3:x0.length≤9223372036854775807:=by simpa only [br,KP] using l2
       clear l2;obtain rfl:=sI H29;exact pB 1 [V3] [.only [0,2,4] []] (lH x0 (i1+1) ()) (aH i1 aN)
    ·subst e2;have H30:=a8 H19;obtain rfl:=sI H30;exact pR 3 [V1] [] [] aN
def cZ (x0 x1:List ai):Option Int :=
 (cV (σ:=Unit) (ε:=Unit) (ρ:=Int) (fun i0 s0 =>
  bif decide (((i0:Nat):Int)<((x1.length:Nat):Int)) then (
   bif (Op.bytesLess (x0.getD i0 []) (x1.getD i0 [])) then (
    some (.ret (-1))
   ) else (
    bif (Op.bytesLess (x0.getD i0 []) (x1.getD i0 [])||(x0.getD i0 [])==(x1.getD i0 [])) then (
     some (.go ())
    ) else (
     some (.ret 1)
    )
   )
  ) else (
   some (.brk ())
  )
 ) (fun i0 s0=>()) (x0.length-0) 0 ()).bind <| aft fun u0 =>
 some (aW (((x0.length:Nat):Int)-((x1.length:Nat):Int)))
def kF (x0 x1:List ai) (i0:Nat) (s0:Unit):AS:=⟨41,[(0,dS aj x0),(1,dS aj x1),(4,iI 0),(5,nI i0)],[]⟩
def kv (x0 x1:List ai) (u1:Unit):AS:=⟨41,[(0,dS aj x0),(1,dS aj x1),(4,iI 0)],[]⟩
theorem lK (x0 x1:List ai) (r:Int) (H:cZ x0 x1=some r):bF Tryz.prog 39 [dS aj x0,dS aj x1] (iI r):=by
 unfold cZ at H;refine aX Tryz.func39 41 [.tmp 4] ?_;refine pA 6 [V1,V1] [.only [0,1,4,5] []] 6 [] (kF x0 x1 0 ()) aN ?_;refine aS H fun R0 h0 H0 => ?_;refine pJ 1 (kv x0 x1) R0 ?_ (fun u0 e0 => ?_)
 ·refine pC (kF x0 x1) h0 (fun i0 s0 h1 e1 => ?_) (fun i0 s0 h2 q0 h3 h4 => ?_)
  ·have c0:=lF i0 x0.length (by omega);subst e1;exact pB 5 [r0 [.v,.v,.e (nI x0.length),.e (.bool false),.v,.s,.s,.s,.s,.v]] [.only [0,1,4] []] (kv x0 x1 ()) (aT (aC (aV aj x0) (aB c0 aN)))
  ·have c1:=lT i0 x0.length (by omega);refine a7 h3 (fun c2 H1 => ?_) (fun c3 H2 => ?_)
   ·have c2p:=KM c2;refine pA 11 [r0 [.v,.v,.e (nI x0.length),.e (.bool true),.v,.v,.v,.e (nI x1.length),.v,.v],.eqT 15 (.bool true),.rg 8 [.v,.v,.e (.dptr [.str (x0.getD i0 [])]),.v,.v,.v,.e (.dptr [.str (x1.getD i0 [])]),.v] [.v]] [.only [0,1,4,5,26] []] 10 [true] ⟨41,[(0,dS aj x0),(1,dS aj x1),(4,iI 0),(5,nI i0),(26,.bool (Op.bytesLess (x0.getD i0 []) (x1.getD i0 [])))],[]⟩ (aT (aC (aV aj x0) (aB c1 (aT (aC (aV aj x1) (aB c2 (aI bb x0 i0 [] (aI bb x1 i0 [] aN)))))))) ?_;refine a7 H1 (fun c4 H3 => ?_) (fun c5 H4 => ?_)
    ·obtain rfl:=sI H3;obtain rfl:=aG h4;obtain rfl:=sI (ao H0);exact pR 5 [.eqT 26 (.bool true),V1] [] [] (aB c4 aN)
    ·refine a7 H4 (fun c6 H5 => ?_) (fun c7 H6 => ?_)
     ·refine bB 0 (ps:=[(x0.map aj).length≤9223372036854775807]) (by kernel_rfl) (fun l0 => ?_);have l1:x0.length≤9223372036854775807:=by simpa only [br,KP] using l0
      clear l0;obtain rfl:=sI H5;exact pB 9 [.eqT 26 (.bool false),.rg 8 [.v,.v,.e (.dptr [.str (x0.getD i0 [])]),.v,.v,.v,.e (.dptr [.str (x1.getD i0 [])]),.v] [.v],.eqT 35 (.bool false),V3] [.only [0,1,4,5] []] (kF x0 x1 (i0+1) ()) (aB c5 (aI bb x0 i0 [] (aI bb x1 i0 [] (aM c6 (aH i0 aN)))))
     ·obtain rfl:=sI H6;obtain rfl:=aG h4;obtain rfl:=sI (ao H0);exact pR 10 [.eqT 26 (.bool false),.rg 8 [.v,.v,.e (.dptr [.str (x0.getD i0 [])]),.v,.v,.v,.e (.dptr [.str (x1.getD i0 [])]),.v] [.v],.eqT 35 (.bool true),V1] [] [] (aB c5 (aI bb x0 i0 [] (aI bb x1 i0 [] (aM c7 aN))))
   ·obtain rfl:=sI H2;obtain rfl:=eT h4;exact pB 6 [r0 [.v,.v,.e (nI x0.length),.e (.bool true),.v,.v,.v,.e (nI x1.length),.v,.v],.eqT 15 (.bool false)] [.only [0,1,4] []] (kv x0 x1 ()) (aT (aC (aV aj x0) (aB c1 (aT (aC (aV aj x1) (aB c3 aN))))))
 ·subst e0;have H7:=a8 H0;obtain rfl:=sI H7;exact pR 3 [r0 [.v,.e (nI x0.length),.v,.e (nI x1.length),.w,.v]] [] [] (aT (aC (aV aj x0) (aT (aC (aV aj x1) aN))))
def cz (x0:List aa):Option Bool :=
 bif decide (((x0.length:Nat):Int)>60) then (
  some false
 ) else (
  (cV (σ:=Unit) (ε:=Unit) (ρ:=Bool) (fun i0 s0 =>
   ((
    bif (((x0.getD i0 ⟨0,[]⟩).Coef)==0) then (
     some (.ret (.ret false))
    ) else (
     bif decide (((x0.getD i0 ⟨0,[]⟩).Coef)<(-1099511627776)) then (
      some (.ret (.ret false))
     ) else (
      bif decide (((x0.getD i0 ⟨0,[]⟩).Coef)>1099511627776) then (
       some (.ret (.ret false))
      ) else (
       bif decide (((((x0.getD i0 ⟨0,[]⟩).Vars).length:Nat):Int)>8) then (
        some (.ret (.ret false))
       ) else (
        bif decide (((i0:Nat):Int)>0) then (
         bR (0≤(aW (((i0:Nat):Int)-1))∧(aW (((i0:Nat):Int)-1))<(x0.length:Int)) <|
         (cZ ((x0.getD (aW (((i0:Nat):Int)-1)).toNat ⟨0,[]⟩).Vars) ((x0.getD i0 ⟨0,[]⟩).Vars)).bind fun y0 =>
         bif decide (y0≥0) then (
          some (.ret (.ret false))
         ) else (
          some (.brk ())
         )
        ) else (
         some (.brk ())
        )
       )
      )
     )
    )
   ):Option (Out Unit (eM Unit Unit Bool))).bind (aft fun u0 =>
    (cV (σ:=Unit) (ε:=Unit) (ρ:=(eM Unit Unit Bool)) (fun i1 s1 =>
     (iw (((x0.getD i0 ⟨0,[]⟩).Vars).getD i1 [])).bind fun y1 =>
     ((
      bif y1 then (
       bif decide (((i1:Nat):Int)>0) then (
        bR (0≤(aW (((i1:Nat):Int)-1))∧(aW (((i1:Nat):Int)-1))<(((x0.getD i0 ⟨0,[]⟩).Vars).length:Int)) <|
        bif (Op.bytesLess (((x0.getD i0 ⟨0,[]⟩).Vars).getD (aW (((i1:Nat):Int)-1)).toNat []) (((x0.getD i0 ⟨0,[]⟩).Vars).getD i1 [])||(((x0.getD i0 ⟨0,[]⟩).Vars).getD (aW (((i1:Nat):Int)-1)).toNat [])==(((x0.getD i0 ⟨0,[]⟩).Vars).getD i1 [])) then (
         some (.brk ())
        ) else (
         some (.ret (.ret (.ret false)))
        )
       ) else (
        some (.brk ())
       )
      ) else (
       some (.ret (.ret (.ret false)))
      )
     ):Option (Out Unit (eM Unit Unit (eM Unit Unit Bool)))).bind (aft fun u1 =>
      some (.go ())
     )
    ) (fun i1 s1=>()) (((x0.getD i0 ⟨0,[]⟩).Vars).length-0) 0 ()).bind <| aft fun u2 =>
    some (.go ())
   )
  ) (fun i0 s0=>()) (x0.length-0) 0 ()).bind <| aft fun u3 =>
  some true
 )
def kq (x0:List aa) (i0:Nat) (s0:Unit):AS:=⟨86,[(0,dS ab x0),(2,.bool false),(3,nI i0)],[]⟩
def nW (u4:Unit):AS:=⟨86,[(2,.bool false)],[]⟩
def kB (x0:List aa) (i0:Nat) (u0:Unit):AS:=⟨86,[(0,dS ab x0),(2,.bool false),(3,nI i0),(4,.hptr 4 0)],[(4,.cells 67 [iI ((x0.getD i0 ⟨0,[]⟩).Coef),.dslice (((x0.getD i0 ⟨0,[]⟩).Vars).map aj)])]⟩
def ki (x0:List aa) (i0 i1:Nat) (s1:Unit):AS:=⟨86,[(0,dS ab x0),(2,.bool false),(3,nI i0),(4,.hptr 4 0),(5,nI i1)],[(4,.cells 67 [iI ((x0.getD i0 ⟨0,[]⟩).Coef),.dslice (((x0.getD i0 ⟨0,[]⟩).Vars).map aj)])]⟩
def oK (x0:List aa) (i0:Nat) (u5:Unit):AS:=⟨86,[(0,dS ab x0),(2,.bool false),(3,nI i0)],[]⟩
def km (x0:List aa) (i0 i1:Nat) (u1:Unit):AS:=⟨86,[(0,dS ab x0),(2,.bool false),(3,nI i0),(4,.hptr 4 0),(5,nI i1)],[(4,.cells 67 [iI ((x0.getD i0 ⟨0,[]⟩).Coef),.dslice (((x0.getD i0 ⟨0,[]⟩).Vars).map aj)])]⟩
theorem a6 (x0:List aa) (r:Bool) (H:cz x0=some r):bF Tryz.prog 14 [dS ab x0] (.bool r):=by
 unfold cz at H;refine aX Tryz.func14 86 [.tmp 2] ?_;refine a7 H (fun c0 H0 => ?_) (fun c1 H1 => ?_)
 ·obtain rfl:=sI H0;exact pR 10 [V1,r0 [.v,.e (nI x0.length),.v],.eqT 8 (.bool true),V1] [] [] (aT (aC (aV ab x0) (aB c0 aN)))
 ·have c1p:=KL c1;refine pA 12 [V1,r0 [.v,.e (nI x0.length),.v],.eqT 8 (.bool false),V1] [.only [0,2,3] []] 11 [false] (kq x0 0 ()) (aT (aC (aV ab x0) (aB c1 aN))) ?_;refine aS H1 fun R0 h0 H2 => ?_;refine pJ 1 (nW) R0 ?_ (fun u3 e0 => ?_)
  ·refine pC (kq x0) h0 (fun i0 s0 h1 e1 => ?_) (fun i0 s0 h2 q0 h3 h4 => ?_)
   ·have c2:=lF i0 x0.length (by omega);subst e1;exact pB 5 [r0 [.v,.v,.e (nI x0.length),.e (.bool false)]] [.only [2] []] (nW ()) (aT (aC (aV ab x0) (aB c2 aN)))
   ·have c3:=lT i0 x0.length (by omega);refine pA 11 [r0 [.v,.v,.e (nI x0.length),.e (.bool true)],r0 [.v,.v,.e (.dptr (ab (x0.getD i0 ⟨0,[]⟩))),.v,.m,.m]] [.only [0,2,3,4] [4]] 11 [true] ⟨86,[(0,dS ab x0),(2,.bool false),(3,nI i0),(4,.hptr 4 0)],[(4,.cells 67 (ab (x0.getD i0 ⟨0,[]⟩)))]⟩ (aT (aC (aV ab x0) (aB c3 (aI aw x0 i0 ⟨0,[]⟩ aN)))) ?_;refine aS h3 fun v0 h5 H3 => ?_;refine pJ 1 (kB x0 i0) v0 ?_ (fun u0 e2 => ?_)
    ·refine a7 h5 (fun c4 H4 => ?_) (fun c5 H5 => ?_)
     ·obtain rfl:=sI H4;obtain rfl:=sI (ao H3);obtain rfl:=aG h4;obtain rfl:=sI (ao H2);exact pR 5 [.rg 31 [.v,.v,.e (.bool true),.v,.s,.s,.s,.v,.v,.s,.s,.s,.v,.v,.s,.s,.s,.s,.v,.v,.s,.s,.s,.s,.s,.s,.s,.s,.s,.s,.s] [.s,.s,.s,.v],V1] [] [] (aB c4 aN)
     ·refine a7 H5 (fun c6 H6 => ?_) (fun c7 H7 => ?_)
      ·obtain rfl:=sI H6;obtain rfl:=sI (ao H3);obtain rfl:=aG h4;obtain rfl:=sI (ao H2);exact pR 5 [.rg 31 [.v,.v,.e (.bool false),.v,.v,.v,.e (.bool true),.v,.v,.s,.s,.s,.v,.v,.s,.s,.s,.s,.v,.v,.s,.s,.s,.s,.s,.s,.s,.s,.s,.s,.s] [.s,.s,.s,.v],V1] [] [] (aB c5 (aB c6 aN))
      ·refine a7 H7 (fun c8 H8 => ?_) (fun c9 H9 => ?_)
       ·obtain rfl:=sI H8;obtain rfl:=sI (ao H3);obtain rfl:=aG h4;obtain rfl:=sI (ao H2);exact pR 5 [.rg 31 [.v,.v,.e (.bool false),.v,.v,.v,.e (.bool false),.v,.v,.v,.v,.e (.bool true),.v,.v,.s,.s,.s,.s,.v,.v,.s,.s,.s,.s,.s,.s,.s,.s,.s,.s,.s] [.s,.s,.s,.v],V1] [] [] (aB c5 (aB c7 (aB c8 aN)))
       ·refine a7 H9 (fun c10 H10 => ?_) (fun c11 H11 => ?_)
        ·obtain rfl:=sI H10;obtain rfl:=sI (ao H3);obtain rfl:=aG h4;obtain rfl:=sI (ao H2);exact pR 5 [.rg 31 [.v,.v,.e (.bool false),.v,.v,.v,.e (.bool false),.v,.v,.v,.v,.e (.bool false),.v,.v,.v,.v,.e (iI ((((x0.getD i0 ⟨0,[]⟩).Vars).length:Nat):Int)),.e (.bool true),.v,.v,.s,.s,.s,.s,.s,.s,.s,.s,.s,.s,.s] [.s,.s,.s,.v],V1] [] [] (aB c5 (aB c7 (aB c9 (aT (aC (aV aj ((x0.getD i0 ⟨0,[]⟩).Vars)) (aB c10 aN))))))
        ·refine a7 H11 (fun c12 H12 => ?_) (fun c13 H13 => ?_)
         ·refine aR H12 fun g0 H14 => ?_;refine aS H14 fun y0 h6 H15 => ?_;refine pA 1 [.rg 31 [.v,.v,.e (.bool false),.v,.v,.v,.e (.bool false),.v,.v,.v,.v,.e (.bool false),.v,.v,.v,.v,.e (iI ((((x0.getD i0 ⟨0,[]⟩).Vars).length:Nat):Int)),.e (.bool false),.v,.v,.v,.e (.bool true),.v,.v,.v,.w,.e (.dptr (ab (x0.getD (aW (((i0:Nat):Int)-1)).toNat ⟨0,[]⟩))),.v,.v,.v,.v] [.c true (iI y0),.v,.v,.v]] [.only [0,2,3,4,53] [4]] 1 [] ⟨86,[(0,dS ab x0),(2,.bool false),(3,nI i0),(4,.hptr 4 0),(53,.bool (decide (y0≥0)))],[(4,.cells 67 (ab (x0.getD i0 ⟨0,[]⟩)))]⟩ (aB c5 (aB c7 (aB c9 (aT (aC (aV aj ((x0.getD i0 ⟨0,[]⟩).Vars)) (aB c11 (aB c12 (aJ (xv (f:=ab) (l:=x0) (n:=(aW (((i0:Nat):Int)-1))) ⟨0,[]⟩ aw (by decide) (by exact g0)) (aC Tryz.call39 (aF (lK _ _ _ h6) aN)))))))))) ?_;refine a7 H15 (fun c14 H16 => ?_) (fun c15 H17 => ?_)
          ·obtain rfl:=sI H16;obtain rfl:=sI (ao H3);obtain rfl:=aG h4;obtain rfl:=sI (ao H2);exact pR 5 [.eqT 53 (.bool true),V1] [] [] (aB c14 aN)
          ·obtain rfl:=sI H17;exact pB 3 [.eqT 53 (.bool false)] [.only [0,2,3,4] [4]] (kB x0 i0 ()) (aB c15 aN)
         ·obtain rfl:=sI H13;exact pB 3 [.rg 31 [.v,.v,.e (.bool false),.v,.v,.v,.e (.bool false),.v,.v,.v,.v,.e (.bool false),.v,.v,.v,.v,.e (iI ((((x0.getD i0 ⟨0,[]⟩).Vars).length:Nat):Int)),.e (.bool false),.v,.v,.v,.e (.bool false),.v,.s,.s,.s,.s,.s,.s,.s,.s] [.s,.s,.v,.v]] [.only [0,2,3,4] [4]] (kB x0 i0 ()) (aB c5 (aB c7 (aB c9 (aT (aC (aV aj ((x0.getD i0 ⟨0,[]⟩).Vars)) (aB c11 (aB c13 aN)))))))
    ·subst e2;have H18:=a8 H3;refine pA 3 [V1] [.only [0,2,3,4,5] [4]] 3 [] (ki x0 i0 0 ()) aN ?_;refine aS H18 fun R1 h7 H19 => ?_;refine pJ 2 (oK x0 i0) R1 ?_ (fun u2 e3 => ?_)
     ·refine pC (ki x0 i0) h7 (fun i1 s1 h8 e4 => ?_) (fun i1 s1 h9 q1 h10 h11 => ?_)
      ·have c16:=lF i1 (((x0.getD i0 ⟨0,[]⟩).Vars).length) (by omega);subst e4;exact pB 5 [r0 [.v,.v,.v,.e (iI ((((x0.getD i0 ⟨0,[]⟩).Vars).length:Nat):Int)),.e (.bool false)]] [.only [0,2,3] []] (oK x0 i0 ()) (aT (aC (aV aj ((x0.getD i0 ⟨0,[]⟩).Vars)) (aB c16 aN)))
      ·have c17:=lT i1 (((x0.getD i0 ⟨0,[]⟩).Vars).length) (by omega);refine aS h10 fun y1 h12 H20 => ?_;refine pA 8 [r0 [.v,.v,.v,.e (iI ((((x0.getD i0 ⟨0,[]⟩).Vars).length:Nat):Int)),.e (.bool true)]] [.only [0,2,3,4,5] [4]] 8 [true] ⟨86,[(0,dS ab x0),(2,.bool false),(3,nI i0),(4,.hptr 4 0),(5,nI i1)],[(4,.cells 67 (ab (x0.getD i0 ⟨0,[]⟩)))]⟩ (aT (aC (aV aj ((x0.getD i0 ⟨0,[]⟩).Vars)) (aB c17 aN))) ?_;refine aS H20 fun v1 h13 H21 => ?_;refine pJ 2 (km x0 i0 i1) v1 ?_ (fun u1 e5 => ?_)
       ·refine a7 h13 (fun c18 H22 => ?_) (fun c19 H23 => ?_)
        ·refine a7 H22 (fun c20 H24 => ?_) (fun c21 H25 => ?_)
         ·have c20p:=KM c20;refine aR H24 fun g1 H26 => ?_;refine pA 1 [.rg 22 [.v,.v,.v,.e (.dptr [.str (((x0.getD i0 ⟨0,[]⟩).Vars).getD i1 [])]),.v,.c true (.bool true),.v,.v,.v,.e (.bool true),.v,.v,.v,.v,.w,.e (.dptr [.str (((x0.getD i0 ⟨0,[]⟩).Vars).getD (aW (((i1:Nat):Int)-1)).toNat [])]),.v,.v,.v,.v,.e (.dptr [.str (((x0.getD i0 ⟨0,[]⟩).Vars).getD i1 [])]),.v] [.v,.v,.v]] [.only [0,2,3,4,5,85] [4]] 1 [] ⟨86,[(0,dS ab x0),(2,.bool false),(3,nI i0),(4,.hptr 4 0),(5,nI i1),(85,.bool (!(Op.bytesLess (((x0.getD i0 ⟨0,[]⟩).Vars).getD (aW (((i1:Nat):Int)-1)).toNat []) (((x0.getD i0 ⟨0,[]⟩).Vars).getD i1 [])||(((x0.getD i0 ⟨0,[]⟩).Vars).getD (aW (((i1:Nat):Int)-1)).toNat [])==(((x0.getD i0 ⟨0,[]⟩).Vars).getD i1 []))))],[(4,.cells 67 (ab (x0.getD i0 ⟨0,[]⟩)))]⟩ (aI bb (((x0.getD i0 ⟨0,[]⟩).Vars)) i1 [] (aC Tryz.call40 (aC (bF.eq (dX _ _ h12) (cB c18)) (aT (aB c20 (aJ (xv (f:=aj) (l:=((x0.getD i0 ⟨0,[]⟩).Vars)) (n:=(aW (((i1:Nat):Int)-1))) [] bb (by decide) (by exact g1)) (aI bb (((x0.getD i0 ⟨0,[]⟩).Vars)) i1 [] aN))))))) ?_;refine a7 H26 (fun c22 H27 => ?_) (fun c23 H28 => ?_)
          ·obtain rfl:=sI H27;exact pB 3 [.eqT 85 (.bool false)] [.only [0,2,3,4,5] [4]] (km x0 i0 i1 ()) (aM c22 aN)
          ·obtain rfl:=sI H28;obtain rfl:=sI (ao H21);obtain rfl:=aG h11;obtain rfl:=sI (ao H19);obtain rfl:=aG h4;obtain rfl:=sI (ao H2);exact pR 5 [.eqT 85 (.bool true),V1] [] [] (aM c23 aN)
         ·have c21p:=KL c21;obtain rfl:=sI H25;exact pB 3 [.rg 22 [.v,.v,.v,.e (.dptr [.str (((x0.getD i0 ⟨0,[]⟩).Vars).getD i1 [])]),.v,.c true (.bool true),.v,.v,.v,.e (.bool false),.v,.s,.s,.s,.s,.s,.s,.s,.s,.s,.s,.s] [.s,.v,.v]] [.only [0,2,3,4,5] [4]] (km x0 i0 i1 ()) (aI bb (((x0.getD i0 ⟨0,[]⟩).Vars)) i1 [] (aC Tryz.call40 (aC (bF.eq (dX _ _ h12) (cB c18)) (aT (aB c21 aN)))))
        ·obtain rfl:=sI H23;obtain rfl:=sI (ao H21);obtain rfl:=aG h11;obtain rfl:=sI (ao H19);obtain rfl:=aG h4;obtain rfl:=sI (ao H2);exact pR 5 [.rg 22 [.v,.v,.v,.e (.dptr [.str (((x0.getD i0 ⟨0,[]⟩).Vars).getD i1 [])]),.v,.c true (.bool false),.v,.v,.s,.s,.s,.s,.s,.s,.s,.s,.s,.s,.s,.s,.s,.s] [.s,.s,.v],V1] [] [] (aI bb (((x0.getD i0 ⟨0,[]⟩).Vars)) i1 [] (aC Tryz.call40 (aC (bF.eq (dX _ _ h12) (cB c19)) (aT aN))))
       ·subst e5;have H29:=a8 H21;refine nc 4 1 (ps:=[(((x0.getD i0 ⟨0,[]⟩).Vars).map aj).length≤9223372036854775807]) (by kernel_rfl) (fun l0 => ?_);have l1:((x0.getD i0 ⟨0,[]⟩).Vars).length≤9223372036854775807:=by simpa only [br,KP] using l0
        clear l0;obtain rfl:=sI H29;exact pB 1 [V3] [.only [0,2,3,4,5] [4]] (ki x0 i0 (i1+1) ()) (aH i1 aN)
     ·subst e3;have H30:=a8 H19;refine bB 0 (ps:=[(x0.map ab).length≤9223372036854775807]) (by kernel_rfl) (fun l2 => ?_);have l3:x0.length≤9223372036854775807:=by simpa only [br,KP] using l2
      clear l2;obtain rfl:=sI H30;exact pB 1 [V3] [.only [0,2,3] []] (kq x0 (i0+1) ()) (aH i0 aN)
  ·subst e0;have H31:=a8 H2;obtain rfl:=sI H31;exact pR 3 [V1] [] [] aN
def fO (x0:Linear) (x1:Int):Option Bool :=
 (cV (σ:=Unit) (ε:=Unit) (ρ:=Bool) (fun i0 s0 =>
  bif decide (((((x0.Terms.getD i0 ⟨[],0⟩).Var).length:Nat):Int)>40) then (
   some (.ret false)
  ) else (
   some (.go ())
  )
 ) (fun i0 s0=>()) (x0.Terms.length-0) 0 ()).bind <| aft fun u0 =>
 some (decide (((x0.Terms.length:Nat):Int)≤x1))
def mO (x0:Linear) (x1:Int) (i0:Nat) (s0:Unit):AS:=⟨26,[(1,iI x1),(2,.hptr 2 0),(4,.bool false),(5,nI i0)],[(2,.cells 32 [iI x0.Const,dS aY x0.Terms])]⟩
def rA (x0:Linear) (x1:Int) (u1:Unit):AS:=⟨26,[(1,iI x1),(2,.hptr 2 0),(4,.bool false)],[(2,.cells 32 [iI x0.Const,dS aY x0.Terms])]⟩
theorem tn (x0:Linear) (x1:Int) (r:Bool) (H:fO x0 x1=some r):bF Tryz.prog 8 [.agg [iI x0.Const,dS aY x0.Terms],iI x1] (.bool r):=by
 unfold fO at H;refine aX Tryz.func8 26 [.tmp 4] ?_;refine pA 6 [r0 [.m,.v],V1] [.only [1,2,4,5] [2]] 6 [] (mO x0 x1 0 ()) aN ?_;refine aS H fun R0 h0 H0 => ?_;refine pJ 1 (rA x0 x1) R0 ?_ (fun u0 e0 => ?_)
 ·refine pC (mO x0 x1) h0 (fun i0 s0 h1 e1 => ?_) (fun i0 s0 h2 q0 h3 h4 => ?_)
  ·have c0:=lF i0 x0.Terms.length (by omega);subst e1;exact pB 5 [r0 [.v,.v,.v,.e (nI x0.Terms.length),.e (.bool false)]] [.only [1,2,4] [2]] (rA x0 x1 ()) (aT (aC (aV aY x0.Terms) (aB c0 aN)))
  ·have c1:=lT i0 x0.Terms.length (by omega);refine pA 9 [r0 [.v,.v,.v,.e (nI x0.Terms.length),.e (.bool true)],r0 [.v,.v,.v,.e (.dptr (aY (x0.Terms.getD i0 ⟨[],0⟩))),.v,.v,.v,.v]] [.only [1,2,4,5,20] [2]] 9 [true] ⟨26,[(1,iI x1),(2,.hptr 2 0),(4,.bool false),(5,nI i0),(20,.bool (decide (((((x0.Terms.getD i0 ⟨[],0⟩).Var).length:Nat):Int)>40)))],[(2,.cells 32 [iI x0.Const,dS aY x0.Terms])]⟩ (aT (aC (aV aY x0.Terms) (aB c1 (aI eG x0.Terms i0 ⟨[],0⟩ (aT aN))))) ?_;refine a7 h3 (fun c2 H1 => ?_) (fun c3 H2 => ?_)
   ·obtain rfl:=sI H1;obtain rfl:=aG h4;obtain rfl:=sI (ao H0);exact pR 5 [.eqT 20 (.bool true),V1] [] [] (aB c2 aN)
   ·have c3p:=KL c3;refine nc 2 1 (ps:=[(x0.Terms.map aY).length≤9223372036854775807]) (by kernel_rfl) (fun l0 => ?_);have l1:x0.Terms.length≤9223372036854775807:=by simpa only [br,KP] using l0
    clear l0;obtain rfl:=sI H2;exact pB 4 [.eqT 20 (.bool false),V3] [.only [1,2,4,5] [2]] (mO x0 x1 (i0+1) ()) (aB c3 (aH i0 aN))
 ·subst e0;have H3:=a8 H0;obtain rfl:=sI H3;exact pR 3 [r0 [.v,.v,.e (nI x0.Terms.length),.v,.v,.v]] [] [] (aT (aC (aV aY x0.Terms) aN))
def gI (x0:Int):Option Bool :=
 bif decide (x0≥(-1000000)) then (
  some (decide (x0≤1000000))
 ) else (
  some false
 )
theorem fg (x0:Int) (r:Bool) (H:gI x0=some r):bF Tryz.prog 41 [iI x0] (.bool r):=by
 unfold gI at H;refine aX Tryz.func41 9 [.tmp 2] ?_;refine a7 H (fun c0 H0 => ?_) (fun c1 H1 => ?_)
 ·obtain rfl:=sI H0;exact pR 5 [V1,r0 [.v,.e (.bool true),.v,.v,.v,.v,.v]] [] [] (aB c0 aN)
 ·obtain rfl:=sI H1;exact pR 5 [V1,r0 [.v,.e (.bool false),.v,.s,.s,.v,.v]] [] [] (aB c1 aN)
def fA (x0:Linear):Option Bool :=
 (gI x0.Const).bind fun y0 =>
 bif y0 then (
  bif decide (((x0.Terms.length:Nat):Int)>12) then (
   some false
  ) else (
   (cV (σ:=Unit) (ε:=Unit) (ρ:=Bool) (fun i0 s0 =>
    (iw ((x0.Terms.getD i0 ⟨[],0⟩).Var)).bind fun y1 =>
    ((
     bif y1 then (
      bif (((x0.Terms.getD i0 ⟨[],0⟩).C)==0) then (
       some (.ret (.ret false))
      ) else (
       (gI ((x0.Terms.getD i0 ⟨[],0⟩).C)).bind fun y2 =>
       bif y2 then (
        bif decide (((i0:Nat):Int)>0) then (
         bR (0≤(aW (((i0:Nat):Int)-1))∧(aW (((i0:Nat):Int)-1))<(x0.Terms.length:Int)) <|
         bif (Op.bytesLess ((x0.Terms.getD (aW (((i0:Nat):Int)-1)).toNat ⟨[],0⟩).Var) ((x0.Terms.getD i0 ⟨[],0⟩).Var)) then (
          some (.brk ())
         ) else (
          some (.ret (.ret false))
         )
        ) else (
         some (.brk ())
        )
       ) else (
        some (.ret (.ret false))
       )
      )
     ) else (
      some (.ret (.ret false))
     )
    ):Option (Out Unit (eM Unit Unit Bool))).bind (aft fun u0 =>
     some (.go ())
    )
   ) (fun i0 s0=>()) (x0.Terms.length-0) 0 ()).bind <| aft fun u1 =>
   some true
  )
 ) else (
  some false
 )
def kl (x0:Linear) (i0:Nat) (s0:Unit):AS:=⟨58,[(1,.hptr 1 0),(2,.bool false),(3,nI i0)],[(1,.cells 32 [iI x0.Const,dS aY x0.Terms])]⟩
def oN (u2:Unit):AS:=⟨58,[(2,.bool false)],[]⟩
def kj (x0:Linear) (i0:Nat) (u0:Unit):AS:=⟨58,[(1,.hptr 1 0),(2,.bool false),(3,nI i0)],[(1,.cells 32 [iI x0.Const,dS aY x0.Terms])]⟩
theorem gj (x0:Linear) (r:Bool) (H:fA x0=some r):bF Tryz.prog 15 [.agg [iI x0.Const,dS aY x0.Terms]] (.bool r):=by
 unfold fA at H;refine aX Tryz.func15 58 [.tmp 2] ?_;refine aS H fun y0 h0 H0 => ?_;refine a7 H0 (fun c0 H1 => ?_) (fun c1 H2 => ?_)
 ·refine a7 H1 (fun c2 H3 => ?_) (fun c3 H4 => ?_)
  ·obtain rfl:=sI H3;exact pR 10 [r0 [.m,.v],r0 [.v,.v,.c true (.bool true),.v,.v,.v,.v,.e (nI x0.Terms.length),.v,.v],.eqT 14 (.bool true),V1] [] [] (aC Tryz.call41 (aC (bF.eq (fg _ _ h0) (cB c0)) (aT (aT (aC (aV aY x0.Terms) (aB c2 aN))))))
  ·have c3p:=KL c3;refine pA 12 [r0 [.m,.v],r0 [.v,.v,.c true (.bool true),.v,.v,.v,.v,.e (nI x0.Terms.length),.v,.v],.eqT 14 (.bool false),V1] [.only [1,2,3] [1]] 11 [false] (kl x0 0 ()) (aC Tryz.call41 (aC (bF.eq (fg _ _ h0) (cB c0)) (aT (aT (aC (aV aY x0.Terms) (aB c3 aN)))))) ?_;refine aS H4 fun R0 h1 H5 => ?_;refine pJ 1 (oN) R0 ?_ (fun u1 e0 => ?_)
   ·refine pC (kl x0) h1 (fun i0 s0 h2 e1 => ?_) (fun i0 s0 h3 q0 h4 h5 => ?_)
    ·have c4:=lF i0 x0.Terms.length (by omega);subst e1;exact pB 5 [r0 [.v,.v,.v,.e (nI x0.Terms.length),.e (.bool false)]] [.only [2] []] (oN ()) (aT (aC (aV aY x0.Terms) (aB c4 aN)))
    ·have c5:=lT i0 x0.Terms.length (by omega);refine aS h4 fun y1 h6 H6 => ?_;refine pA 10 [r0 [.v,.v,.v,.e (nI x0.Terms.length),.e (.bool true)],r0 [.v,.v,.v,.e (.dptr (aY (x0.Terms.getD i0 ⟨[],0⟩))),.v,.m,.m]] [.only [1,2,3,4] [1,4]] 10 [true] ⟨58,[(1,.hptr 1 0),(2,.bool false),(3,nI i0),(4,.hptr 4 0)],[(1,.cells 32 [iI x0.Const,dS aY x0.Terms]),(4,.cells 62 (aY (x0.Terms.getD i0 ⟨[],0⟩)))]⟩ (aT (aC (aV aY x0.Terms) (aB c5 (aI eG x0.Terms i0 ⟨[],0⟩ aN)))) ?_;refine aS H6 fun v0 h7 H7 => ?_;refine pJ 2 (kj x0 i0) v0 ?_ (fun u0 e2 => ?_)
     ·refine a7 h7 (fun c6 H8 => ?_) (fun c7 H9 => ?_)
      ·refine a7 H8 (fun c8 H10 => ?_) (fun c9 H11 => ?_)
       ·obtain rfl:=sI H10;obtain rfl:=sI (ao H7);obtain rfl:=aG h5;obtain rfl:=sI (ao H5);exact pR 5 [.rg 28 [.v,.v,.c true (.bool true),.v,.v,.v,.v,.e (.bool true),.v,.v,.s,.s,.s,.s,.v,.v,.s,.s,.s,.s,.s,.s,.s,.s,.s,.s,.s,.s] [.s,.s,.v],V1] [] [] (aC Tryz.call40 (aC (bF.eq (dX _ _ h6) (cB c6)) (aT (aB c8 aN))))
       ·refine aS H11 fun y2 h8 H12 => ?_;refine a7 H12 (fun c10 H13 => ?_) (fun c11 H14 => ?_)
        ·refine a7 H13 (fun c12 H15 => ?_) (fun c13 H16 => ?_)
         ·refine aR H15 fun g0 H17 => ?_;refine pA 1 [.rg 28 [.v,.v,.c true (.bool true),.v,.v,.v,.v,.e (.bool false),.v,.v,.v,.v,.c true (.bool true),.v,.v,.v,.v,.e (.bool true),.v,.v,.v,.v,.w,.e (.dptr (aY (x0.Terms.getD (aW (((i0:Nat):Int)-1)).toNat ⟨[],0⟩))),.v,.v,.v,.v] [.v,.v,.v]] [.only [1,2,3,57] [1]] 1 [] ⟨58,[(1,.hptr 1 0),(2,.bool false),(3,nI i0),(57,.bool (!(Op.bytesLess ((x0.Terms.getD (aW (((i0:Nat):Int)-1)).toNat ⟨[],0⟩).Var) ((x0.Terms.getD i0 ⟨[],0⟩).Var))))],[(1,.cells 32 [iI x0.Const,dS aY x0.Terms])]⟩ (aC Tryz.call40 (aC (bF.eq (dX _ _ h6) (cB c6)) (aT (aB c9 (aC Tryz.call41 (aC (bF.eq (fg _ _ h8) (cB c10)) (aT (aB c12 (aJ (xv (f:=aY) (l:=x0.Terms) (n:=(aW (((i0:Nat):Int)-1))) ⟨[],0⟩ eG (by decide) (by exact g0)) aN))))))))) ?_;refine a7 H17 (fun c14 H18 => ?_) (fun c15 H19 => ?_)
          ·obtain rfl:=sI H18;exact pB 3 [.eqT 57 (.bool false)] [.only [1,2,3] [1]] (kj x0 i0 ()) (aM c14 aN)
          ·obtain rfl:=sI H19;obtain rfl:=sI (ao H7);obtain rfl:=aG h5;obtain rfl:=sI (ao H5);exact pR 5 [.eqT 57 (.bool true),V1] [] [] (aM c15 aN)
         ·obtain rfl:=sI H16;exact pB 3 [.rg 28 [.v,.v,.c true (.bool true),.v,.v,.v,.v,.e (.bool false),.v,.v,.v,.v,.c true (.bool true),.v,.v,.v,.v,.e (.bool false),.v,.s,.s,.s,.s,.s,.s,.s,.s,.s] [.s,.v,.v]] [.only [1,2,3] [1]] (kj x0 i0 ()) (aC Tryz.call40 (aC (bF.eq (dX _ _ h6) (cB c6)) (aT (aB c9 (aC Tryz.call41 (aC (bF.eq (fg _ _ h8) (cB c10)) (aT (aB c13 aN))))))))
        ·obtain rfl:=sI H14;obtain rfl:=sI (ao H7);obtain rfl:=aG h5;obtain rfl:=sI (ao H5);exact pR 5 [.rg 28 [.v,.v,.c true (.bool true),.v,.v,.v,.v,.e (.bool false),.v,.v,.v,.v,.c true (.bool false),.v,.v,.v,.s,.s,.s,.s,.s,.s,.s,.s,.s,.s,.s,.s] [.s,.s,.v],V1] [] [] (aC Tryz.call40 (aC (bF.eq (dX _ _ h6) (cB c6)) (aT (aB c9 (aC Tryz.call41 (aC (bF.eq (fg _ _ h8) (cB c11)) (aT aN)))))))
      ·obtain rfl:=sI H9;obtain rfl:=sI (ao H7);obtain rfl:=aG h5;obtain rfl:=sI (ao H5);exact pR 5 [.rg 28 [.v,.v,.c true (.bool false),.v,.v,.s,.s,.s,.v,.v,.s,.s,.s,.s,.v,.v,.s,.s,.s,.s,.s,.s,.s,.s,.s,.s,.s,.s] [.s,.s,.v],V1] [] [] (aC Tryz.call40 (aC (bF.eq (dX _ _ h6) (cB c7)) (aT aN)))
     ·subst e2;have H20:=a8 H7;refine nc 1 1 (ps:=[(x0.Terms.map aY).length≤9223372036854775807]) (by kernel_rfl) (fun l0 => ?_);have l1:x0.Terms.length≤9223372036854775807:=by simpa only [br,KP] using l0
      clear l0;obtain rfl:=sI H20;exact pB 1 [V3] [.only [1,2,3] [1]] (kl x0 (i0+1) ()) (aH i0 aN)
   ·subst e0;have H21:=a8 H5;obtain rfl:=sI H21;exact pR 3 [V1] [] [] aN
 ·obtain rfl:=sI H2;exact pR 9 [r0 [.m,.v],r0 [.v,.v,.c true (.bool false),.v,.v,.s,.s,.s,.s,.v],V1] [] [] (aC Tryz.call41 (aC (bF.eq (fg _ _ h0) (cB c1)) (aT aN)))
def bX (x0:List aa) (x1:aa):Option (List aa) :=
 (cV (σ:=((List aa)×Bool)) (ε:=((List aa)×Bool)) (ρ:=Empty) (fun i0 s0 =>
  (cZ ((x0.getD i0 ⟨0,[]⟩).Vars) x1.Vars).bind fun y0 =>
  ((
   bif s0.2 then (
    some (true,false)
   ) else (
    some (false,decide (y0>0))
   )
  ):Option (Bool×Bool)).bind fun v0 =>
  ((
   bif v0.2 then (
    bR ((s0.1.length+1)*32≤140737488355328) <|
    some ((s0.1++[x1]),true)
   ) else (
    some (s0.1,v0.1)
   )
  ):Option ((List aa)×Bool)).bind fun v1 =>
  ((
   bif v1.2 then (
    some (true,false)
   ) else (
    some (false,(y0==0))
   )
  ):Option (Bool×Bool)).bind fun v2 =>
  ((
   bif v2.2 then (
    some (true,(aW (((x0.getD i0 ⟨0,[]⟩).Coef)+x1.Coef)))
   ) else (
    some (v2.1,((x0.getD i0 ⟨0,[]⟩).Coef))
   )
  ):Option (Bool×Int)).bind fun v3 =>
  ((
   bif (v3.2==0) then (
    some v1.1
   ) else (
    bR ((v1.1.length+1)*32≤140737488355328) <|
    some (v1.1++[(aa.mk v3.2 ((x0.getD i0 ⟨0,[]⟩).Vars))])
   )
  ):Option (List aa)).bind fun v4 =>
  some (.go (v4,v3.1))
 ) (fun i0 s0=>(s0.1,s0.2)) (x0.length-0) 0 ([],(x1.Coef==0))).bind <| dJ fun u0 =>
 bif u0.2 then (
  some u0.1
 ) else (
  bR ((u0.1.length+1)*32≤140737488355328) <|
  some (u0.1++[x1])
 )
def lE (x0:List aa) (x1:aa) (i0:Nat) (s0:(List aa)×Bool):AS:=⟨67,[(0,dS ab x0),(3,.hptr 3 0),(4,.eslice),(5,.rslice 59),(6,.bool s0.2),(7,nI i0)],[(3,.cells 67 [iI x1.Coef,dS aj x1.Vars]),(59,.row 67 2 (s0.1.map ab))]⟩
def py (x1:aa) (u1:(List aa)×Bool):AS:=⟨67,[(3,.hptr 3 0),(4,.eslice),(5,.rslice 59),(6,.bool u1.2)],[(3,.cells 67 [iI x1.Coef,dS aj x1.Vars]),(59,.row 67 2 (u1.1.map ab))]⟩
def lR (x0:List aa) (x1:aa) (i0:Nat) (s0:(List aa)×Bool) (y0:Int) (v0:Bool×Bool):AS:=⟨67,[(0,dS ab x0),(3,.hptr 3 0),(4,.eslice),(5,.rslice 59),(6,.bool v0.1),(7,nI i0),(8,iI y0),(32,.bool v0.2)],[(3,.cells 67 [iI x1.Coef,dS aj x1.Vars]),(59,.row 67 2 (s0.1.map ab))]⟩
def lY (x0:List aa) (x1:aa) (i0:Nat) (y0:Int) (v1:(List aa)×Bool):AS:=⟨67,[(0,dS ab x0),(3,.hptr 3 0),(4,.eslice),(5,.rslice 59),(6,.bool v1.2),(7,nI i0),(8,iI y0)],[(3,.cells 67 [iI x1.Coef,dS aj x1.Vars]),(59,.row 67 2 (v1.1.map ab))]⟩
def lD (x0:List aa) (x1:aa) (i0:Nat) (v1:(List aa)×Bool) (v2:Bool×Bool):AS:=⟨67,[(0,dS ab x0),(3,.hptr 3 0),(4,.eslice),(5,.rslice 59),(6,.bool v2.1),(7,nI i0),(9,.hptr 9 0),(46,.bool v2.2)],[(3,.cells 67 [iI x1.Coef,dS aj x1.Vars]),(9,.cells 67 [iI ((x0.getD i0 ⟨0,[]⟩).Coef),.dslice (((x0.getD i0 ⟨0,[]⟩).Vars).map aj)]),(59,.row 67 2 (v1.1.map ab))]⟩
def lL (x0:List aa) (x1:aa) (i0:Nat) (v1:(List aa)×Bool) (v3:Bool×Int):AS:=⟨67,[(0,dS ab x0),(3,.hptr 3 0),(4,.eslice),(5,.rslice 59),(6,.bool v3.1),(7,nI i0),(9,.hptr 9 0)],[(3,.cells 67 [iI x1.Coef,dS aj x1.Vars]),(9,.cells 67 [iI v3.2,.dslice (((x0.getD i0 ⟨0,[]⟩).Vars).map aj)]),(59,.row 67 2 (v1.1.map ab))]⟩
def mi (x0:List aa) (x1:aa) (i0:Nat) (v3:Bool×Int) (v4:List aa):AS:=⟨67,[(0,dS ab x0),(3,.hptr 3 0),(4,.eslice),(5,.rslice 59),(6,.bool v3.1),(7,nI i0)],[(3,.cells 67 [iI x1.Coef,dS aj x1.Vars]),(59,.row 67 2 (v4.map ab))]⟩
theorem jV (x0:List aa) (x1:aa) (r:List aa) (H:bX x0 x1=some r):bF Tryz.prog 66 [dS ab x0,.agg [iI x1.Coef,dS aj x1.Vars]] (dS ab r):=by
 unfold bX at H;refine aX Tryz.func66 67 [.tmp 4] ?_;refine pA 10 [r0 [.m,.v],V1,V4,V1] [.er 5 59 67 2,.only [0,3,4,5,6,7] [3,59]] 10 [] (lE x0 x1 0 ([],(x1.Coef==0))) aN ?_;refine aS H fun R0 h0 H0 => ?_;refine pJ 1 (py x1) R0 ?_ (fun u0 e0 => ?_)
 ·refine pC (lE x0 x1) h0 (fun i0 s0 h1 e1 => ?_) (fun i0 s0 h2 q0 h3 h4 => ?_)
  ·have c0:=lF i0 x0.length (by omega);subst e1;exact pB 5 [r0 [.v,.v,.e (nI x0.length),.e (.bool false)]] [.only [3,4,5,6] [3,59]] (py x1 (s0.1,s0.2)) (aT (aC (aV ab x0) (aB c0 aN)))
  ·have c1:=lT i0 x0.length (by omega);refine aS h3 fun y0 h5 H1 => ?_;refine pA 11 [r0 [.v,.v,.e (nI x0.length),.e (.bool true)],.rg 7 [.v,.v,.e (.dptr (ab (x0.getD i0 ⟨0,[]⟩))),.v,.v,.v,.v] [.c true (iI y0),.v]] [.only [0,3,4,5,6,7,8] [3,59]] 11 [true] ⟨67,[(0,dS ab x0),(3,.hptr 3 0),(4,.eslice),(5,.rslice 59),(6,.bool s0.2),(7,nI i0),(8,iI y0)],[(3,.cells 67 [iI x1.Coef,dS aj x1.Vars]),(59,.row 67 2 (s0.1.map ab))]⟩ (aT (aC (aV ab x0) (aB c1 (aI aw x0 i0 ⟨0,[]⟩ (aC Tryz.call39 (aF (lK _ _ _ h5) aN)))))) ?_;refine aS H1 fun v0 h6 H2 => ?_;refine cQ 0 (lR x0 x1 i0 s0 y0 v0) (by kernel_rfl) ?_ ?_
   ·refine a7 h6 (fun c2 H3 => ?_) (fun c3 H4 => ?_)
    ·obtain rfl:=sI H3;exact pB 2 [.eqT 6 (.bool true),r0 [.v,.v,.v,.s,.s,.v]] [.only [0,3,4,5,6,7,8,32] [3,59]] (lR x0 x1 i0 s0 y0 (true,false)) (aB c2 (aT aN))
    ·obtain rfl:=sI H4;exact pB 2 [.eqT 6 (.bool false),V6] [.only [0,3,4,5,6,7,8,32] [3,59]] (lR x0 x1 i0 s0 y0 (false,decide (y0>0))) (aB c3 (aT aN))
   ·refine aS H2 fun v1 h7 H5 => ?_;refine cQ 0 (lY x0 x1 i0 y0 v1) (by kernel_rfl) ?_ ?_
    ·refine a7 h7 (fun c4 H6 => ?_) (fun c5 H7 => ?_)
     ·refine aR H6 fun g0 H8 => ?_;obtain rfl:=sI H8;exact pB 5 [.eqT 32 (.bool true),r0 [.v,.v,.b,.ap,.rwH 36 (.row 67 2 ((s0.1++[x1]).map ab)),.v],V1] [.ren [(3,3),(36,59)],.only [0,3,4,5,6,7,8] [3,59]] (lY x0 x1 i0 y0 ((s0.1++[x1]),true)) (aB c4 (aJ (qw (c:=ab) fK s0.1 [x1] 32 (by decide) (by simpa using g0)) (aC (rO 67 2 ab s0.1 [x1]) aN)))
     ·obtain rfl:=sI H7;exact pB 3 [.eqT 32 (.bool false)] [.only [0,3,4,5,6,7,8] [3,59]] (lY x0 x1 i0 y0 (s0.1,v0.1)) (aB c5 aN)
    ·refine pA 4 [.rg 0 [] [.v,.v,.e (.dptr (ab (x0.getD i0 ⟨0,[]⟩))),.v,.m,.m]] [.only [0,3,4,5,6,7,8,9] [3,9,59]] 4 [] ⟨67,[(0,.dslice (x0.map ab)),(3,.hptr 3 0),(4,.eslice),(5,.rslice 59),(6,.bool v1.2),(7,.int .i64 ((i0:Nat):Int)),(8,.int .i64 y0),(9,.hptr 9 0)],[(3,.cells 67 [.int .i64 x1.Coef,.dslice (x1.Vars.map aj)]),(9,.cells 67 (ab (x0.getD i0 ⟨0,[]⟩))),(59,.row 67 2 (v1.1.map ab))]⟩ (aI aw x0 i0 ⟨0,[]⟩ aN) ?_;refine aS H5 fun v2 h8 H9 => ?_;refine cQ 0 (lD x0 x1 i0 v1 v2) (by kernel_rfl) ?_ ?_
     ·refine a7 h8 (fun c6 H10 => ?_) (fun c7 H11 => ?_)
      ·obtain rfl:=sI H10;exact pB 2 [.eqT 6 (.bool true),r0 [.v,.v,.v,.s,.s,.v]] [.only [0,3,4,5,6,7,9,46] [3,9,59]] (lD x0 x1 i0 v1 (true,false)) (aB c6 (aT aN))
      ·obtain rfl:=sI H11;exact pB 2 [.eqT 6 (.bool false),V6] [.only [0,3,4,5,6,7,9,46] [3,9,59]] (lD x0 x1 i0 v1 (false,(y0==0))) (aB c7 (aT aN))
     ·refine aS H9 fun v3 h9 H12 => ?_;refine cQ 0 (lL x0 x1 i0 v1 v3) (by kernel_rfl) ?_ ?_
      ·refine a7 h9 (fun c8 H13 => ?_) (fun c9 H14 => ?_)
       ·obtain rfl:=sI H13;exact pB 5 [.eqT 46 (.bool true),r0 (V 4 [.w,.v,.m]),V1] [.only [0,3,4,5,6,7,9] [3,9,59]] (lL x0 x1 i0 v1 (true,(aW (((x0.getD i0 ⟨0,[]⟩).Coef)+x1.Coef)))) (aB c8 aN)
       ·obtain rfl:=sI H14;exact pB 3 [.eqT 46 (.bool false)] [.only [0,3,4,5,6,7,9] [3,9,59]] (lL x0 x1 i0 v1 (v2.1,((x0.getD i0 ⟨0,[]⟩).Coef))) (aB c9 aN)
      ·refine pA 2 [.rg 0 [] [.v,.v,.v]] [.only [0,3,4,5,6,7,9,55] [3,9,59]] 2 [] ⟨67,[(0,.dslice (x0.map ab)),(3,.hptr 3 0),(4,.eslice),(5,.rslice 59),(6,.bool v3.1),(7,.int .i64 ((i0:Nat):Int)),(9,.hptr 9 0),(55,.bool (v3.2 != 0))],[(3,.cells 67 [.int .i64 x1.Coef,.dslice (x1.Vars.map aj)]),(9,.cells 67 [.int .i64 v3.2,.dslice (((x0.getD i0 ⟨0,[]⟩).Vars).map aj)]),(59,.row 67 2 (v1.1.map ab))]⟩ aN ?_;refine aS H12 fun v4 h10 H15 => ?_;refine cQ 1 (mi x0 x1 i0 v3 v4) (by kernel_rfl) ?_ ?_
       ·refine a7 h10 (fun c10 H16 => ?_) (fun c11 H17 => ?_)
        ·obtain rfl:=sI H16;exact pB 3 [.eqT 55 (.bool false)] [.only [0,3,4,5,6,7] [3,59]] (mi x0 x1 i0 v3 v1.1) (aM c10 aN)
        ·refine aR H17 fun g1 H18 => ?_;obtain rfl:=sI H18;exact pB 3 [.eqT 55 (.bool true),r0 [.v,.v,.b,.ap,.rwH 59 (.row 67 2 ((v1.1++[(aa.mk v3.2 ((x0.getD i0 ⟨0,[]⟩).Vars))]).map ab)),.v]] [.only [0,3,4,5,6,7] [3,59]] (mi x0 x1 i0 v3 (v1.1++[(aa.mk v3.2 ((x0.getD i0 ⟨0,[]⟩).Vars))])) (aM c11 (aJ (qw (c:=ab) fK v1.1 [(aa.mk v3.2 ((x0.getD i0 ⟨0,[]⟩).Vars))] 32 (by decide) (by simpa using g1)) (aC (rO 67 2 ab v1.1 [(aa.mk v3.2 ((x0.getD i0 ⟨0,[]⟩).Vars))]) aN)))
       ·refine bB 0 (ps:=[(x0.map ab).length≤9223372036854775807]) (by kernel_rfl) (fun l0 => ?_);have l1:x0.length≤9223372036854775807:=by simpa only [br,KP] using l0
        clear l0;obtain rfl:=sI H15;exact pB 1 [V3] [.only [0,3,4,5,6,7] [3,59]] (lE x0 x1 (i0+1) (v4,v3.1)) (aH i0 aN)
 ·subst e0;have H19:=bI H0;refine a7 H19 (fun c12 H20 => ?_) (fun c13 H21 => ?_)
  ·obtain rfl:=sI H20;exact pR 9 [V2,.eqT 61 (.bool false),V2] [.fz 59] [] (aT (aM c12 aN))
  ·refine aR H21 fun g2 H22 => ?_;obtain rfl:=sI H22;exact pR 9 [V2,.eqT 61 (.bool true),r0 [.v,.v,.b,.ap,.rwH 65 (.row 67 2 ((u0.1++[x1]).map ab)),.v],V2] [.fz 65] [] (aT (aM c13 (aJ (qw (c:=ab) fK u0.1 [x1] 32 (by decide) (by simpa using g2)) (aC (rO 67 2 ab u0.1 [x1]) aN))))
def jm (x0 x1:List aa) (x2:Int):Option (List aa) :=
 bR (x0.length*32≤140737488355328) <|
 (cV (σ:=(List aa)) (ε:=(List aa)) (ρ:=Empty) (fun i0 s0 =>
  (bX s0 (aa.mk (aW (x2*((x1.getD i0 ⟨0,[]⟩).Coef))) ((x1.getD i0 ⟨0,[]⟩).Vars))).bind fun y0 =>
  some (.go y0)
 ) (fun i0 s0=>s0) (x1.length-0) 0 x0).bind <| dJ fun u0 =>
 some u0
def kN (x1:List aa) (x2:Int) (i0:Nat) (s0:List aa):AS:=⟨34,[(1,dS ab x1),(2,iI x2),(6,.eslice),(7,dS ab s0),(8,nI i0)],[]⟩
def od (u1:List aa):AS:=⟨34,[(6,.eslice),(7,dS ab u1)],[]⟩
theorem w4 (x0 x1:List aa) (x2:Int) (r:List aa) (H:jm x0 x1 x2=some r):bF Tryz.prog 43 [dS ab x0,dS ab x1,iI x2] (dS ab r):=by
 unfold jm at H;refine aX Tryz.func43 34 [.tmp 6] ?_;refine aR H fun g0 H0 => ?_;refine pA 8 [V1,r0 [.b,.v,.er 9 11 67 2,.ap,.rwH 11 (.row 67 2 (x0.map ab)),.v],V1] [.fz 11,.only [1,2,6,7,8] []] 8 [] (kN x1 x2 0 x0) (aJ (qw (c:=ab) fK [] x0 32 (by decide) (by simpa using g0)) (aC (Kd 67 2 ab x0) aN)) ?_;refine aS H0 fun R0 h0 H1 => ?_;refine pJ 1 (od) R0 ?_ (fun u0 e0 => ?_)
 ·refine pC (kN x1 x2) h0 (fun i0 s0 h1 e1 => ?_) (fun i0 s0 h2 q0 h3 h4 => ?_)
  ·have c0:=lF i0 x1.length (by omega);subst e1;exact pB 5 [r0 [.v,.v,.e (nI x1.length),.e (.bool false)]] [.only [6,7] []] (od s0) (aT (aC (aV ab x1) (aB c0 aN)))
  ·have c1:=lT i0 x1.length (by omega);refine aS h3 fun y0 h5 H2 => ?_;refine bB 1 (ps:=[(x1.map ab).length≤9223372036854775807]) (by kernel_rfl) (fun l0 => ?_);have l1:x1.length≤9223372036854775807:=by simpa only [br,KP] using l0
   clear l0;obtain rfl:=sI H2;exact pB 9 [r0 [.v,.v,.e (nI x1.length),.e (.bool true)],.rg 14 (V 4 [.e (.dptr (ab (x1.getD i0 ⟨0,[]⟩))),.v,.v,.w,.v,.v,.e (.dptr (ab (x1.getD i0 ⟨0,[]⟩))),.v,.v,.b]) [.c true (dS ab y0),.v],V3] [.only [1,2,6,7,8] []] (kN x1 x2 (i0+1) y0) (aT (aC (aV ab x1) (aB c1 (aI aw x1 i0 ⟨0,[]⟩ (aI aw x1 i0 ⟨0,[]⟩ (aC Tryz.call66 (aF (jV _ _ _ h5) (aH i0 aN))))))))
 ·subst e0;have H3:=bI H1;refine cC H3 fun e2 => ?_;subst e2;exact pR 3 [V2] [] [] aN
def cU (x0:List aa):Option ((List aa)×Int) :=
 (cz x0).bind fun y0 =>
 bif y0 then (
  some (x0,0)
 ) else (
  some ([],3)
 )
theorem jy (x0:List aa) (r:(List aa)×Int) (H:cU x0=some r):bF Tryz.prog 42 [dS ab x0] (.tup [dS ab r.1,iI r.2]):=by
 unfold cU at H;refine aX Tryz.func42 8 [.tmp 2,.tmp 3] ?_;refine aS H fun y0 h0 H0 => ?_;refine a7 H0 (fun c0 H1 => ?_) (fun c1 H2 => ?_)
 ·obtain rfl:=sI H1;exact pR 11 [V2,r0 [.v,.c true (.bool y0),.v],.eqT 6 (.bool false),V3] [] [] (aC Tryz.call14 (aF (a6 _ _ h0) (aT (aM c0 aN))))
 ·obtain rfl:=sI H2;exact pR 10 [V2,r0 [.v,.c true (.bool y0),.v],.eqT 6 (.bool true),V2] [.wk 2 []] [] (aC Tryz.call14 (aF (a6 _ _ h0) (aT (aM c1 aN))))
def gB (x0 x1:List aa):Option ((List aa)×Int) :=
 (cz x0).bind fun y0 =>
 bif y0 then (
  (cz x1).bind fun y1 =>
  bif y1 then (
   (jm x0 x1 1).bind fun y2 =>
   (cU y2).bind fun y3 =>
   some (y3.1,y3.2)
  ) else (
   some ([],1)
  )
 ) else (
  some ([],1)
 )
theorem An (x0 x1:List aa) (r:(List aa)×Int) (H:gB x0 x1=some r):bF Tryz.prog 16 [dS ab x0,dS ab x1] (.tup [dS ab r.1,iI r.2]):=by
 unfold gB at H;refine aX Tryz.func16 20 [.tmp 4,.tmp 5] ?_;refine aS H fun y0 h0 H0 => ?_;refine a7 H0 (fun c0 H1 => ?_) (fun c1 H2 => ?_)
 ·refine aS H1 fun y1 h1 H3 => ?_;refine a7 H3 (fun c2 H4 => ?_) (fun c3 H5 => ?_)
  ·refine aS H4 fun y2 h2 H6 => ?_;refine aS H6 fun y3 h3 H7 => ?_;obtain rfl:=sI H7;exact pR 11 [V2,r0 [.v,.c true (.bool true),.v,.v,.v,.c true (.bool y1),.v,.v],.eqT 13 (.bool false),r0 [.v,.v,.c true (dS ab y2),.c true (.tup [dS ab y3.1,iI y3.2]),.v,.v,.v,.v]] [] [] (aC Tryz.call14 (aC (bF.eq (a6 _ _ h0) (cB c0)) (aT (aC Tryz.call14 (aF (a6 _ _ h1) (aT (aM c2 (aC Tryz.call43 (aF (w4 _ _ _ _ h2) (aC Tryz.call42 (aF (jy _ _ h3) aN)))))))))))
  ·obtain rfl:=sI H5;exact pR 10 [V2,r0 [.v,.c true (.bool true),.v,.v,.v,.c true (.bool y1),.v,.v],.eqT 13 (.bool true),V2] [.wk 4 []] [] (aC Tryz.call14 (aC (bF.eq (a6 _ _ h0) (cB c0)) (aT (aC Tryz.call14 (aF (a6 _ _ h1) (aT (aM c3 aN)))))))
 ·obtain rfl:=sI H2;exact pR 9 [V2,r0 [.v,.c true (.bool false),.v,.v,.s,.s,.s,.v],V2] [.wk 4 []] [] (aC Tryz.call14 (aC (bF.eq (a6 _ _ h0) (cB c1)) (aT aN)))
def fE (x0:List aa):Option (List ai) :=
 (cz x0).bind fun y0 =>
 bif y0 then (
  (cV (σ:=(List ai)) (ε:=(List ai)) (ρ:=Empty) (fun i0 s0 =>
   (qG (σ:=((List ai)×Int)) (ε:=(List ai)) (ρ:=Empty) (fun s1 =>
    bif decide (s1.2<((((x0.getD i0 ⟨0,[]⟩).Vars).length:Nat):Int)) then (
     (cV (σ:=Unit) (ε:=Nat) (ρ:=Empty) (fun i1 s2 =>
      bR (0≤s1.2∧s1.2<(((x0.getD i0 ⟨0,[]⟩).Vars).length:Int)) <|
      bif (Op.bytesLess (s1.1.getD i1 []) (((x0.getD i0 ⟨0,[]⟩).Vars).getD s1.2.toNat [])) then (
       some (.go ())
      ) else (
       some (.brk i1)
      )
     ) (fun i1 s2=>i1) (s1.1.length-0) 0 ()).bind <| dJ fun u0 =>
     ((
      bif (((u0:Nat):Int)==((s1.1.length:Nat):Int)) then (
       some true
      ) else (
       bR (u0<s1.1.length) <|
       bR (0≤s1.2∧s1.2<(((x0.getD i0 ⟨0,[]⟩).Vars).length:Int)) <|
       some (!((s1.1.getD u0 [])==(((x0.getD i0 ⟨0,[]⟩).Vars).getD s1.2.toNat [])))
      )
     ):Option Bool).bind fun v0 =>
     ((
      bif v0 then (
       bR (u0≤s1.1.length) <|
       bR ((0+(s1.1.take u0).length)*16≤140737488355328) <|
       bR (0≤s1.2∧s1.2<(((x0.getD i0 ⟨0,[]⟩).Vars).length:Int)) <|
       bR (((s1.1.take u0).length+[(((x0.getD i0 ⟨0,[]⟩).Vars).getD s1.2.toNat [])].length)*16≤140737488355328) <|
       bR ((((s1.1.take u0)++[(((x0.getD i0 ⟨0,[]⟩).Vars).getD s1.2.toNat [])]).length+(s1.1.drop u0).length)*16≤140737488355328) <|
       some (((s1.1.take u0)++[(((x0.getD i0 ⟨0,[]⟩).Vars).getD s1.2.toNat [])])++(s1.1.drop u0))
      ) else (
       some s1.1
      )
     ):Option (List ai)).bind fun v1 =>
     some (.go (v1,(aW (s1.2+1))))
    ) else (
     some (.brk s1.1)
    )
   ) 4294967296 (s0,0)).bind <| dJ fun u1 =>
   some (.go u1)
  ) (fun i0 s0=>s0) (x0.length-0) 0 []).bind <| dJ fun u2 =>
  some u2
 ) else (
  some []
 )
def me (x0:List aa) (i0:Nat) (s0:List ai):AS:=⟨86,[(0,dS ab x0),(2,.eslice),(3,.rslice 84),(4,nI i0)],[(84,.row 9 1 (s0.map aj))]⟩
def pX (u3:List ai):AS:=⟨86,[(2,.eslice),(3,.rslice 84)],[(84,.row 9 1 (u3.map aj))]⟩
def lX (x0:List aa) (i0:Nat) (s1:(List ai)×Int):AS:=⟨86,[(0,dS ab x0),(2,.eslice),(3,.rslice 84),(4,nI i0),(5,iI s1.2)],[(84,.row 9 1 (s1.1.map aj))]⟩
def pW (x0:List aa) (i0:Nat) (u4:List ai):AS:=⟨86,[(0,dS ab x0),(2,.eslice),(3,.rslice 84),(4,nI i0)],[(84,.row 9 1 (u4.map aj))]⟩
def lh (x0:List aa) (i0:Nat) (s1:(List ai)×Int) (i1:Nat) (s2:Unit):AS:=⟨86,[(0,dS ab x0),(2,.eslice),(3,.rslice 84),(4,nI i0),(5,iI s1.2),(6,nI i1)],[(84,.row 9 1 (s1.1.map aj))]⟩
def mn (x0:List aa) (i0:Nat) (s1:(List ai)×Int) (u5:Nat):AS:=⟨86,[(0,dS ab x0),(2,.eslice),(3,.rslice 84),(4,nI i0),(5,iI s1.2),(6,nI u5)],[(84,.row 9 1 (s1.1.map aj))]⟩
def lO (x0:List aa) (i0:Nat) (s1:(List ai)×Int) (u0:Nat) (v0:Bool):AS:=⟨86,[(0,dS ab x0),(2,.eslice),(3,.rslice 84),(4,nI i0),(5,iI s1.2),(6,nI u0),(65,.bool v0)],[(84,.row 9 1 (s1.1.map aj))]⟩
def ml (x0:List aa) (i0:Nat) (s1:(List ai)×Int) (v1:List ai):AS:=⟨86,[(0,dS ab x0),(2,.eslice),(3,.rslice 84),(4,nI i0),(5,iI s1.2)],[(84,.row 9 1 (v1.map aj))]⟩
theorem yQ (x0:List aa) (r:List ai) (H:fE x0=some r):bD Tryz.prog 17 [dS ab x0] [] (fun r2 h0=>r2=(.rslice 0)∧h0=[(0,.row 9 1 (r.map aj))]):=by
 unfold fE at H;refine aX Tryz.func17 86 [.tmp 2] ?_;refine aS H fun y0 h1 H0 => ?_;refine a7 H0 (fun c0 H1 => ?_) (fun c1 H2 => ?_)
 ·refine pA 14 [.rg 0 [] [.v],.rg 0 [] [.v],.rg 0 [] [.v,.c true (.bool y0),.v],.eqT 9 (.bool false),.rg 0 [] [.v]] [.er 3 84 9 1,.only [0,2,3,4] [84]] 13 [false] (me x0 0 []) (aC Tryz.call14 (aF (a6 _ _ h1) (aT (aM c0 aN)))) ?_;refine aS H1 fun R0 h2 H3 => ?_;refine pJ 1 (pX) R0 ?_ (fun u2 e0 => ?_)
  ·refine pC (me x0) h2 (fun i0 s0 h3 e1 => ?_) (fun i0 s0 h4 q0 h5 h6 => ?_)
   ·have c2:=lF i0 x0.length (by omega);subst e1;exact pB 5 [r0 [.v,.v,.e (nI x0.length),.e (.bool false)]] [.only [2,3] [84]] (pX s0) (aT (aC (aV ab x0) (aB c2 aN)))
   ·have c3:=lT i0 x0.length (by omega);refine pA 10 [r0 [.v,.v,.e (nI x0.length),.e (.bool true)],V1] [.only [0,2,3,4,5] [84]] 10 [true] (lX x0 i0 (s0,0)) (aT (aC (aV ab x0) (aB c3 aN))) ?_;refine aS h5 fun R1 h7 H4 => ?_;refine pJ 2 (pW x0 i0) R1 ?_ (fun u1 e2 => ?_)
    ·refine s7 (lX x0 i0) (by kernel_rfl) h7 (fun s1 q1 h8 h9 => ?_)
     ·refine a7 h8 (fun c4 H5 => ?_) (fun c5 H6 => ?_)
      ·have c4p:=KM c4;refine pA 12 [r0 [.v,.v,.v,.e (.dptr (ab (x0.getD i0 ⟨0,[]⟩))),.v,.v,.e (iI ((((x0.getD i0 ⟨0,[]⟩).Vars).length:Nat):Int)),.v],.eqT 23 (.bool true),V1] [.only [0,2,3,4,5,6] [84]] 11 [true] (lh x0 i0 s1 0 ()) (aI aw x0 i0 ⟨0,[]⟩ (aT (aC (aV aj ((x0.getD i0 ⟨0,[]⟩).Vars)) (aB c4 aN)))) ?_;refine aS H5 fun R2 h10 H7 => ?_;refine pJ 1 (mn x0 i0 s1) R2 ?_ (fun u0 e3 => ?_)
       ·refine pC (lh x0 i0 s1) h10 (fun i1 s2 h11 e4 => ?_) (fun i1 s2 h12 q2 h13 h14 => ?_)
        ·have c6:=lF i1 s1.1.length (by omega);subst e4;exact pB 5 [.rg 17 [.v,.v,.e (nI s1.1.length),.e (.bool false),.v,.s,.s,.s,.s,.s,.s,.s,.s,.s,.s,.s,.s] [.s,.v]] [.only [0,2,3,4,5,6] [84]] (mn x0 i0 s1 i1) (aT (aC (aV aj s1.1) (aB c6 aN)))
        ·have c7:=lT i1 s1.1.length (by omega);refine aR h13 fun g0 H8 => ?_;refine pA 3 [.rg 17 [.v,.v,.e (nI s1.1.length),.e (.bool true),.v,.v,.v,.v,.rl i1 0 (.str (s1.1.getD i1 [])),.v,.v,.e (.dptr (ab (x0.getD i0 ⟨0,[]⟩))),.v,.v,.v,.e (.dptr [.str (((x0.getD i0 ⟨0,[]⟩).Vars).getD s1.2.toNat [])]),.v] [.v,.v]] [.only [0,2,3,4,5,6,44] [84]] 3 [] ⟨86,[(0,dS ab x0),(2,.eslice),(3,.rslice 84),(4,nI i0),(5,iI s1.2),(6,nI i1),(44,.bool (Op.bytesLess (s1.1.getD i1 []) (((x0.getD i0 ⟨0,[]⟩).Vars).getD s1.2.toNat [])))],[(84,.row 9 1 (s1.1.map aj))]⟩ (aT (aC (aV aj s1.1) (aB c7 (aC (show (0:Int)≤((i1:Nat):Int)∧((i1:Nat):Int)<((s1.1.map aj).length:Int) from by rw [KP];omega) (aC (Bz (f:=aj) (l:=s1.1) (n:=i1) 1 0 1 (by omega) (by decide)) (aC (Bx (f:=aj) (l:=s1.1) (n:=i1) [] 0 (by omega)) (aI aw x0 i0 ⟨0,[]⟩ (aJ (xv (f:=aj) (l:=((x0.getD i0 ⟨0,[]⟩).Vars)) (n:=s1.2) [] bb (by decide) (by exact g0)) aN)))))))) ?_;refine a7 H8 (fun c8 H9 => ?_) (fun c9 H10 => ?_)
         ·refine nu 84 (n:=(s1.1.map aj).length) (by kernel_rfl) (fun l0 => ?_);have l1:s1.1.length≤9223372036854775807:=by simpa only [KP] using l0
          clear l0;obtain rfl:=sI H9;exact pB 5 [.eqT 44 (.bool true),V3] [.only [0,2,3,4,5,6] [84]] (lh x0 i0 s1 (i1+1) ()) (aB c8 (aH i1 aN))
         ·obtain rfl:=sI H10;obtain rfl:=eT h14;exact pB 3 [.eqT 44 (.bool false)] [.only [0,2,3,4,5,6] [84]] (mn x0 i0 s1 i1) (aB c9 aN)
       ·subst e3;have H11:=bI H7;refine pA 1 [] [.only [0,2,3,4,5,6] [84]] 1 [] ⟨86,[(0,dS ab x0),(2,.eslice),(3,.rslice 84),(4,nI i0),(5,iI s1.2),(6,nI u0)],[(84,.row 9 1 (s1.1.map aj))]⟩ aN ?_;refine aS H11 fun v0 h15 H12 => ?_;refine cQ 0 (lO x0 i0 s1 u0 v0) (by kernel_rfl) ?_ ?_
        ·refine a7 h15 (fun c10 H13 => ?_) (fun c11 H14 => ?_)
         ·obtain rfl:=sI H13;exact pB 1 [.rg 17 [.v,.v,.e (nI s1.1.length),.e (.bool true),.v,.s,.s,.s,.s,.s,.s,.s,.s,.s,.s,.s,.s] [.s,.v]] [.only [0,2,3,4,5,6,65] [84]] (lO x0 i0 s1 u0 true) (aT (aC (aV aj s1.1) (aB c10 aN)))
         ·refine aR H14 fun g1 H15 => ?_;refine aR H15 fun g2 H16 => ?_;obtain rfl:=sI H16;exact pB 1 [.rg 17 [.v,.v,.e (nI s1.1.length),.e (.bool false),.v,.v,.v,.v,.rl u0 0 (.str (s1.1.getD u0 [])),.v,.v,.e (.dptr (ab (x0.getD i0 ⟨0,[]⟩))),.v,.v,.v,.e (.dptr [.str (((x0.getD i0 ⟨0,[]⟩).Vars).getD s1.2.toNat [])]),.v] [.v,.v]] [.only [0,2,3,4,5,6,65] [84]] (lO x0 i0 s1 u0 (!((s1.1.getD u0 [])==(((x0.getD i0 ⟨0,[]⟩).Vars).getD s1.2.toNat [])))) (aT (aC (aV aj s1.1) (aB c11 (aC (show (0:Int)≤((u0:Nat):Int)∧((u0:Nat):Int)<((s1.1.map aj).length:Int) from by rw [KP];omega) (aC (Bz (f:=aj) (l:=s1.1) (n:=u0) 1 0 1 (by omega) (by decide)) (aC (Bx (f:=aj) (l:=s1.1) (n:=u0) [] 0 (by omega)) (aI aw x0 i0 ⟨0,[]⟩ (aJ (xv (f:=aj) (l:=((x0.getD i0 ⟨0,[]⟩).Vars)) (n:=s1.2) [] bb (by decide) (by exact g2)) aN))))))))
        ·refine aS H12 fun v1 h16 H17 => ?_;refine cQ 1 (ml x0 i0 s1 v1) (by kernel_rfl) ?_ ?_
         ·refine a7 h16 (fun c12 H18 => ?_) (fun c13 H19 => ?_)
          ·refine aR H18 fun g3 H20 => ?_;refine aR H20 fun g4 H21 => ?_;refine aR H21 fun g5 H22 => ?_;refine aR H22 fun g6 H23 => ?_;refine aR H23 fun g7 H24 => ?_;obtain rfl:=sI H24;exact pB 4 [.eqT 65 (.bool true),.cv [.fz 84],.rg 18 [.b,.v,.v,.e (.dslice ((s1.1.take u0).map aj)),.apx ((s1.1.take u0).map aj),.v,.v,.e (.dptr (ab (x0.getD i0 ⟨0,[]⟩))),.v,.v,.v,.e (.dptr [.str (((x0.getD i0 ⟨0,[]⟩).Vars).getD s1.2.toNat [])]),.v,.b,.apx (((s1.1.take u0)++[(((x0.getD i0 ⟨0,[]⟩).Vars).getD s1.2.toNat [])]).map aj),.v,.v,.e (.dslice ((s1.1.drop u0).map aj))] [.ap,.rwH 84 (.row 9 1 ((((s1.1.take u0)++[(((x0.getD i0 ⟨0,[]⟩).Vars).getD s1.2.toNat [])])++(s1.1.drop u0)).map aj)),.v]] [.only [0,2,3,4,5] [84]] (ml x0 i0 s1 (((s1.1.take u0)++[(((x0.getD i0 ⟨0,[]⟩).Vars).getD s1.2.toNat [])])++(s1.1.drop u0))) (aB c12 (aC (show ((0:Int)≤0∧0≤((u0:Nat):Int)∧((u0:Nat):Int)≤((s1.1.map aj).length:Int))∧UL 1 (s1.1.map aj) from ⟨by first | omega | (simp only [KP];omega),UL.map bb _⟩) (aC (Bt aj s1.1 u0) (aJ (wW (c:=aj) dQ [] (s1.1.take u0) 16 (by decide) (by simpa using g4) rfl) (aI aw x0 i0 ⟨0,[]⟩ (aJ (xv (f:=aj) (l:=((x0.getD i0 ⟨0,[]⟩).Vars)) (n:=s1.2) [] bb (by decide) (by exact g5)) (aJ (wW (c:=aj) dQ (s1.1.take u0) [(((x0.getD i0 ⟨0,[]⟩).Vars).getD s1.2.toNat [])] 16 (by decide) (by simpa using g6) List.map_append.symm) (aC (show ((0:Int)≤((u0:Nat):Int)∧((u0:Nat):Int)≤((s1.1.map aj).length:Int)∧((s1.1.map aj).length:Int)≤((s1.1.map aj).length:Int))∧UL 1 (s1.1.map aj) from ⟨by first | omega | (simp only [KP];omega),UL.map bb _⟩) (aC (zP aj s1.1 u0) (aJ (qw (c:=aj) dQ ((s1.1.take u0)++[(((x0.getD i0 ⟨0,[]⟩).Vars).getD s1.2.toNat [])]) (s1.1.drop u0) 16 (by decide) (by simpa using g7)) (aC (rO 9 1 aj ((s1.1.take u0)++[(((x0.getD i0 ⟨0,[]⟩).Vars).getD s1.2.toNat [])]) (s1.1.drop u0)) aN)))))))))))
          ·obtain rfl:=sI H19;exact pB 3 [.eqT 65 (.bool false)] [.only [0,2,3,4,5] [84]] (ml x0 i0 s1 s1.1) (aB c13 aN)
         ·obtain rfl:=sI H17;exact pB 1 [r0 [.v,.w,.v]] [.only [0,2,3,4,5] [84]] (lX x0 i0 (v1,(aW (s1.2+1)))) aN
      ·have c5p:=KL c5;obtain rfl:=sI H6;obtain rfl:=eT h9;exact pB 6 [r0 [.v,.v,.v,.e (.dptr (ab (x0.getD i0 ⟨0,[]⟩))),.v,.v,.e (iI ((((x0.getD i0 ⟨0,[]⟩).Vars).length:Nat):Int)),.v],.eqT 23 (.bool false)] [.only [0,2,3,4] [84]] (pW x0 i0 s1.1) (aI aw x0 i0 ⟨0,[]⟩ (aT (aC (aV aj ((x0.getD i0 ⟨0,[]⟩).Vars)) (aB c5 aN))))
    ·subst e2;have H25:=bI H4;refine bB 0 (ps:=[(x0.map ab).length≤9223372036854775807]) (by kernel_rfl) (fun l2 => ?_);have l3:x0.length≤9223372036854775807:=by simpa only [br,KP] using l2
     clear l2;obtain rfl:=sI H25;exact pB 1 [V3] [.only [0,2,3,4] [84]] (me x0 (i0+1) u1) (aH i0 aN)
  ·subst e0;have H26:=bI H3;refine cC H26 fun e5 => ?_;subst e5;exact pR 3 [V2] [.ren [(84,0)]] [0] aN
 ·obtain rfl:=sI H2;exact pR 12 [V1,V1,r0 [.v,.c true (.bool y0),.v],.eqT 9 (.bool true),V1] [.er 2 997 9 1,.ren [(997,0)]] [0] (aC Tryz.call14 (aF (a6 _ _ h1) (aT (aM c1 aN))))
def gU (x0:List aa):Option (List ai) :=
 (cz x0).bind fun y0 =>
 bif y0 then (
  (cV (σ:=(List ai)) (ε:=(List ai)) (ρ:=Empty) (fun i0 s0 =>
   (qG (σ:=((List ai)×Int)) (ε:=(List ai)) (ρ:=Empty) (fun s1 =>
    bif decide (s1.2<((((x0.getD i0 ⟨0,[]⟩).Vars).length:Nat):Int)) then (
     (cV (σ:=Unit) (ε:=Nat) (ρ:=Empty) (fun i1 s2 =>
      bR (0≤s1.2∧s1.2<(((x0.getD i0 ⟨0,[]⟩).Vars).length:Int)) <|
      bif (Op.bytesLess (s1.1.getD i1 []) (((x0.getD i0 ⟨0,[]⟩).Vars).getD s1.2.toNat [])) then (
       some (.go ())
      ) else (
       some (.brk i1)
      )
     ) (fun i1 s2=>i1) (s1.1.length-0) 0 ()).bind <| dJ fun u0 =>
     ((
      bif (((u0:Nat):Int)==((s1.1.length:Nat):Int)) then (
       some true
      ) else (
       bR (u0<s1.1.length) <|
       bR (0≤s1.2∧s1.2<(((x0.getD i0 ⟨0,[]⟩).Vars).length:Int)) <|
       some (!((s1.1.getD u0 [])==(((x0.getD i0 ⟨0,[]⟩).Vars).getD s1.2.toNat [])))
      )
     ):Option Bool).bind fun v0 =>
     ((
      bif v0 then (
       bR (u0≤s1.1.length) <|
       bR ((0+(s1.1.take u0).length)*16≤140737488355328) <|
       bR (0≤s1.2∧s1.2<(((x0.getD i0 ⟨0,[]⟩).Vars).length:Int)) <|
       bR (((s1.1.take u0).length+[(((x0.getD i0 ⟨0,[]⟩).Vars).getD s1.2.toNat [])].length)*16≤140737488355328) <|
       bR ((((s1.1.take u0)++[(((x0.getD i0 ⟨0,[]⟩).Vars).getD s1.2.toNat [])]).length+(s1.1.drop u0).length)*16≤140737488355328) <|
       some (((s1.1.take u0)++[(((x0.getD i0 ⟨0,[]⟩).Vars).getD s1.2.toNat [])])++(s1.1.drop u0))
      ) else (
       some s1.1
      )
     ):Option (List ai)).bind fun v1 =>
     some (.go (v1,(aW (s1.2+1))))
    ) else (
     some (.brk s1.1)
    )
   ) 4294967296 (s0,0)).bind <| dJ fun u1 =>
   some (.go u1)
  ) (fun i0 s0=>s0) (x0.length-0) 0 []).bind <| dJ fun u2 =>
  some u2
 ) else (
  some []
 )
def jJ (x0:List aa) (i0:Nat) (s0:List ai):AS:=⟨86,[(0,dS ab x0),(2,.eslice),(3,.rslice 84),(4,nI i0)],[(84,.row 9 1 (s0.map aj))]⟩
def nQ (u3:List ai):AS:=⟨86,[(2,.eslice),(3,.rslice 84)],[(84,.row 9 1 (u3.map aj))]⟩
def jC (x0:List aa) (i0:Nat) (s1:(List ai)×Int):AS:=⟨86,[(0,dS ab x0),(2,.eslice),(3,.rslice 84),(4,nI i0),(5,iI s1.2)],[(84,.row 9 1 (s1.1.map aj))]⟩
def nH (x0:List aa) (i0:Nat) (u4:List ai):AS:=⟨86,[(0,dS ab x0),(2,.eslice),(3,.rslice 84),(4,nI i0)],[(84,.row 9 1 (u4.map aj))]⟩
def jN (x0:List aa) (i0:Nat) (s1:(List ai)×Int) (i1:Nat) (s2:Unit):AS:=⟨86,[(0,dS ab x0),(2,.eslice),(3,.rslice 84),(4,nI i0),(5,iI s1.2),(6,nI i1)],[(84,.row 9 1 (s1.1.map aj))]⟩
def jK (x0:List aa) (i0:Nat) (s1:(List ai)×Int) (u5:Nat):AS:=⟨86,[(0,dS ab x0),(2,.eslice),(3,.rslice 84),(4,nI i0),(5,iI s1.2),(6,nI u5)],[(84,.row 9 1 (s1.1.map aj))]⟩
def jO (x0:List aa) (i0:Nat) (s1:(List ai)×Int) (u0:Nat) (v0:Bool):AS:=⟨86,[(0,dS ab x0),(2,.eslice),(3,.rslice 84),(4,nI i0),(5,iI s1.2),(6,nI u0),(65,.bool v0)],[(84,.row 9 1 (s1.1.map aj))]⟩
def jB (x0:List aa) (i0:Nat) (s1:(List ai)×Int) (v1:List ai):AS:=⟨86,[(0,dS ab x0),(2,.eslice),(3,.rslice 84),(4,nI i0),(5,iI s1.2)],[(84,.row 9 1 (v1.map aj))]⟩
theorem oC (x0:List aa) (r:List ai) (H:gU x0=some r):bF Tryz.prog 17 [dS ab x0] (dS aj r):=by
 unfold gU at H;refine aX Tryz.func17 86 [.tmp 2] ?_;refine aS H fun y0 h0 H0 => ?_;refine a7 H0 (fun c0 H1 => ?_) (fun c1 H2 => ?_)
 ·refine pA 14 [.rg 0 [] [.v],.rg 0 [] [.v],.rg 0 [] [.v,.c true (.bool y0),.v],.eqT 9 (.bool false),.rg 0 [] [.v]] [.er 3 84 9 1,.only [0,2,3,4] [84]] 13 [false] (jJ x0 0 []) (aC Tryz.call14 (aF (a6 _ _ h0) (aT (aM c0 aN)))) ?_;refine aS H1 fun R0 h1 H3 => ?_;refine pJ 1 (nQ) R0 ?_ (fun u2 e0 => ?_)
  ·refine pC (jJ x0) h1 (fun i0 s0 h2 e1 => ?_) (fun i0 s0 h3 q0 h4 h5 => ?_)
   ·have c2:=lF i0 x0.length (by omega);subst e1;exact pB 5 [r0 [.v,.v,.e (nI x0.length),.e (.bool false)]] [.only [2,3] [84]] (nQ s0) (aT (aC (aV ab x0) (aB c2 aN)))
   ·have c3:=lT i0 x0.length (by omega);refine pA 10 [r0 [.v,.v,.e (nI x0.length),.e (.bool true)],V1] [.only [0,2,3,4,5] [84]] 10 [true] (jC x0 i0 (s0,0)) (aT (aC (aV ab x0) (aB c3 aN))) ?_;refine aS h4 fun R1 h6 H4 => ?_;refine pJ 2 (nH x0 i0) R1 ?_ (fun u1 e2 => ?_)
    ·refine s7 (jC x0 i0) (by kernel_rfl) h6 (fun s1 q1 h7 h8 => ?_)
     ·refine a7 h7 (fun c4 H5 => ?_) (fun c5 H6 => ?_)
      ·have c4p:=KM c4;refine pA 12 [r0 [.v,.v,.v,.e (.dptr (ab (x0.getD i0 ⟨0,[]⟩))),.v,.v,.e (iI ((((x0.getD i0 ⟨0,[]⟩).Vars).length:Nat):Int)),.v],.eqT 23 (.bool true),V1] [.only [0,2,3,4,5,6] [84]] 11 [true] (jN x0 i0 s1 0 ()) (aI aw x0 i0 ⟨0,[]⟩ (aT (aC (aV aj ((x0.getD i0 ⟨0,[]⟩).Vars)) (aB c4 aN)))) ?_;refine aS H5 fun R2 h9 H7 => ?_;refine pJ 1 (jK x0 i0 s1) R2 ?_ (fun u0 e3 => ?_)
       ·refine pC (jN x0 i0 s1) h9 (fun i1 s2 h10 e4 => ?_) (fun i1 s2 h11 q2 h12 h13 => ?_)
        ·have c6:=lF i1 s1.1.length (by omega);subst e4;exact pB 5 [.rg 17 [.v,.v,.e (nI s1.1.length),.e (.bool false),.v,.s,.s,.s,.s,.s,.s,.s,.s,.s,.s,.s,.s] [.s,.v]] [.only [0,2,3,4,5,6] [84]] (jK x0 i0 s1 i1) (aT (aC (aV aj s1.1) (aB c6 aN)))
        ·have c7:=lT i1 s1.1.length (by omega);refine aR h12 fun g0 H8 => ?_;refine pA 3 [.rg 17 [.v,.v,.e (nI s1.1.length),.e (.bool true),.v,.v,.v,.v,.rl i1 0 (.str (s1.1.getD i1 [])),.v,.v,.e (.dptr (ab (x0.getD i0 ⟨0,[]⟩))),.v,.v,.v,.e (.dptr [.str (((x0.getD i0 ⟨0,[]⟩).Vars).getD s1.2.toNat [])]),.v] [.v,.v]] [.only [0,2,3,4,5,6,44] [84]] 3 [] ⟨86,[(0,dS ab x0),(2,.eslice),(3,.rslice 84),(4,nI i0),(5,iI s1.2),(6,nI i1),(44,.bool (Op.bytesLess (s1.1.getD i1 []) (((x0.getD i0 ⟨0,[]⟩).Vars).getD s1.2.toNat [])))],[(84,.row 9 1 (s1.1.map aj))]⟩ (aT (aC (aV aj s1.1) (aB c7 (aC (show (0:Int)≤((i1:Nat):Int)∧((i1:Nat):Int)<((s1.1.map aj).length:Int) from by rw [KP];omega) (aC (Bz (f:=aj) (l:=s1.1) (n:=i1) 1 0 1 (by omega) (by decide)) (aC (Bx (f:=aj) (l:=s1.1) (n:=i1) [] 0 (by omega)) (aI aw x0 i0 ⟨0,[]⟩ (aJ (xv (f:=aj) (l:=((x0.getD i0 ⟨0,[]⟩).Vars)) (n:=s1.2) [] bb (by decide) (by exact g0)) aN)))))))) ?_;refine a7 H8 (fun c8 H9 => ?_) (fun c9 H10 => ?_)
         ·refine nu 84 (n:=(s1.1.map aj).length) (by kernel_rfl) (fun l0 => ?_);have l1:s1.1.length≤9223372036854775807:=by simpa only [KP] using l0
          clear l0;obtain rfl:=sI H9;exact pB 5 [.eqT 44 (.bool true),V3] [.only [0,2,3,4,5,6] [84]] (jN x0 i0 s1 (i1+1) ()) (aB c8 (aH i1 aN))
         ·obtain rfl:=sI H10;obtain rfl:=eT h13;exact pB 3 [.eqT 44 (.bool false)] [.only [0,2,3,4,5,6] [84]] (jK x0 i0 s1 i1) (aB c9 aN)
       ·subst e3;have H11:=bI H7;refine pA 1 [] [.only [0,2,3,4,5,6] [84]] 1 [] ⟨86,[(0,dS ab x0),(2,.eslice),(3,.rslice 84),(4,nI i0),(5,iI s1.2),(6,nI u0)],[(84,.row 9 1 (s1.1.map aj))]⟩ aN ?_;refine aS H11 fun v0 h14 H12 => ?_;refine cQ 0 (jO x0 i0 s1 u0 v0) (by kernel_rfl) ?_ ?_
        ·refine a7 h14 (fun c10 H13 => ?_) (fun c11 H14 => ?_)
         ·obtain rfl:=sI H13;exact pB 1 [.rg 17 [.v,.v,.e (nI s1.1.length),.e (.bool true),.v,.s,.s,.s,.s,.s,.s,.s,.s,.s,.s,.s,.s] [.s,.v]] [.only [0,2,3,4,5,6,65] [84]] (jO x0 i0 s1 u0 true) (aT (aC (aV aj s1.1) (aB c10 aN)))
         ·refine aR H14 fun g1 H15 => ?_;refine aR H15 fun g2 H16 => ?_;obtain rfl:=sI H16;exact pB 1 [.rg 17 [.v,.v,.e (nI s1.1.length),.e (.bool false),.v,.v,.v,.v,.rl u0 0 (.str (s1.1.getD u0 [])),.v,.v,.e (.dptr (ab (x0.getD i0 ⟨0,[]⟩))),.v,.v,.v,.e (.dptr [.str (((x0.getD i0 ⟨0,[]⟩).Vars).getD s1.2.toNat [])]),.v] [.v,.v]] [.only [0,2,3,4,5,6,65] [84]] (jO x0 i0 s1 u0 (!((s1.1.getD u0 [])==(((x0.getD i0 ⟨0,[]⟩).Vars).getD s1.2.toNat [])))) (aT (aC (aV aj s1.1) (aB c11 (aC (show (0:Int)≤((u0:Nat):Int)∧((u0:Nat):Int)<((s1.1.map aj).length:Int) from by rw [KP];omega) (aC (Bz (f:=aj) (l:=s1.1) (n:=u0) 1 0 1 (by omega) (by decide)) (aC (Bx (f:=aj) (l:=s1.1) (n:=u0) [] 0 (by omega)) (aI aw x0 i0 ⟨0,[]⟩ (aJ (xv (f:=aj) (l:=((x0.getD i0 ⟨0,[]⟩).Vars)) (n:=s1.2) [] bb (by decide) (by exact g2)) aN))))))))
        ·refine aS H12 fun v1 h15 H17 => ?_;refine cQ 1 (jB x0 i0 s1 v1) (by kernel_rfl) ?_ ?_
         ·refine a7 h15 (fun c12 H18 => ?_) (fun c13 H19 => ?_)
          ·refine aR H18 fun g3 H20 => ?_;refine aR H20 fun g4 H21 => ?_;refine aR H21 fun g5 H22 => ?_;refine aR H22 fun g6 H23 => ?_;refine aR H23 fun g7 H24 => ?_;obtain rfl:=sI H24;exact pB 4 [.eqT 65 (.bool true),.cv [.fz 84],.rg 18 [.b,.v,.v,.e (.dslice ((s1.1.take u0).map aj)),.apx ((s1.1.take u0).map aj),.v,.v,.e (.dptr (ab (x0.getD i0 ⟨0,[]⟩))),.v,.v,.v,.e (.dptr [.str (((x0.getD i0 ⟨0,[]⟩).Vars).getD s1.2.toNat [])]),.v,.b,.apx (((s1.1.take u0)++[(((x0.getD i0 ⟨0,[]⟩).Vars).getD s1.2.toNat [])]).map aj),.v,.v,.e (.dslice ((s1.1.drop u0).map aj))] [.ap,.rwH 84 (.row 9 1 ((((s1.1.take u0)++[(((x0.getD i0 ⟨0,[]⟩).Vars).getD s1.2.toNat [])])++(s1.1.drop u0)).map aj)),.v]] [.only [0,2,3,4,5] [84]] (jB x0 i0 s1 (((s1.1.take u0)++[(((x0.getD i0 ⟨0,[]⟩).Vars).getD s1.2.toNat [])])++(s1.1.drop u0))) (aB c12 (aC (show ((0:Int)≤0∧0≤((u0:Nat):Int)∧((u0:Nat):Int)≤((s1.1.map aj).length:Int))∧UL 1 (s1.1.map aj) from ⟨by first | omega | (simp only [KP];omega),UL.map bb _⟩) (aC (Bt aj s1.1 u0) (aJ (wW (c:=aj) dQ [] (s1.1.take u0) 16 (by decide) (by simpa using g4) rfl) (aI aw x0 i0 ⟨0,[]⟩ (aJ (xv (f:=aj) (l:=((x0.getD i0 ⟨0,[]⟩).Vars)) (n:=s1.2) [] bb (by decide) (by exact g5)) (aJ (wW (c:=aj) dQ (s1.1.take u0) [(((x0.getD i0 ⟨0,[]⟩).Vars).getD s1.2.toNat [])] 16 (by decide) (by simpa using g6) List.map_append.symm) (aC (show ((0:Int)≤((u0:Nat):Int)∧((u0:Nat):Int)≤((s1.1.map aj).length:Int)∧((s1.1.map aj).length:Int)≤((s1.1.map aj).length:Int))∧UL 1 (s1.1.map aj) from ⟨by first | omega | (simp only [KP];omega),UL.map bb _⟩) (aC (zP aj s1.1 u0) (aJ (qw (c:=aj) dQ ((s1.1.take u0)++[(((x0.getD i0 ⟨0,[]⟩).Vars).getD s1.2.toNat [])]) (s1.1.drop u0) 16 (by decide) (by simpa using g7)) (aC (rO 9 1 aj ((s1.1.take u0)++[(((x0.getD i0 ⟨0,[]⟩).Vars).getD s1.2.toNat [])]) (s1.1.drop u0)) aN)))))))))))
          ·obtain rfl:=sI H19;exact pB 3 [.eqT 65 (.bool false)] [.only [0,2,3,4,5] [84]] (jB x0 i0 s1 s1.1) (aB c13 aN)
         ·obtain rfl:=sI H17;exact pB 1 [r0 [.v,.w,.v]] [.only [0,2,3,4,5] [84]] (jC x0 i0 (v1,(aW (s1.2+1)))) aN
      ·have c5p:=KL c5;obtain rfl:=sI H6;obtain rfl:=eT h8;exact pB 6 [r0 [.v,.v,.v,.e (.dptr (ab (x0.getD i0 ⟨0,[]⟩))),.v,.v,.e (iI ((((x0.getD i0 ⟨0,[]⟩).Vars).length:Nat):Int)),.v],.eqT 23 (.bool false)] [.only [0,2,3,4] [84]] (nH x0 i0 s1.1) (aI aw x0 i0 ⟨0,[]⟩ (aT (aC (aV aj ((x0.getD i0 ⟨0,[]⟩).Vars)) (aB c5 aN))))
    ·subst e2;have H25:=bI H4;refine bB 0 (ps:=[(x0.map ab).length≤9223372036854775807]) (by kernel_rfl) (fun l2 => ?_);have l3:x0.length≤9223372036854775807:=by simpa only [br,KP] using l2
     clear l2;obtain rfl:=sI H25;exact pB 1 [V3] [.only [0,2,3,4] [84]] (jJ x0 (i0+1) u1) (aH i0 aN)
  ·subst e0;have H26:=bI H3;refine cC H26 fun e5 => ?_;subst e5;exact pR 3 [V2] [.fz 84] [] aN
 ·obtain rfl:=sI H2;exact pR 12 [V1,V1,r0 [.v,.c true (.bool y0),.v],.eqT 9 (.bool true),V1] [.wk 2 []] [] (aC Tryz.call14 (aF (a6 _ _ h0) (aT (aM c1 aN))))
def ko (x0:Linear):Option (List ai) :=
 (cV (σ:=(List ai)) (ε:=(List ai)) (ρ:=Empty) (fun i0 s0 =>
  bR ((s0.length+1)*16≤140737488355328) <|
  some (.go (s0++[((x0.Terms.getD i0 ⟨[],0⟩).Var)]))
 ) (fun i0 s0=>s0) (x0.Terms.length-0) 0 []).bind <| dJ fun u0 =>
 some u0
def l8 (x0:Linear) (i0:Nat) (s0:List ai):AS:=⟨22,[(1,.hptr 1 0),(2,.eslice),(3,.rslice 20),(4,nI i0)],[(1,.cells 32 [iI x0.Const,dS aY x0.Terms]),(20,.row 9 1 (s0.map aj))]⟩
def pV (u1:List ai):AS:=⟨22,[(2,.eslice),(3,.rslice 20)],[(20,.row 9 1 (u1.map aj))]⟩
theorem yq (x0:Linear) (r:List ai) (H:ko x0=some r):bF Tryz.prog 18 [.agg [iI x0.Const,dS aY x0.Terms]] (dS aj r):=by
 unfold ko at H;refine aX Tryz.func18 22 [.tmp 2] ?_;refine pA 8 [r0 [.m,.v],V1,V1] [.er 3 20 9 1,.only [1,2,3,4] [1,20]] 8 [] (l8 x0 0 []) aN ?_;refine aS H fun R0 h0 H0 => ?_;refine pJ 1 (pV) R0 ?_ (fun u0 e0 => ?_)
 ·refine pC (l8 x0) h0 (fun i0 s0 h1 e1 => ?_) (fun i0 s0 h2 q0 h3 h4 => ?_)
  ·have c0:=lF i0 x0.Terms.length (by omega);subst e1;exact pB 5 [r0 [.v,.v,.v,.e (nI x0.Terms.length),.e (.bool false)]] [.only [2,3] [20]] (pV s0) (aT (aC (aV aY x0.Terms) (aB c0 aN)))
  ·have c1:=lT i0 x0.Terms.length (by omega);refine aR h3 fun g0 H1 => ?_;refine nc 1 1 (ps:=[(x0.Terms.map aY).length≤9223372036854775807]) (by kernel_rfl) (fun l0 => ?_);have l1:x0.Terms.length≤9223372036854775807:=by simpa only [br,KP] using l0
   clear l0;obtain rfl:=sI H1;exact pB 9 [r0 [.v,.v,.v,.e (nI x0.Terms.length),.e (.bool true)],r0 (V 4 [.e (.dptr (aY (x0.Terms.getD i0 ⟨[],0⟩))),.v,.v,.b,.ap,.rwH 20 (.row 9 1 ((s0++[((x0.Terms.getD i0 ⟨[],0⟩).Var)]).map aj)),.v]),V3] [.only [1,2,3,4] [1,20]] (l8 x0 (i0+1) (s0++[((x0.Terms.getD i0 ⟨[],0⟩).Var)])) (aT (aC (aV aY x0.Terms) (aB c1 (aI eG x0.Terms i0 ⟨[],0⟩ (aJ (qw (c:=aj) dQ s0 [((x0.Terms.getD i0 ⟨[],0⟩).Var)] 16 (by decide) (by simpa using g0)) (aC (rO 9 1 aj s0 [((x0.Terms.getD i0 ⟨[],0⟩).Var)]) (aH i0 aN)))))))
 ·subst e0;have H2:=bI H0;refine cC H2 fun e2 => ?_;subst e2;exact pR 3 [V2] [.fz 20] [] aN
def eJ (x0:aa) (x1:Int) (x2:List (ai×(List ai))) (x3 x4:List (ai×(List Int))):Option ((List (ai×(List ai)))×(List (ai×(List Int)))×(List (ai×(List Int)))) :=
 (b7 x0.Vars x0.Coef x1 x2 x3 x4).bind fun y0 =>
 some (y0.1,y0.2.1,y0.2.2)
theorem sC (x0:aa) (x1:Int) (x2:List (ai×(List ai))) (x3 x4:List (ai×(List Int))) (r:(List (ai×(List ai)))×(List (ai×(List Int)))×(List (ai×(List Int)))) (H:eJ x0 x1 x2 x3 x4=some r):bD Tryz.prog 79 [.agg [iI x0.Coef,dS aj x0.Vars],iI x1,.hptr 1000 0] [(1000,.cells 90 [.amap 1001,.amap 1002,.amap 1003]),(1001,.smap 9 49 (x2.map (bA az))),(1002,.rmap 3 1 (dG ag x3)),(1003,.rmap 3 1 (dG ag x4))] (fun r2 h0=>r2=(.tup [])∧h0=[(1000,.cells 90 [.amap 1001,.amap 1002,.amap 1003]),(1001,.smap 9 49 (r.1.map (bA az))),(1002,.rmap 3 1 (dG ag r.2.1)),(1003,.rmap 3 1 (dG ag r.2.2))]):=by unfold eJ at H;refine aX Tryz.func79 12 [] ?_;refine aS H fun y0 h1 H0 => ?_;obtain rfl:=sI H0;exact pR 3 [r0 [.m],r0 (V 6 [.hR [(1001,1000),(1002,1001),(1003,1002)] 11 (.tup []) [(1000,.smap 9 49 (y0.1.map (bA az))),(1001,.rmap 3 1 (dG ag y0.2.1)),(1002,.rmap 3 1 (dG ag y0.2.2))]])] [] [1000,1001,1002,1003] (aC Tryz.call53 (aC (ik _ _ _ _ _ _ _ h1) aN))
def eH (x0:List aa) (x1:List Int) (x2:List (ai×(List ai))) (x3 x4:List (ai×(List Int))):Option ((List (ai×(List ai)))×(List (ai×(List Int)))×(List (ai×(List Int)))) :=
 (cV (σ:=((List (ai×(List ai)))×(List (ai×(List Int)))×(List (ai×(List Int))))) (ε:=((List (ai×(List ai)))×(List (ai×(List Int)))×(List (ai×(List Int))))) (ρ:=((List (ai×(List ai)))×(List (ai×(List Int)))×(List (ai×(List Int))))) (fun i0 s0 =>
  (cV (σ:=((List (ai×(List ai)))×(List (ai×(List Int)))×(List (ai×(List Int))))) (ε:=((List (ai×(List ai)))×(List (ai×(List Int)))×(List (ai×(List Int))))) (ρ:=Empty) (fun i1 s1 =>
   (eJ (aa.mk ((x0.getD i0 ⟨0,[]⟩).Coef) ((x0.getD i0 ⟨0,[]⟩).Vars)) (x1.getD i1 0) s1.1 s1.2.1 s1.2.2).bind fun y0 =>
   some (.go (y0.1,y0.2.1,y0.2.2))
  ) (fun i1 s1=>(s1.1,s1.2.1,s1.2.2)) (x1.length-0) 0 (s0.1,s0.2.1,s0.2.2)).bind <| dJ fun u0 =>
  some (.go (u0.1,u0.2.1,u0.2.2))
 ) (fun i0 s0=>(s0.1,s0.2.1,s0.2.2)) (x0.length-0) 0 (x2,x3,x4)).bind <| aft some
def gY (x0:List aa) (x1:List Int) (i0:Nat) (s0:(List (ai×(List ai)))×(List (ai×(List Int)))×(List (ai×(List Int)))):AS:=⟨28,[(1,dS ag x1),(2,.fn 79 [.hptr 1000 0]),(10,dS ab x0),(11,nI x0.length),(12,nI i0)],[(1000,.cells 90 [.amap 1001,.amap 1002,.amap 1003]),(1001,.smap 9 49 (s0.1.map (bA az))),(1002,.rmap 3 1 (dG ag s0.2.1)),(1003,.rmap 3 1 (dG ag s0.2.2))]⟩
def gP (x0:List aa) (x1:List Int) (i0 i1:Nat) (s1:(List (ai×(List ai)))×(List (ai×(List Int)))×(List (ai×(List Int)))):AS:=⟨28,[(1,dS ag x1),(2,.fn 79 [.hptr 1000 0]),(7,.hptr 7 0),(10,dS ab x0),(11,nI x0.length),(12,nI i0),(16,dS ag x1),(17,nI x1.length),(18,nI i1)],[(7,.cells 67 [iI ((x0.getD i0 ⟨0,[]⟩).Coef),.dslice (((x0.getD i0 ⟨0,[]⟩).Vars).map aj)]),(1000,.cells 90 [.amap 1001,.amap 1002,.amap 1003]),(1001,.smap 9 49 (s1.1.map (bA az))),(1002,.rmap 3 1 (dG ag s1.2.1)),(1003,.rmap 3 1 (dG ag s1.2.2))]⟩
def kT (x0:List aa) (x1:List Int) (i0:Nat) (u1:(List (ai×(List ai)))×(List (ai×(List Int)))×(List (ai×(List Int)))):AS:=⟨28,[(1,dS ag x1),(2,.fn 79 [.hptr 1000 0]),(10,dS ab x0),(11,nI x0.length),(12,nI i0)],[(1000,.cells 90 [.amap 1001,.amap 1002,.amap 1003]),(1001,.smap 9 49 (u1.1.map (bA az))),(1002,.rmap 3 1 (dG ag u1.2.1)),(1003,.rmap 3 1 (dG ag u1.2.2))]⟩
theorem sx (x0:List aa) (x1:List Int) (x2:List (ai×(List ai))) (x3 x4:List (ai×(List Int))) (r:(List (ai×(List ai)))×(List (ai×(List Int)))×(List (ai×(List Int)))) (H:eH x0 x1 x2 x3 x4=some r):bD Tryz.prog 78 [dS ab x0,dS ag x1,.fn 79 [.hptr 1000 0]] [(1000,.cells 90 [.amap 1001,.amap 1002,.amap 1003]),(1001,.smap 9 49 (x2.map (bA az))),(1002,.rmap 3 1 (dG ag x3)),(1003,.rmap 3 1 (dG ag x4))] (fun r2 h0=>r2=(.tup [])∧h0=[(1000,.cells 90 [.amap 1001,.amap 1002,.amap 1003]),(1001,.smap 9 49 (r.1.map (bA az))),(1002,.rmap 3 1 (dG ag r.2.1)),(1003,.rmap 3 1 (dG ag r.2.2))]):=by
 unfold eH at H;refine aX Tryz.func78 28 [] ?_;refine pA 3 [r0 [.v,.e (nI x0.length),.v]] [.only [1,2,10,11,12] [1000,1001,1002,1003]] 3 [] (gY x0 x1 0 (x2,x3,x4)) (aT (aC (aV ab x0) aN)) ?_;refine aS H fun R0 h1 H0 => ?_;refine pC (gY x0 x1) h1 (fun i0 s0 h2 e0 => ?_) (fun i0 s0 h3 q0 h4 h5 => ?_)
 ·have c0:=lF i0 x0.length (by omega);subst e0;obtain rfl:=sI (a8 H0);exact pR 5 [r0 [.e (.bool false)]] [] [1000,1001,1002,1003] (aB c0 aN)
 ·have c1:=lT i0 x0.length (by omega);refine pA 12 [r0 [.e (.bool true)],r0 [.e (.dptr (ab (x0.getD i0 ⟨0,[]⟩))),.v,.m,.m],r0 [.v,.e (nI x1.length),.v]] [.only [1,2,7,10,11,12,16,17,18] [7,1000,1001,1002,1003]] 12 [true] (gP x0 x1 i0 0 (s0.1,s0.2.1,s0.2.2)) (aB c1 (aI aw x0 i0 ⟨0,[]⟩ (aT (aC (aV ag x1) aN)))) ?_;refine aS h4 fun R1 h6 H1 => ?_;refine pJ 2 (kT x0 x1 i0) R1 ?_ (fun u0 e1 => ?_)
  ·refine pC (gP x0 x1 i0) h6 (fun i1 s1 h7 e2 => ?_) (fun i1 s1 h8 q1 h9 h10 => ?_)
   ·have c2:=lF i1 x1.length (by omega);subst e2;exact pB 5 [r0 [.e (.bool false)]] [.only [1,2,10,11,12] [1000,1001,1002,1003]] (kT x0 x1 i0 (s1.1,s1.2.1,s1.2.2)) (aB c2 aN)
   ·have c3:=lT i1 x1.length (by omega);refine aS h9 fun y0 h11 H2 => ?_;refine bB 1 (ps:=[(x1.map ag).length≤9223372036854775807]) (by kernel_rfl) (fun l0 => ?_);have l1:x1.length≤9223372036854775807:=by simpa only [br,KP] using l0
    clear l0;obtain rfl:=sI H2;exact pB 11 [r0 [.e (.bool true)],r0 [.e (.dptr [iI (x1.getD i1 0)]),.v,.v],r0 [.v,.v,.v,.hR [(1000,1000),(1001,1001),(1002,1002),(1003,1003)] 25 (.tup []) [(1000,.cells 90 [.amap 1001,.amap 1002,.amap 1003]),(1001,.smap 9 49 (y0.1.map (bA az))),(1002,.rmap 3 1 (dG ag y0.2.1)),(1003,.rmap 3 1 (dG ag y0.2.2))]],V2] [.only [1,2,7,10,11,12,16,17,18] [7,1000,1001,1002,1003]] (gP x0 x1 i0 (i1+1) (y0.1,y0.2.1,y0.2.2)) (aB c3 (aI bE x1 i1 0 (aC Tryz.call79 (aC (sC _ _ _ _ _ _ h11) (aH i1 aN)))))
  ·subst e1;have H3:=bI H1;refine bB 10 (ps:=[(x0.map ab).length≤9223372036854775807]) (by kernel_rfl) (fun l2 => ?_);have l3:x0.length≤9223372036854775807:=by simpa only [br,KP] using l2
   clear l2;obtain rfl:=sI H3;exact pB 1 [V2] [.only [1,2,10,11,12] [1000,1001,1002,1003]] (gY x0 x1 (i0+1) (u0.1,u0.2.1,u0.2.2)) (aH i0 aN)
noncomputable def fL (x0:List (List aa)) (x1:List Int):Option ((List aa)×Int) :=
 (cX).bind fun y0 =>
 (cV (σ:=((List (ai×(List ai)))×(List (ai×(List Int)))×(List (ai×(List Int))))) (ε:=((List (ai×(List ai)))×(List (ai×(List Int)))×(List (ai×(List Int))))) (ρ:=((List aa)×Int)) (fun i0 s0 =>
  (bp (x0.getD i0 [])).bind fun y1 =>
  bif y1 then (
   bR (i0≤(i0+1)∧(i0+1)≤x1.length) <|
   (eH (x0.getD i0 []) ((x1.drop i0).take ((i0+1)-i0)) s0.1 s0.2.1 s0.2.2).bind fun y2 =>
   some (.go (y2.1,y2.2.1,y2.2.2))
  ) else (
   some (.ret ([],1))
  )
 ) (fun i0 s0=>(s0.1,s0.2.1,s0.2.2)) (x0.length-0) 0 (y0.1,y0.2.1,y0.2.2)).bind <| aft fun u0 =>
 (cr u0.1 u0.2.1 u0.2.2).bind fun y3 =>
 some (y3.1,y3.2)
def jF (x0:List (List aa)) (x1:List Int) (i0:Nat) (s0:(List (ai×(List ai)))×(List (ai×(List Int)))×(List (ai×(List Int)))):AS:=⟨33,[(1,dS ag x1),(4,.eslice),(5,iI 0),(6,.hptr 6 0),(10,dS aL x0),(11,nI x0.length),(12,nI i0)],[(6,.cells 90 [.amap 900,.amap 901,.amap 902]),(900,.smap 9 49 (s0.1.map (bA az))),(901,.rmap 3 1 (dG ag s0.2.1)),(902,.rmap 3 1 (dG ag s0.2.2))]⟩
def nG (u1:(List (ai×(List ai)))×(List (ai×(List Int)))×(List (ai×(List Int)))):AS:=⟨33,[(4,.eslice),(5,iI 0),(6,.hptr 6 0)],[(6,.cells 90 [.amap 900,.amap 901,.amap 902]),(900,.smap 9 49 (u1.1.map (bA az))),(901,.rmap 3 1 (dG ag u1.2.1)),(902,.rmap 3 1 (dG ag u1.2.2))]⟩
theorem vy (x0:List (List aa)) (x1:List Int) (r:(List aa)×Int) (H:fL x0 x1=some r):bF Tryz.prog 48 [dS aL x0,dS ag x1] (.tup [dS ab r.1,iI r.2]):=by
 unfold fL at H;refine aX Tryz.func48 33 [.tmp 4,.tmp 5] ?_;refine aS H fun y0 h0 H0 => ?_;refine pA 8 [V2,r0 [.hM [] [(1,900),(2,901),(3,902)] (.agg [.amap 1,.amap 2,.amap 3]) [(1,.smap 9 49 (y0.1.map (bA az))),(2,.rmap 3 1 (dG ag y0.2.1)),(3,.rmap 3 1 (dG ag y0.2.2))],.m,.m],r0 [.v,.e (nI x0.length),.v]] [.only [1,4,5,6,10,11,12] [6,900,901,902]] 8 [] (jF x0 x1 0 (y0.1,y0.2.1,y0.2.2)) (aC Tryz.call52 (aC (l9 _ h0) (aT (aC (aV aL x0) aN)))) ?_;refine aS H0 fun R0 h1 H1 => ?_;refine pJ 1 (nG) R0 ?_ (fun u0 e0 => ?_)
 ·refine pC (jF x0 x1) h1 (fun i0 s0 h2 e1 => ?_) (fun i0 s0 h3 q0 h4 h5 => ?_)
  ·have c0:=lF i0 x0.length (by omega);subst e1;exact pB 5 [r0 [.e (.bool false)]] [.only [4,5,6] [6,900,901,902]] (nG (s0.1,s0.2.1,s0.2.2)) (aB c0 aN)
  ·have c1:=lT i0 x0.length (by omega);refine aS h4 fun y1 h6 H2 => ?_;refine a7 H2 (fun c2 H3 => ?_) (fun c3 H4 => ?_)
   ·refine bB 10 (ps:=[(x0.map aL).length≤9223372036854775807]) (by kernel_rfl) (fun l0 => ?_);have l1:x0.length≤9223372036854775807:=by simpa only [br,KP] using l0
    clear l0;refine aR H3 fun g0 H5 => ?_;refine aS H5 fun y2 h7 H6 => ?_;obtain rfl:=sI H6;exact pB 17 [r0 [.e (.bool true)],r0 [.v,.e (.dptr [.dslice ((x0.getD i0 []).map ab)]),.v,.v,.v],r0 [.v,.c true (.bool y1),.v],.eqT 19 (.bool false),r0 (V 5 [.e (.dslice (((x1.drop i0).take ((i0+1)-i0)).map ag)),.v,.hR [(6,1000),(900,1001),(901,1002),(902,1003)] 27 (.tup []) [(1000,.cells 90 [.amap 1001,.amap 1002,.amap 1003]),(1001,.smap 9 49 (y2.1.map (bA az))),(1002,.rmap 3 1 (dG ag y2.2.1)),(1003,.rmap 3 1 (dG ag y2.2.2))]]),V2] [.only [1,4,5,6,10,11,12] [6,900,901,902]] (jF x0 x1 (i0+1) (y2.1,y2.2.1,y2.2.2)) (aB c1 (aI mJ x0 i0 [] (aC Tryz.call27 (aF (ba _ _ h6) (aT (aM c2 (aH i0 (aC (show ((0:Int)≤((i0:Nat):Int)∧((i0:Nat):Int)≤(((i0+1):Nat):Int)∧(((i0+1):Nat):Int)≤((x1.map ag).length:Int))∧UL 1 (x1.map ag) from ⟨by first | omega | (simp only [KP];omega),UL.map bE _⟩) (aC (Ib ag x1 i0 (i0+1)) (aC Tryz.call78 (aC (sx _ _ _ _ _ _ h7) (aH i0 aN))))))))))))
   ·obtain rfl:=sI H4;obtain rfl:=aG h5;obtain rfl:=sI (ao H1);exact pR 17 [r0 [.e (.bool true)],r0 [.v,.e (.dptr [.dslice ((x0.getD i0 []).map ab)]),.v,.v,.v],r0 [.v,.c true (.bool y1),.v],.eqT 19 (.bool true),V2] [.wk 4 []] [] (aB c1 (aI mJ x0 i0 [] (aC Tryz.call27 (aF (ba _ _ h6) (aT (aM c3 aN))))))
 ·subst e0;have H7:=a8 H1;refine aS H7 fun y3 h8 H8 => ?_;obtain rfl:=sI H8;exact pR 3 [r0 [.v,.hR [(900,1000),(901,1001),(902,1002)] 30 (.tup [dS ab y3.1,iI y3.2]) [],.v,.v,.v,.v]] [] [] (aC Tryz.call54 (aC (ij _ _ _ _ h8) aN))
noncomputable def fD (x0 x1:List aa):Option ((List aa)×Int) :=
 (fL [x0,x1] [1,1]).bind fun y0 =>
 some (y0.1,y0.2)
theorem qz (x0 x1:List aa) (r:(List aa)×Int) (H:fD x0 x1=some r):bF Tryz.prog 20 [dS ab x0,dS ab x1] (.tup [dS ab r.1,iI r.2]):=by unfold fD at H;refine aX Tryz.func20 13 [.tmp 4,.tmp 5] ?_;refine aS H fun y0 h0 H0 => ?_;obtain rfl:=sI H0;exact pR 5 [V2,r0 [.v,.v,.b,.b,.c true (.tup [dS ab y0.1,iI y0.2]),.v,.v,.v,.v]] [] [] (aC Tryz.call48 (aF (vy _ _ _ h0) aN))
noncomputable def gQ (x0 x1:List aa):Option ((List aa)×Int) :=
 (bp x0).bind fun y0 =>
 bif y0 then (
  (bp x1).bind fun y1 =>
  bif y1 then (
   (fc x0 x1).bind fun y2 =>
   some (y2.1,y2.2)
  ) else (
   some ([],1)
  )
 ) else (
  some ([],1)
 )
theorem Ct (x0 x1:List aa) (r:(List aa)×Int) (H:gQ x0 x1=some r):bF Tryz.prog 21 [dS ab x0,dS ab x1] (.tup [dS ab r.1,iI r.2]):=by
 unfold gQ at H;refine aX Tryz.func21 19 [.tmp 4,.tmp 5] ?_;refine aS H fun y0 h0 H0 => ?_;refine a7 H0 (fun c0 H1 => ?_) (fun c1 H2 => ?_)
 ·refine aS H1 fun y1 h1 H3 => ?_;refine a7 H3 (fun c2 H4 => ?_) (fun c3 H5 => ?_)
  ·refine aS H4 fun y2 h2 H6 => ?_;obtain rfl:=sI H6;exact pR 11 [V2,r0 [.v,.c true (.bool true),.v,.v,.v,.c true (.bool y1),.v,.v],.eqT 13 (.bool false),r0 [.v,.v,.c true (.tup [dS ab y2.1,iI y2.2]),.v,.v,.v,.v]] [] [] (aC Tryz.call27 (aC (bF.eq (ba _ _ h0) (cB c0)) (aT (aC Tryz.call27 (aF (ba _ _ h1) (aT (aM c2 (aC Tryz.call29 (aF (qv _ _ _ h2) aN)))))))))
  ·obtain rfl:=sI H5;exact pR 10 [V2,r0 [.v,.c true (.bool true),.v,.v,.v,.c true (.bool y1),.v,.v],.eqT 13 (.bool true),V2] [.wk 4 []] [] (aC Tryz.call27 (aC (bF.eq (ba _ _ h0) (cB c0)) (aT (aC Tryz.call27 (aF (ba _ _ h1) (aT (aM c3 aN)))))))
 ·obtain rfl:=sI H2;exact pR 9 [V2,r0 [.v,.c true (.bool false),.v,.v,.s,.s,.s,.v],V2] [.wk 4 []] [] (aC Tryz.call27 (aC (bF.eq (ba _ _ h0) (cB c1)) (aT aN)))
def fI (x0:Int):Option Bool :=
 bif decide (x0≥(-4611686018427387904)) then (
  some (decide (x0≤4611686018427387904))
 ) else (
  some false
 )
theorem bS (x0:Int) (r:Bool) (H:fI x0=some r):bF Tryz.prog 49 [iI x0] (.bool r):=by
 unfold fI at H;refine aX Tryz.func49 9 [.tmp 2] ?_;refine a7 H (fun c0 H0 => ?_) (fun c1 H1 => ?_)
 ·obtain rfl:=sI H0;exact pR 5 [V1,r0 [.v,.e (.bool true),.v,.v,.v,.v,.v]] [] [] (aB c0 aN)
 ·obtain rfl:=sI H1;exact pR 5 [V1,r0 [.v,.e (.bool false),.v,.s,.s,.v,.v]] [] [] (aB c1 aN)
def j6 (x0:Int):Option Int :=
 bif decide (x0<0) then (
  some (aW (0-x0))
 ) else (
  some x0
 )
theorem k8 (x0 r:Int) (H:j6 x0=some r):bF Tryz.prog 50 [iI x0] (iI r):=by
 unfold j6 at H;refine aX Tryz.func50 8 [.tmp 2] ?_;refine a7 H (fun c0 H0 => ?_) (fun c1 H1 => ?_)
 ·obtain rfl:=sI H0;exact pR 10 [V1,V2,.eqT 4 (.bool true),r0 [.v,.w,.v]] [] [] (aB c0 aN)
 ·refine cC H1 fun e0 => ?_;subst e0;exact pR 11 [V1,V2,.eqT 4 (.bool false),V2] [] [] (aB c1 aN)
def my (x0 x1:Int):Option (Int×Int) :=
 (fI x0).bind fun y0 =>
 bif y0 then (
  (fI x1).bind fun y1 =>
  bif y1 then (
   bif (x0==0) then (
    some (0,0)
   ) else (
    bif (x1==0) then (
     some (0,0)
    ) else (
     (j6 x0).bind fun y2 =>
     (j6 x1).bind fun y3 =>
     bR ((y3:Int)≠0) <|
     bif decide (y2>(aW ((4611686018427387904:Int).tdiv y3))) then (
      some (0,2)
     ) else (
      some ((aW (x0*x1)),0)
     )
    )
   )
  ) else (
   some (0,2)
  )
 ) else (
  some (0,2)
 )
theorem A7 (x0 x1:Int) (r:Int×Int) (H:my x0 x1=some r):bF Tryz.prog 22 [iI x0,iI x1] (.tup [iI r.1,iI r.2]):=by
 unfold my at H;refine aX Tryz.func22 29 [.tmp 4,.tmp 5] ?_;refine aS H fun y0 h0 H0 => ?_;refine a7 H0 (fun c0 H1 => ?_) (fun c1 H2 => ?_)
 ·refine aS H1 fun y1 h1 H3 => ?_;refine a7 H3 (fun c2 H4 => ?_) (fun c3 H5 => ?_)
  ·refine a7 H4 (fun c4 H6 => ?_) (fun c5 H7 => ?_)
   ·obtain rfl:=sI H6;exact pR 15 [V2,r0 [.v,.c true (.bool true),.v,.v,.v,.c true (.bool y1),.v,.v],.eqT 13 (.bool false),r0 [.v,.e (.bool true),.v,.s,.s,.v],V2] [] [] (aC Tryz.call49 (aC (bF.eq (bS _ _ h0) (cB c0)) (aT (aC Tryz.call49 (aF (bS _ _ h1) (aT (aM c2 (aB c4 aN))))))))
   ·refine pA 11 [.rg 0 [] [.v,.v],.rg 0 [] [.v,.c true (.bool true),.v,.v,.v,.c true (.bool y1),.v,.v],.eqT 13 (.bool false),.rg 0 [] [.v,.e (.bool false),.v,.v,.v,.v]] [.only [0,1,4,5,19] []] 10 [false] ⟨29,[(0,.int .i64 x0),(1,.int .i64 x1),(4,.int .i64 0),(5,.int .i64 0),(19,.bool (x1==0))],[]⟩ (aC Tryz.call49 (aC (bF.eq (bS _ _ h0) (cB c0)) (aT (aC Tryz.call49 (aF (bS _ _ h1) (aT (aM c2 (aB c5 aN)))))))) ?_;refine a7 H7 (fun c6 H8 => ?_) (fun c7 H9 => ?_)
    ·obtain rfl:=sI H8;exact pR 5 [.eqT 19 (.bool true),V2] [] [] (aB c6 aN)
    ·refine aS H9 fun y2 h2 H10 => ?_;refine aS H10 fun y3 h3 H11 => ?_;refine aR H11 fun g0 H12 => ?_;refine a7 H12 (fun c8 H13 => ?_) (fun c9 H14 => ?_)
     ·obtain rfl:=sI H13;exact pR 11 [.eqT 19 (.bool false),r0 [.v,.c true (iI y2),.v,.c true (iI y3),.w,.v],.eqT 25 (.bool true),V2] [] [] (aB c7 (aC Tryz.call50 (aF (k8 _ _ h2) (aC Tryz.call50 (aF (k8 _ _ h3) (aC (show (y3:Int)≠0 from g0) (aB c8 aN)))))))
     ·obtain rfl:=sI H14;exact pR 12 [.eqT 19 (.bool false),r0 [.v,.c true (iI y2),.v,.c true (iI y3),.w,.v],.eqT 25 (.bool false),r0 [.v,.v,.w,.v,.v]] [] [] (aB c7 (aC Tryz.call50 (aF (k8 _ _ h2) (aC Tryz.call50 (aF (k8 _ _ h3) (aC (show (y3:Int)≠0 from g0) (aB c9 aN)))))))
  ·obtain rfl:=sI H5;exact pR 10 [V2,r0 [.v,.c true (.bool true),.v,.v,.v,.c true (.bool y1),.v,.v],.eqT 13 (.bool true),V2] [] [] (aC Tryz.call49 (aC (bF.eq (bS _ _ h0) (cB c0)) (aT (aC Tryz.call49 (aF (bS _ _ h1) (aT (aM c3 aN)))))))
 ·obtain rfl:=sI H2;exact pR 9 [V2,r0 [.v,.c true (.bool false),.v,.v,.s,.s,.s,.v],V2] [] [] (aC Tryz.call49 (aC (bF.eq (bS _ _ h0) (cB c1)) (aT aN)))
def kL (x0:Linear) (x1:List Value):Option (Int×Int) :=
 (fA x0).bind fun y0 =>
 bif y0 then (
  (cV (σ:=Int) (ε:=Int) (ρ:=(Int×Int)) (fun i0 s0 =>
   (cV (σ:=Unit) (ε:=Nat) (ρ:=Empty) (fun i1 s1 =>
    bif (((x1.getD i1 ⟨[],0⟩).Var)==((x0.Terms.getD i0 ⟨[],0⟩).Var)) then (
     some (.brk i1)
    ) else (
     some (.go ())
    )
   ) (fun i1 s1=>i1) (x1.length-0) 0 ()).bind <| dJ fun u0 =>
   bif (((u0:Nat):Int)==((x1.length:Nat):Int)) then (
    some (.ret (0,7))
   ) else (
    bR (u0<x1.length) <|
    bif decide (((x1.getD u0 ⟨[],0⟩).N)<(-1000000000)) then (
     some (.ret (0,2))
    ) else (
     bif decide (((x1.getD u0 ⟨[],0⟩).N)>1000000000) then (
      some (.ret (0,2))
     ) else (
      some (.go (aW (s0+(aW (((x0.Terms.getD i0 ⟨[],0⟩).C)*((x1.getD u0 ⟨[],0⟩).N))))))
     )
    )
   )
  ) (fun i0 s0=>s0) (x0.Terms.length-0) 0 x0.Const).bind <| aft fun u1 =>
  some (u1,0)
 ) else (
  some (0,1)
 )
def mc (x0:Linear) (x1:List Value) (i0:Nat) (s0:Int):AS:=⟨68,[(1,dS aZ x1),(2,.hptr 2 0),(4,iI 0),(5,iI 0),(6,iI s0),(7,nI i0)],[(2,.cells 32 [iI x0.Const,dS aY x0.Terms])]⟩
def pM (u2:Int):AS:=⟨68,[(4,iI 0),(5,iI 0),(6,iI u2)],[]⟩
def lW (x0:Linear) (x1:List Value) (i0:Nat) (s0:Int) (i1:Nat) (s1:Unit):AS:=⟨68,[(1,dS aZ x1),(2,.hptr 2 0),(4,iI 0),(5,iI 0),(6,iI s0),(7,nI i0),(8,nI i1)],[(2,.cells 32 [iI x0.Const,dS aY x0.Terms])]⟩
def lP (x0:Linear) (x1:List Value) (i0:Nat) (s0:Int) (u3:Nat):AS:=⟨68,[(1,dS aZ x1),(2,.hptr 2 0),(4,iI 0),(5,iI 0),(6,iI s0),(7,nI i0),(8,nI u3)],[(2,.cells 32 [iI x0.Const,dS aY x0.Terms])]⟩
theorem zk (x0:Linear) (x1:List Value) (r:Int×Int) (H:kL x0 x1=some r):bF Tryz.prog 23 [.agg [iI x0.Const,dS aY x0.Terms],dS aZ x1] (.tup [iI r.1,iI r.2]):=by
 unfold kL at H;refine aX Tryz.func23 68 [.tmp 4,.tmp 5] ?_;refine aS H fun y0 h0 H0 => ?_;refine a7 H0 (fun c0 H1 => ?_) (fun c1 H2 => ?_)
 ·refine pA 14 [.rg 0 [] [.m,.v,.v],.rg 0 [] [.v,.c true (.bool y0),.v],.eqT 12 (.bool false),.rg 0 [] [.v,.v,.v],.rg 0 [] [.v]] [.only [1,2,4,5,6,7] [2]] 13 [false] (mc x0 x1 0 x0.Const) (aC Tryz.call15 (aF (gj _ _ h0) (aT (aM c0 aN)))) ?_;refine aS H1 fun R0 h1 H3 => ?_;refine pJ 1 (pM) R0 ?_ (fun u1 e0 => ?_)
  ·refine pC (mc x0 x1) h1 (fun i0 s0 h2 e1 => ?_) (fun i0 s0 h3 q0 h4 h5 => ?_)
   ·have c2:=lF i0 x0.Terms.length (by omega);subst e1;exact pB 5 [r0 [.v,.v,.v,.e (nI x0.Terms.length),.e (.bool false)]] [.only [4,5,6] []] (pM s0) (aT (aC (aV aY x0.Terms) (aB c2 aN)))
   ·have c3:=lT i0 x0.Terms.length (by omega);refine pA 11 [r0 [.v,.v,.v,.e (nI x0.Terms.length),.e (.bool true)],V1] [.only [1,2,4,5,6,7,8] [2]] 11 [true] (lW x0 x1 i0 s0 0 ()) (aT (aC (aV aY x0.Terms) (aB c3 aN))) ?_;refine aS h4 fun R1 h6 H4 => ?_;refine pJ 1 (lP x0 x1 i0 s0) R1 ?_ (fun u0 e2 => ?_)
    ·refine pC (lW x0 x1 i0 s0) h6 (fun i1 s1 h7 e3 => ?_) (fun i1 s1 h8 q1 h9 h10 => ?_)
     ·have c4:=lF i1 x1.length (by omega);subst e3;exact pB 5 [.rg 16 [.v,.v,.e (nI x1.length),.e (.bool false),.v,.s,.s,.s,.s,.s,.s,.s,.s,.s,.s,.s] [.s,.v]] [.only [1,2,4,5,6,7,8] [2]] (lP x0 x1 i0 s0 i1) (aT (aC (aV aZ x1) (aB c4 aN)))
     ·have c5:=lT i1 x1.length (by omega);refine pA 3 [.rg 16 [.v,.v,.e (nI x1.length),.e (.bool true),.v,.v,.v,.e (.dptr (aZ (x1.getD i1 ⟨[],0⟩))),.v,.v,.v,.v,.v,.e (.dptr (aY (x0.Terms.getD i0 ⟨[],0⟩))),.v,.v] [.v,.v]] [.only [1,2,4,5,6,7,8,39] [2]] 3 [] ⟨68,[(1,dS aZ x1),(2,.hptr 2 0),(4,iI 0),(5,iI 0),(6,iI s0),(7,nI i0),(8,nI i1),(39,.bool (!(((x1.getD i1 ⟨[],0⟩).Var)==((x0.Terms.getD i0 ⟨[],0⟩).Var))))],[(2,.cells 32 [iI x0.Const,dS aY x0.Terms])]⟩ (aT (aC (aV aZ x1) (aB c5 (aI ku x1 i1 ⟨[],0⟩ (aI eG x0.Terms i0 ⟨[],0⟩ aN))))) ?_;refine a7 h9 (fun c6 H5 => ?_) (fun c7 H6 => ?_)
      ·obtain rfl:=sI H5;obtain rfl:=eT h10;exact pB 3 [.eqT 39 (.bool false)] [.only [1,2,4,5,6,7,8] [2]] (lP x0 x1 i0 s0 i1) (aM c6 aN)
      ·refine bB 1 (ps:=[(x1.map aZ).length≤9223372036854775807]) (by kernel_rfl) (fun l0 => ?_);have l1:x1.length≤9223372036854775807:=by simpa only [br,KP] using l0
       clear l0;obtain rfl:=sI H6;exact pB 5 [.eqT 39 (.bool true),V3] [.only [1,2,4,5,6,7,8] [2]] (lW x0 x1 i0 s0 (i1+1) ()) (aM c7 (aH i1 aN))
    ·subst e2;have H7:=bI H4;refine a7 H7 (fun c8 H8 => ?_) (fun c9 H9 => ?_)
     ·obtain rfl:=sI H8;obtain rfl:=aG h5;obtain rfl:=sI (ao H3);exact pR 8 [r0 [.v,.v,.e (nI x1.length),.v],.eqT 45 (.bool true),V2] [] [] (aT (aC (aV aZ x1) (aB c8 aN)))
     ·refine aR H9 fun g0 H10 => ?_;refine a7 H10 (fun c10 H11 => ?_) (fun c11 H12 => ?_)
      ·have c10p:=KM c10;obtain rfl:=sI H11;obtain rfl:=aG h5;obtain rfl:=sI (ao H3);exact pR 15 [r0 [.v,.v,.e (nI x1.length),.v],.eqT 45 (.bool false),r0 [.v,.v,.e (.dptr (aZ (x1.getD u0 ⟨[],0⟩))),.v,.v,.v],r0 [.v,.e (.bool true),.v,.s,.s,.v],V2] [] [] (aT (aC (aV aZ x1) (aB c9 (aI ku x1 u0 ⟨[],0⟩ (aB c10 aN)))))
      ·have c11p:=KL c11;refine pA 11 [r0 [.v,.v,.e (nI x1.length),.v],.eqT 45 (.bool false),r0 [.v,.v,.e (.dptr (aZ (x1.getD u0 ⟨[],0⟩))),.v,.v,.v],r0 [.v,.e (.bool false),.v,.v,.v,.v]] [.only [1,2,4,5,6,7,9,56] [2]] 10 [false] ⟨68,[(1,dS aZ x1),(2,.hptr 2 0),(4,iI 0),(5,iI 0),(6,iI s0),(7,nI i0),(9,iI ((x1.getD u0 ⟨[],0⟩).N)),(56,.bool (decide (((x1.getD u0 ⟨[],0⟩).N)>1000000000)))],[(2,.cells 32 [iI x0.Const,dS aY x0.Terms])]⟩ (aT (aC (aV aZ x1) (aB c9 (aI ku x1 u0 ⟨[],0⟩ (aB c11 aN))))) ?_;refine a7 H12 (fun c12 H13 => ?_) (fun c13 H14 => ?_)
       ·obtain rfl:=sI H13;obtain rfl:=aG h5;obtain rfl:=sI (ao H3);exact pR 5 [.eqT 56 (.bool true),V2] [] [] (aB c12 aN)
       ·have c13p:=KL c13;refine nc 2 1 (ps:=[(x0.Terms.map aY).length≤9223372036854775807]) (by kernel_rfl) (fun l2 => ?_);have l3:x0.Terms.length≤9223372036854775807:=by simpa only [br,KP] using l2
        clear l2;obtain rfl:=sI H14;exact pB 5 [.eqT 56 (.bool false),r0 (V 4 [.e (.dptr (aY (x0.Terms.getD i0 ⟨[],0⟩))),.v,.v,.v,.w,.w,.v]),V3] [.only [1,2,4,5,6,7] [2]] (mc x0 x1 (i0+1) (aW (s0+(aW (((x0.Terms.getD i0 ⟨[],0⟩).C)*((x1.getD u0 ⟨[],0⟩).N)))))) (aB c13 (aI eG x0.Terms i0 ⟨[],0⟩ (aH i0 aN)))
  ·subst e0;have H15:=a8 H3;obtain rfl:=sI H15;exact pR 3 [V3] [] [] aN
 ·obtain rfl:=sI H2;exact pR 10 [r0 [.m,.v,.v],r0 [.v,.c true (.bool y0),.v],.eqT 12 (.bool true),V2] [] [] (aC Tryz.call15 (aF (gj _ _ h0) (aT (aM c1 aN))))
def gD (x0:List aa):Option (List ai) :=
 (bp x0).bind fun y0 =>
 bif y0 then (
  (cV (σ:=(List ai)) (ε:=(List ai)) (ρ:=Empty) (fun i0 s0 =>
   bR ((s0.length+((x0.getD i0 ⟨0,[]⟩).Vars).length)*16≤140737488355328) <|
   some (.go (s0++((x0.getD i0 ⟨0,[]⟩).Vars)))
  ) (fun i0 s0=>s0) (x0.length-0) 0 []).bind <| dJ fun u0 =>
  (oc u0).bind fun y1 =>
  (jr y1).bind fun y2 =>
  some y2
 ) else (
  some []
 )
def mX (x0:List aa) (i0:Nat) (s0:List ai):AS:=⟨24,[(2,.eslice),(3,.rslice 18),(9,dS ab x0),(10,nI x0.length),(11,nI i0)],[(18,.row 9 1 (s0.map aj))]⟩
def qE (u1:List ai):AS:=⟨24,[(2,.eslice),(3,.rslice 18)],[(18,.row 9 1 (u1.map aj))]⟩
theorem Am (x0:List aa) (r:List ai) (H:gD x0=some r):bF Tryz.prog 33 [dS ab x0] (dS aj r):=by
 unfold gD at H;refine aX Tryz.func33 24 [.tmp 2] ?_;refine aS H fun y0 h0 H0 => ?_;refine a7 H0 (fun c0 H1 => ?_) (fun c1 H2 => ?_)
 ·refine pA 14 [.rg 0 [] [.v],.rg 0 [] [.v,.c true (.bool y0),.v],.eqT 8 (.bool false),.rg 0 [] [.v],.rg 0 [] [.v,.e (.int .i64 ((x0.length:Nat):Int)),.v]] [.er 3 18 9 1,.only [2,3,9,10,11] [18]] 13 [false] (mX x0 0 []) (aC Tryz.call27 (aF (ba _ _ h0) (aT (aM c0 (aT (aC (aV ab x0) aN)))))) ?_;refine aS H1 fun R0 h1 H3 => ?_;refine pJ 1 (qE) R0 ?_ (fun u0 e0 => ?_)
  ·refine pC (mX x0) h1 (fun i0 s0 h2 e1 => ?_) (fun i0 s0 h3 q0 h4 h5 => ?_)
   ·have c2:=lF i0 x0.length (by omega);subst e1;exact pB 5 [r0 [.e (.bool false)]] [.only [2,3] [18]] (qE s0) (aB c2 aN)
   ·have c3:=lT i0 x0.length (by omega);refine aR h4 fun g0 H4 => ?_;refine bB 9 (ps:=[(x0.map ab).length≤9223372036854775807]) (by kernel_rfl) (fun l0 => ?_);have l1:x0.length≤9223372036854775807:=by simpa only [br,KP] using l0
    clear l0;obtain rfl:=sI H4;exact pB 11 [r0 [.e (.bool true)],r0 [.e (.dptr (ab (x0.getD i0 ⟨0,[]⟩))),.v,.m,.m],r0 [.v,.v,.v,.ap,.rwH 18 (.row 9 1 ((s0++((x0.getD i0 ⟨0,[]⟩).Vars)).map aj)),.v],V2] [.only [2,3,9,10,11] [18]] (mX x0 (i0+1) (s0++((x0.getD i0 ⟨0,[]⟩).Vars))) (aB c3 (aI aw x0 i0 ⟨0,[]⟩ (aJ (qw (c:=aj) dQ s0 ((x0.getD i0 ⟨0,[]⟩).Vars) 16 (by decide) (by simpa using g0)) (aC (rO 9 1 aj s0 ((x0.getD i0 ⟨0,[]⟩).Vars)) (aH i0 aN)))))
  ·subst e0;have H5:=bI H3;refine aS H5 fun y1 h6 H6 => ?_;refine aS H6 fun y2 h7 H7 => ?_;refine cC H7 fun e2 => ?_;subst e2;exact pR 5 [r0 [.v,.hR [(18,1000)] 21 (.tup []) [(1000,.row 9 1 (y1.map aj))]],r0 [.v,.hR [(18,1000)] 23 (.rslice 0) [(0,.row 9 1 (y2.map aj))],.v]] [.fz 23] [] (aC Tryz.call69 (aC (BO u0 y1 h6) (aC Tryz.call70 (aC (wR y1 y2 h7) aN))))
 ·obtain rfl:=sI H2;exact pR 10 [V1,r0 [.v,.c true (.bool y0),.v],.eqT 8 (.bool true),V1] [.wk 2 []] [] (aC Tryz.call27 (aF (ba _ _ h0) (aT (aM c1 aN))))
def nq (x0:ai):Option Linear :=
 some (Linear.mk 0 [(Coef.mk x0 1)])
theorem yM (x0:ai) (r:Linear) (H:nq x0=some r):bF Tryz.prog 34 [.str x0] (.agg [iI r.Const,dS aY r.Terms]):=by unfold nq at H;refine aX Tryz.func34 7 [.cell 2 32] ?_;obtain rfl:=sI H;exact pR 5 [r0 [.m],r0 [.v,.b,.b,.b,.m]] [] [] aN
def hZ (x0:Bind) (x1:ai):Option Bool :=
 bif (x0.Kind==1) then (
  some (x0.Var==x1)
 ) else (
  some false
 )
theorem u9 (x0:Bind) (x1:ai) (r:Bool) (H:hZ x0 x1=some r):bF Tryz.prog 36 [.agg [iI x0.Kind,.str x0.Var,iI x0.Dim.Const,dS aY x0.Dim.Terms,.str x0.Row.Row,dS fW x0.Row.Dims,.str x0.Elem],.dptr [.str x1]] (.bool r):=by
 unfold hZ at H;refine aX Tryz.func36 13 [.tmp 3] ?_;refine a7 H (fun c0 H0 => ?_) (fun c1 H1 => ?_)
 ·obtain rfl:=sI H0;exact pR 5 [r0 [.m,.v],r0 [.v,.v,.e (.bool true),.v,.v,.v,.v,.v,.v,.v]] [] [] (aB c0 aN)
 ·obtain rfl:=sI H1;exact pR 5 [r0 [.m,.v],r0 [.v,.v,.e (.bool false),.v,.s,.s,.s,.s,.v,.v]] [] [] (aB c1 aN)
def b9 (x0:List Bind) (x1:ai):Option Int :=
 (cV (σ:=Unit) (ε:=Unit) (ρ:=Int) (fun i0 s0 =>
  (hZ (Bind.mk ((x0.getD i0 (⟨0,[],⟨0,[]⟩,⟨[],[]⟩,[]⟩)).Kind) ((x0.getD i0 (⟨0,[],⟨0,[]⟩,⟨[],[]⟩,[]⟩)).Var) (Linear.mk (((x0.getD i0 (⟨0,[],⟨0,[]⟩,⟨[],[]⟩,[]⟩)).Dim).Const) (((x0.getD i0 (⟨0,[],⟨0,[]⟩,⟨[],[]⟩,[]⟩)).Dim).Terms)) (Shape.mk (((x0.getD i0 (⟨0,[],⟨0,[]⟩,⟨[],[]⟩,[]⟩)).Row).Row) (((x0.getD i0 (⟨0,[],⟨0,[]⟩,⟨[],[]⟩,[]⟩)).Row).Dims)) ((x0.getD i0 (⟨0,[],⟨0,[]⟩,⟨[],[]⟩,[]⟩)).Elem)) x1).bind fun y0 =>
  bif y0 then (
   some (.ret ((i0:Nat):Int))
  ) else (
   some (.go ())
  )
 ) (fun i0 s0=>()) (x0.length-0) 0 ()).bind <| aft fun u0 =>
 some (-1)
def di (x0:List Bind) (x1:ai) (i0:Nat) (s0:Unit):AS:=⟨19,[(0,dS ky x0),(1,.fn 36 [.hptr 1000 0]),(4,iI 0),(7,nI x0.length),(8,nI i0)],[(1000,.cells 9 [.str x1])]⟩
def fe (x1:ai) (u1:Unit):AS:=⟨19,[(4,iI 0)],[(1000,.cells 9 [.str x1])]⟩
theorem j4 (x0:List Bind) (x1:ai) (r:Int) (H:b9 x0 x1=some r):bD Tryz.prog 35 [dS ky x0,.fn 36 [.hptr 1000 0]] [(1000,.cells 9 [.str x1])] (fun r2 h0=>r2=(iI r)∧h0=[(1000,.cells 9 [.str x1])]):=by
 unfold b9 at H;refine aX Tryz.func35 19 [.tmp 4] ?_;refine pA 6 [V1,r0 [.v,.e (nI x0.length),.v]] [.only [0,1,4,7,8] [1000]] 6 [] (di x0 x1 0 ()) (aT (aC (aV ky x0) aN)) ?_;refine aS H fun R0 h1 H0 => ?_;refine pJ 1 (fe x1) R0 ?_ (fun u0 e0 => ?_)
 ·refine pC (di x0 x1) h1 (fun i0 s0 h2 e1 => ?_) (fun i0 s0 h3 q0 h4 h5 => ?_)
  ·have c0:=lF i0 x0.length (by omega);subst e1;exact pB 5 [r0 [.e (.bool false)]] [.only [4] [1000]] (fe x1 ()) (aB c0 aN)
  ·have c1:=lT i0 x0.length (by omega);refine aS h4 fun y0 h6 H1 => ?_;refine pA 11 [r0 [.e (.bool true)],V2,r0 [.v,.v,.v,.e (.dptr (ky (x0.getD i0 (⟨0,[],⟨0,[]⟩,⟨[],[]⟩,[]⟩)))),.v,.c false (.bool y0)]] [.only [0,1,4,5,7,8,16] [1000]] 11 [true] ⟨19,[(0,dS ky x0),(1,.fn 36 [.hptr 1000 0]),(4,iI 0),(5,nI i0),(7,nI x0.length),(8,nI i0),(16,.bool y0)],[(1000,.cells 9 [.str x1])]⟩ (aB c1 (aI xU x0 i0 (⟨0,[],⟨0,[]⟩,⟨[],[]⟩,[]⟩) (aC Tryz.call36 (aF (u9 _ _ _ h6) aN)))) ?_;refine a7 H1 (fun c2 H2 => ?_) (fun c3 H3 => ?_)
   ·obtain rfl:=sI H2;obtain rfl:=aG h5;obtain rfl:=sI (ao H0);exact pR 5 [.eqT 16 (.bool true),V2] [] [1000] (aB c2 aN)
   ·refine bB 0 (ps:=[(x0.map ky).length≤9223372036854775807]) (by kernel_rfl) (fun l0 => ?_);have l1:x0.length≤9223372036854775807:=by simpa only [br,KP] using l0
    clear l0;obtain rfl:=sI H3;exact pB 4 [.eqT 16 (.bool false),V2] [.only [0,1,4,7,8] [1000]] (di x0 x1 (i0+1) ()) (aB c3 (aH i0 aN))
 ·subst e0;have H4:=a8 H0;obtain rfl:=sI H4;exact pR 3 [V1] [] [1000] aN
noncomputable def iR (x0:List aa) (x1:List Bind):Option ((List aa)×Int) :=
 (bp x0).bind fun y0 =>
 bif y0 then (
  (gD x0).bind fun y1 =>
  (cV (σ:=(List (ai×(List aa)))) (ε:=(List (ai×(List aa)))) (ρ:=((List aa)×Int)) (fun i0 s0 =>
   (nq (y1.getD i0 [])).bind fun y2 =>
   (b9 x1 (y1.getD i0 [])).bind fun y3 =>
   ((
    bif decide (y3≥0) then (
     bR (0≤y3∧y3<(x1.length:Int)) <|
     some ((((x1.getD y3.toNat (⟨0,[],⟨0,[]⟩,⟨[],[]⟩,[]⟩)).Dim).Const),(((x1.getD y3.toNat (⟨0,[],⟨0,[]⟩,⟨[],[]⟩,[]⟩)).Dim).Terms))
    ) else (
     some (y2.Const,y2.Terms)
    )
   ):Option (Int×(List Coef))).bind fun v0 =>
   (dT (Linear.mk v0.1 v0.2)).bind fun y4 =>
   bif (y4.2==0) then (
    some (.go (dn (y1.getD i0 []) y4.1 s0))
   ) else (
    some (.ret ([],y4.2))
   )
  ) (fun i0 s0=>s0) (y1.length-0) 0 []).bind <| aft fun u0 =>
  (cV (σ:=(List aa)) (ε:=(List aa)) (ρ:=((List aa)×Int)) (fun i1 s1 =>
   (cV (σ:=(List aa)) (ε:=(List aa)) (ρ:=(eM (List aa) (List aa) ((List aa)×Int))) (fun i2 s2 =>
    (fc s2 (dy [] (((x0.getD i1 ⟨0,[]⟩).Vars).getD i2 []) u0)).bind fun y5 =>
    bif (y5.2==0) then (
     some (.go y5.1)
    ) else (
     some (.ret (.ret ([],y5.2)))
    )
   ) (fun i2 s2=>s2) (((x0.getD i1 ⟨0,[]⟩).Vars).length-0) 0 [(aa.mk ((x0.getD i1 ⟨0,[]⟩).Coef) [])]).bind <| aft fun u1 =>
   (fD s1 u1).bind fun y6 =>
   bif (y6.2==0) then (
    some (.go y6.1)
   ) else (
    some (.ret ([],y6.2))
   )
  ) (fun i1 s1=>s1) (x0.length-0) 0 []).bind <| aft fun u2 =>
  some (u2,0)
 ) else (
  some ([],1)
 )
def mf (x0:List aa) (x1:List Bind) (y1:List ai) (i0:Nat) (s0:List (ai×(List aa))):AS:=⟨100,[(0,dS ab x0),(1,dS ky x1),(4,.eslice),(5,iI 0),(6,.amap 26),(28,dS aj y1),(29,nI y1.length),(30,nI i0)],[(26,.smap 9 24 (s0.map (bA aL)))]⟩
def pE (x0:List aa) (u3:List (ai×(List aa))):AS:=⟨100,[(0,dS ab x0),(4,.eslice),(5,iI 0),(6,.amap 26)],[(26,.smap 9 24 (u3.map (bA aL)))]⟩
def lu (x0:List aa) (x1:List Bind) (y1:List ai) (i0:Nat) (s0:List (ai×(List aa))) (v0:Int×(List Coef)):AS:=⟨100,[(0,dS ab x0),(1,dS ky x1),(4,.eslice),(5,iI 0),(6,.amap 26),(8,.hptr 8 0),(9,.hptr 9 0),(28,dS aj y1),(29,nI y1.length),(30,nI i0)],[(8,.cells 9 [.str (y1.getD i0 [])]),(9,.cells 32 [iI v0.1,dS aY v0.2]),(26,.smap 9 24 (s0.map (bA aL)))]⟩
def mm (x0:List aa) (u0:List (ai×(List aa))) (i1:Nat) (s1:List aa):AS:=⟨100,[(4,.eslice),(5,iI 0),(6,.amap 26),(13,dS ab s1),(58,dS ab x0),(59,nI x0.length),(60,nI i1)],[(26,.smap 9 24 (u0.map (bA aL)))]⟩
def pS (u4:List aa):AS:=⟨100,[(4,.eslice),(5,iI 0),(13,dS ab u4)],[]⟩
def lp (x0:List aa) (u0:List (ai×(List aa))) (i1:Nat) (s1:List aa) (i2:Nat) (s2:List aa):AS:=⟨100,[(4,.eslice),(5,iI 0),(6,.amap 26),(13,dS ab s1),(16,dS ab s2),(58,dS ab x0),(59,nI x0.length),(60,nI i1),(69,.dslice (((x0.getD i1 ⟨0,[]⟩).Vars).map aj)),(70,iI ((((x0.getD i1 ⟨0,[]⟩).Vars).length:Nat):Int)),(71,nI i2)],[(26,.smap 9 24 (u0.map (bA aL)))]⟩
def pQ (x0:List aa) (u0:List (ai×(List aa))) (i1:Nat) (s1 u5:List aa):AS:=⟨100,[(4,.eslice),(5,iI 0),(6,.amap 26),(13,dS ab s1),(16,dS ab u5),(58,dS ab x0),(59,nI x0.length),(60,nI i1)],[(26,.smap 9 24 (u0.map (bA aL)))]⟩
theorem yB (x0:List aa) (x1:List Bind) (r:(List aa)×Int) (H:iR x0 x1=some r):bF Tryz.prog 11 [dS ab x0,dS ky x1] (.tup [dS ab r.1,iI r.2]):=by
 unfold iR at H;refine aX Tryz.func11 100 [.tmp 4,.tmp 5] ?_;refine aS H fun y0 h0 H0 => ?_;refine a7 H0 (fun c0 H1 => ?_) (fun c1 H2 => ?_)
 ·refine aS H1 fun y1 h1 H3 => ?_;refine pA 14 [V2,r0 [.v,.c true (.bool y0),.v],.eqT 25 (.bool false),r0 [.m,.v],r0 [.v,.c true (dS aj y1),.e (nI y1.length),.v]] [.only [0,1,4,5,6,28,29,30] [26]] 13 [false] (mf x0 x1 y1 0 []) (aC Tryz.call27 (aF (ba _ _ h0) (aT (aM c0 (aC Tryz.call33 (aF (Am _ _ h1) (aT (aC (aV aj y1) aN)))))))) ?_;refine aS H3 fun R0 h2 H4 => ?_;refine pJ 1 (pE x0) R0 ?_ (fun u0 e0 => ?_)
  ·refine pC (mf x0 x1 y1) h2 (fun i0 s0 h3 e1 => ?_) (fun i0 s0 h4 q0 h5 h6 => ?_)
   ·have c2:=lF i0 y1.length (by omega);subst e1;exact pB 5 [r0 [.e (.bool false)]] [.only [0,4,5,6] [26]] (pE x0 s0) (aB c2 aN)
   ·have c3:=lT i0 y1.length (by omega);refine aS h5 fun y2 h7 H5 => ?_;refine aS H5 fun y3 h8 H6 => ?_;refine pA 16 [r0 [.e (.bool true)],r0 [.e (.dptr [.str (y1.getD i0 [])]),.v,.m,.m],r0 [.v,.c true (.agg [iI y2.Const,dS aY y2.Terms]),.m,.m],r0 [.v,.v,.hR [(8,1000)] 38 (iI y3) [(1000,.cells 9 [.str (y1.getD i0 [])])],.v],V2] [.only [0,1,4,5,6,8,9,10,28,29,30,40] [8,9,26]] 16 [true] ⟨100,[(0,dS ab x0),(1,dS ky x1),(4,.eslice),(5,iI 0),(6,.amap 26),(8,.hptr 8 0),(9,.hptr 9 0),(10,iI y3),(28,dS aj y1),(29,nI y1.length),(30,nI i0),(40,.bool (decide (y3≥0)))],[(8,.cells 9 [.str (y1.getD i0 [])]),(9,.cells 32 [iI y2.Const,dS aY y2.Terms]),(26,.smap 9 24 (s0.map (bA aL)))]⟩ (aB c3 (aI bb y1 i0 [] (aC Tryz.call34 (aF (yM _ _ h7) (aC Tryz.call35 (aC (j4 _ _ _ h8) aN)))))) ?_;refine aS H6 fun v0 h9 H7 => ?_;refine cQ 0 (lu x0 x1 y1 i0 s0 v0) (by kernel_rfl) ?_ ?_
    ·refine a7 h9 (fun c4 H8 => ?_) (fun c5 H9 => ?_)
     ·refine aR H8 fun g0 H10 => ?_;obtain rfl:=sI H10;exact pB 3 [.eqT 40 (.bool true),r0 [.v,.v,.e (.dptr (ky (x1.getD y3.toNat (⟨0,[],⟨0,[]⟩,⟨[],[]⟩,[]⟩)))),.v,.v,.m]] [.only [0,1,4,5,6,8,9,28,29,30] [8,9,26]] (lu x0 x1 y1 i0 s0 ((((x1.getD y3.toNat (⟨0,[],⟨0,[]⟩,⟨[],[]⟩,[]⟩)).Dim).Const),(((x1.getD y3.toNat (⟨0,[],⟨0,[]⟩,⟨[],[]⟩,[]⟩)).Dim).Terms))) (aB c4 (aJ (xv (f:=ky) (l:=x1) (n:=y3) (⟨0,[],⟨0,[]⟩,⟨[],[]⟩,[]⟩) xU (by decide) (by exact g0)) aN))
     ·obtain rfl:=sI H9;exact pB 3 [.eqT 40 (.bool false)] [.only [0,1,4,5,6,8,9,28,29,30] [8,9,26]] (lu x0 x1 y1 i0 s0 (y2.Const,y2.Terms)) (aB c5 aN)
    ·refine aS H7 fun y4 h10 H11 => ?_;refine a7 H11 (fun c6 H12 => ?_) (fun c7 H13 => ?_)
     ·refine bB 28 (ps:=[(y1.map aj).length≤9223372036854775807]) (by kernel_rfl) (fun l0 => ?_);have l1:y1.length≤9223372036854775807:=by simpa only [br,KP] using l0
      clear l0;obtain rfl:=sI H12;exact pB 10 [r0 [.v,.c true (.tup [dS ab y4.1,iI y4.2]),.v,.v,.v,.v,.v],V2,.eqT 52 (.bool false),r0 [.v,.v,.v,.m,.rwH 26 (.smap 9 24 ((dn (y1.getD i0 []) y4.1 s0).map (bA aL)))],V2] [.only [0,1,4,5,6,28,29,30] [26]] (mf x0 x1 y1 (i0+1) (dn (y1.getD i0 []) y4.1 s0)) (aC Tryz.call24 (aF (ph _ _ h10) (aM c6 (aC (congrArg (AO.smap 9 24) (sH (c:=aL) (y1.getD i0 []) y4.1 s0)) (aH i0 aN)))))
     ·obtain rfl:=sI H13;obtain rfl:=aG h6;obtain rfl:=sI (ao H4);exact pR 10 [r0 [.v,.c true (.tup [dS ab y4.1,iI y4.2]),.v,.v,.v,.v,.v],V2,.eqT 52 (.bool true),V3] [.wk 4 []] [] (aC Tryz.call24 (aF (ph _ _ h10) (aM c7 aN)))
  ·subst e0;have H14:=a8 H4;refine pA 6 [V1,r0 [.v,.e (nI x0.length),.v]] [.wk 13 [],.only [4,5,6,13,58,59,60] [26]] 6 [] (mm x0 u0 0 []) (aT (aC (aV ab x0) aN)) ?_;refine aS H14 fun R1 h11 H15 => ?_;refine pJ 1 (pS) R1 ?_ (fun u2 e2 => ?_)
   ·refine pC (mm x0 u0) h11 (fun i1 s1 h12 e3 => ?_) (fun i1 s1 h13 q1 h14 h15 => ?_)
    ·have c8:=lF i1 x0.length (by omega);subst e3;exact pB 5 [r0 [.e (.bool false)]] [.only [4,5,13] []] (pS s1) (aB c8 aN)
    ·have c9:=lT i1 x0.length (by omega);refine pA 15 [r0 [.e (.bool true)],r0 [.e (.dptr (ab (x0.getD i1 ⟨0,[]⟩))),.v,.m,.m],r0 [.v,.v,.b,.b,.wk 67 [(0,1)],.v],r0 [.v,.v,.e (iI ((((x0.getD i1 ⟨0,[]⟩).Vars).length:Nat):Int)),.v]] [.only [4,5,6,13,16,58,59,60,69,70,71] [26]] 15 [true] (lp x0 u0 i1 s1 0 [(aa.mk ((x0.getD i1 ⟨0,[]⟩).Coef) [])]) (aB c9 (aI aw x0 i1 ⟨0,[]⟩ (aT (aC (aV aj ((x0.getD i1 ⟨0,[]⟩).Vars)) aN)))) ?_;refine aS h14 fun R2 h16 H16 => ?_;refine pJ 1 (pQ x0 u0 i1 s1) R2 ?_ (fun u1 e4 => ?_)
     ·refine pC (lp x0 u0 i1 s1) h16 (fun i2 s2 h17 e5 => ?_) (fun i2 s2 h18 q2 h19 h20 => ?_)
      ·have c10:=lF i2 (((x0.getD i1 ⟨0,[]⟩).Vars).length) (by omega);subst e5;exact pB 5 [r0 [.e (.bool false)]] [.only [4,5,6,13,16,58,59,60] [26]] (pQ x0 u0 i1 s1 s2) (aB c10 aN)
      ·have c11:=lT i2 (((x0.getD i1 ⟨0,[]⟩).Vars).length) (by omega);refine aS h19 fun y5 h21 H17 => ?_;refine pA 14 [r0 [.e (.bool true)],r0 [.e (.dptr [.str (((x0.getD i1 ⟨0,[]⟩).Vars).getD i2 [])]),.v,.v],r0 [.v,.v,.v,.l (.dslice ((dy [] (((x0.getD i1 ⟨0,[]⟩).Vars).getD i2 []) u0).map ab)),.c true (.tup [dS ab y5.1,iI y5.2]),.v,.v,.v,.v,.v],V2] [.only [4,5,6,13,16,19,20,58,59,60,69,70,71,84] [26]] 14 [true] ⟨100,[(4,.eslice),(5,iI 0),(6,.amap 26),(13,dS ab s1),(16,dS ab s2),(19,dS ab y5.1),(20,iI y5.2),(58,dS ab x0),(59,nI x0.length),(60,nI i1),(69,.dslice (((x0.getD i1 ⟨0,[]⟩).Vars).map aj)),(70,iI ((((x0.getD i1 ⟨0,[]⟩).Vars).length:Nat):Int)),(71,nI i2),(84,.bool (y5.2 != 0))],[(26,.smap 9 24 (u0.map (bA aL)))]⟩ (aB c11 (aI bb (((x0.getD i1 ⟨0,[]⟩).Vars)) i2 [] (aC (pj (c:=aL) (((x0.getD i1 ⟨0,[]⟩).Vars).getD i2 []) [] u0) (aC Tryz.call29 (aF (qv _ _ _ h21) aN))))) ?_;refine a7 H17 (fun c12 H18 => ?_) (fun c13 H19 => ?_)
       ·refine bB 69 (ps:=[(((x0.getD i1 ⟨0,[]⟩).Vars).map aj).length≤9223372036854775807]) (by kernel_rfl) (fun l2 => ?_);have l3:((x0.getD i1 ⟨0,[]⟩).Vars).length≤9223372036854775807:=by simpa only [br,KP] using l2
        clear l2;obtain rfl:=sI H18;exact pB 5 [.eqT 84 (.bool false),V2,V2] [.only [4,5,6,13,16,58,59,60,69,70,71] [26]] (lp x0 u0 i1 s1 (i2+1) y5.1) (aM c12 (aH i2 aN))
       ·obtain rfl:=sI H19;obtain rfl:=aG h20;obtain rfl:=sI (ao H16);obtain rfl:=aG h15;obtain rfl:=sI (ao H15);exact pR 5 [.eqT 84 (.bool true),V3] [.wk 4 []] [] (aM c13 aN)
     ·subst e4;have H20:=a8 H16;refine aS H20 fun y6 h22 H21 => ?_;refine a7 H21 (fun c14 H22 => ?_) (fun c15 H23 => ?_)
      ·refine bB 58 (ps:=[(x0.map ab).length≤9223372036854775807]) (by kernel_rfl) (fun l4 => ?_);have l5:x0.length≤9223372036854775807:=by simpa only [br,KP] using l4
       clear l4;obtain rfl:=sI H22;exact pB 10 [r0 [.v,.v,.c true (.tup [dS ab y6.1,iI y6.2]),.v,.v,.v,.v,.v],V2,.eqT 95 (.bool false),V2,V2] [.only [4,5,6,13,58,59,60] [26]] (mm x0 u0 (i1+1) y6.1) (aC Tryz.call20 (aF (qz _ _ _ h22) (aM c14 (aH i1 aN))))
      ·obtain rfl:=sI H23;obtain rfl:=aG h15;obtain rfl:=sI (ao H15);exact pR 10 [r0 [.v,.v,.c true (.tup [dS ab y6.1,iI y6.2]),.v,.v,.v,.v,.v],V2,.eqT 95 (.bool true),V3] [.wk 4 []] [] (aC Tryz.call20 (aF (qz _ _ _ h22) (aM c15 aN)))
   ·subst e2;have H24:=a8 H15;obtain rfl:=sI H24;exact pR 3 [V3] [] [] aN
 ·obtain rfl:=sI H2;exact pR 10 [V2,r0 [.v,.c true (.bool y0),.v],.eqT 25 (.bool true),V2] [.wk 4 []] [] (aC Tryz.call27 (aF (ba _ _ h0) (aT (aM c1 aN))))
noncomputable def fV (x0:(List aa)×(List aa)) (x1:Linear) (x2:Int×Int×Int×Int×Int×Int):Option Bool :=
 (jb).bind fun y0 =>
 bif y0 then (
  (kb x0.1 5).bind fun y1 =>
  bif y1 then (
   (kb x0.2 5).bind fun y2 =>
   bif y2 then (
    (cz x0.1).bind fun y3 =>
    bif y3 then (
     (cz x0.2).bind fun y4 =>
     bif y4 then (
      (fO x1 5).bind fun y5 =>
      bif y5 then (
       (fA x1).bind fun y6 =>
       bif y6 then (
        (gB x0.1 x0.2).bind fun y7 =>
        (fE x0.1).bind fun y8 =>
        (gU x0.2).bind fun y9 =>
        bR ((y8.length+y9.length)*16≤140737488355328) <|
        (gU y7.1).bind fun y10 =>
        bR (((y8++y9).length+y10.length)*16≤140737488355328) <|
        (ko x1).bind fun y11 =>
        bR ((((y8++y9)++y10).length+y11.length)*16≤140737488355328) <|
        (cV (σ:=(List Value)) (ε:=(List Value)) (ρ:=Empty) (fun i0 s0 =>
         ((
          bif ((((i0:Nat):Int).tmod 6)==0) then (
           bR ((s0.length+1)*24≤140737488355328) <|
           some (s0++[(Value.mk ((((y8++y9)++y10)++y11).getD i0 []) ((IntKind.wrap .i64 x2.1).tmod 21))])
          ) else (
           bif ((((i0:Nat):Int).tmod 6)==1) then (
            bR ((s0.length+1)*24≤140737488355328) <|
            some (s0++[(Value.mk ((((y8++y9)++y10)++y11).getD i0 []) ((IntKind.wrap .i64 x2.2.1).tmod 21))])
           ) else (
            bif ((((i0:Nat):Int).tmod 6)==2) then (
             bR ((s0.length+1)*24≤140737488355328) <|
             some (s0++[(Value.mk ((((y8++y9)++y10)++y11).getD i0 []) ((IntKind.wrap .i64 x2.2.2.1).tmod 21))])
            ) else (
             bif ((((i0:Nat):Int).tmod 6)==3) then (
              bR ((s0.length+1)*24≤140737488355328) <|
              some (s0++[(Value.mk ((((y8++y9)++y10)++y11).getD i0 []) ((IntKind.wrap .i64 x2.2.2.2.1).tmod 21))])
             ) else (
              bif ((((i0:Nat):Int).tmod 6)==4) then (
               bR ((s0.length+1)*24≤140737488355328) <|
               some (s0++[(Value.mk ((((y8++y9)++y10)++y11).getD i0 []) ((IntKind.wrap .i64 x2.2.2.2.2.1).tmod 21))])
              ) else (
               bR ((((i0:Nat):Int).tmod 6)=5) <|
               bR ((s0.length+1)*24≤140737488355328) <|
               some (s0++[(Value.mk ((((y8++y9)++y10)++y11).getD i0 []) ((IntKind.wrap .i64 x2.2.2.2.2.2).tmod 21))])
              )
             )
            )
           )
          )
         ):Option (List Value)).bind fun v0 =>
         some (.go v0)
        ) (fun i0 s0=>s0) ((((y8++y9)++y10)++y11).length-0) 0 []).bind <| dJ fun u0 =>
        (dx x0.1 u0).bind fun y12 =>
        (dx x0.2 u0).bind fun y13 =>
        ((
         bif (y12.2==0) then (
          some (y13.2 != 0)
         ) else (
          some true
         )
        ):Option Bool).bind fun v1 =>
        bif v1 then (
         bif (y12.2==2) then (
          some true
         ) else (
          some (y13.2==2)
         )
        ) else (
         (fD x0.1 x0.2).bind fun y14 =>
         (gQ x0.1 x0.2).bind fun y15 =>
         (dx y14.1 u0).bind fun y16 =>
         ((
          bif (y14.2==0) then (
           bif (y16.2==0) then (
            bif (y16.1==(aW (y12.1+y13.1))) then (
             some (.brk ())
            ) else (
             some (.ret false)
            )
           ) else (
            some (.brk ())
           )
          ) else (
           some (.brk ())
          )
         ):Option (Out Unit Bool)).bind (aft fun u1 =>
          (my y12.1 y13.1).bind fun y17 =>
          (dx y15.1 u0).bind fun y18 =>
          ((
           bif (y15.2==0) then (
            bif (y18.2==0) then (
             bif (y17.2==0) then (
              bif (y18.1==y17.1) then (
               some (.brk ())
              ) else (
               some (.ret false)
              )
             ) else (
              some (.ret false)
             )
            ) else (
             some (.brk ())
            )
           ) else (
            some (.brk ())
           )
          ):Option (Out Unit Bool)).bind (aft fun u2 =>
           (kL x1 u0).bind fun y19 =>
           (dT x1).bind fun y20 =>
           (dx y20.1 u0).bind fun y21 =>
           bif (y20.2==0) then (
            bif (y21.2==0) then (
             bif (y21.1==y19.1) then (
              bif ((((((y8++y9)++y10)++y11).length:Nat):Int)==0) then (
               some true
              ) else (
               bR (0<(((y8++y9)++y10)++y11).length) <|
               (iR x0.1 [(Bind.mk 1 ((((y8++y9)++y10)++y11).getD 0 []) x1 (Shape.mk [] []) [])]).bind fun y22 =>
               (dx y22.1 u0).bind fun y23 =>
               bR (([(Value.mk ((((y8++y9)++y10)++y11).getD 0 []) y19.1)].length+u0.length)*24≤140737488355328) <|
               (dx x0.1 ([(Value.mk ((((y8++y9)++y10)++y11).getD 0 []) y19.1)]++u0)).bind fun y24 =>
               bif (y22.2==0) then (
                bif (y23.2==0) then (
                 bif (y24.2==0) then (
                  some (y23.1==y24.1)
                 ) else (
                  some true
                 )
                ) else (
                 some true
                )
               ) else (
                some true
               )
              )
             ) else (
              some false
             )
            ) else (
             some false
            )
           ) else (
            some false
           )
          )
         )
        )
       ) else (
        some true
       )
      ) else (
       some true
      )
     ) else (
      some true
     )
    ) else (
     some true
    )
   ) else (
    some true
   )
  ) else (
   some true
  )
 ) else (
  some false
 )
def fZ (x0:(List aa)×(List aa)) (x1:Linear) (x2:Int×Int×Int×Int×Int×Int) (y8 y9 y10 y11:List ai) (i0:Nat) (s0:List Value):AS:=⟨267,[(4,.hptr 4 0),(5,.hptr 5 0),(6,.bool false),(7,dS ab x0.1),(8,dS ab x0.2),(11,.rslice 88),(12,.rslice 108),(13,nI i0)],[(4,.cells 32 [iI x1.Const,dS aY x1.Terms]),(5,.cells 45 [.int .i8 x2.1,.int .i8 x2.2.1,.int .i8 x2.2.2.1,.int .i8 x2.2.2.2.1,.int .i8 x2.2.2.2.2.1,.int .i8 x2.2.2.2.2.2]),(88,.row 9 1 ((((y8++y9)++y10)++y11).map aj)),(108,.row 54 2 (s0.map aZ))]⟩
def jP (x0:(List aa)×(List aa)) (x1:Linear) (y8 y9 y10 y11:List ai) (u3:List Value):AS:=⟨267,[(4,.hptr 4 0),(6,.bool false),(7,dS ab x0.1),(8,dS ab x0.2),(11,.rslice 88),(12,.rslice 108)],[(4,.cells 32 [iI x1.Const,dS aY x1.Terms]),(88,.row 9 1 ((((y8++y9)++y10)++y11).map aj)),(108,.row 54 2 (u3.map aZ))]⟩
def cm (x0:(List aa)×(List aa)) (x1:Linear) (x2:Int×Int×Int×Int×Int×Int) (y8 y9 y10 y11:List ai) (i0:Nat) (v0:List Value):AS:=⟨267,[(4,.hptr 4 0),(5,.hptr 5 0),(6,.bool false),(7,dS ab x0.1),(8,dS ab x0.2),(11,.rslice 88),(12,.rslice 108),(13,nI i0)],[(4,.cells 32 [iI x1.Const,dS aY x1.Terms]),(5,.cells 45 [.int .i8 x2.1,.int .i8 x2.2.1,.int .i8 x2.2.2.1,.int .i8 x2.2.2.2.1,.int .i8 x2.2.2.2.2.1,.int .i8 x2.2.2.2.2.2]),(88,.row 9 1 ((((y8++y9)++y10)++y11).map aj)),(108,.row 54 2 (v0.map aZ))]⟩
def gf (x0:(List aa)×(List aa)) (x1:Linear) (y8 y9 y10 y11:List ai) (u0:List Value) (y12 y13:Int×Int) (v1:Bool):AS:=⟨267,[(4,.hptr 4 0),(6,.bool false),(7,dS ab x0.1),(8,dS ab x0.2),(11,.rslice 88),(12,.rslice 108),(14,iI y12.1),(15,iI y12.2),(16,iI y13.1),(17,iI y13.2),(126,.bool v1)],[(4,.cells 32 [iI x1.Const,dS aY x1.Terms]),(88,.row 9 1 ((((y8++y9)++y10)++y11).map aj)),(108,.row 54 2 (u0.map aZ))]⟩
def eC (x0:(List aa)×(List aa)) (x1:Linear) (y8 y9 y10 y11:List ai) (u0:List Value) (y12 y13:Int×Int) (y15:(List aa)×Int) (u1:Unit):AS:=⟨267,[(4,.hptr 4 0),(6,.bool false),(7,dS ab x0.1),(11,.rslice 88),(12,.rslice 108),(14,iI y12.1),(16,iI y13.1),(20,dS ab y15.1),(21,iI y15.2)],[(4,.cells 32 [iI x1.Const,dS aY x1.Terms]),(88,.row 9 1 ((((y8++y9)++y10)++y11).map aj)),(108,.row 54 2 (u0.map aZ))]⟩
def eE (x0:(List aa)×(List aa)) (x1:Linear) (y8 y9 y10 y11:List ai) (u0:List Value) (u2:Unit):AS:=⟨267,[(4,.hptr 4 0),(6,.bool false),(7,dS ab x0.1),(11,.rslice 88),(12,.rslice 108)],[(4,.cells 32 [iI x1.Const,dS aY x1.Terms]),(88,.row 9 1 ((((y8++y9)++y10)++y11).map aj)),(108,.row 54 2 (u0.map aZ))]⟩
theorem qe (x0:(List aa)×(List aa)) (x1:Linear) (x2:Int×Int×Int×Int×Int×Int) (r:Bool) (H:fV x0 x1 x2=some r):bF Tryz.prog 4 [.agg [dS ab x0.1,dS ab x0.2],.agg [iI x1.Const,dS aY x1.Terms],.agg [.int .i8 x2.1,.int .i8 x2.2.1,.int .i8 x2.2.2.1,.int .i8 x2.2.2.2.1,.int .i8 x2.2.2.2.2.1,.int .i8 x2.2.2.2.2.2]] (.bool r):=by
 unfold fV at H;refine aX Tryz.func4 267 [.tmp 6] ?_;refine aS H fun y0 h0 H0 => ?_;refine a7 H0 (fun c0 H1 => ?_) (fun c1 H2 => ?_)
 ·refine aS H1 fun y1 h1 H3 => ?_;refine a7 H3 (fun c2 H4 => ?_) (fun c3 H5 => ?_)
  ·refine aS H4 fun y2 h2 H6 => ?_;refine a7 H6 (fun c4 H7 => ?_) (fun c5 H8 => ?_)
   ·refine aS H7 fun y3 h3 H9 => ?_;refine a7 H9 (fun c6 H10 => ?_) (fun c7 H11 => ?_)
    ·refine aS H10 fun y4 h4 H12 => ?_;refine a7 H12 (fun c8 H13 => ?_) (fun c9 H14 => ?_)
     ·refine aS H13 fun y5 h5 H15 => ?_;refine a7 H15 (fun c10 H16 => ?_) (fun c11 H17 => ?_)
      ·refine aS H16 fun y6 h6 H18 => ?_;refine pA 13 [r0 [.m,.m,.m,.v],r0 [.c true (.bool y0),.v],.eqT 39 (.bool false),.rg 5 (V 5 []) [.v],r0 [.v,.c true (.bool true),.v,.v,.v,.c true (.bool true),.v,.v,.v,.v,.c true (.bool true),.v,.v,.v,.v,.c true (.bool true),.v,.v,.v,.v,.c true (.bool true),.v,.v,.v,.v,.c true (.bool y6),.v,.v]] [.only [4,5,6,7,8,71] [4,5]] 12 [false] ⟨267,[(4,.hptr 4 0),(5,.hptr 5 0),(6,.bool false),(7,dS ab x0.1),(8,dS ab x0.2),(71,.bool (!y6))],[(4,.cells 32 [iI x1.Const,dS aY x1.Terms]),(5,.cells 45 [.int .i8 x2.1,.int .i8 x2.2.1,.int .i8 x2.2.2.1,.int .i8 x2.2.2.2.1,.int .i8 x2.2.2.2.2.1,.int .i8 x2.2.2.2.2.2])]⟩ (aC Tryz.call5 (aF (eA _ h0) (aT (aM c0 (aT (aT (aC Tryz.call7 (aC (bF.eq (cW _ _ _ h1) (cB c2)) (aT (aC Tryz.call7 (aC (bF.eq (cW _ _ _ h2) (cB c4)) (aT (aC Tryz.call14 (aC (bF.eq (a6 _ _ h3) (cB c6)) (aT (aC Tryz.call14 (aC (bF.eq (a6 _ _ h4) (cB c8)) (aT (aC Tryz.call8 (aC (bF.eq (tn _ _ _ h5) (cB c10)) (aT (aC Tryz.call15 (aF (gj _ _ h6) (aT aN)))))))))))))))))))))))) ?_;refine a7 H18 (fun c12 H19 => ?_) (fun c13 H20 => ?_)
       ·refine aS H19 fun y7 h7 H21 => ?_;refine aS H21 fun y8 h8 H22 => ?_;refine aS H22 fun y9 h9 H23 => ?_;refine aR H23 fun g0 H24 => ?_;refine aS H24 fun y10 h10 H25 => ?_;refine aR H25 fun g1 H26 => ?_;refine aS H26 fun y11 h11 H27 => ?_;refine aR H27 fun g2 H28 => ?_;refine pA 13 [.eqT 71 (.bool false),r0 [.v,.v,.c true (.tup [dS ab y7.1,iI y7.2]),.v,.v,.v,.v,.v],.rg 9 [.v,.hN (.rslice 0) [(0,.row 9 1 (y8.map aj))],.v,.c true (dS aj y9),.apx ((y8++y9).map aj),.v,.c true (dS aj y10),.apx (((y8++y9)++y10).map aj),.v] [.c true (dS aj y11),.ap,.rwH 88 (.row 9 1 ((((y8++y9)++y10)++y11).map aj)),.v],V1,V1] [.er 12 108 54 2,.only [4,5,6,7,8,11,12,13] [4,5,88,108]] 12 [false] (fZ x0 x1 x2 y8 y9 y10 y11 0 []) (aM c12 (aC Tryz.call16 (aF (An _ _ _ h7) (aC Tryz.call17 (aC (yQ _ _ h8) (aC Tryz.call17 (aF (oC _ _ h9) (aJ (wW (c:=aj) dQ y8 y9 16 (by decide) (by simpa using g0) List.map_append.symm) (aC Tryz.call17 (aF (oC _ _ h10) (aJ (wW (c:=aj) dQ (y8++y9) y10 16 (by decide) (by simpa using g1) List.map_append.symm) (aC Tryz.call18 (aF (yq _ _ h11) (aJ (qw (c:=aj) dQ ((y8++y9)++y10) y11 16 (by decide) (by simpa using g2)) (aC (rO 9 1 aj ((y8++y9)++y10) y11) aN))))))))))))))) ?_;refine aS H28 fun R0 h12 H29 => ?_;refine pJ 1 (jP x0 x1 y8 y9 y10 y11) R0 ?_ (fun u0 e0 => ?_)
        ·refine pC (fZ x0 x1 x2 y8 y9 y10 y11) h12 (fun i0 s0 h13 e1 => ?_) (fun i0 s0 h14 q0 h15 h16 => ?_)
         ·have c14:=lF i0 ((((y8++y9)++y10)++y11).length) (by omega);subst e1;exact pB 5 [r0 [.v,.v,.e (iI (((((y8++y9)++y10)++y11).length:Nat):Int)),.e (.bool false)]] [.only [4,6,7,8,11,12] [4,88,108]] (jP x0 x1 y8 y9 y10 y11 s0) (aT (aC (aV aj (((y8++y9)++y10)++y11)) (aB c14 aN)))
         ·have c15:=lT i0 ((((y8++y9)++y10)++y11).length) (by omega);refine pA 7 [r0 [.v,.v,.e (iI (((((y8++y9)++y10)++y11).length:Nat):Int)),.e (.bool true)]] [.only [4,5,6,7,8,11,12,13] [4,5,88,108]] 7 [true] ⟨267,[(4,.hptr 4 0),(5,.hptr 5 0),(6,.bool false),(7,dS ab x0.1),(8,dS ab x0.2),(11,.rslice 88),(12,.rslice 108),(13,nI i0)],[(4,.cells 32 [iI x1.Const,dS aY x1.Terms]),(5,.cells 45 [.int .i8 x2.1,.int .i8 x2.2.1,.int .i8 x2.2.2.1,.int .i8 x2.2.2.2.1,.int .i8 x2.2.2.2.2.1,.int .i8 x2.2.2.2.2.2]),(88,.row 9 1 ((((y8++y9)++y10)++y11).map aj)),(108,.row 54 2 (s0.map aZ))]⟩ (aT (aC (aV aj (((y8++y9)++y10)++y11)) (aB c15 aN))) ?_;refine aS h15 fun v0 h17 H30 => ?_;refine cQ 1 (cm x0 x1 x2 y8 y9 y10 y11 i0 v0) (by kernel_rfl) ?_ ?_
          ·refine a7 h17 (fun c16 H31 => ?_) (fun c17 H32 => ?_)
           ·refine aR H31 fun g3 H33 => ?_;obtain rfl:=sI H33;exact pB 1 [.rg 13 (V 4 [.rl i0 0 (.str ((((y8++y9)++y10)++y11).getD i0 [])),.v,.e (iI 0),.v,.v,.v,.v,.b,.b]) [.ap,.rwH 108 (.row 54 2 ((s0++[(Value.mk ((((y8++y9)++y10)++y11).getD i0 []) ((IntKind.wrap .i64 x2.1).tmod 21))]).map aZ)),.v]] [.only [4,5,6,7,8,11,12,13] [4,5,88,108]] (cm x0 x1 x2 y8 y9 y10 y11 i0 (s0++[(Value.mk ((((y8++y9)++y10)++y11).getD i0 []) ((IntKind.wrap .i64 x2.1).tmod 21))])) (aC (show (0:Int)≤((i0:Nat):Int)∧((i0:Nat):Int)<(((((y8++y9)++y10)++y11).map aj).length:Int) from by rw [KP];omega) (aC (Bz (f:=aj) (l:=(((y8++y9)++y10)++y11)) (n:=i0) 1 0 1 (by omega) (by decide)) (aC (Bx (f:=aj) (l:=(((y8++y9)++y10)++y11)) (n:=i0) [] 0 (by omega)) (aC (show (6:Int)≠0 from (by decide)) (aC (congrArg (AV.int .i64) (eq_of_beq c16)) (aT (aT (aC (show (21:Int)≠0 from (by decide)) (aJ (qw (c:=aZ) iK s0 [(Value.mk ((((y8++y9)++y10)++y11).getD i0 []) ((IntKind.wrap .i64 x2.1).tmod 21))] 24 (by decide) (by simpa using g3)) (aC (rO 54 2 aZ s0 [(Value.mk ((((y8++y9)++y10)++y11).getD i0 []) ((IntKind.wrap .i64 x2.1).tmod 21))]) aN))))))))))
           ·refine a7 H32 (fun c18 H34 => ?_) (fun c19 H35 => ?_)
            ·refine aR H34 fun g4 H36 => ?_;obtain rfl:=sI H36;exact pB 1 [.rg 13 (V 4 [.rl i0 0 (.str ((((y8++y9)++y10)++y11).getD i0 [])),.v,.e (iI 1),.v,.v,.v,.v,.b,.b]) [.ap,.rwH 108 (.row 54 2 ((s0++[(Value.mk ((((y8++y9)++y10)++y11).getD i0 []) ((IntKind.wrap .i64 x2.2.1).tmod 21))]).map aZ)),.v]] [.only [4,5,6,7,8,11,12,13] [4,5,88,108]] (cm x0 x1 x2 y8 y9 y10 y11 i0 (s0++[(Value.mk ((((y8++y9)++y10)++y11).getD i0 []) ((IntKind.wrap .i64 x2.2.1).tmod 21))])) (aC (show (0:Int)≤((i0:Nat):Int)∧((i0:Nat):Int)<(((((y8++y9)++y10)++y11).map aj).length:Int) from by rw [KP];omega) (aC (Bz (f:=aj) (l:=(((y8++y9)++y10)++y11)) (n:=i0) 1 0 1 (by omega) (by decide)) (aC (Bx (f:=aj) (l:=(((y8++y9)++y10)++y11)) (n:=i0) [] 0 (by omega)) (aC (show (6:Int)≠0 from (by decide)) (aC (congrArg (AV.int .i64) (eq_of_beq c18)) (aT (aT (aC (show (21:Int)≠0 from (by decide)) (aJ (qw (c:=aZ) iK s0 [(Value.mk ((((y8++y9)++y10)++y11).getD i0 []) ((IntKind.wrap .i64 x2.2.1).tmod 21))] 24 (by decide) (by simpa using g4)) (aC (rO 54 2 aZ s0 [(Value.mk ((((y8++y9)++y10)++y11).getD i0 []) ((IntKind.wrap .i64 x2.2.1).tmod 21))]) aN))))))))))
            ·refine a7 H35 (fun c20 H37 => ?_) (fun c21 H38 => ?_)
             ·refine aR H37 fun g5 H39 => ?_;obtain rfl:=sI H39;exact pB 1 [.rg 13 (V 4 [.rl i0 0 (.str ((((y8++y9)++y10)++y11).getD i0 [])),.v,.e (iI 2),.v,.v,.v,.v,.b,.b]) [.ap,.rwH 108 (.row 54 2 ((s0++[(Value.mk ((((y8++y9)++y10)++y11).getD i0 []) ((IntKind.wrap .i64 x2.2.2.1).tmod 21))]).map aZ)),.v]] [.only [4,5,6,7,8,11,12,13] [4,5,88,108]] (cm x0 x1 x2 y8 y9 y10 y11 i0 (s0++[(Value.mk ((((y8++y9)++y10)++y11).getD i0 []) ((IntKind.wrap .i64 x2.2.2.1).tmod 21))])) (aC (show (0:Int)≤((i0:Nat):Int)∧((i0:Nat):Int)<(((((y8++y9)++y10)++y11).map aj).length:Int) from by rw [KP];omega) (aC (Bz (f:=aj) (l:=(((y8++y9)++y10)++y11)) (n:=i0) 1 0 1 (by omega) (by decide)) (aC (Bx (f:=aj) (l:=(((y8++y9)++y10)++y11)) (n:=i0) [] 0 (by omega)) (aC (show (6:Int)≠0 from (by decide)) (aC (congrArg (AV.int .i64) (eq_of_beq c20)) (aT (aT (aC (show (21:Int)≠0 from (by decide)) (aJ (qw (c:=aZ) iK s0 [(Value.mk ((((y8++y9)++y10)++y11).getD i0 []) ((IntKind.wrap .i64 x2.2.2.1).tmod 21))] 24 (by decide) (by simpa using g5)) (aC (rO 54 2 aZ s0 [(Value.mk ((((y8++y9)++y10)++y11).getD i0 []) ((IntKind.wrap .i64 x2.2.2.1).tmod 21))]) aN))))))))))
             ·refine a7 H38 (fun c22 H40 => ?_) (fun c23 H41 => ?_)
              ·refine aR H40 fun g6 H42 => ?_;obtain rfl:=sI H42;exact pB 1 [.rg 13 (V 4 [.rl i0 0 (.str ((((y8++y9)++y10)++y11).getD i0 [])),.v,.e (iI 3),.v,.v,.v,.v,.b,.b]) [.ap,.rwH 108 (.row 54 2 ((s0++[(Value.mk ((((y8++y9)++y10)++y11).getD i0 []) ((IntKind.wrap .i64 x2.2.2.2.1).tmod 21))]).map aZ)),.v]] [.only [4,5,6,7,8,11,12,13] [4,5,88,108]] (cm x0 x1 x2 y8 y9 y10 y11 i0 (s0++[(Value.mk ((((y8++y9)++y10)++y11).getD i0 []) ((IntKind.wrap .i64 x2.2.2.2.1).tmod 21))])) (aC (show (0:Int)≤((i0:Nat):Int)∧((i0:Nat):Int)<(((((y8++y9)++y10)++y11).map aj).length:Int) from by rw [KP];omega) (aC (Bz (f:=aj) (l:=(((y8++y9)++y10)++y11)) (n:=i0) 1 0 1 (by omega) (by decide)) (aC (Bx (f:=aj) (l:=(((y8++y9)++y10)++y11)) (n:=i0) [] 0 (by omega)) (aC (show (6:Int)≠0 from (by decide)) (aC (congrArg (AV.int .i64) (eq_of_beq c22)) (aT (aT (aC (show (21:Int)≠0 from (by decide)) (aJ (qw (c:=aZ) iK s0 [(Value.mk ((((y8++y9)++y10)++y11).getD i0 []) ((IntKind.wrap .i64 x2.2.2.2.1).tmod 21))] 24 (by decide) (by simpa using g6)) (aC (rO 54 2 aZ s0 [(Value.mk ((((y8++y9)++y10)++y11).getD i0 []) ((IntKind.wrap .i64 x2.2.2.2.1).tmod 21))]) aN))))))))))
              ·refine a7 H41 (fun c24 H43 => ?_) (fun c25 H44 => ?_)
               ·refine aR H43 fun g7 H45 => ?_;obtain rfl:=sI H45;exact pB 1 [.rg 13 (V 4 [.rl i0 0 (.str ((((y8++y9)++y10)++y11).getD i0 [])),.v,.e (iI 4),.v,.v,.v,.v,.b,.b]) [.ap,.rwH 108 (.row 54 2 ((s0++[(Value.mk ((((y8++y9)++y10)++y11).getD i0 []) ((IntKind.wrap .i64 x2.2.2.2.2.1).tmod 21))]).map aZ)),.v]] [.only [4,5,6,7,8,11,12,13] [4,5,88,108]] (cm x0 x1 x2 y8 y9 y10 y11 i0 (s0++[(Value.mk ((((y8++y9)++y10)++y11).getD i0 []) ((IntKind.wrap .i64 x2.2.2.2.2.1).tmod 21))])) (aC (show (0:Int)≤((i0:Nat):Int)∧((i0:Nat):Int)<(((((y8++y9)++y10)++y11).map aj).length:Int) from by rw [KP];omega) (aC (Bz (f:=aj) (l:=(((y8++y9)++y10)++y11)) (n:=i0) 1 0 1 (by omega) (by decide)) (aC (Bx (f:=aj) (l:=(((y8++y9)++y10)++y11)) (n:=i0) [] 0 (by omega)) (aC (show (6:Int)≠0 from (by decide)) (aC (congrArg (AV.int .i64) (eq_of_beq c24)) (aT (aT (aC (show (21:Int)≠0 from (by decide)) (aJ (qw (c:=aZ) iK s0 [(Value.mk ((((y8++y9)++y10)++y11).getD i0 []) ((IntKind.wrap .i64 x2.2.2.2.2.1).tmod 21))] 24 (by decide) (by simpa using g7)) (aC (rO 54 2 aZ s0 [(Value.mk ((((y8++y9)++y10)++y11).getD i0 []) ((IntKind.wrap .i64 x2.2.2.2.2.1).tmod 21))]) aN))))))))))
               ·refine aR H44 fun g8 H46 => ?_;refine aR H46 fun g9 H47 => ?_;obtain rfl:=sI H47;exact pB 1 [.rg 13 (V 4 [.rl i0 0 (.str ((((y8++y9)++y10)++y11).getD i0 [])),.v,.e (iI 5),.v,.v,.v,.v,.b,.b]) [.ap,.rwH 108 (.row 54 2 ((s0++[(Value.mk ((((y8++y9)++y10)++y11).getD i0 []) ((IntKind.wrap .i64 x2.2.2.2.2.2).tmod 21))]).map aZ)),.v]] [.only [4,5,6,7,8,11,12,13] [4,5,88,108]] (cm x0 x1 x2 y8 y9 y10 y11 i0 (s0++[(Value.mk ((((y8++y9)++y10)++y11).getD i0 []) ((IntKind.wrap .i64 x2.2.2.2.2.2).tmod 21))])) (aC (show (0:Int)≤((i0:Nat):Int)∧((i0:Nat):Int)<(((((y8++y9)++y10)++y11).map aj).length:Int) from by rw [KP];omega) (aC (Bz (f:=aj) (l:=(((y8++y9)++y10)++y11)) (n:=i0) 1 0 1 (by omega) (by decide)) (aC (Bx (f:=aj) (l:=(((y8++y9)++y10)++y11)) (n:=i0) [] 0 (by omega)) (aC (show (6:Int)≠0 from (by decide)) (aC (congrArg (AV.int .i64) g8) (aT (aT (aC (show (21:Int)≠0 from (by decide)) (aJ (qw (c:=aZ) iK s0 [(Value.mk ((((y8++y9)++y10)++y11).getD i0 []) ((IntKind.wrap .i64 x2.2.2.2.2.2).tmod 21))] 24 (by decide) (by simpa using g9)) (aC (rO 54 2 aZ s0 [(Value.mk ((((y8++y9)++y10)++y11).getD i0 []) ((IntKind.wrap .i64 x2.2.2.2.2.2).tmod 21))]) aN))))))))))
          ·refine nu 88 (n:=((((y8++y9)++y10)++y11).map aj).length) (by kernel_rfl) (fun l0 => ?_);have l1:(((y8++y9)++y10)++y11).length≤9223372036854775807:=by simpa only [KP] using l0
           clear l0;obtain rfl:=sI H30;exact pB 1 [V3] [.only [4,5,6,7,8,11,12,13] [4,5,88,108]] (fZ x0 x1 x2 y8 y9 y10 y11 (i0+1) v0) (aH i0 aN)
        ·subst e0;have H48:=bI H29;refine aS H48 fun y12 h18 H49 => ?_;refine aS H49 fun y13 h19 H50 => ?_;refine pA 6 [r0 [.v,.v,.c false (.tup [iI y12.1,iI y12.2]),.v,.v,.v,.v,.v],r0 [.v,.v,.c false (.tup [iI y13.1,iI y13.2]),.v,.v,.v,.v,.v]] [.only [4,6,7,8,11,12,14,15,16,17] [4,88,108]] 6 [] ⟨267,[(4,.hptr 4 0),(6,.bool false),(7,dS ab x0.1),(8,dS ab x0.2),(11,.rslice 88),(12,.rslice 108),(14,iI y12.1),(15,iI y12.2),(16,iI y13.1),(17,iI y13.2)],[(4,.cells 32 [iI x1.Const,dS aY x1.Terms]),(88,.row 9 1 ((((y8++y9)++y10)++y11).map aj)),(108,.row 54 2 (u0.map aZ))]⟩ (aC Tryz.call19 (aF (eP _ _ _ h18) (aC Tryz.call19 (aF (eP _ _ _ h19) aN)))) ?_;refine aS H50 fun v1 h20 H51 => ?_;refine cQ 0 (gf x0 x1 y8 y9 y10 y11 u0 y12 y13 v1) (by kernel_rfl) ?_ ?_
         ·refine a7 h20 (fun c26 H52 => ?_) (fun c27 H53 => ?_)
          ·obtain rfl:=sI H52;exact pB 1 [r0 [.v,.e (.bool false),.v,.v,.v,.v]] [.only [4,6,7,8,11,12,14,15,16,17,126] [4,88,108]] (gf x0 x1 y8 y9 y10 y11 u0 y12 y13 (y13.2 != 0)) (aM c26 aN)
          ·obtain rfl:=sI H53;exact pB 1 [r0 [.v,.e (.bool true),.v,.s,.s,.v]] [.only [4,6,7,8,11,12,14,15,16,17,126] [4,88,108]] (gf x0 x1 y8 y9 y10 y11 u0 y12 y13 true) (aM c27 aN)
         ·refine a7 H51 (fun c28 H54 => ?_) (fun c29 H55 => ?_)
          ·refine a7 H54 (fun c30 H56 => ?_) (fun c31 H57 => ?_)
           ·obtain rfl:=sI H56;exact pR 5 [.eqT 126 (.bool true),r0 [.v,.e (.bool true),.v,.s,.s,.v,.v]] [] [] (aB c28 (aB c30 aN))
           ·obtain rfl:=sI H57;exact pR 5 [.eqT 126 (.bool true),r0 [.v,.e (.bool false),.v,.v,.v,.v,.v]] [] [] (aB c28 (aB c31 aN))
          ·refine aS H55 fun y14 h21 H58 => ?_;refine aS H58 fun y15 h22 H59 => ?_;refine aS H59 fun y16 h23 H60 => ?_;refine pA 11 [.eqT 126 (.bool false),r0 [.v,.v,.c true (.tup [dS ab y14.1,iI y14.2]),.v,.v,.v,.v,.v],r0 [.v,.v,.c true (.tup [dS ab y15.1,iI y15.2]),.v,.v,.v,.v,.v],r0 [.v,.v,.c false (.tup [iI y16.1,iI y16.2]),.v,.v,.v,.v,.v]] [.only [4,6,7,11,12,14,16,19,20,21,22,23] [4,88,108]] 10 [false] ⟨267,[(4,.hptr 4 0),(6,.bool false),(7,dS ab x0.1),(11,.rslice 88),(12,.rslice 108),(14,iI y12.1),(16,iI y13.1),(19,iI y14.2),(20,dS ab y15.1),(21,iI y15.2),(22,iI y16.1),(23,iI y16.2)],[(4,.cells 32 [iI x1.Const,dS aY x1.Terms]),(88,.row 9 1 ((((y8++y9)++y10)++y11).map aj)),(108,.row 54 2 (u0.map aZ))]⟩ (aB c29 (aC Tryz.call20 (aF (qz _ _ _ h21) (aC Tryz.call21 (aF (Ct _ _ _ h22) (aC Tryz.call19 (aF (eP _ _ _ h23) aN))))))) ?_;refine aS H60 fun v2 h24 H61 => ?_;refine pJ 1 (eC x0 x1 y8 y9 y10 y11 u0 y12 y13 y15) v2 ?_ (fun u1 e2 => ?_)
           ·refine a7 h24 (fun c32 H62 => ?_) (fun c33 H63 => ?_)
            ·refine a7 H62 (fun c34 H64 => ?_) (fun c35 H65 => ?_)
             ·refine a7 H64 (fun c36 H66 => ?_) (fun c37 H67 => ?_)
              ·obtain rfl:=sI H66;exact pB 4 [r0 [.v,.e (.bool true),.v,.v,.e (.bool true),.v,.v,.v,.v,.v,.w,.v,.v],.eqT 163 (.bool false)] [.only [4,6,7,11,12,14,16,20,21] [4,88,108]] (eC x0 x1 y8 y9 y10 y11 u0 y12 y13 y15 ()) (aB c32 (aB c34 (aM c36 aN)))
              ·obtain rfl:=sI H67;obtain rfl:=sI (ao H61);exact pR 6 [r0 [.v,.e (.bool true),.v,.v,.e (.bool true),.v,.v,.v,.v,.v,.w,.v,.v],.eqT 163 (.bool true),V1] [] [] (aB c32 (aB c34 (aM c37 aN)))
             ·obtain rfl:=sI H65;exact pB 3 [r0 [.v,.e (.bool true),.v,.v,.e (.bool false),.v,.v,.s,.s,.s,.s,.s,.v]] [.only [4,6,7,11,12,14,16,20,21] [4,88,108]] (eC x0 x1 y8 y9 y10 y11 u0 y12 y13 y15 ()) (aB c32 (aB c35 aN))
            ·obtain rfl:=sI H63;exact pB 3 [r0 [.v,.e (.bool false),.v,.s,.s,.v,.v,.s,.s,.s,.s,.s,.v]] [.only [4,6,7,11,12,14,16,20,21] [4,88,108]] (eC x0 x1 y8 y9 y10 y11 u0 y12 y13 y15 ()) (aB c33 aN)
           ·subst e2;have H68:=a8 H61;refine aS H68 fun y17 h25 H69 => ?_;refine aS H69 fun y18 h26 H70 => ?_;refine pA 6 [r0 [.v,.v,.c true (.tup [iI y17.1,iI y17.2]),.v,.v,.v,.v,.v],r0 [.v,.v,.c false (.tup [iI y18.1,iI y18.2]),.v,.v,.v,.v,.v]] [.only [4,6,7,11,12,21,24,25,26,27] [4,88,108]] 6 [] ⟨267,[(4,.hptr 4 0),(6,.bool false),(7,dS ab x0.1),(11,.rslice 88),(12,.rslice 108),(21,iI y15.2),(24,iI y17.1),(25,iI y17.2),(26,iI y18.1),(27,iI y18.2)],[(4,.cells 32 [iI x1.Const,dS aY x1.Terms]),(88,.row 9 1 ((((y8++y9)++y10)++y11).map aj)),(108,.row 54 2 (u0.map aZ))]⟩ (aC Tryz.call22 (aF (A7 _ _ _ h25) (aC Tryz.call19 (aF (eP _ _ _ h26) aN)))) ?_;refine aS H70 fun v3 h27 H71 => ?_;refine pJ 1 (eE x0 x1 y8 y9 y10 y11 u0) v3 ?_ (fun u2 e3 => ?_)
            ·refine a7 h27 (fun c38 H72 => ?_) (fun c39 H73 => ?_)
             ·refine a7 H72 (fun c40 H74 => ?_) (fun c41 H75 => ?_)
              ·refine a7 H74 (fun c42 H76 => ?_) (fun c43 H77 => ?_)
               ·refine a7 H76 (fun c44 H78 => ?_) (fun c45 H79 => ?_)
                ·obtain rfl:=sI H78;exact pB 4 [r0 [.v,.e (.bool true),.v,.v,.e (.bool true),.v,.v,.v,.e (.bool false),.v,.v,.v,.v,.v,.v],.eqT 190 (.bool false)] [.only [4,6,7,11,12] [4,88,108]] (eE x0 x1 y8 y9 y10 y11 u0 ()) (aB c38 (aB c40 (aM c42 (aM c44 aN))))
                ·obtain rfl:=sI H79;obtain rfl:=sI (ao H71);exact pR 6 [r0 [.v,.e (.bool true),.v,.v,.e (.bool true),.v,.v,.v,.e (.bool false),.v,.v,.v,.v,.v,.v],.eqT 190 (.bool true),V1] [] [] (aB c38 (aB c40 (aM c42 (aM c45 aN))))
               ·obtain rfl:=sI H77;obtain rfl:=sI (ao H71);exact pR 5 [r0 [.v,.e (.bool true),.v,.v,.e (.bool true),.v,.v,.v,.e (.bool true),.v,.s,.s,.s,.v,.v],V1] [] [] (aB c38 (aB c40 (aM c43 aN)))
              ·obtain rfl:=sI H75;exact pB 3 [r0 [.v,.e (.bool true),.v,.v,.e (.bool false),.v,.v,.s,.s,.s,.s,.s,.s,.s,.v]] [.only [4,6,7,11,12] [4,88,108]] (eE x0 x1 y8 y9 y10 y11 u0 ()) (aB c38 (aB c41 aN))
             ·obtain rfl:=sI H73;exact pB 3 [r0 [.v,.e (.bool false),.v,.s,.s,.v,.v,.s,.s,.s,.s,.s,.s,.s,.v]] [.only [4,6,7,11,12] [4,88,108]] (eE x0 x1 y8 y9 y10 y11 u0 ()) (aB c39 aN)
            ·subst e3;have H80:=a8 H71;refine aS H80 fun y19 h28 H81 => ?_;refine aS H81 fun y20 h29 H82 => ?_;refine aS H82 fun y21 h30 H83 => ?_;refine pA 8 [r0 [.v,.v,.c false (.tup [iI y19.1,iI y19.2]),.v,.v,.v,.v,.v],r0 [.v,.c true (.tup [dS ab y20.1,iI y20.2]),.v,.v,.v,.v,.v],r0 [.v,.v,.c false (.tup [iI y21.1,iI y21.2]),.v,.v,.v,.v,.v]] [.only [4,6,7,11,12,19,28,31,32] [4,88,108]] 8 [] ⟨267,[(4,.hptr 4 0),(6,.bool false),(7,dS ab x0.1),(11,.rslice 88),(12,.rslice 108),(19,iI y20.2),(28,iI y19.1),(31,iI y21.1),(32,iI y21.2)],[(4,.cells 32 [iI x1.Const,dS aY x1.Terms]),(88,.row 9 1 ((((y8++y9)++y10)++y11).map aj)),(108,.row 54 2 (u0.map aZ))]⟩ (aC Tryz.call23 (aF (zk _ _ _ h28) (aC Tryz.call24 (aF (ph _ _ h29) (aC Tryz.call19 (aF (eP _ _ _ h30) aN)))))) ?_;refine a7 H83 (fun c46 H84 => ?_) (fun c47 H85 => ?_)
             ·refine a7 H84 (fun c48 H86 => ?_) (fun c49 H87 => ?_)
              ·refine a7 H86 (fun c50 H88 => ?_) (fun c51 H89 => ?_)
               ·refine pA 7 [.rg 0 [] [.v,.e (.bool false),.v,.v,.e (.bool false),.v,.v,.v,.v,.v,.v],.eqT 218 (.bool false),.rg 0 [] [.v,.e (.int .i64 (((((y8++y9)++y10)++y11).length:Nat):Int)),.v]] [.only [4,6,7,11,12,28,221] [4,88,108]] 6 [false] ⟨267,[(4,.hptr 4 0),(6,.bool false),(7,.dslice (x0.1.map ab)),(11,.rslice 88),(12,.rslice 108),(28,.int .i64 y19.1),(221,.bool ((((((y8++y9)++y10)++y11).length:Nat):Int)==0))],[(4,.cells 32 [.int .i64 x1.Const,.dslice (x1.Terms.map aY)]),(88,.row 9 1 ((((y8++y9)++y10)++y11).map aj)),(108,.row 54 2 (u0.map aZ))]⟩ (aM c46 (aM c48 (aM c50 (aT (aC (aV aj (((y8++y9)++y10)++y11)) aN))))) ?_;refine a7 H88 (fun c52 H90 => ?_) (fun c53 H91 => ?_)
                ·obtain rfl:=sI H90;exact pR 5 [.eqT 221 (.bool true),V1] [] [] (aB c52 aN)
                ·refine aR H91 fun g10 H92 => ?_;refine aS H92 fun y22 h31 H93 => ?_;refine aS H93 fun y23 h32 H94 => ?_;refine aR H94 fun g11 H95 => ?_;refine aS H95 fun y24 h33 H96 => ?_;refine pA 10 [.eqT 221 (.bool false),.rg 12 [.v,.v,.v,.rl 0 0 (.str ((((y8++y9)++y10)++y11).getD 0 [])),.v,.b,.bw [[(0,5)]],.c true (.tup [dS ab y22.1,iI y22.2]),.v,.v,.v,.v] [.v],r0 [.v,.v,.c false (.tup [iI y23.1,iI y23.2]),.v,.v,.v,.v,.v],r0 [.v,.v,.v,.rl 0 0 (.str ((((y8++y9)++y10)++y11).getD 0 [])),.v,.b,.ap,.rwH 246 (.row 54 2 ([(Value.mk ((((y8++y9)++y10)++y11).getD 0 []) y19.1)].map aZ)),.v,.fz 108,.ap,.rwH 248 (.row 54 2 (([(Value.mk ((((y8++y9)++y10)++y11).getD 0 []) y19.1)]++u0).map aZ)),.c false (.tup [iI y24.1,iI y24.2]),.v,.v,.v,.v,.v]] [.only [6,21,34,35,36,37] []] 9 [false] ⟨267,[(6,.bool false),(21,iI y22.2),(34,iI y23.1),(35,iI y23.2),(36,iI y24.1),(37,iI y24.2)],[]⟩ (aB c53 (aC (show (0:Int)≤0∧0<(((((y8++y9)++y10)++y11).map aj).length:Int) from by rw [KP];omega) (aC (Bz (f:=aj) (l:=(((y8++y9)++y10)++y11)) (n:=0) 1 0 1 (by omega) (by decide)) (aC (Bx (f:=aj) (l:=(((y8++y9)++y10)++y11)) (n:=0) [] 0 (by omega)) (aC Tryz.call11 (aF (yB _ _ _ h31) (aC Tryz.call19 (aF (eP _ _ _ h32) (aC (show (0:Int)≤0∧0<(((((y8++y9)++y10)++y11).map aj).length:Int) from by rw [KP];omega) (aC (Bz (f:=aj) (l:=(((y8++y9)++y10)++y11)) (n:=0) 1 0 1 (by omega) (by decide)) (aC (Bx (f:=aj) (l:=(((y8++y9)++y10)++y11)) (n:=0) [] 0 (by omega)) (aC (Eq.refl (AO.row 54 2 ([(Value.mk ((((y8++y9)++y10)++y11).getD 0 []) y19.1)].map aZ))) (aJ (qw (c:=aZ) iK [(Value.mk ((((y8++y9)++y10)++y11).getD 0 []) y19.1)] u0 24 (by decide) (by simpa using g11)) (aC (rO 54 2 aZ [(Value.mk ((((y8++y9)++y10)++y11).getD 0 []) y19.1)] u0) (aC Tryz.call19 (aF (eP _ _ _ h33) aN)))))))))))))))) ?_;refine a7 H96 (fun c54 H97 => ?_) (fun c55 H98 => ?_)
                 ·refine a7 H97 (fun c56 H99 => ?_) (fun c57 H100 => ?_)
                  ·refine a7 H99 (fun c58 H101 => ?_) (fun c59 H102 => ?_)
                   ·obtain rfl:=sI H101;exact pR 2 [r0 [.v,.e (.bool false),.v,.v,.e (.bool false),.v,.v,.v,.e (.bool false),.v,.v,.v,.v,.v,.v,.v]] [] [] (aM c54 (aM c56 (aM c58 aN)))
                   ·obtain rfl:=sI H102;exact pR 2 [r0 [.v,.e (.bool false),.v,.v,.e (.bool false),.v,.v,.v,.e (.bool true),.v,.v,.s,.s,.s,.v,.v]] [] [] (aM c54 (aM c56 (aM c59 aN)))
                  ·obtain rfl:=sI H100;exact pR 2 [r0 [.v,.e (.bool false),.v,.v,.e (.bool true),.v,.v,.s,.s,.v,.v,.s,.s,.s,.v,.v]] [] [] (aM c54 (aM c57 aN))
                 ·obtain rfl:=sI H98;exact pR 2 [r0 [.v,.e (.bool true),.v,.s,.s,.v,.v,.s,.s,.v,.v,.s,.s,.s,.v,.v]] [] [] (aM c55 aN)
               ·obtain rfl:=sI H89;exact pR 6 [r0 [.v,.e (.bool false),.v,.v,.e (.bool false),.v,.v,.v,.v,.v,.v],.eqT 218 (.bool true),V1] [] [] (aM c46 (aM c48 (aM c51 aN)))
              ·obtain rfl:=sI H87;exact pR 5 [r0 [.v,.e (.bool false),.v,.v,.e (.bool true),.v,.v,.s,.s,.s,.v],V1] [] [] (aM c46 (aM c49 aN))
             ·obtain rfl:=sI H85;exact pR 5 [r0 [.v,.e (.bool true),.v,.s,.s,.v,.v,.s,.s,.s,.v],V1] [] [] (aM c47 aN)
       ·obtain rfl:=sI H20;exact pR 5 [.eqT 71 (.bool true),V1] [] [] (aM c13 aN)
      ·obtain rfl:=sI H17;exact pR 17 [r0 [.m,.m,.m,.v],r0 [.c true (.bool y0),.v],.eqT 39 (.bool false),.rg 5 (V 5 []) [.v],r0 [.v,.c true (.bool true),.v,.v,.v,.c true (.bool true),.v,.v,.v,.v,.c true (.bool true),.v,.v,.v,.v,.c true (.bool true),.v,.v,.v,.v,.c true (.bool false),.v,.v,.v,.s,.s,.s,.v],V1] [] [] (aC Tryz.call5 (aF (eA _ h0) (aT (aM c0 (aT (aT (aC Tryz.call7 (aC (bF.eq (cW _ _ _ h1) (cB c2)) (aT (aC Tryz.call7 (aC (bF.eq (cW _ _ _ h2) (cB c4)) (aT (aC Tryz.call14 (aC (bF.eq (a6 _ _ h3) (cB c6)) (aT (aC Tryz.call14 (aC (bF.eq (a6 _ _ h4) (cB c8)) (aT (aC Tryz.call8 (aC (bF.eq (tn _ _ _ h5) (cB c11)) (aT aN)))))))))))))))))))))
     ·obtain rfl:=sI H14;exact pR 17 [r0 [.m,.m,.m,.v],r0 [.c true (.bool y0),.v],.eqT 39 (.bool false),.rg 5 (V 5 []) [.v],r0 [.v,.c true (.bool true),.v,.v,.v,.c true (.bool true),.v,.v,.v,.v,.c true (.bool true),.v,.v,.v,.v,.c true (.bool false),.v,.v,.v,.s,.s,.s,.v,.v,.s,.s,.s,.v],V1] [] [] (aC Tryz.call5 (aF (eA _ h0) (aT (aM c0 (aT (aT (aC Tryz.call7 (aC (bF.eq (cW _ _ _ h1) (cB c2)) (aT (aC Tryz.call7 (aC (bF.eq (cW _ _ _ h2) (cB c4)) (aT (aC Tryz.call14 (aC (bF.eq (a6 _ _ h3) (cB c6)) (aT (aC Tryz.call14 (aC (bF.eq (a6 _ _ h4) (cB c9)) (aT aN))))))))))))))))))
    ·obtain rfl:=sI H11;exact pR 17 [r0 [.m,.m,.m,.v],r0 [.c true (.bool y0),.v],.eqT 39 (.bool false),.rg 5 (V 5 []) [.v],r0 [.v,.c true (.bool true),.v,.v,.v,.c true (.bool true),.v,.v,.v,.v,.c true (.bool false),.v,.v,.v,.s,.s,.s,.v,.v,.s,.s,.s,.v,.v,.s,.s,.s,.v],V1] [] [] (aC Tryz.call5 (aF (eA _ h0) (aT (aM c0 (aT (aT (aC Tryz.call7 (aC (bF.eq (cW _ _ _ h1) (cB c2)) (aT (aC Tryz.call7 (aC (bF.eq (cW _ _ _ h2) (cB c4)) (aT (aC Tryz.call14 (aC (bF.eq (a6 _ _ h3) (cB c7)) (aT aN)))))))))))))))
   ·obtain rfl:=sI H8;exact pR 17 [r0 [.m,.m,.m,.v],r0 [.c true (.bool y0),.v],.eqT 39 (.bool false),.rg 5 (V 5 []) [.v],r0 [.v,.c true (.bool true),.v,.v,.v,.c true (.bool false),.v,.v,.v,.s,.s,.s,.v,.v,.s,.s,.s,.v,.v,.s,.s,.s,.v,.v,.s,.s,.s,.v],V1] [] [] (aC Tryz.call5 (aF (eA _ h0) (aT (aM c0 (aT (aT (aC Tryz.call7 (aC (bF.eq (cW _ _ _ h1) (cB c2)) (aT (aC Tryz.call7 (aC (bF.eq (cW _ _ _ h2) (cB c5)) (aT aN))))))))))))
  ·obtain rfl:=sI H5;exact pR 17 [r0 [.m,.m,.m,.v],r0 [.c true (.bool y0),.v],.eqT 39 (.bool false),.rg 5 (V 5 []) [.v],r0 [.v,.c true (.bool false),.v,.v,.s,.s,.s,.v,.v,.s,.s,.s,.v,.v,.s,.s,.s,.v,.v,.s,.s,.s,.v,.v,.s,.s,.s,.v],V1] [] [] (aC Tryz.call5 (aF (eA _ h0) (aT (aM c0 (aT (aT (aC Tryz.call7 (aC (bF.eq (cW _ _ _ h1) (cB c3)) (aT aN)))))))))
 ·obtain rfl:=sI H2;exact pR 10 [r0 [.m,.m,.m,.v],r0 [.c true (.bool y0),.v],.eqT 39 (.bool true),V1] [] [] (aC Tryz.call5 (aF (eA _ h0) (aT (aM c1 aN))))
def jk (x0:Linear):Option ((List aa)×Int) :=
 (fA x0).bind fun y0 =>
 bif y0 then (
  (bX [] (aa.mk x0.Const [])).bind fun y1 =>
  (cV (σ:=(List aa)) (ε:=(List aa)) (ρ:=Empty) (fun i0 s0 =>
   (bX s0 (aa.mk ((x0.Terms.getD i0 ⟨[],0⟩).C) [((x0.Terms.getD i0 ⟨[],0⟩).Var)])).bind fun y2 =>
   some (.go y2)
  ) (fun i0 s0=>s0) (x0.Terms.length-0) 0 y1).bind <| dJ fun u0 =>
  (cU u0).bind fun y3 =>
  some (y3.1,y3.2)
 ) else (
  some ([],1)
 )
def oE (x0:Linear) (i0:Nat) (s0:List aa):AS:=⟨40,[(1,.hptr 1 0),(2,.eslice),(3,iI 0),(4,dS ab s0),(5,nI i0)],[(1,.cells 32 [iI x0.Const,dS aY x0.Terms])]⟩
def tw (u1:List aa):AS:=⟨40,[(2,.eslice),(3,iI 0),(4,dS ab u1)],[]⟩
theorem I9 (x0:Linear) (r:(List aa)×Int) (H:jk x0=some r):bF Tryz.prog 31 [.agg [iI x0.Const,dS aY x0.Terms]] (.tup [dS ab r.1,iI r.2]):=by
 unfold jk at H;refine aX Tryz.func31 40 [.tmp 2,.tmp 3] ?_;refine aS H fun y0 h0 H0 => ?_;refine a7 H0 (fun c0 H1 => ?_) (fun c1 H2 => ?_)
 ·refine aS H1 fun y1 h1 H3 => ?_;refine pA 14 [r0 [.m,.v,.v],r0 [.v,.c true (.bool y0),.v],.eqT 8 (.bool false),r0 [.v,.v,.b,.cw true [(0,[]),(1,[(1,0)])] (dS ab y1),.v],V1] [.only [1,2,3,4,5] [1]] 13 [false] (oE x0 0 y1) (aC Tryz.call15 (aF (gj _ _ h0) (aT (aM c0 (aC Tryz.call66 (aF (jV _ _ _ h1) aN)))))) ?_;refine aS H3 fun R0 h2 H4 => ?_;refine pJ 1 (tw) R0 ?_ (fun u0 e0 => ?_)
  ·refine pC (oE x0) h2 (fun i0 s0 h3 e1 => ?_) (fun i0 s0 h4 q0 h5 h6 => ?_)
   ·have c2:=lF i0 x0.Terms.length (by omega);subst e1;exact pB 5 [r0 [.v,.v,.v,.e (nI x0.Terms.length),.e (.bool false)]] [.only [2,3,4] []] (tw s0) (aT (aC (aV aY x0.Terms) (aB c2 aN)))
   ·have c3:=lT i0 x0.Terms.length (by omega);refine aS h5 fun y2 h7 H5 => ?_;refine nc 1 1 (ps:=[(x0.Terms.map aY).length≤9223372036854775807]) (by kernel_rfl) (fun l0 => ?_);have l1:x0.Terms.length≤9223372036854775807:=by simpa only [br,KP] using l0
    clear l0;obtain rfl:=sI H5;exact pB 9 [r0 [.v,.v,.v,.e (nI x0.Terms.length),.e (.bool true)],.rg 15 (V 4 [.e (.dptr (aY (x0.Terms.getD i0 ⟨[],0⟩))),.v,.v,.v,.v,.v,.e (.dptr (aY (x0.Terms.getD i0 ⟨[],0⟩))),.v,.v,.b,.b]) [.c true (dS ab y2),.v],V3] [.only [1,2,3,4,5] [1]] (oE x0 (i0+1) y2) (aT (aC (aV aY x0.Terms) (aB c3 (aI eG x0.Terms i0 ⟨[],0⟩ (aI eG x0.Terms i0 ⟨[],0⟩ (aC Tryz.call66 (aF (jV _ _ _ h7) (aH i0 aN))))))))
  ·subst e0;have H6:=bI H4;refine aS H6 fun y3 h8 H7 => ?_;obtain rfl:=sI H7;exact pR 3 [r0 [.v,.c true (.tup [dS ab y3.1,iI y3.2]),.v,.v,.v,.v]] [] [] (aC Tryz.call42 (aF (jy _ _ h8) aN))
 ·obtain rfl:=sI H2;exact pR 10 [r0 [.m,.v,.v],r0 [.v,.c true (.bool y0),.v],.eqT 8 (.bool true),V2] [.wk 2 []] [] (aC Tryz.call15 (aF (gj _ _ h0) (aT (aM c1 aN))))
def iQ (x0 x1:List ai):Option (List ai) :=
 (qG (σ:=((List ai)×Int×Int)) (ε:=(List ai)) (ρ:=Empty) (fun s0 =>
  ((
   bif decide (s0.2.1<((x0.length:Nat):Int)) then (
    some (.brk ())
   ) else (
    bif decide (s0.2.2<((x1.length:Nat):Int)) then (
     some (.brk ())
    ) else (
     some (.ret (.brk s0.1))
    )
   )
  ):Option (Out Unit (eM ((List ai)×Int×Int) (List ai) Empty))).bind (aft fun u0 =>
   ((
    bif (s0.2.2==((x1.length:Nat):Int)) then (
     some true
    ) else (
     bif decide (s0.2.1<((x0.length:Nat):Int)) then (
      bR (0≤s0.2.1∧s0.2.1<(x0.length:Int)) <|
      bR (0≤s0.2.2∧s0.2.2<(x1.length:Int)) <|
      some (Op.bytesLess (x0.getD s0.2.1.toNat []) (x1.getD s0.2.2.toNat [])||(x0.getD s0.2.1.toNat [])==(x1.getD s0.2.2.toNat []))
     ) else (
      some false
     )
    )
   ):Option Bool).bind fun v0 =>
   bif v0 then (
    bR (0≤s0.2.1∧s0.2.1<(x0.length:Int)) <|
    bR ((s0.1.length+1)*16≤140737488355328) <|
    some (.go ((s0.1++[(x0.getD s0.2.1.toNat [])]),(aW (s0.2.1+1)),s0.2.2))
   ) else (
    bR (0≤s0.2.2∧s0.2.2<(x1.length:Int)) <|
    bR ((s0.1.length+1)*16≤140737488355328) <|
    some (.go ((s0.1++[(x1.getD s0.2.2.toNat [])]),s0.2.1,(aW (s0.2.2+1))))
   )
  )
 ) 4294967296 ([],0,0)).bind <| dJ fun u1 =>
 some u1
def iT (x0 x1:List ai) (s0:(List ai)×Int×Int):AS:=⟨58,[(0,dS aj x0),(1,dS aj x1),(4,.eslice),(5,.rslice 54),(6,iI s0.2.1),(7,iI s0.2.2)],[(54,.row 9 1 (s0.1.map aj))]⟩
def pL (u2:List ai):AS:=⟨58,[(4,.eslice),(5,.rslice 54)],[(54,.row 9 1 (u2.map aj))]⟩
def lq (x0 x1:List ai) (s0:(List ai)×Int×Int) (u0:Unit):AS:=⟨58,[(0,dS aj x0),(1,dS aj x1),(4,.eslice),(5,.rslice 54),(6,iI s0.2.1),(7,iI s0.2.2)],[(54,.row 9 1 (s0.1.map aj))]⟩
def iU (x0 x1:List ai) (s0:(List ai)×Int×Int) (v0:Bool):AS:=⟨58,[(0,dS aj x0),(1,dS aj x1),(4,.eslice),(5,.rslice 54),(6,iI s0.2.1),(7,iI s0.2.2),(38,.bool v0)],[(54,.row 9 1 (s0.1.map aj))]⟩
theorem yZ (x0 x1 r:List ai) (H:iQ x0 x1=some r):bF Tryz.prog 67 [dS aj x0,dS aj x1] (dS aj r):=by
 unfold iQ at H;refine aX Tryz.func67 58 [.tmp 4] ?_;refine pA 8 [V1,V1,V2] [.er 5 54 9 1,.only [0,1,4,5,6,7] [54]] 8 [] (iT x0 x1 ([],0,0)) aN ?_;refine aS H fun R0 h0 H0 => ?_;refine pJ 1 (pL) R0 ?_ (fun u1 e0 => ?_)
 ·refine s7 (iT x0 x1) (by kernel_rfl) h0 (fun s0 q0 h1 h2 => ?_)
  ·refine pA 2 [] [.only [0,1,4,5,6,7] [54]] 2 [] ⟨58,[(0,.dslice (x0.map aj)),(1,.dslice (x1.map aj)),(4,.eslice),(5,.rslice 54),(6,.int .i64 s0.2.1),(7,.int .i64 s0.2.2)],[(54,.row 9 1 (s0.1.map aj))]⟩ aN ?_;refine aS h1 fun v1 h3 H1 => ?_;refine pJ 1 (lq x0 x1 s0) v1 ?_ (fun u0 e1 => ?_)
   ·refine a7 h3 (fun c0 H2 => ?_) (fun c1 H3 => ?_)
    ·obtain rfl:=sI H2;exact pB 3 [r0 [.v,.v,.e (nI x0.length),.e (.bool true),.v,.s,.s,.s,.s,.v]] [.only [0,1,4,5,6,7] [54]] (lq x0 x1 s0 ()) (aT (aC (aV aj x0) (aB c0 aN)))
    ·refine a7 H3 (fun c2 H4 => ?_) (fun c3 H5 => ?_)
     ·obtain rfl:=sI H4;exact pB 4 [r0 [.v,.v,.e (nI x0.length),.e (.bool false),.v,.v,.v,.e (nI x1.length),.v,.v],.eqT 17 (.bool true)] [.only [0,1,4,5,6,7] [54]] (lq x0 x1 s0 ()) (aT (aC (aV aj x0) (aB c1 (aT (aC (aV aj x1) (aB c2 aN))))))
     ·obtain rfl:=sI H5;obtain rfl:=sI (ao H1);obtain rfl:=eT h2;exact pB 4 [r0 [.v,.v,.e (nI x0.length),.e (.bool false),.v,.v,.v,.e (nI x1.length),.v,.v],.eqT 17 (.bool false)] [.only [4,5] [54]] (pL s0.1) (aT (aC (aV aj x0) (aB c1 (aT (aC (aV aj x1) (aB c3 aN))))))
   ·subst e1;have H6:=a8 H1;refine pA 2 [] [.only [0,1,4,5,6,7] [54]] 2 [] ⟨58,[(0,dS aj x0),(1,dS aj x1),(4,.eslice),(5,.rslice 54),(6,iI s0.2.1),(7,iI s0.2.2)],[(54,.row 9 1 (s0.1.map aj))]⟩ aN ?_;refine aS H6 fun v0 h4 H7 => ?_;refine cQ 0 (iU x0 x1 s0 v0) (by kernel_rfl) ?_ ?_
    ·refine a7 h4 (fun c4 H8 => ?_) (fun c5 H9 => ?_)
     ·obtain rfl:=sI H8;exact pB 1 [.rg 18 [.v,.v,.e (nI x1.length),.e (.bool true),.v,.s,.s,.s,.s,.s,.s,.s,.s,.s,.s,.s,.s,.s] [.s,.s,.v]] [.only [0,1,4,5,6,7,38] [54]] (iU x0 x1 s0 true) (aT (aC (aV aj x1) (aB c4 aN)))
     ·refine a7 H9 (fun c6 H10 => ?_) (fun c7 H11 => ?_)
      ·refine aR H10 fun g0 H12 => ?_;refine aR H12 fun g1 H13 => ?_;obtain rfl:=sI H13;exact pB 1 [.rg 18 [.v,.v,.e (nI x1.length),.e (.bool false),.v,.v,.v,.e (nI x0.length),.e (.bool true),.v,.v,.v,.e (.dptr [.str (x0.getD s0.2.1.toNat [])]),.v,.v,.v,.e (.dptr [.str (x1.getD s0.2.2.toNat [])]),.v] [.v,.v,.v]] [.only [0,1,4,5,6,7,38] [54]] (iU x0 x1 s0 (Op.bytesLess (x0.getD s0.2.1.toNat []) (x1.getD s0.2.2.toNat [])||(x0.getD s0.2.1.toNat [])==(x1.getD s0.2.2.toNat []))) (aT (aC (aV aj x1) (aB c5 (aT (aC (aV aj x0) (aB c6 (aJ (xv (f:=aj) (l:=x0) (n:=s0.2.1) [] bb (by decide) (by exact g0)) (aJ (xv (f:=aj) (l:=x1) (n:=s0.2.2) [] bb (by decide) (by exact g1)) aN))))))))
      ·obtain rfl:=sI H11;exact pB 1 [.rg 18 [.v,.v,.e (nI x1.length),.e (.bool false),.v,.v,.v,.e (nI x0.length),.e (.bool false),.v,.s,.s,.s,.s,.s,.s,.s,.s] [.s,.v,.v]] [.only [0,1,4,5,6,7,38] [54]] (iU x0 x1 s0 false) (aT (aC (aV aj x1) (aB c5 (aT (aC (aV aj x0) (aB c7 aN))))))
    ·refine a7 H7 (fun c8 H14 => ?_) (fun c9 H15 => ?_)
     ·refine aR H14 fun g2 H16 => ?_;refine aR H16 fun g3 H17 => ?_;obtain rfl:=sI H17;exact pB 5 [.eqT 38 (.bool true),r0 [.v,.v,.v,.e (.dptr [.str (x0.getD s0.2.1.toNat [])]),.v,.b,.ap,.rwH 45 (.row 9 1 ((s0.1++[(x0.getD s0.2.1.toNat [])]).map aj)),.v],r0 [.v,.w,.v]] [.ren [(45,54)],.only [0,1,4,5,6,7] [54]] (iT x0 x1 ((s0.1++[(x0.getD s0.2.1.toNat [])]),(aW (s0.2.1+1)),s0.2.2)) (aB c8 (aJ (xv (f:=aj) (l:=x0) (n:=s0.2.1) [] bb (by decide) (by exact g2)) (aJ (qw (c:=aj) dQ s0.1 [(x0.getD s0.2.1.toNat [])] 16 (by decide) (by simpa using g3)) (aC (rO 9 1 aj s0.1 [(x0.getD s0.2.1.toNat [])]) aN))))
     ·refine aR H15 fun g4 H18 => ?_;refine aR H18 fun g5 H19 => ?_;obtain rfl:=sI H19;exact pB 5 [.eqT 38 (.bool false),r0 [.v,.v,.v,.e (.dptr [.str (x1.getD s0.2.2.toNat [])]),.v,.b,.ap,.rwH 54 (.row 9 1 ((s0.1++[(x1.getD s0.2.2.toNat [])]).map aj)),.v],r0 [.v,.w,.v]] [.only [0,1,4,5,6,7] [54]] (iT x0 x1 ((s0.1++[(x1.getD s0.2.2.toNat [])]),s0.2.1,(aW (s0.2.2+1)))) (aB c9 (aJ (xv (f:=aj) (l:=x1) (n:=s0.2.2) [] bb (by decide) (by exact g4)) (aJ (qw (c:=aj) dQ s0.1 [(x1.getD s0.2.2.toNat [])] 16 (by decide) (by simpa using g5)) (aC (rO 9 1 aj s0.1 [(x1.getD s0.2.2.toNat [])]) aN))))
 ·subst e0;have H20:=bI H0;refine cC H20 fun e2 => ?_;subst e2;exact pR 3 [V2] [.fz 54] [] aN
def cH (x0:Int):Option (Int×Int×Int) :=
 some ((x0.tmod 2097152),((aW (x0.tdiv 2097152)).tmod 2097152),(aW ((aW (x0.tdiv 2097152)).tdiv 2097152)))
theorem oT (x0:Int) (r:Int×Int×Int) (H:cH x0=some r):bF Tryz.prog 100 [iI x0] (.agg [iI r.1,iI r.2.1,iI r.2.2]):=by unfold cH at H;refine aX Tryz.func100 12 [.cell 2 145] ?_;obtain rfl:=sI H;exact pR 5 [r0 [.m],r0 [.v,.v,.v,.w,.v,.v,.w,.w,.b,.m]] [] [] (aC (show (2097152:Int)≠0 from (by decide)) (aC (show (2097152:Int)≠0 from (by decide)) (aC (show (2097152:Int)≠0 from (by decide)) (aC (show (2097152:Int)≠0 from (by decide)) (aC (show (2097152:Int)≠0 from (by decide)) aN)))))
def dN (x0 x1:Int):Option (Int×Int) :=
 (fI x0).bind fun y0 =>
 bif y0 then (
  (fI x1).bind fun y1 =>
  bif y1 then (
   bif (x1==0) then (
    some (0,1)
   ) else (
    bR ((x1:Int)≠0) <|
    ((
     bif ((x0.tmod x1)==0) then (
      some false
     ) else (
      some (!(decide (x0<0)==decide (x1<0)))
     )
    ):Option Bool).bind fun v0 =>
    bif v0 then (
     some ((aW ((aW (x0.tdiv x1))-1)),0)
    ) else (
     some ((aW (x0.tdiv x1)),0)
    )
   )
  ) else (
   some (0,2)
  )
 ) else (
  some (0,2)
 )
def mV (x0 x1:Int) (v0:Bool):AS:=⟨34,[(4,iI 0),(5,iI 0),(6,iI (aW (x0.tdiv x1))),(30,.bool v0)],[]⟩
theorem fv (x0 x1:Int) (r:Int×Int) (H:dN x0 x1=some r):bF Tryz.prog 101 [iI x0,iI x1] (.tup [iI r.1,iI r.2]):=by
 unfold dN at H;refine aX Tryz.func101 34 [.tmp 4,.tmp 5] ?_;refine aS H fun y0 h0 H0 => ?_;refine a7 H0 (fun c0 H1 => ?_) (fun c1 H2 => ?_)
 ·refine aS H1 fun y1 h1 H3 => ?_;refine a7 H3 (fun c2 H4 => ?_) (fun c3 H5 => ?_)
  ·refine a7 H4 (fun c4 H6 => ?_) (fun c5 H7 => ?_)
   ·obtain rfl:=sI H6;exact pR 16 [V2,r0 [.v,.c true (.bool true),.v,.v,.v,.c true (.bool y1),.v,.v],.eqT 14 (.bool false),V2,.eqT 16 (.bool true),V2] [] [] (aC Tryz.call49 (aC (bF.eq (bS _ _ h0) (cB c0)) (aT (aC Tryz.call49 (aF (bS _ _ h1) (aT (aM c2 (aB c4 aN))))))))
   ·refine aR H7 fun g0 H8 => ?_;refine pA 18 [V2,r0 [.v,.c true (.bool true),.v,.v,.v,.c true (.bool y1),.v,.v],.eqT 14 (.bool false),V2,.eqT 16 (.bool false),r0 [.v,.v,.w,.v]] [.only [0,1,4,5,6] []] 16 [false,false] ⟨34,[(0,iI x0),(1,iI x1),(4,iI 0),(5,iI 0),(6,iI (aW (x0.tdiv x1)))],[]⟩ (aC Tryz.call49 (aC (bF.eq (bS _ _ h0) (cB c0)) (aT (aC Tryz.call49 (aF (bS _ _ h1) (aT (aM c2 (aB c5 (aC (show (x1:Int)≠0 from g0) aN))))))))) ?_;refine aS H8 fun v0 h2 H9 => ?_;refine cQ 0 (mV x0 x1 v0) (by kernel_rfl) ?_ ?_
    ·refine a7 h2 (fun c6 H10 => ?_) (fun c7 H11 => ?_)
     ·obtain rfl:=sI H10;exact pB 1 [r0 [.v,.v,.v,.e (.bool false),.v,.s,.s,.s,.s,.s,.v]] [.only [4,5,6,30] []] (mV x0 x1 false) (aC (show (x1:Int)≠0 from g0) (aM c6 aN))
     ·obtain rfl:=sI H11;exact pB 1 [r0 [.v,.v,.v,.e (.bool true),.v,.v,.v,.v,.v,.v,.v]] [.only [4,5,6,30] []] (mV x0 x1 (!(decide (x0<0)==decide (x1<0)))) (aC (show (x1:Int)≠0 from g0) (aM c7 aN))
    ·refine a7 H9 (fun c8 H12 => ?_) (fun c9 H13 => ?_)
     ·obtain rfl:=sI H12;exact pR 6 [.eqT 30 (.bool true),r0 [.v,.w,.v],V3] [] [] (aB c8 aN)
     ·obtain rfl:=sI H13;exact pR 6 [.eqT 30 (.bool false),V3] [] [] (aB c9 aN)
  ·obtain rfl:=sI H5;exact pR 10 [V2,r0 [.v,.c true (.bool true),.v,.v,.v,.c true (.bool y1),.v,.v],.eqT 14 (.bool true),V2] [] [] (aC Tryz.call49 (aC (bF.eq (bS _ _ h0) (cB c0)) (aT (aC Tryz.call49 (aF (bS _ _ h1) (aT (aM c3 aN)))))))
 ·obtain rfl:=sI H2;exact pR 9 [V2,r0 [.v,.c true (.bool false),.v,.v,.s,.s,.s,.v],V2] [] [] (aC Tryz.call49 (aC (bF.eq (bS _ _ h0) (cB c1)) (aT aN)))
end Go.Proofs.YtadjhpbkknifeaaGreatDoor
