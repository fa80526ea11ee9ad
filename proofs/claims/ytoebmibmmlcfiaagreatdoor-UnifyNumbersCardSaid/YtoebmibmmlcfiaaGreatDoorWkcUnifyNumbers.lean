/- What functions of the program compute, walked: each as a plain function, with the theorem that the code computes it wherever that answers. Printed by a program, part 3. -/
import Derived.Test.YtoebmibmmlcfiaaGreatDoorWkbUnifyNumbers
set_option linter.unusedSimpArgs false
set_option linter.unusedVariables false
namespace Go.Proofs.YtoebmibmmlcfiaaGreatDoor
open Go.RowKit Go.Ab Go.Sh
noncomputable def dm (x0:List Linear) (x1:Int):Option ((List Bind)×Int×aj×Int) :=
 (gA x0).bind fun y0 =>
 ((
  bif y0 then (
   bif decide (x1<1) then (
    some true
   ) else (
    bif decide (x1≥1000000000) then (
     some true
    ) else (
     (eL x0).bind fun y1 =>
     some (decide (y1≥x1))
    )
   )
  ) else (
   some true
  )
 ):Option Bool).bind fun v0 =>
 bif v0 then (
  some ([],0,(aj.mk [] 0),1)
 ) else (
  bif decide (((x0.length:Nat):Int)>6000) then (
   some ([],0,(aj.mk [] 0),3)
  ) else (
   (fA (σ:=(List ae)) (ε:=(List ae)) (ρ:=Empty) (fun i0 s0 =>
    bX ((s0.length+1)*56≤140737488355328) <|
    some (.go (s0++[(ae.mk (Linear.mk ((x0.getD i0 aD).Const) ((x0.getD i0 aD).Terms)) (ksort (bH (((i0:Nat):Int):Int) 1 [])) 1 false)]))
   ) (fun i0 s0=>s0) (x0.length-0) 0 []).bind <| dL fun u0 =>
   (oa (σ:=(Int×(List ae)×(List Bind)×Int)) (ε:=((List ae)×(List Bind)×Int)) (ρ:=((List Bind)×Int×aj×Int)) (fun s1 =>
    bif decide (s1.1<((u0.length:Nat):Int)) then (
     (oa (σ:=((List ae)×(List Bind)×Int)) (ε:=((List ae)×(List Bind)×Int)) (ρ:=(fE (Int×(List ae)×(List Bind)×Int) ((List ae)×(List Bind)×Int) ((List Bind)×Int×aj×Int))) (fun s2 =>
      bX (0≤s1.1∧s1.1<(s2.1.length:Int)) <|
      bX (s1.1.toNat<s2.1.length) <|
      (ev (Linear.mk (((s2.1.getD s1.1.toNat aa).q).Const) (((s2.1.getD s1.1.toNat aa).q).Terms))).bind fun y2 =>
      bif y2 then (
       some (.brk (s2.1,s2.2.1,s2.2.2))
      ) else (
       (bp s1.1 s2.2.2 s2.1 s2.2.1).bind fun y3 =>
       bif (y3.1.2==0) then (
        some (.go (y3.2.2.1,y3.2.2.2,y3.2.1))
       ) else (
        some (.ret (.ret ([],0,y3.1.1,y3.1.2)))
       )
      )
     ) 4294967296 (s1.2.1,s1.2.2.1,s1.2.2.2)).bind <| aft fun u1 =>
     some (.go ((aS (s1.1+1)),u1.1,u1.2.1,u1.2.2))
    ) else (
     some (.brk (s1.2.1,s1.2.2.1,s1.2.2.2))
    )
   ) 4294967296 (0,u0,[],x1)).bind <| aft fun u2 =>
   bif decide (u2.2.2≥1000000000) then (
    some ([],0,(aj.mk [] 0),3)
   ) else (
    (dh x0).bind fun y4 =>
    (fA (σ:=(List Bind)) (ε:=(List Bind)) (ρ:=Empty) (fun i1 s3 =>
     (jE y4 ((u2.2.1.getD i1 ao).Var)).bind fun y5 =>
     ((
      bif y5.2 then (
       bX ((s3.length+1)*112≤140737488355328) <|
       some (s3++[(Bind.mk ((u2.2.1.getD i1 ao).Kind) ((u2.2.1.getD i1 ao).Var) (Linear.mk (((u2.2.1.getD i1 ao).Dim).Const) (((u2.2.1.getD i1 ao).Dim).Terms)) (Shape.mk (((u2.2.1.getD i1 ao).Row).Row) (((u2.2.1.getD i1 ao).Row).Dims)) ((u2.2.1.getD i1 ao).Elem))])
      ) else (
       some s3
      )
     ):Option (List Bind)).bind fun v1 =>
     some (.go v1)
    ) (fun i1 s3=>s3) (u2.2.1.length-0) 0 []).bind <| dL fun u3 =>
    (jF (fun x=>x.Var) u3).bind fun y6 =>
    some (y6,u2.2.2,(aj.mk [] 0),0)
   )
  )
 )
def eN (x0:List Linear) (x1:Int) (v0:Bool):AS:=⟨133,[(0,dS ah x0),(1,iI x1),(4,.eslice),(5,iI 0),(6,.hptr 6 0),(7,iI 0),(35,.bool v0)],[(6,.cells 72 [.eslice,iI 0])]⟩
def jl (x0:List Linear) (x1:Int) (i0:Nat) (s0:List ae):AS:=⟨133,[(0,dS ah x0),(4,.eslice),(5,iI 0),(6,.hptr 6 0),(7,iI 0),(8,.hptr 43 0),(44,dS ah x0),(45,nI x0.length),(46,nI i0)],[(6,.cells 72 [.eslice,iI 0]),(43,.cells 106 [.rslice 62,.eslice,iI x1]),(62,.row 109 5 (s0.map ab))]⟩
def n5 (x0:List Linear) (x1:Int) (u4:List ae):AS:=⟨133,[(0,dS ah x0),(4,.eslice),(5,iI 0),(6,.hptr 6 0),(7,iI 0),(8,.hptr 43 0)],[(6,.cells 72 [.eslice,iI 0]),(43,.cells 106 [.rslice 62,.eslice,iI x1]),(62,.row 109 5 (u4.map ab))]⟩
def jh (x0:List Linear) (u0:List ae) (s1:Int×(List ae)×(List Bind)×Int):AS:=⟨133,[(0,dS ah x0),(4,.eslice),(5,iI 0),(6,.hptr 6 0),(7,iI 0),(8,.hptr 43 0),(70,nI u0.length),(71,iI s1.1)],[(6,.cells 72 [.eslice,iI 0]),(43,.cells 106 [.rslice 62,.rslice 900,iI s1.2.2.2]),(62,.row 109 5 (s1.2.1.map ab)),(900,.row 62 7 (s1.2.2.1.map aq))]⟩
def mI (x0:List Linear) (u5:(List ae)×(List Bind)×Int):AS:=⟨133,[(0,dS ah x0),(4,.eslice),(5,iI 0),(6,.hptr 6 0),(7,iI 0),(8,.hptr 43 0)],[(6,.cells 72 [.eslice,iI 0]),(43,.cells 106 [.rslice 62,.rslice 900,iI u5.2.2]),(62,.row 109 5 (u5.1.map ab)),(900,.row 62 7 (u5.2.1.map aq))]⟩
def jo (x0:List Linear) (u0:List ae) (s1:Int×(List ae)×(List Bind)×Int) (s2:(List ae)×(List Bind)×Int):AS:=⟨133,[(0,dS ah x0),(4,.eslice),(5,iI 0),(6,.hptr 6 0),(7,iI 0),(8,.hptr 43 0),(11,iI s1.1),(70,nI u0.length),(71,iI s1.1)],[(6,.cells 72 [.eslice,iI 0]),(43,.cells 106 [.rslice 62,.rslice 901,iI s2.2.2]),(62,.row 109 5 (s2.1.map ab)),(901,.row 62 7 (s2.2.1.map aq))]⟩
def nY (x0:List Linear) (u0:List ae) (s1:Int×(List ae)×(List Bind)×Int) (u6:(List ae)×(List Bind)×Int):AS:=⟨133,[(0,dS ah x0),(4,.eslice),(5,iI 0),(6,.hptr 6 0),(7,iI 0),(8,.hptr 43 0),(70,nI u0.length),(71,iI s1.1)],[(6,.cells 72 [.eslice,iI 0]),(43,.cells 106 [.rslice 62,.rslice 901,iI u6.2.2]),(62,.row 109 5 (u6.1.map ab)),(901,.row 62 7 (u6.2.1.map aq))]⟩
def jm (u2:(List ae)×(List Bind)×Int) (y4:List ak) (i1:Nat) (s3:List Bind):AS:=⟨133,[(4,.rslice 123),(5,iI 0),(6,.hptr 6 0),(7,iI 0),(8,.hptr 43 0),(14,dS aZ y4),(106,.rslice 900),(107,nI u2.2.1.length),(108,nI i1)],[(6,.cells 72 [.eslice,iI 0]),(43,.cells 106 [.rslice 62,.rslice 900,iI u2.2.2]),(62,.row 109 5 (u2.1.map ab)),(123,.row 62 7 (s3.map aq)),(900,.row 62 7 (u2.2.1.map aq))]⟩
def nA (u2:(List ae)×(List Bind)×Int) (u7:List Bind):AS:=⟨133,[(4,.rslice 123),(5,iI 0),(6,.hptr 6 0),(7,iI 0),(8,.hptr 43 0)],[(6,.cells 72 [.eslice,iI 0]),(43,.cells 106 [.rslice 62,.rslice 900,iI u2.2.2]),(62,.row 109 5 (u2.1.map ab)),(123,.row 62 7 (u7.map aq)),(900,.row 62 7 (u2.2.1.map aq))]⟩
def iO (u2:(List ae)×(List Bind)×Int) (y4:List ak) (i1:Nat) (v1:List Bind):AS:=⟨133,[(4,.rslice 123),(5,iI 0),(6,.hptr 6 0),(7,iI 0),(8,.hptr 43 0),(14,dS aZ y4),(106,.rslice 900),(107,nI u2.2.1.length),(108,nI i1)],[(6,.cells 72 [.eslice,iI 0]),(43,.cells 106 [.rslice 62,.rslice 900,iI u2.2.2]),(62,.row 109 5 (u2.1.map ab)),(123,.row 62 7 (v1.map aq)),(900,.row 62 7 (u2.2.1.map aq))]⟩
theorem oh (x0:List Linear) (x1:Int) (r:(List Bind)×Int×aj×Int) (H:dm x0 x1=some r):br Tryz.prog 22 [dS ah x0,iI x1] (.tup [dS aq r.1,iI r.2.1,.agg [dS ai r.2.2.1.Mults,iI r.2.2.1.Mod],iI r.2.2.2]):=by
 unfold dm at H;refine aX Tryz.func22 133 [.tmp 4,.tmp 5,.cell 6 72,.tmp 7] ?_;refine aL H fun y0 h0 H0 => ?_;refine pD 4 [r0 [.v,.v,.m,.v]] [.only [0,1,4,5,6,7] [6]] 4 [] aN ?_;refine aL H0 fun v0 h1 H1 => ?_;refine cC 0 (eN x0 x1 v0) (by kernel_rfl) ?_ ?_
 ·refine aU h1 (fun c0 H2 => ?_) (fun c1 H3 => ?_)
  ·refine aU H2 (fun c2 H4 => ?_) (fun c3 H5 => ?_)
   ·obtain rfl:=sI H4;exact pB 1 [r0 [.v,.c true bT,.v,.v,.v,.e bT,.v,.v,.s,.s,.v,.v,.s,.s,.s,.s,.v]] [.only [0,1,4,5,6,7,35] [6]] (eN x0 x1 true) (aC Tryz.call45 (aC (br.eq (ib _ _ h0) (cB c0)) (aT (aB c2 aN))))
   ·refine aU H5 (fun c4 H6 => ?_) (fun c5 H7 => ?_)
    ·obtain rfl:=sI H6;exact pB 1 [r0 [.v,.c true bT,.v,.v,.v,.e bF,.v,.v,.v,.e bT,.v,.v,.s,.s,.s,.s,.v]] [.only [0,1,4,5,6,7,35] [6]] (eN x0 x1 true) (aC Tryz.call45 (aC (br.eq (ib _ _ h0) (cB c0)) (aT (aB c3 (aB c4 aN)))))
    ·refine aL H7 fun y1 h2 H8 => ?_;obtain rfl:=sI H8;exact pB 1 [r0 [.v,.c true bT,.v,.v,.v,.e bF,.v,.v,.v,.e bF,.v,.v,.v,.c true (iI y1),.v,.v,.v]] [.only [0,1,4,5,6,7,35] [6]] (eN x0 x1 (decide (y1≥x1))) (aC Tryz.call45 (aC (br.eq (ib _ _ h0) (cB c0)) (aT (aB c3 (aB c5 (aC Tryz.call46 (aF (qK _ _ h2) aN)))))))
  ·obtain rfl:=sI H3;exact pB 1 [r0 [.v,.c true bF,.v,.v,.s,.s,.v,.v,.s,.s,.v,.v,.s,.s,.s,.s,.v]] [.only [0,1,4,5,6,7,35] [6]] (eN x0 x1 true) (aC Tryz.call45 (aC (br.eq (ib _ _ h0) (cB c1)) (aT aN)))
 ·refine aU H1 (fun c6 H9 => ?_) (fun c7 H10 => ?_)
  ·obtain rfl:=sI H9;exact pR 5 [.eqT 35 bT,r0 [.b,.v,.v,.m,.v]] [.wk 4 [],.wkH 6 0 []] [] (aB c6 aN)
  ·refine aU H10 (fun c8 H11 => ?_) (fun c9 H12 => ?_)
   ·obtain rfl:=sI H11;exact pR 11 [.eqT 35 bF,r0 [.v,.e (nI x0.length),.v],.eqT 39 bT,r0 [.b,.v,.v,.m,.v]] [.wk 4 [],.wkH 6 0 []] [] (aB c7 (aT (aC (bo ah x0) (aB c8 aN))))
   ·have c9p:=Mo c9;refine pA 15 [.eqT 35 bF,r0 [.v,.e (nI x0.length),.v],.eqT 39 bF,r0 [.v,.b,.m,.v],r0 [.v,.e (nI x0.length),.v]] [.erH 43 0 62 109 5,.only [0,4,5,6,7,8,44,45,46] [6,43,62]] 13 [false,false] (jl x0 x1 0 []) (aB c7 (aT (aC (bo ah x0) (aB c9 (aT (aC (bo ah x0) aN)))))) ?_;refine aL H12 fun R0 h3 H13 => ?_;refine pJ 1 (n5 x0 x1) R0 ?_ (fun u0 e0 => ?_)
    ·refine pC (jl x0 x1) h3 (fun i0 s0 h4 e1 => ?_) (fun i0 s0 h5 q0 h6 h7 => ?_)
     ·have c10:=lF i0 x0.length (by omega);subst e1;exact pB 5 [r0 [.e bF]] [.only [0,4,5,6,7,8] [6,43,62]] (n5 x0 x1 s0) (aB c10 aN)
     ·have c11:=lT i0 x0.length (by omega);refine aP h6 fun g0 H14 => ?_;refine bK 0 (ps:=[(x0.map ah).length≤9223372036854775807]) (by kernel_rfl) (fun l0 => ?_);have l1:x0.length≤9223372036854775807:=by simpa only [cq,Mt] using l0
      clear l0;obtain rfl:=sI H14;exact pB 12 [r0 [.e bT],r0 [.v,.e (.dptr (ah (x0.getD i0 aD))),.v,.m,.v,.m],.cv [.ren [(6,6),(10,10),(43,43),(62,900)]],.rg 13 (V 4 [.lt,.v,.mm,.v,.mi ((ksort (bH (((i0:Nat):Int):Int) 1 [])).map (dR ai)),.v,.b,.b,.apx ((s0++[(ae.mk (Linear.mk ((x0.getD i0 aD).Const) ((x0.getD i0 aD).Terms)) (ksort (bH (((i0:Nat):Int):Int) 1 [])) 1 false)]).map ab)]) [.v,.v,.m],V2] [.only [0,4,5,6,7,8,44,45,46] [6,43,62]] (jl x0 x1 (i0+1) (s0++[(ae.mk (Linear.mk ((x0.getD i0 aD).Const) ((x0.getD i0 aD).Terms)) (ksort (bH (((i0:Nat):Int):Int) 1 [])) 1 false)])) (aB c11 (aI cP x0 i0 aD (aC (L1 ou (((i0:Nat):Int):Int) 1 []) (a8 (Ku (c:=ab) tV s0 [(ae.mk (Linear.mk ((x0.getD i0 aD).Const) ((x0.getD i0 aD).Terms)) (ksort (bH (((i0:Nat):Int):Int) 1 [])) 1 false)] 56 (by decide) (by first | (simp;done) | simpa using g0) List.map_append.symm) (aH i0 aN)))))
    ·subst e0;have H15:=bu H13;refine pA 4 [r0 (V 4 [.e (nI u0.length),.v])] [.erH 43 1 900 62 7,.only [0,4,5,6,7,8,70,71] [6,43,62,900]] 4 [] (jh x0 u0 (0,u0,[],x1)) (aT (aC (bo ab u0) aN)) ?_;refine aL H15 fun R1 h8 H16 => ?_;refine pJ 1 (mI x0) R1 ?_ (fun u2 e2 => ?_)
     ·refine qL (jh x0 u0) (by kernel_rfl) h8 (fun s1 q1 h9 h10 => ?_)
      ·refine aU h9 (fun c12 H17 => ?_) (fun c13 H18 => ?_)
       ·have c12p:=Mp c12;refine pA 11 [V1,.eqT 72 bT,V2] [.ren [(6,6),(43,43),(62,62),(900,901)],.only [0,4,5,6,7,8,11,70,71] [6,43,62,901]] 10 [true] (jo x0 u0 s1 (s1.2.1,s1.2.2.1,s1.2.2.2)) (aB c12 aN) ?_;refine aL H17 fun R2 h11 H19 => ?_;refine pJ 2 (nY x0 u0 s1) R2 ?_ (fun u1 e3 => ?_)
        ·refine qL (jo x0 u0 s1) (by kernel_rfl) h11 (fun s2 q2 h12 h13 => ?_)
         ·refine aP h12 fun g1 H20 => ?_;refine aP H20 fun g2 H21 => ?_;refine aL H21 fun y2 h14 H22 => ?_;refine pD 3 [r0 (V 7 [.rl s1.1.toNat 0 (.agg (ah ((s2.1.getD s1.1.toNat aa).q))),.c true (.bool y2),.v])] [.only [0,4,5,6,7,8,11,70,71,83] [6,43,62,901]] 3 [] (aC (show (0:Int)≤s1.1∧s1.1<((s2.1.map ab).length:Int) from by rw [Mt];exact g1) (aC (lA (f:=ab) (l:=s2.1) (n:=s1.1.toNat) 5 0 2 (by omega) (by decide)) (aC (Gx (f:=ab) (l:=s2.1) (n:=s1.1.toNat) aa 0 2 (by omega)) (aC Tryz.call47 (aF (ux _ _ h14) (aT aN)))))) ?_;refine aU H22 (fun c14 H23 => ?_) (fun c15 H24 => ?_)
          ·obtain rfl:=sI H23;obtain rfl:=ja h13;exact pB 3 [.eqT 83 bF] [.only [0,4,5,6,7,8,70,71] [6,43,62,901]] (nY x0 u0 s1 (s2.1,s2.2.1,s2.2.2)) (aM c14 aN)
          ·refine aL H24 fun y3 h15 H25 => ?_;refine pD 8 [.eqT 83 bT,r0 [.v,.v,.hM [(43,1000),(62,1001),(901,1002)] [(0,900)] (.tup [.agg [dS ai y3.1.1.Mults,iI y3.1.1.Mod],iI y3.1.2]) [(0,.row 62 7 (y3.2.2.2.map aq)),(1000,.cells 106 [.rslice 1001,.rslice 0,iI y3.2.1]),(1001,.row 109 5 (y3.2.2.1.map ab))],.v,.v,.v,.m,.m,.v],V2] [.only [0,4,5,6,7,8,11,12,13,70,71,91] [6,12,43,62,900]] 7 [true] (aM c15 (aC Tryz.call48 (aC (pn _ _ _ _ _ h15) aN))) ?_;refine aU H25 (fun c16 H26 => ?_) (fun c17 H27 => ?_)
           ·obtain rfl:=sI H26;exact pB 3 [.eqT 91 bF] [.ren [(6,6),(43,43),(62,62),(900,901)],.only [0,4,5,6,7,8,11,70,71] [6,43,62,901]] (jo x0 u0 s1 (y3.2.2.1,y3.2.2.2,y3.2.1)) (aM c16 aN)
           ·obtain rfl:=sI H27;obtain rfl:=ba h13;obtain rfl:=sI (aR H19);obtain rfl:=ba h10;obtain rfl:=sI (aR H16);exact pR 5 [.eqT 91 bT,.rg 5 (V 4 [.m]) [.v]] [.wk 4 []] [] (aM c17 aN)
        ·subst e3;have H28:=bB H19;obtain rfl:=sI H28;exact pB 1 [r0 [.w,.v]] [.ren [(6,6),(43,43),(62,62),(901,900)],.only [0,4,5,6,7,8,70,71] [6,43,62,900]] (jh x0 u0 ((aS (s1.1+1)),u1.1,u1.2.1,u1.2.2)) aN
       ·obtain rfl:=sI H18;obtain rfl:=ja h10;exact pB 6 [V1,.eqT 72 bF] [.only [0,4,5,6,7,8] [6,43,62,900]] (mI x0 (s1.2.1,s1.2.2.1,s1.2.2.2)) (aB c13 aN)
     ·subst e2;have H29:=bB H16;refine aU H29 (fun c18 H30 => ?_) (fun c19 H31 => ?_)
      ·obtain rfl:=sI H30;exact pR 8 [V5,.eqT 99 bT,r0 [.b,.v,.v,.m,.v]] [.wk 4 [],.wkH 6 0 []] [] (aB c18 aN)
      ·have c19p:=Mo c19;refine aL H31 fun y4 h16 H32 => ?_;refine pA 12 [V5,.eqT 99 bF,r0 [.v,.c true (dS aZ y4),.v],r0 (V 4 [.e (nI u2.2.1.length),.v])] [.er 4 123 62 7,.only [4,5,6,7,8,14,106,107,108] [6,43,62,123,900]] 11 [false] (jm u2 y4 0 []) (aB c19 (aC Tryz.call49 (aF (kr _ _ h16) (aT (aC (bo aq u2.2.1) aN))))) ?_;refine aL H32 fun R3 h17 H33 => ?_;refine pJ 1 (nA u2) R3 ?_ (fun u3 e4 => ?_)
       ·refine pC (jm u2 y4) h17 (fun i1 s3 h18 e5 => ?_) (fun i1 s3 h19 q3 h20 h21 => ?_)
        ·have c20:=lF i1 u2.2.1.length (by omega);subst e5;exact pB 5 [r0 [.e bF]] [.only [4,5,6,7,8] [6,43,62,123,900]] (nA u2 s3) (aB c20 aN)
        ·have c21:=lT i1 u2.2.1.length (by omega);refine aL h20 fun y5 h22 H34 => ?_;refine pD 13 [r0 [.e bT],r0 [.v,.rl i1 0 (.agg (aq (u2.2.1.getD i1 ao))),.m,.m],r0 [.v,.v,.v,.c true (.tup [iI y5.1,.bool y5.2]),.v,.v,.v,.v,.v],V1] [.only [4,5,6,7,8,14,16,106,107,108,119] [6,16,43,62,123,900]] 13 [true] (aB c21 (aC (show (0:Int)≤((i1:Nat):Int)∧((i1:Nat):Int)<((u2.2.1.map aq).length:Int) from by rw [Mt];omega) (aC (lA (f:=aq) (l:=u2.2.1) (n:=i1) 7 0 7 (by omega) (by decide)) (aC (Gx (f:=aq) (l:=u2.2.1) (n:=i1) ao 0 7 (by omega)) (aC Tryz.call50 (aF (yo y4 ((u2.2.1.getD i1 ao).Var) y5 h22) aN)))))) ?_;refine aL H34 fun v1 h23 H35 => ?_;refine cC 1 (iO u2 y4 i1 v1) (by kernel_rfl) ?_ ?_
         ·refine aU h23 (fun c22 H36 => ?_) (fun c23 H37 => ?_)
          ·refine aP H36 fun g3 H38 => ?_;obtain rfl:=sI H38;exact pB 3 [.eqT 119 bT,r0 [.v,.v,.b,.ap,.rwH 123 (.row 62 7 ((s3++[(Bind.mk ((u2.2.1.getD i1 ao).Kind) ((u2.2.1.getD i1 ao).Var) (Linear.mk (((u2.2.1.getD i1 ao).Dim).Const) (((u2.2.1.getD i1 ao).Dim).Terms)) (Shape.mk (((u2.2.1.getD i1 ao).Row).Row) (((u2.2.1.getD i1 ao).Row).Dims)) ((u2.2.1.getD i1 ao).Elem))]).map aq)),.v]] [.only [4,5,6,7,8,14,106,107,108] [6,43,62,123,900]] (iO u2 y4 i1 (s3++[(Bind.mk ((u2.2.1.getD i1 ao).Kind) ((u2.2.1.getD i1 ao).Var) (Linear.mk (((u2.2.1.getD i1 ao).Dim).Const) (((u2.2.1.getD i1 ao).Dim).Terms)) (Shape.mk (((u2.2.1.getD i1 ao).Row).Row) (((u2.2.1.getD i1 ao).Row).Dims)) ((u2.2.1.getD i1 ao).Elem))])) (aB c22 (a8 (tg (c:=aq) iV s3 [(Bind.mk ((u2.2.1.getD i1 ao).Kind) ((u2.2.1.getD i1 ao).Var) (Linear.mk (((u2.2.1.getD i1 ao).Dim).Const) (((u2.2.1.getD i1 ao).Dim).Terms)) (Shape.mk (((u2.2.1.getD i1 ao).Row).Row) (((u2.2.1.getD i1 ao).Row).Dims)) ((u2.2.1.getD i1 ao).Elem))] 112 (by decide) (by first | (simp;done) | simpa using g3)) (aC (vQ 62 7 aq s3 [(Bind.mk ((u2.2.1.getD i1 ao).Kind) ((u2.2.1.getD i1 ao).Var) (Linear.mk (((u2.2.1.getD i1 ao).Dim).Const) (((u2.2.1.getD i1 ao).Dim).Terms)) (Shape.mk (((u2.2.1.getD i1 ao).Row).Row) (((u2.2.1.getD i1 ao).Row).Dims)) ((u2.2.1.getD i1 ao).Elem))]) aN)))
          ·refine bc H37 fun e6 => ?_;subst e6;exact pB 3 [.eqT 119 bF] [.only [4,5,6,7,8,14,106,107,108] [6,43,62,123,900]] (iO u2 y4 i1 s3) (aB c23 aN)
         ·refine wh 900 (n:=(u2.2.1.map aq).length) (by kernel_rfl) (fun l2 => ?_);have l3:u2.2.1.length≤9223372036854775807:=by simpa only [Mt] using l2
          clear l2;obtain rfl:=sI H35;exact pB 1 [V2] [.only [4,5,6,7,8,14,106,107,108] [6,43,62,123,900]] (jm u2 y4 (i1+1) v1) (aH i1 aN)
       ·subst e4;have H39:=bu H33;refine aL H39 fun y6 h24 H40 => ?_;obtain rfl:=sI H40;exact pR 5 [r0 [.v,.hR [(123,1000)] 126 (.tup []) [(1000,.row 62 7 (y6.map aq))]],.rg 8 (V 5 [.b,.v,.v]) [.m,.v]] [.fz 123,.wkH 6 0 []] [] (aC Tryz.call26 (aC (BA aq (fun x=>x.Var) _ _ _ _ _ _ (fun _=>rfl) (fun _=>rfl) u3 y6 h24) aN))
noncomputable def dv (x0:List Bind):Option (List Bind) :=
 F0 (α:=Bind) x0 (
  some []
 ) (
  bX (x0.length*112≤140737488355328) <|
  some x0
 )
theorem pk (x0 r:List Bind) (H:dv x0=some r):bg Tryz.prog 23 [dS aq x0] [] (fun r2 h0=>r2=(.rslice 0)∧h0=[(0,.row 62 7 (r.map aq))]):=by
 unfold dv at H;refine aX Tryz.func23 8 [.tmp 2] ?_;refine pD 4 [V1] [.only [0,2] []] 4 [] aN ?_;refine Dp H (fun H0 H1 => ?_);refine zQ [.v] (l:=(x0.map aq)) (k:=4) (q:=true) (S:=⟨8,[(0,dS aq x0),(2,.eslice),(3,dS aq x0)],[]⟩) aN (by kernel_rfl) (fun b0 h1 => ?_);cases b0 with
 | true =>
  have H2:=H0 (List.map_eq_nil_iff.1 (h1 rfl));obtain rfl:=sI H2;exact pR 4 [V1] [.er 2 997 62 7,.ren [(997,0)]] [0] aN
 | false =>
  refine aP H1 fun g0 H3 => ?_;refine bc H3 fun e0 => ?_;subst e0;exact pR 5 [r0 [.b,.v,.er 5 7 62 7,.ap,.rwH 7 (.row 62 7 (x0.map aq)),.v]] [.ren [(7,0)]] [0] (a8 (tg (c:=aq) iV [] x0 112 (by decide) (by first | (simp;done) | simpa using g0)) (aC (Fv 62 7 aq x0) aN))
noncomputable def fZ (x0:List (Linear×Linear)) (x1:List (ak×ak)) (x2:List (ak×Shape)):Option (List Bind) :=
 lg (σ:=(List Bind)) (ε:=Empty) (β:=(List Bind)) x2 (fun e0 s0 =>
  bX ((s0.length+1)*112≤140737488355328) <|
  some (.go (s0++[(Bind.mk 2 e0.1 (Linear.mk 0 []) e0.2 [])]))
 ) [] (fun s0 =>
  lg (σ:=(List Bind)) (ε:=Empty) (β:=(List Bind)) x1 (fun e1 s1 =>
   bX ((s1.length+1)*112≤140737488355328) <|
   some (.go (s1++[(Bind.mk 3 e1.1 (Linear.mk 0 []) (Shape.mk [] []) e1.2)]))
  ) s0 (fun s1 =>
   (kK (fun x=>x.Kind) (fun x=>x.Var) s1).bind fun y0 =>
   some y0
  )
 )
def gR (x0:List (Linear×Linear)) (x1:List (ak×ak)) (x2:List (ak×Shape)) (i0:List Nat) (s0:List Bind):AS:=⟨43,[(0,.hptr 1000 0),(2,.eslice),(3,.rslice 23),(12,.hptr 12 0)],[(12,.iter (x2.map (aQ (iY aV))) i0),(23,.row 62 7 (s0.map aq)),(1000,.cells 95 [.amap 1001,.dmap (x2.map (aQ (iY aV))),dS ay x0]),(1001,.smap 0 9 (x1.map (aQ aZ)))]⟩
def gK (x0:List (Linear×Linear)) (x1:List (ak×ak)) (x2:List (ak×Shape)) (i1:List Nat) (s1:List Bind):AS:=⟨43,[(2,.eslice),(3,.rslice 39),(28,.hptr 28 0)],[(28,.iter (x1.map (aQ aZ)) i1),(39,.row 62 7 (s1.map aq)),(1000,.cells 95 [.dmap (x1.map (aQ aZ)),.dmap (x2.map (aQ (iY aV))),dS ay x0])]⟩
theorem q8 (x0:List (Linear×Linear)) (x1:List (ak×ak)) (x2:List (ak×Shape)) (r:List Bind) (H:fZ x0 x1 x2=some r):bg Tryz.prog 24 [.hptr 1000 0] [(1000,.cells 95 [.amap 1001,.amap 1002,dS ay x0]),(1001,.smap 0 9 (x1.map (aQ aZ))),(1002,.smap 0 34 (x2.map (aQ (iY aV))))] (fun r2 h0=>r2=(dS aq r)∧h0=[]):=by
 unfold fZ at H;refine aX Tryz.func24 43 [.tmp 2] ?_;refine pA 8 [V1,V1,r0 (V 4 [.fm 1002,.m])] [.er 3 23 62 7,.only [0,2,3,12] [12,23,1000,1001]] 8 [] (gR x0 x1 x2 [] []) (aC (GG FZ x2) aN) ?_;refine mj (cc:=(iY aV)) 12 (gR x0 x1 x2) (by kernel_rfl) H [.v] (fun i0 s0=>⟨by kernel_rfl,by kernel_rfl⟩) (fun i0 s0=>⟨43,[(0,.hptr 1000 0),(2,.eslice),(3,.rslice 23),(12,.hptr 12 0),(13,.tup [.bool false]),(14,.bool false)],[(12,.iter (x2.map (aQ (iY aV))) i0),(23,.row 62 7 (s0.map aq)),(1000,.cells 95 [.amap 1001,.dmap (x2.map (aQ (iY aV))),dS ay x0]),(1001,.smap 0 9 (x1.map (aQ aZ)))]⟩) (fun i0 s0=>by kernel_rfl) (fun i0 s0 n0 e0=>⟨43,[(0,.hptr 1000 0),(2,.eslice),(3,.rslice 23),(12,.hptr 12 0),(13,.tup [.bool true,.str e0.1,.agg [.str e0.2.Row,dS ah e0.2.Dims]]),(14,.bool true)],[(12,.iter (x2.map (aQ (iY aV))) (i0++[n0])),(23,.row 62 7 (s0.map aq)),(1000,.cells 95 [.amap 1001,.dmap (x2.map (aQ (iY aV))),dS ay x0]),(1001,.smap 0 9 (x1.map (aQ aZ)))]⟩) (fun i0 s0 n0 e0=>by kernel_rfl) (fun i0 s0 H0 => ?_) (fun i0 s0 n0 e0 h1 q0 h2 h3 => ?_)
 ·refine pA 7 [.rg 0 [] (V 4 [.fm 1001,.m])] [.ren [(28,28),(23,39),(1000,1000)],.only [2,3,28] [28,39,1000]] 7 [false] (gK x0 x1 x2 [] s0) (aC (rV pY x1) aN) ?_;refine mj (cc:=aZ) 28 (gK x0 x1 x2) (by kernel_rfl) H0 [.v] (fun i1 s1=>⟨by kernel_rfl,by kernel_rfl⟩) (fun i1 s1=>⟨43,[(2,.eslice),(3,.rslice 39),(28,.hptr 28 0),(29,.tup [.bool false]),(30,.bool false)],[(28,.iter (x1.map (aQ aZ)) i1),(39,.row 62 7 (s1.map aq)),(1000,.cells 95 [.dmap (x1.map (aQ aZ)),.dmap (x2.map (aQ (iY aV))),dS ay x0])]⟩) (fun i1 s1=>by kernel_rfl) (fun i1 s1 n1 e1=>⟨43,[(2,.eslice),(3,.rslice 39),(28,.hptr 28 0),(29,.tup [.bool true,.str e1.1,.str e1.2]),(30,.bool true)],[(28,.iter (x1.map (aQ aZ)) (i1++[n1])),(39,.row 62 7 (s1.map aq)),(1000,.cells 95 [.dmap (x1.map (aQ aZ)),.dmap (x2.map (aQ (iY aV))),dS ay x0])]⟩) (fun i1 s1 n1 e1=>by kernel_rfl) (fun i1 s1 H1 => ?_) (fun i1 s1 n1 e1 h4 q1 h5 h6 => ?_)
  ·refine aL H1 fun y0 h7 H2 => ?_;refine bc H2 fun e2 => ?_;subst e2;exact pR 8 [r0 [.v,.hR [(39,1000)] 41 (.tup []) [(1000,.row 62 7 (y0.map aq))]],V2] [.fz 39] [] (aC Tryz.call26 (aC (tw aq (fun x=>x.Kind) (fun x=>x.Var) _ _ _ _ _ (fun _=>rfl) (fun _=>rfl) s1 y0 h7) aN))
  ·refine aP h5 fun g0 H3 => ?_;obtain rfl:=sI H3;exact pB 7 [r0 [.en n1 (.tup [.str e1.1,.str e1.2]),.v,.v,.v,.v],r0 [.v,.v,.v,.b,.b,.wk 38 [(0,3)],.wk 38 [(0,5)],.ap,.rwH 39 (.row 62 7 ((s1++[(Bind.mk 3 e1.1 (Linear.mk 0 []) (Shape.mk [] []) e1.2)]).map aq)),.v]] [.only [2,3,28] [28,39,1000]] (gK x0 x1 x2 (i1++[n1]) (s1++[(Bind.mk 3 e1.1 (Linear.mk 0 []) (Shape.mk [] []) e1.2)])) (aC (fK i1 n1) (aC (rz (cc:=aZ) h4) (a8 (tg (c:=aq) iV s1 [(Bind.mk 3 e1.1 (Linear.mk 0 []) (Shape.mk [] []) e1.2)] 112 (by decide) (by first | (simp;done) | simpa using g0)) (aC (vQ 62 7 aq s1 [(Bind.mk 3 e1.1 (Linear.mk 0 []) (Shape.mk [] []) e1.2)]) aN))))
 ·refine aP h2 fun g1 H4 => ?_;obtain rfl:=sI H4;exact pB 7 [r0 [.en n0 (.tup [.str e0.1,.agg [.str e0.2.Row,dS ah e0.2.Dims]]),.v,.v,.m,.v,.m],r0 [.v,.v,.v,.b,.b,.wk 22 [(0,3)],.ap,.rwH 23 (.row 62 7 ((s0++[(Bind.mk 2 e0.1 (Linear.mk 0 []) e0.2 [])]).map aq)),.v]] [.only [0,2,3,12] [12,23,1000,1001]] (gR x0 x1 x2 (i0++[n0]) (s0++[(Bind.mk 2 e0.1 (Linear.mk 0 []) e0.2 [])])) (aC (fK i0 n0) (aC (rz (cc:=(iY aV)) h1) (a8 (tg (c:=aq) iV s0 [(Bind.mk 2 e0.1 (Linear.mk 0 []) e0.2 [])] 112 (by decide) (by first | (simp;done) | simpa using g1)) (aC (vQ 62 7 aq s0 [(Bind.mk 2 e0.1 (Linear.mk 0 []) e0.2 [])]) aN))))
def lp (x0:Bind):Option Bool :=
 ((
  bif (x0.Dim.Const==0) then (
   some (((x0.Dim.Terms.length:Nat):Int)==0)
  ) else (
   some false
  )
 ):Option Bool).bind fun v0 =>
 ((
  bif (x0.Row.Row==[]) then (
   some (((x0.Row.Dims.length:Nat):Int)==0)
  ) else (
   some false
  )
 ):Option Bool).bind fun v1 =>
 bif (x0.Kind==1) then (
  (fg x0.Var).bind fun y0 =>
  bif y0 then (
   (bE x0.Dim).bind fun y1 =>
   bif y1 then (
    bif v1 then (
     some (x0.Elem==[])
    ) else (
     some false
    )
   ) else (
    some false
   )
  ) else (
   some false
  )
 ) else (
  bif (x0.Kind==2) then (
   (fg x0.Var).bind fun y2 =>
   bif y2 then (
    (dj x0.Row).bind fun y3 =>
    bif y3 then (
     bif v0 then (
      some (x0.Elem==[])
     ) else (
      some false
     )
    ) else (
     some false
    )
   ) else (
    some false
   )
  ) else (
   bif (x0.Kind==3) then (
    (cX x0.Var).bind fun y4 =>
    bif y4 then (
     bif (x0.Elem==[105,110,116]) then (
      bif v0 then (
       some v1
      ) else (
       some false
      )
     ) else (
      bif (x0.Elem==[98,111,111,108]) then (
       bif v0 then (
        some v1
       ) else (
        some false
       )
      ) else (
       (cX x0.Elem).bind fun y5 =>
       bif y5 then (
        bif v0 then (
         some v1
        ) else (
         some false
        )
       ) else (
        some false
       )
      )
     )
    ) else (
     some false
    )
   ) else (
    some false
   )
  )
 )
def nr (x0:Bind) (v0:Bool):AS:=⟨91,[(1,.hptr 1 0),(2,.bool false),(3,.bool v0)],[(1,.cells 62 [iI x0.Kind,.str x0.Var,iI x0.Dim.Const,dS aw x0.Dim.Terms,.str x0.Row.Row,dS ah x0.Row.Dims,.str x0.Elem])]⟩
def nT (x0:Bind) (v0 v1:Bool):AS:=⟨91,[(1,.hptr 1 0),(2,.bool false),(3,.bool v0),(4,.bool v1)],[(1,.cells 62 [iI x0.Kind,.str x0.Var,iI x0.Dim.Const,dS aw x0.Dim.Terms,.str x0.Row.Row,dS ah x0.Row.Dims,.str x0.Elem])]⟩
theorem sN (x0:Bind) (r:Bool) (H:lp x0=some r):br Tryz.prog 68 [.agg [iI x0.Kind,.str x0.Var,iI x0.Dim.Const,dS aw x0.Dim.Terms,.str x0.Row.Row,dS ah x0.Row.Dims,.str x0.Elem]] (.bool r):=by
 unfold lp at H;refine aX Tryz.func68 91 [.tmp 2] ?_;refine pD 3 [r0 [.m,.v]] [.only [1,2] [1]] 3 [] aN ?_;refine aL H fun v0 h0 H0 => ?_;refine cC 0 (nr x0 v0) (by kernel_rfl) ?_ ?_
 ·refine aU h0 (fun c0 H1 => ?_) (fun c1 H2 => ?_)
  ·obtain rfl:=sI H1;exact pB 1 [r0 [.v,.v,.v,.e bT,.v,.v,.v,.v,.e (nI x0.Dim.Terms.length),.v,.v,.v]] [.only [1,2,3] [1]] (nr x0 (((x0.Dim.Terms.length:Nat):Int)==0)) (aB c0 (aT (aC (bo aw x0.Dim.Terms) aN)))
  ·obtain rfl:=sI H2;exact pB 1 [r0 [.v,.v,.v,.e bF,.v,.s,.s,.s,.s,.s,.v,.v]] [.only [1,2,3] [1]] (nr x0 false) (aB c1 aN)
 ·refine pD 1 [] [.only [1,2,3] [1]] 1 [] aN ?_;refine aL H0 fun v1 h1 H3 => ?_;refine cC 0 (nT x0 v0 v1) (by kernel_rfl) ?_ ?_
  ·refine aU h1 (fun c2 H4 => ?_) (fun c3 H5 => ?_)
   ·obtain rfl:=sI H4;exact pB 1 [r0 [.v,.v,.v,.e bT,.v,.v,.v,.v,.e (nI x0.Row.Dims.length),.v,.v,.v]] [.only [1,2,3,4] [1]] (nT x0 v0 (((x0.Row.Dims.length:Nat):Int)==0)) (aB c2 (aT (aC (bo ah x0.Row.Dims) aN)))
   ·obtain rfl:=sI H5;exact pB 1 [r0 [.v,.v,.v,.e bF,.v,.s,.s,.s,.s,.s,.v,.v]] [.only [1,2,3,4] [1]] (nT x0 v0 false) (aB c3 aN)
  ·refine aU H3 (fun c4 H6 => ?_) (fun c5 H7 => ?_)
   ·refine aL H6 fun y0 h2 H8 => ?_;refine aU H8 (fun c6 H9 => ?_) (fun c7 H10 => ?_)
    ·refine aL H9 fun y1 h3 H11 => ?_;refine aU H11 (fun c8 H12 => ?_) (fun c9 H13 => ?_)
     ·refine aU H12 (fun c10 H14 => ?_) (fun c11 H15 => ?_)
      ·obtain rfl:=sI H14;exact pR 12 [V2,V2,.eqT 29 bT,.eqT 4 bT,r0 [.v,.v,.c true bT,.v,.v,.v,.c true bT,.v,.v,.v,.v,.v,.v,.v,.v,.v,.v]] [] [] (aB c4 (aB c10 (aC Tryz.call103 (aC (br.eq (bt _ _ h2) (cB c6)) (aC Tryz.call90 (aC (br.eq (aW _ _ h3) (cB c8)) aN))))))
      ·obtain rfl:=sI H15;exact pR 12 [V2,V2,.eqT 29 bT,.eqT 4 bF,r0 [.v,.v,.c true bT,.v,.v,.v,.c true bT,.v,.v,.v,.v,.v,.s,.s,.s,.v,.v]] [] [] (aB c4 (aB c11 (aC Tryz.call103 (aC (br.eq (bt _ _ h2) (cB c6)) (aC Tryz.call90 (aC (br.eq (aW _ _ h3) (cB c8)) aN))))))
     ·obtain rfl:=sI H13;exact pR 11 [V2,V2,.eqT 29 bT,r0 [.v,.v,.c true bT,.v,.v,.v,.c true bF,.v,.v,.s,.v,.v,.s,.s,.s,.v,.v]] [] [] (aB c4 (aC Tryz.call103 (aC (br.eq (bt _ _ h2) (cB c6)) (aC Tryz.call90 (aC (br.eq (aW _ _ h3) (cB c9)) aN)))))
    ·obtain rfl:=sI H10;exact pR 11 [V2,V2,.eqT 29 bT,r0 [.v,.v,.c true bF,.v,.s,.s,.s,.v,.v,.s,.v,.v,.s,.s,.s,.v,.v]] [] [] (aB c4 (aC Tryz.call103 (aC (br.eq (bt _ _ h2) (cB c7)) aN)))
   ·refine aU H7 (fun c12 H16 => ?_) (fun c13 H17 => ?_)
    ·refine aL H16 fun y2 h4 H18 => ?_;refine aU H18 (fun c14 H19 => ?_) (fun c15 H20 => ?_)
     ·refine aL H19 fun y3 h5 H21 => ?_;refine aU H21 (fun c16 H22 => ?_) (fun c17 H23 => ?_)
      ·refine aU H22 (fun c18 H24 => ?_) (fun c19 H25 => ?_)
       ·obtain rfl:=sI H24;exact pR 16 [V2,V2,.eqT 29 bF,V2,.eqT 47 bT,.eqT 3 bT,r0 [.v,.v,.c true bT,.v,.v,.v,.c true bT,.v,.v,.v,.v,.v,.v,.v,.v,.v,.v]] [] [] (aB c5 (aB c12 (aB c18 (aC Tryz.call103 (aC (br.eq (bt _ _ h4) (cB c14)) (aC Tryz.call53 (aC (br.eq (bY _ _ h5) (cB c16)) aN)))))))
       ·obtain rfl:=sI H25;exact pR 16 [V2,V2,.eqT 29 bF,V2,.eqT 47 bT,.eqT 3 bF,r0 [.v,.v,.c true bT,.v,.v,.v,.c true bT,.v,.v,.v,.v,.v,.s,.s,.s,.v,.v]] [] [] (aB c5 (aB c12 (aB c19 (aC Tryz.call103 (aC (br.eq (bt _ _ h4) (cB c14)) (aC Tryz.call53 (aC (br.eq (bY _ _ h5) (cB c16)) aN)))))))
      ·obtain rfl:=sI H23;exact pR 15 [V2,V2,.eqT 29 bF,V2,.eqT 47 bT,r0 [.v,.v,.c true bT,.v,.v,.v,.c true bF,.v,.v,.s,.v,.v,.s,.s,.s,.v,.v]] [] [] (aB c5 (aB c12 (aC Tryz.call103 (aC (br.eq (bt _ _ h4) (cB c14)) (aC Tryz.call53 (aC (br.eq (bY _ _ h5) (cB c17)) aN))))))
     ·obtain rfl:=sI H20;exact pR 15 [V2,V2,.eqT 29 bF,V2,.eqT 47 bT,r0 [.v,.v,.c true bF,.v,.s,.s,.s,.v,.v,.s,.v,.v,.s,.s,.s,.v,.v]] [] [] (aB c5 (aB c12 (aC Tryz.call103 (aC (br.eq (bt _ _ h4) (cB c15)) aN))))
    ·refine aU H17 (fun c20 H26 => ?_) (fun c21 H27 => ?_)
     ·refine aL H26 fun y4 h6 H28 => ?_;refine aU H28 (fun c22 H29 => ?_) (fun c23 H30 => ?_)
      ·refine aU H29 (fun c24 H31 => ?_) (fun c25 H32 => ?_)
       ·refine aU H31 (fun c26 H33 => ?_) (fun c27 H34 => ?_)
        ·refine bc H33 fun e0 => ?_;subst e0;exact pR 20 [V2,V2,.eqT 29 bF,V2,.eqT 47 bF,V2,.eqT 65 bT,.eqT 3 bT,r0 [.v,.v,.c true bT,.v,.v,.v,.e bT,.v,.s,.s,.s,.v,.v,.s,.s,.s,.v,.v,.v,.v,.v,.v,.v,.v,.v]] [] [] (aB c5 (aB c13 (aB c20 (aB c26 (aC Tryz.call79 (aC (br.eq (bl _ _ h6) (cB c22)) (aB c24 aN)))))))
        ·obtain rfl:=sI H34;exact pR 20 [V2,V2,.eqT 29 bF,V2,.eqT 47 bF,V2,.eqT 65 bT,.eqT 3 bF,r0 [.v,.v,.c true bT,.v,.v,.v,.e bT,.v,.s,.s,.s,.v,.v,.s,.s,.s,.v,.v,.v,.v,.v,.v,.s,.v,.v]] [] [] (aB c5 (aB c13 (aB c20 (aB c27 (aC Tryz.call79 (aC (br.eq (bl _ _ h6) (cB c22)) (aB c24 aN)))))))
       ·refine aU H32 (fun c28 H35 => ?_) (fun c29 H36 => ?_)
        ·refine aU H35 (fun c30 H37 => ?_) (fun c31 H38 => ?_)
         ·refine bc H37 fun e1 => ?_;subst e1;exact pR 20 [V2,V2,.eqT 29 bF,V2,.eqT 47 bF,V2,.eqT 65 bT,.eqT 3 bT,r0 [.v,.v,.c true bT,.v,.v,.v,.e bF,.v,.v,.v,.e bT,.v,.v,.s,.s,.s,.v,.v,.v,.v,.v,.v,.v,.v,.v]] [] [] (aB c5 (aB c13 (aB c20 (aB c30 (aC Tryz.call79 (aC (br.eq (bl _ _ h6) (cB c22)) (aB c25 (aB c28 aN))))))))
         ·obtain rfl:=sI H38;exact pR 20 [V2,V2,.eqT 29 bF,V2,.eqT 47 bF,V2,.eqT 65 bT,.eqT 3 bF,r0 [.v,.v,.c true bT,.v,.v,.v,.e bF,.v,.v,.v,.e bT,.v,.v,.s,.s,.s,.v,.v,.v,.v,.v,.v,.s,.v,.v]] [] [] (aB c5 (aB c13 (aB c20 (aB c31 (aC Tryz.call79 (aC (br.eq (bl _ _ h6) (cB c22)) (aB c25 (aB c28 aN))))))))
        ·refine aL H36 fun y5 h7 H39 => ?_;refine aU H39 (fun c32 H40 => ?_) (fun c33 H41 => ?_)
         ·refine aU H40 (fun c34 H42 => ?_) (fun c35 H43 => ?_)
          ·refine bc H42 fun e2 => ?_;subst e2;exact pR 20 [V2,V2,.eqT 29 bF,V2,.eqT 47 bF,V2,.eqT 65 bT,.eqT 3 bT,r0 [.v,.v,.c true bT,.v,.v,.v,.e bF,.v,.v,.v,.e bF,.v,.v,.v,.v,.c true bT,.v,.v,.v,.v,.v,.v,.v,.v,.v]] [] [] (aB c5 (aB c13 (aB c20 (aB c34 (aC Tryz.call79 (aC (br.eq (bl _ _ h6) (cB c22)) (aB c25 (aB c29 (aC Tryz.call79 (aC (br.eq (bl _ _ h7) (cB c32)) aN))))))))))
          ·obtain rfl:=sI H43;exact pR 20 [V2,V2,.eqT 29 bF,V2,.eqT 47 bF,V2,.eqT 65 bT,.eqT 3 bF,r0 [.v,.v,.c true bT,.v,.v,.v,.e bF,.v,.v,.v,.e bF,.v,.v,.v,.v,.c true bT,.v,.v,.v,.v,.v,.v,.s,.v,.v]] [] [] (aB c5 (aB c13 (aB c20 (aB c35 (aC Tryz.call79 (aC (br.eq (bl _ _ h6) (cB c22)) (aB c25 (aB c29 (aC Tryz.call79 (aC (br.eq (bl _ _ h7) (cB c32)) aN))))))))))
         ·obtain rfl:=sI H41;exact pR 19 [V2,V2,.eqT 29 bF,V2,.eqT 47 bF,V2,.eqT 65 bT,r0 [.v,.v,.c true bT,.v,.v,.v,.e bF,.v,.v,.v,.e bF,.v,.v,.v,.v,.c true bF,.v,.v,.v,.s,.v,.v,.s,.v,.v]] [] [] (aB c5 (aB c13 (aB c20 (aC Tryz.call79 (aC (br.eq (bl _ _ h6) (cB c22)) (aB c25 (aB c29 (aC Tryz.call79 (aC (br.eq (bl _ _ h7) (cB c33)) aN)))))))))
      ·obtain rfl:=sI H30;exact pR 19 [V2,V2,.eqT 29 bF,V2,.eqT 47 bF,V2,.eqT 65 bT,r0 [.v,.v,.c true bF,.v,.s,.s,.s,.s,.s,.s,.s,.s,.s,.s,.s,.s,.s,.v,.v,.s,.v,.v,.s,.v,.v]] [] [] (aB c5 (aB c13 (aB c20 (aC Tryz.call79 (aC (br.eq (bl _ _ h6) (cB c23)) aN)))))
     ·obtain rfl:=sI H27;exact pR 20 [V2,V2,.eqT 29 bF,V2,.eqT 47 bF,V2,.eqT 65 bF,V1] [] [] (aB c5 (aB c13 (aB c21 aN)))
def dZ (x0:List Bind):Option Bool :=
 (fA (σ:=Unit) (ε:=Unit) (ρ:=Bool) (fun i0 s0 =>
  (lp (Bind.mk ((x0.getD i0 ao).Kind) ((x0.getD i0 ao).Var) (Linear.mk (((x0.getD i0 ao).Dim).Const) (((x0.getD i0 ao).Dim).Terms)) (Shape.mk (((x0.getD i0 ao).Row).Row) (((x0.getD i0 ao).Row).Dims)) ((x0.getD i0 ao).Elem))).bind fun y0 =>
  bif y0 then (
   (jf (x0.take i0) ((x0.getD i0 ao).Kind) ((x0.getD i0 ao).Var)).bind fun y1 =>
   bif decide (y1≥0) then (
    some (.ret false)
   ) else (
    some (.go ())
   )
  ) else (
   some (.ret false)
  )
 ) (fun i0 s0=>()) (x0.length-0) 0 ()).bind <| aft fun u0 =>
 some true
def iL (x0:List Bind) (i0:Nat) (s0:Unit):AS:=⟨27,[(0,dS aq x0),(2,.bool false),(5,dS aq x0),(6,nI x0.length),(7,nI i0)],[]⟩
def ma (u1:Unit):AS:=⟨27,[(2,.bool false)],[]⟩
theorem gm (x0:List Bind) (r:Bool) (H:dZ x0=some r):br Tryz.prog 33 [dS aq x0] (.bool r):=by
 unfold dZ at H;refine aX Tryz.func33 27 [.tmp 2] ?_;refine pA 6 [V1,r0 [.v,.e (nI x0.length),.v]] [.only [0,2,5,6,7] []] 6 [] (iL x0 0 ()) (aT (aC (bo aq x0) aN)) ?_;refine aL H fun R0 h0 H0 => ?_;refine pJ 1 (ma) R0 ?_ (fun u0 e0 => ?_)
 ·refine pC (iL x0) h0 (fun i0 s0 h1 e1 => ?_) (fun i0 s0 h2 q0 h3 h4 => ?_)
  ·have c0:=lF i0 x0.length (by omega);subst e1;exact pB 5 [r0 [.e bF]] [.only [2] []] (ma ()) (aB c0 aN)
  ·have c1:=lT i0 x0.length (by omega);refine aL h3 fun y0 h5 H1 => ?_;refine pD 10 [r0 [.e bT],r0 [.v,.e (.dptr (aq (x0.getD i0 ao))),.v,.m,.v,.m]] [.only [0,2,3,4,5,6,7] [4]] 10 [true] (aB c1 (aI cF x0 i0 ao aN)) ?_;refine aU H1 (fun c2 H2 => ?_) (fun c3 H3 => ?_)
   ·refine aL H2 fun y1 h6 H4 => ?_;refine pD 1 [.rg 11 [.v,.c true bT,.v,.v,.v,.v,.e (.dslice ((x0.take i0).map aq)),.v,.v,.v,.v] [.c true (iI y1),.v,.v]] [.only [0,2,5,6,7,25] []] 1 [] (aC Tryz.call68 (aC (br.eq (sN _ _ h5) (cB c2)) (aT (aC (show ((0:Int)≤0∧0≤((i0:Nat):Int)∧((i0:Nat):Int)≤((x0.map aq).length:Int))∧UL 7 (x0.map aq) from ⟨by first | omega | (simp only [Mt];omega),UL.map cF _⟩) (aC (wQ aq x0 i0) (aC Tryz.call54 (aF (pG _ _ _ _ h6) aN))))))) ?_;refine aU H4 (fun c4 H5 => ?_) (fun c5 H6 => ?_)
    ·obtain rfl:=sI H5;obtain rfl:=ba h4;obtain rfl:=sI (aR H0);exact pR 5 [.eqT 25 bT,V1] [] [] (aB c4 aN)
    ·have c5p:=Mo c5;refine bK 0 (ps:=[(x0.map aq).length≤9223372036854775807]) (by kernel_rfl) (fun l0 => ?_);have l1:x0.length≤9223372036854775807:=by simpa only [cq,Mt] using l0
     clear l0;obtain rfl:=sI H6;exact pB 4 [.eqT 25 bF,V2] [.only [0,2,5,6,7] []] (iL x0 (i0+1) ()) (aB c5 (aH i0 aN))
   ·obtain rfl:=sI H3;obtain rfl:=ba h4;obtain rfl:=sI (aR H0);exact pR 5 [.rg 11 [.v,.c true bF,.v,.v,.s,.s,.s,.s,.s,.s,.s] [.s,.s,.v],V1] [] [] (aC Tryz.call68 (aC (br.eq (sN _ _ h5) (cB c3)) (aT aN)))
 ·subst e0;have H7:=bB H0;obtain rfl:=sI H7;exact pR 3 [V1] [] [] aN
noncomputable def dt (x0:List au):Option (List au) :=
 F0 (α:=au) x0 (
  some []
 ) (
  bX (x0.length*24≤140737488355328) <|
  some x0
 )
theorem pe (x0 r:List au) (H:dt x0=some r):br Tryz.prog 107 [dS aw x0] (dS aw r):=by
 unfold dt at H;refine aX Tryz.func107 8 [.tmp 2] ?_;refine pD 4 [V1] [.only [0,2] []] 4 [] aN ?_;refine Dp H (fun H0 H1 => ?_);refine zQ [.v] (l:=(x0.map aw)) (k:=4) (q:=true) (S:=⟨8,[(0,dS aw x0),(2,.eslice),(3,dS aw x0)],[]⟩) aN (by kernel_rfl) (fun b0 h0 => ?_);cases b0 with
 | true =>
  have H2:=H0 (List.map_eq_nil_iff.1 (h0 rfl));obtain rfl:=sI H2;exact pR 4 [V1] [.wk 2 []] [] aN
 | false =>
  refine aP H1 fun g0 H3 => ?_;refine bc H3 fun e0 => ?_;subst e0;exact pR 5 [r0 [.b,.v,.er 5 7 31 2,.ap,.rwH 7 (.row 31 2 (x0.map aw)),.v]] [.fz 7] [] (a8 (tg (c:=aw) mV [] x0 24 (by decide) (by first | (simp;done) | simpa using g0)) (aC (Fv 31 2 aw x0) aN))
noncomputable def fe (x0:List Linear):Option (List Linear) :=
 (fA (σ:=(List Linear)) (ε:=(List Linear)) (ρ:=Empty) (fun i0 s0 =>
  (dt ((x0.getD i0 aD).Terms)).bind fun y0 =>
  bX ((s0.length+1)*32≤140737488355328) <|
  some (.go (s0++[(Linear.mk ((x0.getD i0 aD).Const) y0)]))
 ) (fun i0 s0=>s0) (x0.length-0) 0 []).bind <| dL fun u0 =>
 some u0
def lP (x0:List Linear) (i0:Nat) (s0:List Linear):AS:=⟨23,[(2,.eslice),(3,.rslice 20),(6,dS ah x0),(7,nI x0.length),(8,nI i0)],[(20,.row 29 2 (s0.map ah))]⟩
def qh (u1:List Linear):AS:=⟨23,[(2,.eslice),(3,.rslice 20)],[(20,.row 29 2 (u1.map ah))]⟩
theorem qI (x0 r:List Linear) (H:fe x0=some r):bg Tryz.prog 55 [dS ah x0] [] (fun r2 h0=>r2=(.rslice 0)∧h0=[(0,.row 29 2 (r.map ah))]):=by
 unfold fe at H;refine aX Tryz.func55 23 [.tmp 2] ?_;refine pA 8 [V1,V1,r0 [.v,.e (nI x0.length),.v]] [.er 3 20 29 2,.only [2,3,6,7,8] [20]] 8 [] (lP x0 0 []) (aT (aC (bo ah x0) aN)) ?_;refine aL H fun R0 h1 H0 => ?_;refine pJ 1 (qh) R0 ?_ (fun u0 e0 => ?_)
 ·refine pC (lP x0) h1 (fun i0 s0 h2 e1 => ?_) (fun i0 s0 h3 q0 h4 h5 => ?_)
  ·have c0:=lF i0 x0.length (by omega);subst e1;exact pB 5 [r0 [.e bF]] [.only [2,3] [20]] (qh s0) (aB c0 aN)
  ·have c1:=lT i0 x0.length (by omega);refine aL h4 fun y0 h6 H1 => ?_;refine aP H1 fun g0 H2 => ?_;refine bK 6 (ps:=[(x0.map ah).length≤9223372036854775807]) (by kernel_rfl) (fun l0 => ?_);have l1:x0.length≤9223372036854775807:=by simpa only [cq,Mt] using l0
   clear l0;obtain rfl:=sI H2;exact pB 11 [r0 [.e bT],r0 [.e (.dptr (ah (x0.getD i0 aD))),.v,.m,.m],.rg 8 (V 5 [.c true (dS aw y0),.b,.b]) [.ap,.rwH 20 (.row 29 2 ((s0++[(Linear.mk ((x0.getD i0 aD).Const) y0)]).map ah)),.v],V2] [.only [2,3,6,7,8] [20]] (lP x0 (i0+1) (s0++[(Linear.mk ((x0.getD i0 aD).Const) y0)])) (aB c1 (aI cP x0 i0 aD (aC Tryz.call107 (aF (pe _ _ h6) (a8 (tg (c:=ah) kz s0 [(Linear.mk ((x0.getD i0 aD).Const) y0)] 32 (by decide) (by first | (simp;done) | simpa using g0)) (aC (vQ 29 2 ah s0 [(Linear.mk ((x0.getD i0 aD).Const) y0)]) (aH i0 aN)))))))
 ·subst e0;have H3:=bu H0;refine bc H3 fun e2 => ?_;subst e2;exact pR 3 [V2] [.ren [(20,0)]] [0] aN
noncomputable def kM (x0:ak) (x1:List Linear):Option (Shape×Int) :=
 bif decide (((x1.length:Nat):Int)>6) then (
  some ((Shape.mk [] []),3)
 ) else (
  (fe x1).bind fun y0 =>
  some ((Shape.mk x0 y0),0)
 )
theorem zM (x0:ak) (x1:List Linear) (r:Shape×Int) (H:kM x0 x1=some r):br Tryz.prog 57 [.str x0,dS ah x1] (.tup [.agg [.str r.1.Row,dS ah r.1.Dims],iI r.2]):=by
 unfold kM at H;refine aX Tryz.func57 14 [.cell 4 34,.tmp 5] ?_;refine aU H (fun c0 H0 => ?_) (fun c1 H1 => ?_)
 ·obtain rfl:=sI H0;exact pR 10 [r0 [.m,.v],r0 [.v,.e (nI x1.length),.v],.eqT 8 bT,r0 [.b,.m,.v]] [.wkH 4 1 []] [] (aT (aC (bo ah x1) (aB c0 aN)))
 ·refine aL H1 fun y0 h0 H2 => ?_;obtain rfl:=sI H2;exact pR 11 [r0 [.m,.v],r0 [.v,.e (nI x1.length),.v],.eqT 8 bF,r0 [.v,.v,.hR [] 12 (.rslice 0) [(0,.row 29 2 (y0.map ah))],.b,.m,.v]] [.fz 12] [] (aT (aC (bo ah x1) (aB c1 (aC Tryz.call55 (aC (qI _ _ h0) aN)))))
noncomputable def jq (x0:Shape) (x1:List Bind):Option (Shape×Int) :=
 (dj x0).bind fun y0 =>
 bif y0 then (
  (dZ x1).bind fun y1 =>
  bif y1 then (
   (jf x1 2 x0.Row).bind fun y2 =>
   ((
    bif (x0.Row==[]) then (
     some false
    ) else (
     some (decide (y2≥0))
    )
   ):Option Bool).bind fun v0 =>
   ((
    bif v0 then (
     bX (0≤y2∧y2<(x1.length:Int)) <|
     (fe (((x1.getD y2.toNat ao).Row).Dims)).bind fun y3 =>
     some ((((x1.getD y2.toNat ao).Row).Row),y3)
    ) else (
     some (x0.Row,[])
    )
   ):Option (ak×(List Linear))).bind fun v1 =>
   (fA (σ:=(List Linear)) (ε:=(List Linear)) (ρ:=(Shape×Int)) (fun i0 s0 =>
    (gr (Linear.mk ((x0.Dims.getD i0 aD).Const) ((x0.Dims.getD i0 aD).Terms)) x1).bind fun y4 =>
    bif (y4.2==0) then (
     bX ((s0.length+1)*32≤140737488355328) <|
     some (.go (s0++[y4.1]))
    ) else (
     some (.ret ((Shape.mk [] []),y4.2))
    )
   ) (fun i0 s0=>s0) (x0.Dims.length-0) 0 v1.2).bind <| aft fun u0 =>
   (kM v1.1 u0).bind fun y5 =>
   some (y5.1,y5.2)
  ) else (
   some ((Shape.mk [] []),1)
  )
 ) else (
  some ((Shape.mk [] []),1)
 )
def nC (x0:Shape) (x1:List Bind) (y2:Int) (v0:Bool):AS:=⟨75,[(1,dS aq x1),(2,.hptr 2 0),(4,.hptr 4 0),(5,iI 0),(6,.str x0.Row),(7,.eslice),(8,iI y2),(34,.bool v0)],[(2,.cells 34 [.str x0.Row,dS ah x0.Dims]),(4,.cells 34 [.str [],.eslice])]⟩
def mE (x0:Shape) (x1:List Bind) (v1:ak×(List Linear)):AS:=⟨75,[(1,dS aq x1),(2,.hptr 2 0),(4,.hptr 4 0),(5,iI 0),(6,.str v1.1),(7,.rslice 47)],[(2,.cells 34 [.str x0.Row,dS ah x0.Dims]),(4,.cells 34 [.str [],.eslice]),(47,.row 29 2 (v1.2.map ah))]⟩
def mQ (x0:Shape) (x1:List Bind) (v1:ak×(List Linear)) (i0:Nat) (s0:List Linear):AS:=⟨75,[(1,dS aq x1),(4,.hptr 4 0),(5,iI 0),(6,.str v1.1),(7,.rslice 68),(49,dS ah x0.Dims),(50,nI x0.Dims.length),(51,nI i0)],[(4,.cells 34 [.str [],.eslice]),(68,.row 29 2 (s0.map ah))]⟩
def qX (v1:ak×(List Linear)) (u1:List Linear):AS:=⟨75,[(4,.hptr 4 0),(5,iI 0),(6,.str v1.1),(7,.rslice 68)],[(4,.cells 34 [.str [],.eslice]),(68,.row 29 2 (u1.map ah))]⟩
theorem oX (x0:Shape) (x1:List Bind) (r:Shape×Int) (H:jq x0 x1=some r):br Tryz.prog 25 [.agg [.str x0.Row,dS ah x0.Dims],dS aq x1] (.tup [.agg [.str r.1.Row,dS ah r.1.Dims],iI r.2]):=by
 unfold jq at H;refine aX Tryz.func25 75 [.cell 4 34,.tmp 5] ?_;refine aL H fun y0 h0 H0 => ?_;refine aU H0 (fun c0 H1 => ?_) (fun c1 H2 => ?_)
 ·refine aL H1 fun y1 h1 H3 => ?_;refine aU H3 (fun c2 H4 => ?_) (fun c3 H5 => ?_)
  ·refine aL H4 fun y2 h2 H6 => ?_;refine pD 16 [r0 [.m,.m,.v],r0 [.v,.c true bT,.v,.v,.v,.c true (.bool y1),.v,.v],.eqT 20 bF,V3,V1,r0 [.v,.v,.v,.c true (iI y2),.v]] [.only [1,2,4,5,6,7,8] [2,4]] 15 [false] (aC Tryz.call53 (aC (br.eq (bY _ _ h0) (cB c0)) (aT (aC Tryz.call33 (aF (gm _ _ h1) (aT (aM c2 (aC Tryz.call54 (aF (pG _ _ _ _ h2) aN))))))))) ?_;refine aL H6 fun v0 h3 H7 => ?_;refine cC 0 (nC x0 x1 y2 v0) (by kernel_rfl) ?_ ?_
   ·refine aU h3 (fun c4 H8 => ?_) (fun c5 H9 => ?_)
    ·obtain rfl:=sI H8;exact pB 1 [r0 [.v,.v,.e bF,.v,.s,.s,.v]] [.only [1,2,4,5,6,7,8,34] [2,4]] (nC x0 x1 y2 false) (aM c4 aN)
    ·obtain rfl:=sI H9;exact pB 1 [r0 [.v,.v,.e bT,.v,.v,.v,.v]] [.only [1,2,4,5,6,7,8,34] [2,4]] (nC x0 x1 y2 (decide (y2≥0))) (aM c5 aN)
   ·refine aL H7 fun v1 h4 H10 => ?_;refine cC 0 (mE x0 x1 v1) (by kernel_rfl) ?_ ?_
    ·refine aU h4 (fun c6 H11 => ?_) (fun c7 H12 => ?_)
     ·refine aP H11 fun g0 H13 => ?_;refine aL H13 fun y3 h5 H14 => ?_;obtain rfl:=sI H14;exact pB 3 [.eqT 34 bT,.rg 13 [.v,.v,.e (.dptr (aq (x1.getD y2.toNat ao))),.v,.v,.v,.v,.v,.e (.dptr (aq (x1.getD y2.toNat ao))),.v,.v,.v,.hN (.rslice 0) [(0,.row 29 2 (y3.map ah))]] [.v,.v]] [.only [1,2,4,5,6,7] [2,4,47]] (mE x0 x1 ((((x1.getD y2.toNat ao).Row).Row),y3)) (aB c6 (a8 (Jd (f:=aq) (l:=x1) (n:=y2) ao cF (by decide) (by exact g0)) (a8 (Jd (f:=aq) (l:=x1) (n:=y2) ao cF (by decide) (by exact g0)) (aC Tryz.call55 (aC (qI _ _ h5) aN)))))
     ·obtain rfl:=sI H12;exact pB 3 [.eqT 34 bF] [.er 7 47 29 2,.only [1,2,4,5,6,7] [2,4,47]] (mE x0 x1 (x0.Row,[])) (aB c7 aN)
    ·refine pA 4 [.rg 0 [] [.v,.v,.e (.int .i64 ((x0.Dims.length:Nat):Int)),.v]] [.ren [(4,4),(47,68)],.only [1,4,5,6,7,49,50,51] [4,68]] 4 [] (mQ x0 x1 v1 0 v1.2) (aT (aC (bo ah x0.Dims) aN)) ?_;refine aL H10 fun R0 h6 H15 => ?_;refine pJ 1 (qX v1) R0 ?_ (fun u0 e0 => ?_)
     ·refine pC (mQ x0 x1 v1) h6 (fun i0 s0 h7 e1 => ?_) (fun i0 s0 h8 q0 h9 h10 => ?_)
      ·have c8:=lF i0 x0.Dims.length (by omega);subst e1;exact pB 5 [r0 [.e bF]] [.only [4,5,6,7] [4,68]] (qX v1 s0) (aB c8 aN)
      ·have c9:=lT i0 x0.Dims.length (by omega);refine aL h9 fun y4 h11 H16 => ?_;refine pD 14 [r0 [.e bT],r0 [.e (.dptr (ah (x0.Dims.getD i0 aD))),.v,.m,.m],r0 [.v,.v,.c true (.tup [.agg [iI y4.1.Const,dS aw y4.1.Terms],iI y4.2]),.v,.v,.v,.m,.m,.v],V2] [.only [1,4,5,6,7,11,12,49,50,51,62] [4,11,68]] 14 [true] (aB c9 (aI cP x0.Dims i0 aD (aC Tryz.call56 (aF (nw _ _ _ h11) aN)))) ?_;refine aU H16 (fun c10 H17 => ?_) (fun c11 H18 => ?_)
       ·refine aP H17 fun g1 H19 => ?_;refine bK 49 (ps:=[(x0.Dims.map ah).length≤9223372036854775807]) (by kernel_rfl) (fun l0 => ?_);have l1:x0.Dims.length≤9223372036854775807:=by simpa only [cq,Mt] using l0
        clear l0;obtain rfl:=sI H19;exact pB 5 [.eqT 62 bF,r0 [.v,.v,.b,.ap,.rwH 68 (.row 29 2 ((s0++[y4.1]).map ah)),.v],V2] [.only [1,4,5,6,7,49,50,51] [4,68]] (mQ x0 x1 v1 (i0+1) (s0++[y4.1])) (aM c10 (a8 (tg (c:=ah) kz s0 [y4.1] 32 (by decide) (by first | (simp;done) | simpa using g1)) (aC (vQ 29 2 ah s0 [y4.1]) (aH i0 aN))))
       ·obtain rfl:=sI H18;obtain rfl:=ba h10;obtain rfl:=sI (aR H15);exact pR 5 [.eqT 62 bT,r0 [.b,.v,.m,.v]] [.wkH 4 1 []] [] (aM c11 aN)
     ·subst e0;have H20:=bB H15;refine aL H20 fun y5 h12 H21 => ?_;obtain rfl:=sI H21;exact pR 3 [r0 [.v,.v,.fz 68,.c true (.tup [.agg [.str y5.1.Row,dS ah y5.1.Dims],iI y5.2]),.v,.v,.m,.v]] [] [] (aC Tryz.call57 (aF (zM _ _ _ h12) aN))
  ·obtain rfl:=sI H5;exact pR 10 [r0 [.m,.m,.v],r0 [.v,.c true bT,.v,.v,.v,.c true (.bool y1),.v,.v],.eqT 20 bT,r0 [.b,.m,.v]] [.wkH 4 1 []] [] (aC Tryz.call53 (aC (br.eq (bY _ _ h0) (cB c0)) (aT (aC Tryz.call33 (aF (gm _ _ h1) (aT (aM c3 aN)))))))
 ·obtain rfl:=sI H2;exact pR 9 [r0 [.m,.m,.v],r0 [.v,.c true bF,.v,.v,.s,.s,.s,.v],r0 [.b,.m,.v]] [.wkH 4 1 []] [] (aC Tryz.call53 (aC (br.eq (bY _ _ h0) (cB c1)) (aT aN)))
def me (x0:Bind) (x1:Int) (x2:ak):Option Bool :=
 bif (x0.Kind==x1) then (
  some (x0.Var==x2)
 ) else (
  some false
 )
theorem xa (x0:Bind) (x1:Int) (x2:ak) (r:Bool) (H:me x0 x1 x2=some r):br Tryz.prog 122 [.agg [iI x0.Kind,.str x0.Var,iI x0.Dim.Const,dS aw x0.Dim.Terms,.str x0.Row.Row,dS ah x0.Row.Dims,.str x0.Elem],.dptr [iI x1],.dptr [.str x2]] (.bool r):=by
 unfold me at H;refine aX Tryz.func122 15 [.tmp 4] ?_;refine aU H (fun c0 H0 => ?_) (fun c1 H1 => ?_)
 ·obtain rfl:=sI H0;exact pR 5 [r0 [.m,.v],r0 [.v,.v,.v,.e bT,.v,.v,.v,.v,.v,.v,.v]] [] [] (aB c0 aN)
 ·obtain rfl:=sI H1;exact pR 5 [r0 [.m,.v],r0 [.v,.v,.v,.e bF,.v,.s,.s,.s,.s,.v,.v]] [] [] (aB c1 aN)
def cU (x0:List Bind) (x1:Int) (x2:ak):Option Int :=
 (fA (σ:=Unit) (ε:=Unit) (ρ:=Int) (fun i0 s0 =>
  (me (Bind.mk ((x0.getD i0 ao).Kind) ((x0.getD i0 ao).Var) (Linear.mk (((x0.getD i0 ao).Dim).Const) (((x0.getD i0 ao).Dim).Terms)) (Shape.mk (((x0.getD i0 ao).Row).Row) (((x0.getD i0 ao).Row).Dims)) ((x0.getD i0 ao).Elem)) x1 x2).bind fun y0 =>
  bif y0 then (
   some (.ret ((i0:Nat):Int))
  ) else (
   some (.go ())
  )
 ) (fun i0 s0=>()) (x0.length-0) 0 ()).bind <| aft fun u0 =>
 some (-1)
def dB (x0:List Bind) (x1:Int) (x2:ak) (i0:Nat) (s0:Unit):AS:=⟨19,[(0,dS aq x0),(1,.fn 122 [.hptr 1000 0,.hptr 1001 0]),(4,iI 0),(7,nI x0.length),(8,nI i0)],[(1000,.cells 3 [iI x1]),(1001,.cells 9 [.str x2])]⟩
def fT (x1:Int) (x2:ak) (u1:Unit):AS:=⟨19,[(4,iI 0)],[(1000,.cells 3 [iI x1]),(1001,.cells 9 [.str x2])]⟩
theorem lz (x0:List Bind) (x1:Int) (x2:ak) (r:Int) (H:cU x0 x1 x2=some r):bg Tryz.prog 105 [dS aq x0,.fn 122 [.hptr 1000 0,.hptr 1001 0]] [(1000,.cells 3 [iI x1]),(1001,.cells 9 [.str x2])] (fun r2 h0=>r2=(iI r)∧h0=[(1000,.cells 3 [iI x1]),(1001,.cells 9 [.str x2])]):=by
 unfold cU at H;refine aX Tryz.func105 19 [.tmp 4] ?_;refine pA 6 [V1,r0 [.v,.e (nI x0.length),.v]] [.only [0,1,4,7,8] [1000,1001]] 6 [] (dB x0 x1 x2 0 ()) (aT (aC (bo aq x0) aN)) ?_;refine aL H fun R0 h1 H0 => ?_;refine pJ 1 (fT x1 x2) R0 ?_ (fun u0 e0 => ?_)
 ·refine pC (dB x0 x1 x2) h1 (fun i0 s0 h2 e1 => ?_) (fun i0 s0 h3 q0 h4 h5 => ?_)
  ·have c0:=lF i0 x0.length (by omega);subst e1;exact pB 5 [r0 [.e bF]] [.only [4] [1000,1001]] (fT x1 x2 ()) (aB c0 aN)
  ·have c1:=lT i0 x0.length (by omega);refine aL h4 fun y0 h6 H1 => ?_;refine pD 11 [r0 [.e bT],V2,r0 [.v,.v,.v,.e (.dptr (aq (x0.getD i0 ao))),.v,.c false (.bool y0)]] [.only [0,1,4,5,7,8,16] [1000,1001]] 11 [true] (aB c1 (aI cF x0 i0 ao (aC Tryz.call122 (aF (xa _ _ _ _ h6) aN)))) ?_;refine aU H1 (fun c2 H2 => ?_) (fun c3 H3 => ?_)
   ·obtain rfl:=sI H2;obtain rfl:=ba h5;obtain rfl:=sI (aR H0);exact pR 5 [.eqT 16 bT,V2] [] [1000,1001] (aB c2 aN)
   ·refine bK 0 (ps:=[(x0.map aq).length≤9223372036854775807]) (by kernel_rfl) (fun l0 => ?_);have l1:x0.length≤9223372036854775807:=by simpa only [cq,Mt] using l0
    clear l0;obtain rfl:=sI H3;exact pB 4 [.eqT 16 bF,V2] [.only [0,1,4,7,8] [1000,1001]] (dB x0 x1 x2 (i0+1) ()) (aB c3 (aH i0 aN))
 ·subst e0;have H4:=bB H0;obtain rfl:=sI H4;exact pR 3 [V1] [] [1000,1001] aN
def mM (x0:List Bind) (x1:Int) (x2:ak):Option Int :=
 (cU x0 x1 x2).bind fun y0 =>
 some y0
theorem zH (x0:List Bind) (x1:Int) (x2:ak) (r:Int) (H:mM x0 x1 x2=some r):br Tryz.prog 63 [dS aq x0,iI x1,.str x2] (iI r):=by unfold mM at H;refine aX Tryz.func63 10 [.tmp 6] ?_;refine aL H fun y0 h0 H0 => ?_;refine bc H0 fun e0 => ?_;subst e0;exact pR 5 [r0 [.m,.m,.v],r0 [.v,.v,.hR [(4,1000),(5,1001)] 9 (iI y0) [(1000,.cells 3 [iI x1]),(1001,.cells 9 [.str x2])],.v]] [] [] (aC Tryz.call105 (aC (lz _ _ _ _ h0) aN))
noncomputable def dX (x0:eh) (x1:List Bind):Option (eh×Int) :=
 (cQ x0).bind fun y0 =>
 bif y0 then (
  (dZ x1).bind fun y1 =>
  bif y1 then (
   (jq x0.Shape x1).bind fun y2 =>
   bif (y2.2==0) then (
    (mM x1 3 x0.Elem).bind fun y3 =>
    ((
     bif decide (y3≥0) then (
      bX (0≤y3∧y3<(x1.length:Int)) <|
      some ((x1.getD y3.toNat ao).Elem)
     ) else (
      some x0.Elem
     )
    ):Option ak).bind fun v0 =>
    some ((eh.mk v0 y2.1),0)
   ) else (
    some ((eh.mk [] (Shape.mk [] [])),y2.2)
   )
  ) else (
   some ((eh.mk [] (Shape.mk [] [])),1)
  )
 ) else (
  some ((eh.mk [] (Shape.mk [] [])),1)
 )
def mL (x0:eh) (y2:Shape×Int) (v0:ak):AS:=⟨45,[(2,.hptr 2 0),(4,.hptr 4 0),(5,iI 0),(6,.hptr 6 0)],[(2,.cells 36 [.str v0,.str x0.Shape.Row,dS ah x0.Shape.Dims]),(4,.cells 36 [.str [],.str [],.eslice]),(6,.cells 34 [.str y2.1.Row,dS ah y2.1.Dims])]⟩
theorem sB (x0:eh) (x1:List Bind) (r:eh×Int) (H:dX x0 x1=some r):br Tryz.prog 28 [.agg [.str x0.Elem,.str x0.Shape.Row,dS ah x0.Shape.Dims],dS aq x1] (.tup [.agg [.str r.1.Elem,.str r.1.Shape.Row,dS ah r.1.Shape.Dims],iI r.2]):=by
 unfold dX at H;refine aX Tryz.func28 45 [.cell 4 36,.tmp 5] ?_;refine aL H fun y0 h0 H0 => ?_;refine aU H0 (fun c0 H1 => ?_) (fun c1 H2 => ?_)
 ·refine aL H1 fun y1 h1 H3 => ?_;refine aU H3 (fun c2 H4 => ?_) (fun c3 H5 => ?_)
  ·refine aL H4 fun y2 h2 H6 => ?_;refine pD 13 [r0 [.m,.m,.v],r0 [.v,.c true bT,.v,.v,.v,.c true (.bool y1),.v,.v],.eqT 16 bF,r0 [.v,.v,.v,.c true (.tup [.agg [.str y2.1.Row,dS ah y2.1.Dims],iI y2.2]),.v,.v,.v,.m,.m,.v],V2] [.only [1,2,4,5,6,7,26] [2,4,6]] 12 [false] (aC Tryz.call62 (aC (br.eq (dD _ _ h0) (cB c0)) (aT (aC Tryz.call33 (aF (gm _ _ h1) (aT (aM c2 (aC Tryz.call25 (aF (oX _ _ _ h2) aN))))))))) ?_;refine aU H6 (fun c4 H7 => ?_) (fun c5 H8 => ?_)
   ·refine aL H7 fun y3 h3 H9 => ?_;refine pD 8 [.eqT 26 bF,r0 [.v,.v,.v,.c true (iI y3),.v],V2] [.only [1,2,4,5,6,8,34] [2,4,6]] 7 [false] (aM c4 (aC Tryz.call63 (aF (zH _ _ _ _ h3) aN))) ?_;refine aL H9 fun v0 h4 H10 => ?_;refine cC 0 (mL x0 y2 v0) (by kernel_rfl) ?_ ?_
    ·refine aU h4 (fun c6 H11 => ?_) (fun c7 H12 => ?_)
     ·refine aP H11 fun g0 H13 => ?_;obtain rfl:=sI H13;exact pB 3 [.eqT 34 bT,r0 [.v,.v,.e (.dptr (aq (x1.getD y3.toNat ao))),.v,.v,.v,.m]] [.only [2,4,5,6] [2,4,6]] (mL x0 y2 ((x1.getD y3.toNat ao).Elem)) (aB c6 (a8 (Jd (f:=aq) (l:=x1) (n:=y3) ao cF (by decide) (by exact g0)) aN))
     ·obtain rfl:=sI H12;exact pB 3 [.eqT 34 bF] [.only [2,4,5,6] [2,4,6]] (mL x0 y2 x0.Elem) (aB c7 aN)
    ·obtain rfl:=sI H10;exact pR 3 [r0 [.v,.v,.v,.b,.m,.v]] [] [] aN
   ·obtain rfl:=sI H8;exact pR 5 [.eqT 26 bT,r0 [.b,.v,.m,.v]] [.wkH 4 2 []] [] (aM c5 aN)
  ·obtain rfl:=sI H5;exact pR 10 [r0 [.m,.m,.v],r0 [.v,.c true bT,.v,.v,.v,.c true (.bool y1),.v,.v],.eqT 16 bT,r0 [.b,.m,.v]] [.wkH 4 2 []] [] (aC Tryz.call62 (aC (br.eq (dD _ _ h0) (cB c0)) (aT (aC Tryz.call33 (aF (gm _ _ h1) (aT (aM c3 aN)))))))
 ·obtain rfl:=sI H2;exact pR 9 [r0 [.m,.m,.v],r0 [.v,.c true bF,.v,.v,.s,.s,.s,.v],r0 [.b,.m,.v]] [.wkH 4 2 []] [] (aC Tryz.call62 (aC (br.eq (dD _ _ h0) (cB c1)) (aT aN)))
noncomputable def fX (x0:List aG) (x1:Int):Option ((List Bind)×Int×Int) :=
 (lB x0 x1).bind fun y0 =>
 bif y0 then (
  bif (jr x0).isSome then (
   (jr x0).bind fun y1 =>
   bif (y1.2.2.2==0) then (
    (cL y1.2.2.1 y1.1 y1.2.1).bind fun y2 =>
    bif (y2.2==0) then (
     (dm y2.1 x1).bind fun y3 =>
     bif (y3.2.2.2==9) then (
      some ([],0,14)
     ) else (
      bif (y3.2.2.2==0) then (
       (dv y3.1).bind fun y4 =>
       (fZ y1.2.2.1 y1.1 y1.2.1).bind fun y5 =>
       (fA (σ:=((List Bind)×Int)) (ε:=((List Bind)×Int)) (ρ:=((List Bind)×Int×Int)) (fun i0 s0 =>
        bif (((y5.getD i0 ao).Kind)==2) then (
         (jq (Shape.mk (((y5.getD i0 ao).Row).Row) (((y5.getD i0 ao).Row).Dims)) y3.1).bind fun y6 =>
         bif (y6.2==0) then (
          bX ((s0.1.length+1)*112≤140737488355328) <|
          some (.go ((s0.1++[(Bind.mk ((y5.getD i0 ao).Kind) ((y5.getD i0 ao).Var) (Linear.mk (((y5.getD i0 ao).Dim).Const) (((y5.getD i0 ao).Dim).Terms)) y6.1 ((y5.getD i0 ao).Elem))]),y6.2))
         ) else (
          some (.ret ([],0,y6.2))
         )
        ) else (
         bX ((s0.1.length+1)*112≤140737488355328) <|
         some (.go ((s0.1++[(Bind.mk ((y5.getD i0 ao).Kind) ((y5.getD i0 ao).Var) (Linear.mk (((y5.getD i0 ao).Dim).Const) (((y5.getD i0 ao).Dim).Terms)) (Shape.mk (((y5.getD i0 ao).Row).Row) (((y5.getD i0 ao).Row).Dims)) ((y5.getD i0 ao).Elem))]),s0.2))
        )
       ) (fun i0 s0=>(s0.1,s0.2)) (y5.length-0) 0 (y4,y3.2.2.2)).bind <| aft fun u0 =>
       (kK (fun x=>x.Kind) (fun x=>x.Var) u0.1).bind fun y7 =>
       (fA (σ:=(List Bind)) (ε:=(List Bind)) (ρ:=((List Bind)×Int×Int)) (fun i1 s1 =>
        (dX (eh.mk (((x0.getD i1 ag).A).Elem) (Shape.mk ((((x0.getD i1 ag).A).Shape).Row) ((((x0.getD i1 ag).A).Shape).Dims))) s1).bind fun y8 =>
        (dX (eh.mk (((x0.getD i1 ag).B).Elem) (Shape.mk ((((x0.getD i1 ag).B).Shape).Row) ((((x0.getD i1 ag).B).Shape).Dims))) s1).bind fun y9 =>
        bif (y8.2==0) then (
         bif (y9.2==0) then (
          some (.go s1)
         ) else (
          some (.ret ([],0,3))
         )
        ) else (
         some (.ret ([],0,3))
        )
       ) (fun i1 s1=>s1) (x0.length-0) 0 y7).bind <| aft fun u1 =>
       some (u1,y3.2.1,0)
      ) else (
       some ([],0,y3.2.2.2)
      )
     )
    ) else (
     some ([],0,y2.2)
    )
   ) else (
    some ([],0,y1.2.2.2)
   )
  ) else (
   (oQ x0).bind fun y10 =>
   bif (y10==0) then (
    none
   ) else (
    some ([],0,y10)
   )
  )
 ) else (
  some ([],0,1)
 )
def kc (x0:List aG) (y3:(List Bind)×Int×aj×Int) (y5:List Bind) (i0:Nat) (s0:(List Bind)×Int):AS:=⟨111,[(0,dS az x0),(4,.rslice 78),(5,iI y3.2.1),(6,iI s0.2),(9,dS aq y3.1),(55,dS aq y5),(56,nI y5.length),(57,nI i0)],[(78,.row 62 7 (s0.1.map aq))]⟩
def rb (x0:List aG) (y3:(List Bind)×Int×aj×Int) (u2:(List Bind)×Int):AS:=⟨111,[(0,dS az x0),(4,.rslice 78),(5,iI y3.2.1),(6,iI u2.2)],[(78,.row 62 7 (u2.1.map aq))]⟩
def mG (x0:List aG) (y3:(List Bind)×Int×aj×Int) (u0:(List Bind)×Int) (i1:Nat) (s1:List Bind):AS:=⟨111,[(4,dS aq s1),(5,iI y3.2.1),(6,iI u0.2),(82,dS az x0),(83,nI x0.length),(84,nI i1)],[]⟩
def rO (y3:(List Bind)×Int×aj×Int) (u0:(List Bind)×Int) (u3:List Bind):AS:=⟨111,[(4,dS aq u3),(5,iI y3.2.1),(6,iI u0.2)],[]⟩
theorem fy (x0:List aG) (x1:Int) (r:(List Bind)×Int×Int) (H:fX x0 x1=some r):br Tryz.prog 7 [dS az x0,iI x1] (.tup [dS aq r.1,iI r.2.1,iI r.2.2]):=by
 unfold fX at H;refine aX Tryz.func7 111 [.tmp 4,.tmp 5,.tmp 6] ?_;refine aL H fun y0 h0 H0 => ?_;refine aU H0 (fun c0 H1 => ?_) (fun c1 H2 => ?_)
 ·refine aU H1 (fun c2 H3 => ?_) (fun c3 H4 => ?_)
  ·refine aL H3 fun y1 h1 H5 => ?_;refine pD 13 [V3,r0 [.v,.v,.c true (.bool y0),.v],.eqT 22 bF,r0 [.v,.hM [] [(9,901),(12,900),(901,903),(902,902)] (.tup [.hptr 12 0,iI y1.2.2.2]) [(9,.smap 0 9 (y1.1.map (aQ aZ))),(12,.cells 95 [.amap 9,.amap 902,.rslice 901]),(901,.row 98 4 (y1.2.2.1.map ay)),(902,.smap 0 34 (y1.2.1.map (aQ (iY aV))))],.v,.v,.v,.v,.v],V2] [.only [0,1,4,5,6,7,29] [900,901,902,903]] 12 [false] (aC Tryz.call19 (aF (oM _ _ _ h0) (aT (aM c0 (aC Tryz.call20 (aC (yE _ _ h1) aN)))))) ?_;refine aU H5 (fun c4 H6 => ?_) (fun c5 H7 => ?_)
   ·refine aL H6 fun y2 h2 H8 => ?_;refine pD 8 [.eqT 29 bF,r0 [.v,.fz 903,.hR [(900,1000),(901,1001),(902,1002)] 33 (.tup [dS ah y2.1,iI y2.2]) [(1000,.cells 95 [.amap 1001,.amap 1002,dS ay y1.2.2.1]),(1001,.smap 0 9 (y1.1.map (aQ aZ))),(1002,.smap 0 34 (y1.2.1.map (aQ (iY aV))))],.v,.v,.v,.v,.v],V2] [.only [0,1,4,5,6,7,8,37] [900,901,902]] 7 [false] (aM c4 (aC Tryz.call21 (aC (nn _ _ _ _ h2) aN))) ?_;refine aU H8 (fun c6 H9 => ?_) (fun c7 H10 => ?_)
    ·refine aL H9 fun y3 h3 H11 => ?_;refine aU H11 (fun c8 H12 => ?_) (fun c9 H13 => ?_)
     ·obtain rfl:=sI H12;exact pR 18 [.eqT 37 bF,r0 [.v,.v,.c true (.tup [dS aq y3.1,iI y3.2.1,.agg [dS ai y3.2.2.1.Mults,iI y3.2.2.1.Mod],iI y3.2.2.2]),.v,.v,.v,.v,.v,.m,.v,.v,.m,.v],V2,.eqT 48 bT,V1,V2,V4] [.wk 4 []] [] (aM c6 (aC Tryz.call22 (aF (oh _ _ _ h3) (aB c8 aN))))
     ·refine pD 14 [.eqT 37 bF,.rg 0 [] [.v,.v,.c true (.tup [.dslice (y3.1.map aq),.int .i64 y3.2.1,.agg [.dslice (y3.2.2.1.Mults.map ai),.int .i64 y3.2.2.1.Mod],.int .i64 y3.2.2.2]),.v,.v,.v,.v,.v,.m,.v,.v,.m,.v],.rg 0 [] [.v,.v],.eqT 48 bF,.rg 0 [] [.v,.v]] [.only [0,4,5,6,7,9,50] [900,901,902]] 12 [false,false] (aM c6 (aC Tryz.call22 (aF (oh _ _ _ h3) (aB c9 aN)))) ?_;refine aU H13 (fun c10 H14 => ?_) (fun c11 H15 => ?_)
      ·refine aL H14 fun y4 h4 H16 => ?_;refine aL H16 fun y5 h5 H17 => ?_;refine pA 9 [.eqT 50 bF,r0 [.v,.hR [] 53 (.rslice 0) [(0,.row 62 7 (y4.map aq))],.v],r0 [.v,.hR [(900,1000),(901,1001),(902,1002)] 55 (dS aq y5) [],.e (nI y5.length),.v]] [.ren [(53,78)],.only [0,4,5,6,9,55,56,57] [78]] 8 [false] (kc x0 y3 y5 0 (y4,y3.2.2.2)) (aM c10 (aC Tryz.call23 (aC (pk _ _ h4) (aC Tryz.call24 (aC (q8 _ _ _ _ h5) (aT (aC (bo aq y5) aN))))))) ?_;refine aL H17 fun R0 h6 H18 => ?_;refine pJ 1 (rb x0 y3) R0 ?_ (fun u0 e0 => ?_)
       ·refine pC (kc x0 y3 y5) h6 (fun i0 s0 h7 e1 => ?_) (fun i0 s0 h8 q0 h9 h10 => ?_)
        ·have c12:=lF i0 y5.length (by omega);subst e1;exact pB 5 [r0 [.e bF]] [.only [0,4,5,6] [78]] (rb x0 y3 (s0.1,s0.2)) (aB c12 aN)
        ·have c13:=lT i0 y5.length (by omega);refine pD 12 [r0 [.e bT],r0 [.e (.dptr (aq (y5.getD i0 ao))),.v,.m,.m],V3] [.only [0,4,5,6,9,12,55,56,57,63] [12,78]] 12 [true] (aB c13 (aI cF y5 i0 ao aN)) ?_;refine aU h9 (fun c14 H19 => ?_) (fun c15 H20 => ?_)
         ·refine aL H19 fun y6 h11 H21 => ?_;refine aU H21 (fun c16 H22 => ?_) (fun c17 H23 => ?_)
          ·refine aP H22 fun g0 H24 => ?_;refine bK 55 (ps:=[(y5.map aq).length≤9223372036854775807]) (by kernel_rfl) (fun l0 => ?_);have l1:y5.length≤9223372036854775807:=by simpa only [cq,Mt] using l0
           clear l0;obtain rfl:=sI H24;exact pB 11 [.eqT 63 bT,r0 [.v,.v,.v,.c true (.tup [.agg [.str y6.1.Row,dS ah y6.1.Dims],iI y6.2]),.v,.v,.v,.v,.m,.v],V2,.eqT 73 bF,r0 [.v,.v,.b,.ap,.rwH 78 (.row 62 7 ((s0.1++[(Bind.mk ((y5.getD i0 ao).Kind) ((y5.getD i0 ao).Var) (Linear.mk (((y5.getD i0 ao).Dim).Const) (((y5.getD i0 ao).Dim).Terms)) y6.1 ((y5.getD i0 ao).Elem))]).map aq)),.v],V2] [.only [0,4,5,6,9,55,56,57] [78]] (kc x0 y3 y5 (i0+1) ((s0.1++[(Bind.mk ((y5.getD i0 ao).Kind) ((y5.getD i0 ao).Var) (Linear.mk (((y5.getD i0 ao).Dim).Const) (((y5.getD i0 ao).Dim).Terms)) y6.1 ((y5.getD i0 ao).Elem))]),y6.2)) (aB c14 (aC Tryz.call25 (aF (oX _ _ _ h11) (aM c16 (a8 (tg (c:=aq) iV s0.1 [(Bind.mk ((y5.getD i0 ao).Kind) ((y5.getD i0 ao).Var) (Linear.mk (((y5.getD i0 ao).Dim).Const) (((y5.getD i0 ao).Dim).Terms)) y6.1 ((y5.getD i0 ao).Elem))] 112 (by decide) (by first | (simp;done) | simpa using g0)) (aC (vQ 62 7 aq s0.1 [(Bind.mk ((y5.getD i0 ao).Kind) ((y5.getD i0 ao).Var) (Linear.mk (((y5.getD i0 ao).Dim).Const) (((y5.getD i0 ao).Dim).Terms)) y6.1 ((y5.getD i0 ao).Elem))]) (aH i0 aN)))))))
          ·obtain rfl:=sI H23;obtain rfl:=ba h10;obtain rfl:=sI (aR H18);exact pR 11 [.eqT 63 bT,r0 [.v,.v,.v,.c true (.tup [.agg [.str y6.1.Row,dS ah y6.1.Dims],iI y6.2]),.v,.v,.v,.v,.m,.v],V2,.eqT 73 bT,V4] [.wk 4 []] [] (aB c14 (aC Tryz.call25 (aF (oX _ _ _ h11) (aM c17 aN))))
         ·refine aP H20 fun g1 H25 => ?_;refine bK 55 (ps:=[(y5.map aq).length≤9223372036854775807]) (by kernel_rfl) (fun l2 => ?_);have l3:y5.length≤9223372036854775807:=by simpa only [cq,Mt] using l2
          clear l2;obtain rfl:=sI H25;exact pB 5 [.eqT 63 bF,r0 [.v,.v,.b,.ap,.rwH 78 (.row 62 7 ((s0.1++[(Bind.mk ((y5.getD i0 ao).Kind) ((y5.getD i0 ao).Var) (Linear.mk (((y5.getD i0 ao).Dim).Const) (((y5.getD i0 ao).Dim).Terms)) (Shape.mk (((y5.getD i0 ao).Row).Row) (((y5.getD i0 ao).Row).Dims)) ((y5.getD i0 ao).Elem))]).map aq)),.v],V2] [.only [0,4,5,6,9,55,56,57] [78]] (kc x0 y3 y5 (i0+1) ((s0.1++[(Bind.mk ((y5.getD i0 ao).Kind) ((y5.getD i0 ao).Var) (Linear.mk (((y5.getD i0 ao).Dim).Const) (((y5.getD i0 ao).Dim).Terms)) (Shape.mk (((y5.getD i0 ao).Row).Row) (((y5.getD i0 ao).Row).Dims)) ((y5.getD i0 ao).Elem))]),s0.2)) (aB c15 (a8 (tg (c:=aq) iV s0.1 [(Bind.mk ((y5.getD i0 ao).Kind) ((y5.getD i0 ao).Var) (Linear.mk (((y5.getD i0 ao).Dim).Const) (((y5.getD i0 ao).Dim).Terms)) (Shape.mk (((y5.getD i0 ao).Row).Row) (((y5.getD i0 ao).Row).Dims)) ((y5.getD i0 ao).Elem))] 112 (by decide) (by first | (simp;done) | simpa using g1)) (aC (vQ 62 7 aq s0.1 [(Bind.mk ((y5.getD i0 ao).Kind) ((y5.getD i0 ao).Var) (Linear.mk (((y5.getD i0 ao).Dim).Const) (((y5.getD i0 ao).Dim).Terms)) (Shape.mk (((y5.getD i0 ao).Row).Row) (((y5.getD i0 ao).Row).Dims)) ((y5.getD i0 ao).Elem))]) (aH i0 aN))))
       ·subst e0;have H26:=bB H18;refine aL H26 fun y7 h12 H27 => ?_;refine pA 6 [r0 [.v,.hR [(78,1000)] 81 (.tup []) [(1000,.row 62 7 (y7.map aq))]],r0 [.v,.e (nI x0.length),.v]] [.fz 78,.only [4,5,6,82,83,84] []] 6 [] (mG x0 y3 u0 0 y7) (aC Tryz.call26 (aC (tw aq (fun x=>x.Kind) (fun x=>x.Var) _ _ _ _ _ (fun _=>rfl) (fun _=>rfl) u0.1 y7 h12) (aT (aC (bo az x0) aN)))) ?_;refine aL H27 fun R1 h13 H28 => ?_;refine pJ 1 (rO y3 u0) R1 ?_ (fun u1 e2 => ?_)
        ·refine pC (mG x0 y3 u0) h13 (fun i1 s1 h14 e3 => ?_) (fun i1 s1 h15 q1 h16 h17 => ?_)
         ·have c18:=lF i1 x0.length (by omega);subst e3;exact pB 5 [r0 [.e bF]] [.only [4,5,6] []] (rO y3 u0 s1) (aB c18 aN)
         ·have c19:=lT i1 x0.length (by omega);refine aL h16 fun y8 h18 H29 => ?_;refine aL H29 fun y9 h19 H30 => ?_;refine pD 14 [r0 [.e bT],r0 [.e (.dptr [.str (((x0.getD i1 ag).A).Elem),.str ((((x0.getD i1 ag).A).Shape).Row),.dslice (((((x0.getD i1 ag).A).Shape).Dims).map ah),.str (((x0.getD i1 ag).B).Elem),.str ((((x0.getD i1 ag).B).Shape).Row),.dslice (((((x0.getD i1 ag).B).Shape).Dims).map ah)]),.v,.m,.m],r0 [.v,.v,.v,.c true (.tup [.agg [.str y8.1.Elem,.str y8.1.Shape.Row,dS ah y8.1.Shape.Dims],iI y8.2]),.v,.v,.v,.m,.m,.v],r0 [.v,.v,.v,.c true (.tup [.agg [.str y9.1.Elem,.str y9.1.Shape.Row,dS ah y9.1.Shape.Dims],iI y9.2]),.v,.v,.v,.m,.m,.v]] [.only [4,5,6,16,18,82,83,84] []] 14 [true] (aB c19 (aI gv x0 i1 ag (aC Tryz.call28 (aF (sB _ _ _ h18) (aC Tryz.call28 (aF (sB _ _ _ h19) aN)))))) ?_;refine aU H30 (fun c20 H31 => ?_) (fun c21 H32 => ?_)
          ·refine aU H31 (fun c22 H33 => ?_) (fun c23 H34 => ?_)
           ·refine bK 82 (ps:=[(x0.map az).length≤9223372036854775807]) (by kernel_rfl) (fun l4 => ?_);have l5:x0.length≤9223372036854775807:=by simpa only [cq,Mt] using l4
            clear l4;obtain rfl:=sI H33;exact pB 5 [r0 [.v,.e bF,.v,.v,.v,.v],.eqT 107 bF,V2] [.only [4,5,6,82,83,84] []] (mG x0 y3 u0 (i1+1) s1) (aM c20 (aM c22 (aH i1 aN)))
           ·obtain rfl:=sI H34;obtain rfl:=ba h17;obtain rfl:=sI (aR H28);exact pR 6 [r0 [.v,.e bF,.v,.v,.v,.v],.eqT 107 bT,V3] [.wk 4 []] [] (aM c20 (aM c23 aN))
          ·obtain rfl:=sI H32;obtain rfl:=ba h17;obtain rfl:=sI (aR H28);exact pR 5 [r0 [.v,.e bT,.v,.s,.s,.v],V3] [.wk 4 []] [] (aM c21 aN)
        ·subst e2;have H35:=bB H28;obtain rfl:=sI H35;exact pR 3 [V5] [] [] aN
      ·obtain rfl:=sI H15;exact pR 5 [.eqT 50 bT,V4] [.wk 4 []] [] (aM c11 aN)
    ·obtain rfl:=sI H10;exact pR 5 [.eqT 37 bT,V4] [.wk 4 []] [] (aM c7 aN)
   ·obtain rfl:=sI H7;exact pR 5 [.eqT 29 bT,V4] [.wk 4 []] [] (aM c5 aN)
  ·refine aL H4 fun y10 h20 H36 => ?_;refine pD 13 [V3,r0 [.v,.v,.c true (.bool y0),.v],.eqT 22 bF,r0 [.v,.c true (.tup [.lit (.pointer none),iI y10]),.v,.v,.v,.v,.v],V2] [.only [0,1,4,5,6,7,29] []] 12 [false] (aC Tryz.call19 (aF (oM _ _ _ h0) (aT (aM c0 (aC Tryz.call20 (aF (vy _ _ h20) aN)))))) ?_;refine aU H36 (fun c24 H37 => ?_) (fun c25 H38 => ?_)
   ·cases H37
   ·obtain rfl:=sI H38;exact pR 5 [.eqT 29 bT,V4] [.wk 4 []] [] (aM c25 aN)
 ·obtain rfl:=sI H2;exact pR 10 [V3,r0 [.v,.v,.c true (.bool y0),.v],.eqT 22 bT,V3] [.wk 4 []] [] (aC Tryz.call19 (aF (oM _ _ _ h0) (aT (aM c1 aN))))
noncomputable def ju   : Option Bool :=
 (jC [91,114,46,46,44,32,110,93,65]).bind fun y0 =>
 (jC [91,50,44,32,51,93,105,110,116]).bind fun y1 =>
 (fX [(aG.mk y0 y1)] 1).bind fun y2 =>
 (jC [91,110,93,105,110,116]).bind fun y3 =>
 (jC [105,110,116]).bind fun y4 =>
 (fX [(aG.mk y3 y4)] 1).bind fun y5 =>
 bif (y2.2.2==0) then (
  bif (y5.2.2==13) then (
   bif (((y2.1.length:Nat):Int)==3) then (
    bX (0<y2.1.length) <|
    bif (((y2.1.getD 0 ao).Var)==[110]) then (
     bif ((((y2.1.getD 0 ao).Dim).Const)==3) then (
      bX (1<y2.1.length) <|
      bif (((y2.1.getD 1 ao).Var)==[114]) then (
       bif ((((((y2.1.getD 1 ao).Row).Dims).length:Nat):Int)==1) then (
        bX (2<y2.1.length) <|
        some (((y2.1.getD 2 ao).Elem)==[105,110,116])
       ) else (
        none
       )
      ) else (
       none
      )
     ) else (
      none
     )
    ) else (
     none
    )
   ) else (
    none
   )
  ) else (
   none
  )
 ) else (
  none
 )
theorem iX   (r:Bool) (H:ju  = some r):br Tryz.prog 5 [] (.bool r):=by
 unfold ju at H;refine aX Tryz.func5 74 [.tmp 0] ?_;refine aL H fun y0 h0 H0 => ?_;refine aL H0 fun y1 h1 H1 => ?_;refine aL H1 fun y2 h2 H2 => ?_;refine aL H2 fun y3 h3 H3 => ?_;refine aL H3 fun y4 h4 H4 => ?_;refine aL H4 fun y5 h5 H5 => ?_;refine pD 7 [V1,r0 [.c true (.agg [.str y0.Elem,.str y0.Shape.Row,dS ah y0.Shape.Dims]),.c true (.agg [.str y1.Elem,.str y1.Shape.Row,dS ah y1.Shape.Dims]),.b,.b,.c true (.tup [dS aq y2.1,iI y2.2.1,iI y2.2.2]),.v,.v,.v,.v,.v,.v,.v],r0 [.c true (.agg [.str y3.Elem,.str y3.Shape.Row,dS ah y3.Shape.Dims]),.c true (.agg [.str y4.Elem,.str y4.Shape.Row,dS ah y4.Shape.Dims]),.b,.b,.c true (.tup [dS aq y5.1,iI y5.2.1,iI y5.2.2]),.v,.v,.v,.v,.v,.v,.v]] [.only [0,1,3,6] []] 7 [] (aC Tryz.call17 (aF (kQ _ _ h0) (aC Tryz.call17 (aF (kQ _ _ h1) (aC Tryz.call7 (aF (fy _ _ _ h2) (aC Tryz.call17 (aF (kQ _ _ h3) (aC Tryz.call17 (aF (kQ _ _ h4) (aC Tryz.call7 (aF (fy _ _ _ h5) aN)))))))))))) ?_;refine aU H5 (fun c0 H6 => ?_) (fun c1 H7 => ?_)
 ·refine aU H6 (fun c2 H8 => ?_) (fun c3 H9 => ?_)
  ·refine aU H8 (fun c4 H10 => ?_) (fun c5 H11 => ?_)
   ·refine aP H10 fun g0 H12 => ?_;refine aU H12 (fun c6 H13 => ?_) (fun c7 H14 => ?_)
    ·refine aU H13 (fun c8 H15 => ?_) (fun c9 H16 => ?_)
     ·refine aP H15 fun g1 H17 => ?_;refine aU H17 (fun c10 H18 => ?_) (fun c11 H19 => ?_)
      ·refine aU H18 (fun c12 H20 => ?_) (fun c13 H21 => ?_)
       ·refine aP H20 fun g2 H22 => ?_;obtain rfl:=sI H22;exact pR 2 [r0 [.v,.e bT,.v,.v,.e bT,.v,.v,.v,.e (nI y2.1.length),.e bT,.v,.v,.v,.e (.dptr (aq (y2.1.getD 0 ao))),.v,.v,.e bT,.v,.v,.v,.e (.dptr (aq (y2.1.getD 0 ao))),.v,.v,.v,.e bT,.v,.v,.v,.e (.dptr (aq (y2.1.getD 1 ao))),.v,.v,.e bT,.v,.v,.v,.e (.dptr (aq (y2.1.getD 1 ao))),.v,.v,.v,.e (iI (((((y2.1.getD 1 ao).Row).Dims).length:Nat):Int)),.e bT,.v,.v,.v,.e (.dptr (aq (y2.1.getD 2 ao))),.v,.v,.v,.v,.v]] [] [] (aB c0 (aB c2 (aT (aC (bo aq y2.1) (aB c4 (aI cF y2.1 0 ao (aB c6 (aI cF y2.1 0 ao (aB c8 (aI cF y2.1 1 ao (aB c10 (aI cF y2.1 1 ao (aT (aC (bo ah (((y2.1.getD 1 ao).Row).Dims)) (aB c12 (aI cF y2.1 2 ao aN))))))))))))))))
       ·cases H21
      ·cases H19
     ·cases H16
    ·cases H14
   ·cases H11
  ·cases H9
 ·cases H7
def jG (x0:Int):Option Bool :=
 bif decide (x0≥(-1000000)) then (
  some (decide (x0≤1000000))
 ) else (
  some false
 )
theorem gF (x0:Int) (r:Bool) (H:jG x0=some r):br Tryz.prog 37 [iI x0] (.bool r):=by
 unfold jG at H;refine aX Tryz.func37 9 [.tmp 2] ?_;refine aU H (fun c0 H0 => ?_) (fun c1 H1 => ?_)
 ·obtain rfl:=sI H0;exact pR 5 [V1,r0 [.v,.e bT,.v,.v,.v,.v,.v]] [] [] (aB c0 aN)
 ·obtain rfl:=sI H1;exact pR 5 [V1,r0 [.v,.e bF,.v,.s,.s,.v,.v]] [] [] (aB c1 aN)
def jz (x0:UInt8):Option Bool :=
 bif decide (((x0).toNat:Int)≥48) then (
  some (decide (((x0).toNat:Int)≤57))
 ) else (
  some false
 )
theorem oN (x0:UInt8) (r:Bool) (H:jz x0=some r):br Tryz.prog 74 [.int .u8 ((x0).toNat:Int)] (.bool r):=by
 unfold jz at H;refine aX Tryz.func74 9 [.tmp 2] ?_;refine aU H (fun c0 H0 => ?_) (fun c1 H1 => ?_)
 ·obtain rfl:=sI H0;exact pR 5 [V1,r0 [.v,.e bT,.v,.v,.v,.v,.v]] [] [] (aB c0 aN)
 ·obtain rfl:=sI H1;exact pR 5 [V1,r0 [.v,.e bF,.v,.s,.s,.v,.v]] [] [] (aB c1 aN)
def kb (x0:UInt8):Option Bool :=
 bif decide (((x0).toNat:Int)≥97) then (
  some (decide (((x0).toNat:Int)≤122))
 ) else (
  some false
 )
theorem nU (x0:UInt8) (r:Bool) (H:kb x0=some r):br Tryz.prog 75 [.int .u8 ((x0).toNat:Int)] (.bool r):=by
 unfold kb at H;refine aX Tryz.func75 9 [.tmp 2] ?_;refine aU H (fun c0 H0 => ?_) (fun c1 H1 => ?_)
 ·obtain rfl:=sI H0;exact pR 5 [V1,r0 [.v,.e bT,.v,.v,.v,.v,.v]] [] [] (aB c0 aN)
 ·obtain rfl:=sI H1;exact pR 5 [V1,r0 [.v,.e bF,.v,.s,.s,.v,.v]] [] [] (aB c1 aN)
def mK (x0:ak):Option Bool :=
 bif (((x0.length:Nat):Int)==0) then (
  some false
 ) else (
  bif decide (((x0.length:Nat):Int)>30) then (
   some false
  ) else (
   bX (0<x0.length) <|
   bif (((x0.getD 0 0).toNat:Int)==95) then (
    bif decide (((x0.length:Nat):Int)<2) then (
     some false
    ) else (
     bif decide (((x0.length:Nat):Int)>10) then (
      some false
     ) else (
      bX (1<x0.length) <|
      bif (((x0.getD 1 0).toNat:Int)==48) then (
       some false
      ) else (
       (fA (σ:=Unit) (ε:=Unit) (ρ:=Bool) (fun i0 s0 =>
        (jz (x0.getD i0 0)).bind fun y0 =>
        bif y0 then (
         some (.go ())
        ) else (
         some (.ret false)
        )
       ) (fun i0 s0=>()) (x0.length-1) 1 ()).bind <| aft fun u0 =>
       some true
      )
     )
    )
   ) else (
    (fA (σ:=Unit) (ε:=Unit) (ρ:=Bool) (fun i1 s1 =>
     (kb (x0.getD i1 0)).bind fun y1 =>
     ((
      bif y1 then (
       some (.brk ())
      ) else (
       bif (((i1:Nat):Int)==0) then (
        some (.ret (.ret false))
       ) else (
        (jz (x0.getD i1 0)).bind fun y2 =>
        bif y2 then (
         some (.brk ())
        ) else (
         some (.ret (.ret false))
        )
       )
      )
     ):Option (Out Unit (fE Unit Unit Bool))).bind (aft fun u1 =>
      some (.go ())
     )
    ) (fun i1 s1=>()) (x0.length-0) 0 ()).bind <| aft fun u2 =>
    some true
   )
  )
 )
def oO (x0:ak) (i0:Nat) (s0:Unit):AS:=⟨62,[(0,.str x0),(2,.bool false),(3,nI i0)],[]⟩
def sM (x0:ak) (u3:Unit):AS:=⟨62,[(0,.str x0),(2,.bool false)],[]⟩
def oT (x0:ak) (i1:Nat) (s1:Unit):AS:=⟨62,[(0,.str x0),(2,.bool false),(4,nI i1)],[]⟩
def sy (u4:Unit):AS:=⟨62,[(2,.bool false)],[]⟩
def oD (x0:ak) (i1:Nat) (u1:Unit):AS:=⟨62,[(0,.str x0),(2,.bool false),(4,nI i1)],[]⟩
theorem jI (x0:ak) (r:Bool) (H:mK x0=some r):br Tryz.prog 38 [.str x0] (.bool r):=by
 unfold mK at H;refine aX Tryz.func38 62 [.tmp 2] ?_;refine aU H (fun c0 H0 => ?_) (fun c1 H1 => ?_)
 ·obtain rfl:=sI H0;exact pR 9 [V1,r0 [.v,.v,.e bT,.v,.s,.s,.s,.v],V1] [] [] (aT (aB c0 aN))
 ·refine aU H1 (fun c2 H2 => ?_) (fun c3 H3 => ?_)
  ·obtain rfl:=sI H2;exact pR 10 [V1,r0 [.v,.v,.e bF,.v,.v,.v,.v,.v],.eqT 12 bT,V1] [] [] (aT (aB c1 (aT (aB c2 aN))))
  ·have c3p:=Mo c3;refine aP H3 fun g0 H4 => ?_;refine aU H4 (fun c4 H5 => ?_) (fun c5 H6 => ?_)
   ·refine aU H5 (fun c6 H7 => ?_) (fun c7 H8 => ?_)
    ·have c6p:=Mp c6;obtain rfl:=sI H7;exact pR 20 [V1,r0 [.v,.v,.e bF,.v,.v,.v,.v,.v],.eqT 12 bF,V3,.eqT 15 bT,r0 [.v,.v,.e bT,.v,.s,.s,.s,.v,.v,.s,.s,.s,.v],V1] [] [] (aT (aB c1 (aT (aB c3 (aC (show (0:Int)≤0∧0<(x0.length:Int) from by omega) (aB c4 (aT (aB c6 aN))))))))
    ·have c7p:=Mo c7;refine aU H8 (fun c8 H9 => ?_) (fun c9 H10 => ?_)
     ·have c8p:=Mp c8;obtain rfl:=sI H9;exact pR 20 [V1,r0 [.v,.v,.e bF,.v,.v,.v,.v,.v],.eqT 12 bF,V3,.eqT 15 bT,r0 [.v,.v,.e bF,.v,.v,.v,.e bT,.v,.v,.s,.s,.s,.v],V1] [] [] (aT (aB c1 (aT (aB c3 (aC (show (0:Int)≤0∧0<(x0.length:Int) from by omega) (aB c4 (aT (aB c7 (aT (aB c8 aN))))))))))
     ·have c9p:=Mo c9;refine aP H10 fun g1 H11 => ?_;refine pD 16 [V1,r0 [.v,.v,.e bF,.v,.v,.v,.v,.v],.eqT 12 bF,V3,.eqT 15 bT,r0 [.v,.v,.e bF,.v,.v,.v,.e bF,.v,.v,.v,.v,.v,.v]] [.only [0,2,28] []] 14 [false,true] (aT (aB c1 (aT (aB c3 (aC (show (0:Int)≤0∧0<(x0.length:Int) from by omega) (aB c4 (aT (aB c7 (aT (aB c9 (aC (show (0:Int)≤1∧1<(x0.length:Int) from by omega) aN))))))))))) ?_;refine aU H11 (fun c10 H12 => ?_) (fun c11 H13 => ?_)
      ·obtain rfl:=sI H12;exact pR 5 [.eqT 28 bT,V1] [] [] (aB c10 aN)
      ·refine pA 7 [.eqT 28 bF,.rg 0 [] [.v]] [.only [0,2,3] []] 6 [false] (oO x0 1 ()) (aB c11 aN) ?_;refine aL H13 fun R0 h0 H14 => ?_;refine pJ 1 (sM x0) R0 ?_ (fun u0 e0 => ?_)
       ·refine pC (oO x0) h0 (fun i0 s0 h1 e1 => ?_) (fun i0 s0 h2 q0 h3 h4 => ?_)
        ·have c12:=lF i0 x0.length (by omega);subst e1;exact pB 5 [r0 [.v,.v,.v,.e bF]] [.only [0,2] []] (sM x0 ()) (aT (aB c12 aN))
        ·have c13:=lT i0 x0.length (by omega);refine aL h3 fun y0 h5 H15 => ?_;refine aU H15 (fun c14 H16 => ?_) (fun c15 H17 => ?_)
         ·refine bK 0 (ps:=[x0.length≤9223372036854775807]) (by kernel_rfl) (fun l0 => ?_);have l1:x0.length≤9223372036854775807:=by simpa only [cq,Mt] using l0
          clear l0;obtain rfl:=sI H16;exact pB 13 [r0 [.v,.v,.v,.e bT],r0 [.v,.v,.v,.c true (.bool y0),.v],.eqT 39 bF,V3] [.only [0,2,3] []] (oO x0 (i0+1) ()) (aT (aB c13 (aC (show (0:Int)≤((i0:Nat):Int)∧((i0:Nat):Int)<(x0.length:Int) from by omega) (aC Tryz.call74 (aF (oN _ _ h5) (aT (aM c14 (aH i0 aN))))))))
         ·obtain rfl:=sI H17;obtain rfl:=ba h4;obtain rfl:=sI (aR H14);exact pR 14 [r0 [.v,.v,.v,.e bT],r0 [.v,.v,.v,.c true (.bool y0),.v],.eqT 39 bT,V1] [] [] (aT (aB c13 (aC (show (0:Int)≤((i0:Nat):Int)∧((i0:Nat):Int)<(x0.length:Int) from by omega) (aC Tryz.call74 (aF (oN _ _ h5) (aT (aM c15 aN)))))))
       ·subst e0;have H18:=bB H14;obtain rfl:=sI H18;exact pR 3 [V1] [] [] aN
   ·refine pA 18 [.rg 0 [] [.v],.rg 0 [] [.v,.v,.e bF,.v,.v,.v,.v,.v],.eqT 12 bF,.rg 0 [] [.v,.v,.v],.eqT 15 bF,.rg 0 [] [.v]] [.only [0,2,4] []] 16 [false,false] (oT x0 0 ()) (aT (aB c1 (aT (aB c3 (aC (show (0:Int)≤0∧0<(x0.length:Int) from by omega) (aB c5 aN)))))) ?_;refine aL H6 fun R1 h6 H19 => ?_;refine pJ 1 (sy) R1 ?_ (fun u2 e2 => ?_)
    ·refine pC (oT x0) h6 (fun i1 s1 h7 e3 => ?_) (fun i1 s1 h8 q1 h9 h10 => ?_)
     ·have c16:=lF i1 x0.length (by omega);subst e3;exact pB 5 [r0 [.v,.v,.v,.e bF]] [.only [2] []] (sy ()) (aT (aB c16 aN))
     ·have c17:=lT i1 x0.length (by omega);refine aL h9 fun y1 h11 H20 => ?_;refine pD 8 [r0 [.v,.v,.v,.e bT]] [.only [0,2,4] []] 8 [true] (aT (aB c17 aN)) ?_;refine aL H20 fun v0 h12 H21 => ?_;refine pJ 2 (oD x0 i1) v0 ?_ (fun u1 e4 => ?_)
      ·refine aU h12 (fun c18 H22 => ?_) (fun c19 H23 => ?_)
       ·obtain rfl:=sI H22;exact pB 3 [r0 [.v,.v,.v,.c true bT,.v,.v,.s,.s,.s,.s,.s,.s,.s,.s,.s,.v]] [.only [0,2,4] []] (oD x0 i1 ()) (aC (show (0:Int)≤((i1:Nat):Int)∧((i1:Nat):Int)<(x0.length:Int) from by omega) (aC Tryz.call75 (aC (br.eq (nU _ _ h11) (cB c18)) (aT aN))))
       ·refine aU H23 (fun c20 H24 => ?_) (fun c21 H25 => ?_)
        ·obtain rfl:=sI H24;obtain rfl:=sI (aR H21);obtain rfl:=ba h10;obtain rfl:=sI (aR H19);exact pR 5 [r0 [.v,.v,.v,.c true bF,.v,.v,.v,.e bT,.v,.s,.s,.s,.s,.s,.v,.v],V1] [] [] (aC (show (0:Int)≤((i1:Nat):Int)∧((i1:Nat):Int)<(x0.length:Int) from by omega) (aC Tryz.call75 (aC (br.eq (nU _ _ h11) (cB c19)) (aT (aB c20 aN)))))
        ·refine aL H25 fun y2 h13 H26 => ?_;refine pD 1 [r0 [.v,.v,.v,.c true bF,.v,.v,.v,.e bF,.v,.v,.v,.v,.c true (.bool y2),.v,.v,.v]] [.only [0,2,4,61] []] 1 [] (aC (show (0:Int)≤((i1:Nat):Int)∧((i1:Nat):Int)<(x0.length:Int) from by omega) (aC Tryz.call75 (aC (br.eq (nU _ _ h11) (cB c19)) (aT (aB c21 (aC (show (0:Int)≤((i1:Nat):Int)∧((i1:Nat):Int)<(x0.length:Int) from by omega) (aC Tryz.call74 (aF (oN _ _ h13) (aT aN))))))))) ?_;refine aU H26 (fun c22 H27 => ?_) (fun c23 H28 => ?_)
         ·obtain rfl:=sI H27;exact pB 3 [.eqT 61 bF] [.only [0,2,4] []] (oD x0 i1 ()) (aM c22 aN)
         ·obtain rfl:=sI H28;obtain rfl:=sI (aR H21);obtain rfl:=ba h10;obtain rfl:=sI (aR H19);exact pR 5 [.eqT 61 bT,V1] [] [] (aM c23 aN)
      ·subst e4;have H29:=bB H21;refine bK 0 (ps:=[x0.length≤9223372036854775807]) (by kernel_rfl) (fun l2 => ?_);have l3:x0.length≤9223372036854775807:=by simpa only [cq,Mt] using l2
       clear l2;obtain rfl:=sI H29;exact pB 1 [V3] [.only [0,2,4] []] (oT x0 (i1+1) ()) (aH i1 aN)
    ·subst e2;have H30:=bB H19;obtain rfl:=sI H30;exact pR 3 [V1] [] [] aN
def kW (x0:Linear):Option Bool :=
 (jG x0.Const).bind fun y0 =>
 bif y0 then (
  bif decide (((x0.Terms.length:Nat):Int)>12) then (
   some false
  ) else (
   (fA (σ:=Unit) (ε:=Unit) (ρ:=Bool) (fun i0 s0 =>
    (mK ((x0.Terms.getD i0 aJ).Var)).bind fun y1 =>
    ((
     bif y1 then (
      bif (((x0.Terms.getD i0 aJ).C)==0) then (
       some (.ret (.ret false))
      ) else (
       (jG ((x0.Terms.getD i0 aJ).C)).bind fun y2 =>
       bif y2 then (
        bif decide (((i0:Nat):Int)>0) then (
         bX (0≤(aS (((i0:Nat):Int)-1))∧(aS (((i0:Nat):Int)-1))<(x0.Terms.length:Int)) <|
         bif (Op.bytesLess ((x0.Terms.getD (aS (((i0:Nat):Int)-1)).toNat aJ).Var) ((x0.Terms.getD i0 aJ).Var)) then (
          some (.brk ())
         ) else (
          some (.ret (.ret false))
         )
        ) else (
         some (.brk ())
        )
       ) else (
        some (.ret (.ret false))
       )
      )
     ) else (
      some (.ret (.ret false))
     )
    ):Option (Out Unit (fE Unit Unit Bool))).bind (aft fun u0 =>
     some (.go ())
    )
   ) (fun i0 s0=>()) (x0.Terms.length-0) 0 ()).bind <| aft fun u1 =>
   some true
  )
 ) else (
  some false
 )
def mH (x0:Linear) (i0:Nat) (s0:Unit):AS:=⟨58,[(1,.hptr 1 0),(2,.bool false),(3,nI i0)],[(1,.cells 29 [iI x0.Const,dS aw x0.Terms])]⟩
def qz (u2:Unit):AS:=⟨58,[(2,.bool false)],[]⟩
def mN (x0:Linear) (i0:Nat) (u0:Unit):AS:=⟨58,[(1,.hptr 1 0),(2,.bool false),(3,nI i0)],[(1,.cells 29 [iI x0.Const,dS aw x0.Terms])]⟩
theorem sA (x0:Linear) (r:Bool) (H:kW x0=some r):br Tryz.prog 18 [.agg [iI x0.Const,dS aw x0.Terms]] (.bool r):=by
 unfold kW at H;refine aX Tryz.func18 58 [.tmp 2] ?_;refine aL H fun y0 h0 H0 => ?_;refine aU H0 (fun c0 H1 => ?_) (fun c1 H2 => ?_)
 ·refine aU H1 (fun c2 H3 => ?_) (fun c3 H4 => ?_)
  ·obtain rfl:=sI H3;exact pR 10 [r0 [.m,.v],r0 [.v,.v,.c true bT,.v,.v,.v,.v,.e (nI x0.Terms.length),.v,.v],.eqT 14 bT,V1] [] [] (aC Tryz.call37 (aC (br.eq (gF _ _ h0) (cB c0)) (aT (aT (aC (bo aw x0.Terms) (aB c2 aN))))))
  ·have c3p:=Mo c3;refine pA 12 [r0 [.m,.v],r0 [.v,.v,.c true bT,.v,.v,.v,.v,.e (nI x0.Terms.length),.v,.v],.eqT 14 bF,V1] [.only [1,2,3] [1]] 11 [false] (mH x0 0 ()) (aC Tryz.call37 (aC (br.eq (gF _ _ h0) (cB c0)) (aT (aT (aC (bo aw x0.Terms) (aB c3 aN)))))) ?_;refine aL H4 fun R0 h1 H5 => ?_;refine pJ 1 (qz) R0 ?_ (fun u1 e0 => ?_)
   ·refine pC (mH x0) h1 (fun i0 s0 h2 e1 => ?_) (fun i0 s0 h3 q0 h4 h5 => ?_)
    ·have c4:=lF i0 x0.Terms.length (by omega);subst e1;exact pB 5 [r0 [.v,.v,.v,.e (nI x0.Terms.length),.e bF]] [.only [2] []] (qz ()) (aT (aC (bo aw x0.Terms) (aB c4 aN)))
    ·have c5:=lT i0 x0.Terms.length (by omega);refine aL h4 fun y1 h6 H6 => ?_;refine pD 10 [r0 [.v,.v,.v,.e (nI x0.Terms.length),.e bT],r0 [.v,.v,.v,.e (.dptr (aw (x0.Terms.getD i0 aJ))),.v,.m,.m]] [.only [1,2,3,4] [1,4]] 10 [true] (aT (aC (bo aw x0.Terms) (aB c5 (aI cy x0.Terms i0 aJ aN)))) ?_;refine aL H6 fun v0 h7 H7 => ?_;refine pJ 2 (mN x0 i0) v0 ?_ (fun u0 e2 => ?_)
     ·refine aU h7 (fun c6 H8 => ?_) (fun c7 H9 => ?_)
      ·refine aU H8 (fun c8 H10 => ?_) (fun c9 H11 => ?_)
       ·obtain rfl:=sI H10;obtain rfl:=sI (aR H7);obtain rfl:=ba h5;obtain rfl:=sI (aR H5);exact pR 5 [.rg 28 [.v,.v,.c true bT,.v,.v,.v,.v,.e bT,.v,.v,.s,.s,.s,.s,.v,.v,.s,.s,.s,.s,.s,.s,.s,.s,.s,.s,.s,.s] [.s,.s,.v],V1] [] [] (aC Tryz.call38 (aC (br.eq (jI _ _ h6) (cB c6)) (aT (aB c8 aN))))
       ·refine aL H11 fun y2 h8 H12 => ?_;refine aU H12 (fun c10 H13 => ?_) (fun c11 H14 => ?_)
        ·refine aU H13 (fun c12 H15 => ?_) (fun c13 H16 => ?_)
         ·refine aP H15 fun g0 H17 => ?_;refine pD 1 [.rg 28 [.v,.v,.c true bT,.v,.v,.v,.v,.e bF,.v,.v,.v,.v,.c true bT,.v,.v,.v,.v,.e bT,.v,.v,.v,.v,.w,.e (.dptr (aw (x0.Terms.getD (aS (((i0:Nat):Int)-1)).toNat aJ))),.v,.v,.v,.v] [.v,.v,.v]] [.only [1,2,3,57] [1]] 1 [] (aC Tryz.call38 (aC (br.eq (jI _ _ h6) (cB c6)) (aT (aB c9 (aC Tryz.call37 (aC (br.eq (gF _ _ h8) (cB c10)) (aT (aB c12 (a8 (Jd (f:=aw) (l:=x0.Terms) (n:=(aS (((i0:Nat):Int)-1))) aJ cy (by decide) (by exact g0)) aN))))))))) ?_;refine aU H17 (fun c14 H18 => ?_) (fun c15 H19 => ?_)
          ·obtain rfl:=sI H18;exact pB 3 [.eqT 57 bF] [.only [1,2,3] [1]] (mN x0 i0 ()) (aM c14 aN)
          ·obtain rfl:=sI H19;obtain rfl:=sI (aR H7);obtain rfl:=ba h5;obtain rfl:=sI (aR H5);exact pR 5 [.eqT 57 bT,V1] [] [] (aM c15 aN)
         ·obtain rfl:=sI H16;exact pB 3 [.rg 28 [.v,.v,.c true bT,.v,.v,.v,.v,.e bF,.v,.v,.v,.v,.c true bT,.v,.v,.v,.v,.e bF,.v,.s,.s,.s,.s,.s,.s,.s,.s,.s] [.s,.v,.v]] [.only [1,2,3] [1]] (mN x0 i0 ()) (aC Tryz.call38 (aC (br.eq (jI _ _ h6) (cB c6)) (aT (aB c9 (aC Tryz.call37 (aC (br.eq (gF _ _ h8) (cB c10)) (aT (aB c13 aN))))))))
        ·obtain rfl:=sI H14;obtain rfl:=sI (aR H7);obtain rfl:=ba h5;obtain rfl:=sI (aR H5);exact pR 5 [.rg 28 [.v,.v,.c true bT,.v,.v,.v,.v,.e bF,.v,.v,.v,.v,.c true bF,.v,.v,.v,.s,.s,.s,.s,.s,.s,.s,.s,.s,.s,.s,.s] [.s,.s,.v],V1] [] [] (aC Tryz.call38 (aC (br.eq (jI _ _ h6) (cB c6)) (aT (aB c9 (aC Tryz.call37 (aC (br.eq (gF _ _ h8) (cB c11)) (aT aN)))))))
      ·obtain rfl:=sI H9;obtain rfl:=sI (aR H7);obtain rfl:=ba h5;obtain rfl:=sI (aR H5);exact pR 5 [.rg 28 [.v,.v,.c true bF,.v,.v,.s,.s,.s,.v,.v,.s,.s,.s,.s,.v,.v,.s,.s,.s,.s,.s,.s,.s,.s,.s,.s,.s,.s] [.s,.s,.v],V1] [] [] (aC Tryz.call38 (aC (br.eq (jI _ _ h6) (cB c7)) (aT aN)))
     ·subst e2;have H20:=bB H7;refine wg 1 1 (ps:=[(x0.Terms.map aw).length≤9223372036854775807]) (by kernel_rfl) (fun l0 => ?_);have l1:x0.Terms.length≤9223372036854775807:=by simpa only [cq,Mt] using l0
      clear l0;obtain rfl:=sI H20;exact pB 1 [V3] [.only [1,2,3] [1]] (mH x0 (i0+1) ()) (aH i0 aN)
   ·subst e0;have H21:=bB H5;obtain rfl:=sI H21;exact pR 3 [V1] [] [] aN
 ·obtain rfl:=sI H2;exact pR 9 [r0 [.m,.v],r0 [.v,.v,.c true bF,.v,.v,.s,.s,.s,.s,.v],V1] [] [] (aC Tryz.call37 (aC (br.eq (gF _ _ h0) (cB c1)) (aT aN)))
def gi (x0:Linear) (x1:List Value):Option (Int×Int) :=
 (kW x0).bind fun y0 =>
 bif y0 then (
  (fA (σ:=Int) (ε:=Int) (ρ:=(Int×Int)) (fun i0 s0 =>
   (fA (σ:=Unit) (ε:=Nat) (ρ:=Empty) (fun i1 s1 =>
    bif (((x1.getD i1 nF).Var)==((x0.Terms.getD i0 aJ).Var)) then (
     some (.brk i1)
    ) else (
     some (.go ())
    )
   ) (fun i1 s1=>i1) (x1.length-0) 0 ()).bind <| dL fun u0 =>
   bif (((u0:Nat):Int)==((x1.length:Nat):Int)) then (
    some (.ret (0,7))
   ) else (
    bX (u0<x1.length) <|
    bif decide (((x1.getD u0 nF).N)<(-1000000000)) then (
     some (.ret (0,2))
    ) else (
     bif decide (((x1.getD u0 nF).N)>1000000000) then (
      some (.ret (0,2))
     ) else (
      some (.go (aS (s0+(aS (((x0.Terms.getD i0 aJ).C)*((x1.getD u0 nF).N))))))
     )
    )
   )
  ) (fun i0 s0=>s0) (x0.Terms.length-0) 0 x0.Const).bind <| aft fun u1 =>
  some (u1,0)
 ) else (
  some (0,1)
 )
def oW (x0:Linear) (x1:List Value) (i0:Nat) (s0:Int):AS:=⟨68,[(1,dS iM x1),(2,.hptr 2 0),(4,iI 0),(5,iI 0),(6,iI s0),(7,nI i0)],[(2,.cells 29 [iI x0.Const,dS aw x0.Terms])]⟩
def sE (u2:Int):AS:=⟨68,[(4,iI 0),(5,iI 0),(6,iI u2)],[]⟩
def oF (x0:Linear) (x1:List Value) (i0:Nat) (s0:Int) (i1:Nat) (s1:Unit):AS:=⟨68,[(1,dS iM x1),(2,.hptr 2 0),(4,iI 0),(5,iI 0),(6,iI s0),(7,nI i0),(8,nI i1)],[(2,.cells 29 [iI x0.Const,dS aw x0.Terms])]⟩
def oY (x0:Linear) (x1:List Value) (i0:Nat) (s0:Int) (u3:Nat):AS:=⟨68,[(1,dS iM x1),(2,.hptr 2 0),(4,iI 0),(5,iI 0),(6,iI s0),(7,nI i0),(8,nI u3)],[(2,.cells 29 [iI x0.Const,dS aw x0.Terms])]⟩
theorem z8 (x0:Linear) (x1:List Value) (r:Int×Int) (H:gi x0 x1=some r):br Tryz.prog 6 [.agg [iI x0.Const,dS aw x0.Terms],dS iM x1] (.tup [iI r.1,iI r.2]):=by
 unfold gi at H;refine aX Tryz.func6 68 [.tmp 4,.tmp 5] ?_;refine aL H fun y0 h0 H0 => ?_;refine aU H0 (fun c0 H1 => ?_) (fun c1 H2 => ?_)
 ·refine pA 14 [.rg 0 [] [.m,.v,.v],.rg 0 [] [.v,.c true (.bool y0),.v],.eqT 12 bF,.rg 0 [] [.v,.v,.v],.rg 0 [] [.v]] [.only [1,2,4,5,6,7] [2]] 13 [false] (oW x0 x1 0 x0.Const) (aC Tryz.call18 (aF (sA _ _ h0) (aT (aM c0 aN)))) ?_;refine aL H1 fun R0 h1 H3 => ?_;refine pJ 1 (sE) R0 ?_ (fun u1 e0 => ?_)
  ·refine pC (oW x0 x1) h1 (fun i0 s0 h2 e1 => ?_) (fun i0 s0 h3 q0 h4 h5 => ?_)
   ·have c2:=lF i0 x0.Terms.length (by omega);subst e1;exact pB 5 [r0 [.v,.v,.v,.e (nI x0.Terms.length),.e bF]] [.only [4,5,6] []] (sE s0) (aT (aC (bo aw x0.Terms) (aB c2 aN)))
   ·have c3:=lT i0 x0.Terms.length (by omega);refine pA 11 [r0 [.v,.v,.v,.e (nI x0.Terms.length),.e bT],V1] [.only [1,2,4,5,6,7,8] [2]] 11 [true] (oF x0 x1 i0 s0 0 ()) (aT (aC (bo aw x0.Terms) (aB c3 aN))) ?_;refine aL h4 fun R1 h6 H4 => ?_;refine pJ 1 (oY x0 x1 i0 s0) R1 ?_ (fun u0 e2 => ?_)
    ·refine pC (oF x0 x1 i0 s0) h6 (fun i1 s1 h7 e3 => ?_) (fun i1 s1 h8 q1 h9 h10 => ?_)
     ·have c4:=lF i1 x1.length (by omega);subst e3;exact pB 5 [.rg 16 [.v,.v,.e (nI x1.length),.e bF,.v,.s,.s,.s,.s,.s,.s,.s,.s,.s,.s,.s] [.s,.v]] [.only [1,2,4,5,6,7,8] [2]] (oY x0 x1 i0 s0 i1) (aT (aC (bo iM x1) (aB c4 aN)))
     ·have c5:=lT i1 x1.length (by omega);refine pD 3 [.rg 16 [.v,.v,.e (nI x1.length),.e bT,.v,.v,.v,.e (.dptr (iM (x1.getD i1 nF))),.v,.v,.v,.v,.v,.e (.dptr (aw (x0.Terms.getD i0 aJ))),.v,.v] [.v,.v]] [.only [1,2,4,5,6,7,8,39] [2]] 3 [] (aT (aC (bo iM x1) (aB c5 (aI ti x1 i1 nF (aI cy x0.Terms i0 aJ aN))))) ?_;refine aU h9 (fun c6 H5 => ?_) (fun c7 H6 => ?_)
      ·obtain rfl:=sI H5;obtain rfl:=ja h10;exact pB 3 [.eqT 39 bF] [.only [1,2,4,5,6,7,8] [2]] (oY x0 x1 i0 s0 i1) (aM c6 aN)
      ·refine bK 1 (ps:=[(x1.map iM).length≤9223372036854775807]) (by kernel_rfl) (fun l0 => ?_);have l1:x1.length≤9223372036854775807:=by simpa only [cq,Mt] using l0
       clear l0;obtain rfl:=sI H6;exact pB 5 [.eqT 39 bT,V3] [.only [1,2,4,5,6,7,8] [2]] (oF x0 x1 i0 s0 (i1+1) ()) (aM c7 (aH i1 aN))
    ·subst e2;have H7:=bu H4;refine aU H7 (fun c8 H8 => ?_) (fun c9 H9 => ?_)
     ·obtain rfl:=sI H8;obtain rfl:=ba h5;obtain rfl:=sI (aR H3);exact pR 8 [r0 [.v,.v,.e (nI x1.length),.v],.eqT 45 bT,V2] [] [] (aT (aC (bo iM x1) (aB c8 aN)))
     ·refine aP H9 fun g0 H10 => ?_;refine aU H10 (fun c10 H11 => ?_) (fun c11 H12 => ?_)
      ·have c10p:=Mp c10;obtain rfl:=sI H11;obtain rfl:=ba h5;obtain rfl:=sI (aR H3);exact pR 15 [r0 [.v,.v,.e (nI x1.length),.v],.eqT 45 bF,r0 [.v,.v,.e (.dptr (iM (x1.getD u0 nF))),.v,.v,.v],r0 [.v,.e bT,.v,.s,.s,.v],V2] [] [] (aT (aC (bo iM x1) (aB c9 (aI ti x1 u0 nF (aB c10 aN)))))
      ·have c11p:=Mo c11;refine pD 11 [r0 [.v,.v,.e (nI x1.length),.v],.eqT 45 bF,r0 [.v,.v,.e (.dptr (iM (x1.getD u0 nF))),.v,.v,.v],r0 [.v,.e bF,.v,.v,.v,.v]] [.only [1,2,4,5,6,7,9,56] [2]] 10 [false] (aT (aC (bo iM x1) (aB c9 (aI ti x1 u0 nF (aB c11 aN))))) ?_;refine aU H12 (fun c12 H13 => ?_) (fun c13 H14 => ?_)
       ·obtain rfl:=sI H13;obtain rfl:=ba h5;obtain rfl:=sI (aR H3);exact pR 5 [.eqT 56 bT,V2] [] [] (aB c12 aN)
       ·have c13p:=Mo c13;refine wg 2 1 (ps:=[(x0.Terms.map aw).length≤9223372036854775807]) (by kernel_rfl) (fun l2 => ?_);have l3:x0.Terms.length≤9223372036854775807:=by simpa only [cq,Mt] using l2
        clear l2;obtain rfl:=sI H14;exact pB 5 [.eqT 56 bF,r0 (V 4 [.e (.dptr (aw (x0.Terms.getD i0 aJ))),.v,.v,.v,.w,.w,.v]),V3] [.only [1,2,4,5,6,7] [2]] (oW x0 x1 (i0+1) (aS (s0+(aS (((x0.Terms.getD i0 aJ).C)*((x1.getD u0 nF).N)))))) (aB c13 (aI cy x0.Terms i0 aJ (aH i0 aN)))
  ·subst e0;have H15:=bB H3;obtain rfl:=sI H15;exact pR 3 [V3] [] [] aN
 ·obtain rfl:=sI H2;exact pR 10 [r0 [.m,.v,.v],r0 [.v,.c true (.bool y0),.v],.eqT 12 bT,V2] [] [] (aC Tryz.call18 (aF (sA _ _ h0) (aT (aM c1 aN))))
noncomputable def gg (x0:List (Int×Int)):Option Bool :=
 (ju).bind fun y0 =>
 bif y0 then (
  bif decide (((x0.length:Nat):Int)>4) then (
   (ju).bind fun y1 =>
   some y1
  ) else (
   (fA (σ:=(List aG)) (ε:=(List aG)) (ρ:=Empty) (fun i0 s0 =>
    ((
     bif (((IntKind.wrap .i64 ((x0.getD i0 (0,0)).1)).tmod 6)==0) then (
      some (((IntKind.wrap .i64 ((x0.getD i0 (0,0)).2)).tmod 21),[])
     ) else (
      some (((IntKind.wrap .i64 ((x0.getD i0 (0,0)).2)).tmod 21),[(au.mk [110] ((IntKind.wrap .i64 ((x0.getD i0 (0,0)).1)).tmod 6))])
     )
    ):Option (Int×(List au))).bind fun v0 =>
    bX ((s0.length+1)*112≤140737488355328) <|
    some (.go (s0++[(aG.mk (eh.mk [105,110,116] (Shape.mk [] [(Linear.mk v0.1 v0.2)])) (eh.mk [105,110,116] (Shape.mk [] [(Linear.mk 0 [])])))]))
   ) (fun i0 s0=>s0) (x0.length-0) 0 []).bind <| dL fun u0 =>
   (oa (σ:=(Bool×Int)) (ε:=Bool) (ρ:=Empty) (fun s1 =>
    bif decide (s1.2≤20) then (
     (fA (σ:=Bool) (ε:=Bool) (ρ:=Empty) (fun i1 s2 =>
      bX (0<((((u0.getD i1 ag).A).Shape).Dims).length) <|
      (gi (Linear.mk ((((((u0.getD i1 ag).A).Shape).Dims).getD 0 aD).Const) ((((((u0.getD i1 ag).A).Shape).Dims).getD 0 aD).Terms)) [(Value.mk [110] s1.2)]).bind fun y2 =>
      ((
       bif s2 then (
        bif (y2.2==0) then (
         some (y2.1==0)
        ) else (
         some false
        )
       ) else (
        some false
       )
      ):Option Bool).bind fun v1 =>
      some (.go v1)
     ) (fun i1 s2=>s2) (u0.length-0) 0 true).bind <| dL fun u1 =>
     ((
      bif s1.1 then (
       some true
      ) else (
       some u1
      )
     ):Option Bool).bind fun v2 =>
     some (.go (v2,(aS (s1.2+1))))
    ) else (
     some (.brk s1.1)
    )
   ) 4294967296 (false,(-20))).bind <| dL fun u2 =>
   (fX u0 1).bind fun y3 =>
   bif (u2==(y3.2.2==0)) then (
    bif u2 then (
     bif (true==(y3.2.2==0)) then (
      some true
     ) else (
      some false
     )
    ) else (
     bif (false==(y3.2.2==0)) then (
      some (y3.2.2==14)
     ) else (
      some false
     )
    )
   ) else (
    some false
   )
  )
 ) else (
  (ju).bind fun y4 =>
  some y4
 )
def hJ (x0:List (Int×Int)) (i0:Nat) (s0:List aG):AS:=⟨114,[(2,.bool false),(3,.rslice 58),(4,.bool false),(26,dS dU x0),(27,nI x0.length),(28,nI i0)],[(58,.row 38 6 (s0.map az))]⟩
def kv (u3:List aG):AS:=⟨114,[(2,.bool false),(3,.rslice 58),(4,.bool false)],[(58,.row 38 6 (u3.map az))]⟩
def gL (x0:List (Int×Int)) (i0:Nat) (s0:List aG) (v0:Int×(List au)):AS:=⟨114,[(2,.bool false),(3,.rslice 58),(4,.bool false),(7,.hptr 7 0),(26,dS dU x0),(27,nI x0.length),(28,nI i0)],[(7,.cells 29 [iI v0.1,dS aw v0.2]),(58,.row 38 6 (s0.map az))]⟩
def gX (u0:List aG) (s1:Bool×Int):AS:=⟨114,[(2,.bool false),(3,.rslice 58),(4,.bool s1.1),(9,iI s1.2)],[(58,.row 38 6 (u0.map az))]⟩
def kq (u0:List aG) (u4:Bool):AS:=⟨114,[(2,.bool false),(3,.rslice 58),(4,.bool u4)],[(58,.row 38 6 (u0.map az))]⟩
def gW (u0:List aG) (s1:Bool×Int) (i1:Nat) (s2:Bool):AS:=⟨114,[(2,.bool false),(3,.rslice 58),(4,.bool s1.1),(9,iI s1.2),(10,.bool s2),(64,.rslice 58),(65,nI u0.length),(66,nI i1)],[(58,.row 38 6 (u0.map az))]⟩
def ky (u0:List aG) (s1:Bool×Int) (u5:Bool):AS:=⟨114,[(2,.bool false),(3,.rslice 58),(4,.bool s1.1),(9,iI s1.2),(10,.bool u5)],[(58,.row 38 6 (u0.map az))]⟩
def eO (u0:List aG) (s1:Bool×Int) (i1:Nat) (v1:Bool):AS:=⟨114,[(2,.bool false),(3,.rslice 58),(4,.bool s1.1),(9,iI s1.2),(10,.bool v1),(64,.rslice 58),(65,nI u0.length),(66,nI i1)],[(58,.row 38 6 (u0.map az))]⟩
def gY (u0:List aG) (s1:Bool×Int) (v2:Bool):AS:=⟨114,[(2,.bool false),(3,.rslice 58),(4,.bool v2),(9,iI s1.2)],[(58,.row 38 6 (u0.map az))]⟩
theorem rA (x0:List (Int×Int)) (r:Bool) (H:gg x0=some r):br Tryz.prog 3 [dS dU x0] (.bool r):=by
 unfold gg at H;refine aX Tryz.func3 114 [.tmp 2] ?_;refine aL H fun y0 h0 H0 => ?_;refine aU H0 (fun c0 H1 => ?_) (fun c1 H2 => ?_)
 ·refine aU H1 (fun c2 H3 => ?_) (fun c3 H4 => ?_)
  ·refine aL H3 fun y1 h1 H5 => ?_;refine bc H5 fun e0 => ?_;subst e0;exact pR 10 [V1,r0 [.c true bT,.v,.v,.v,.e (nI x0.length),.v,.v],.eqT 24 bT,r0 [.c true (.bool y1),.v]] [] [] (aC Tryz.call5 (aC (br.eq (iX _ h0) (cB c0)) (aT (aT (aC (bo dU x0) (aB c2 (aC Tryz.call5 (aF (iX _ h1) aN))))))))
  ·have c3p:=Mo c3;refine pA 16 [V1,r0 [.c true bT,.v,.v,.v,.e (nI x0.length),.v,.v],.eqT 24 bF,V1,V1,r0 [.v,.e (nI x0.length),.v]] [.er 3 58 38 6,.only [2,3,4,26,27,28] [58]] 15 [false] (hJ x0 0 []) (aC Tryz.call5 (aC (br.eq (iX _ h0) (cB c0)) (aT (aT (aC (bo dU x0) (aB c3 (aT (aC (bo dU x0) aN)))))))) ?_;refine aL H4 fun R0 h2 H6 => ?_;refine pJ 1 (kv) R0 ?_ (fun u0 e1 => ?_)
   ·refine pC (hJ x0) h2 (fun i0 s0 h3 e2 => ?_) (fun i0 s0 h4 q0 h5 h6 => ?_)
    ·have c4:=lF i0 x0.length (by omega);subst e2;exact pB 5 [r0 [.e bF]] [.only [2,3,4] [58]] (kv s0) (aB c4 aN)
    ·have c5:=lT i0 x0.length (by omega);refine pD 16 [r0 [.e bT],r0 [.e (.dptr [.int .i8 ((x0.getD i0 (0,0)).1),.int .i8 ((x0.getD i0 (0,0)).2)]),.v,.m,.m],r0 (V 4 [.b,.m,.m]),V5,V2] [.only [2,3,4,7,8,26,27,28,42] [7,58]] 16 [true] (aB c5 (aI vA x0 i0 (0,0) (aT (aT (aC (show (21:Int)≠0 from (by decide)) (aT (aT (aC (show (6:Int)≠0 from (by decide)) aN)))))))) ?_;refine aL h5 fun v0 h7 H7 => ?_;refine cC 0 (gL x0 i0 s0 v0) (by kernel_rfl) ?_ ?_
     ·refine aU h7 (fun c6 H8 => ?_) (fun c7 H9 => ?_)
      ·obtain rfl:=sI H8;exact pB 3 [.eqT 42 bF] [.wkH 7 1 [],.only [2,3,4,7,26,27,28] [7,58]] (gL x0 i0 s0 (((IntKind.wrap .i64 ((x0.getD i0 (0,0)).2)).tmod 21),[])) (aM c6 aN)
      ·obtain rfl:=sI H9;exact pB 3 [.eqT 42 bT,r0 [.v,.b,.b,.v,.m]] [.only [2,3,4,7,26,27,28] [7,58]] (gL x0 i0 s0 (((IntKind.wrap .i64 ((x0.getD i0 (0,0)).2)).tmod 21),[(au.mk [110] ((IntKind.wrap .i64 ((x0.getD i0 (0,0)).1)).tmod 6))])) (aM c7 aN)
     ·refine aP H7 fun g0 H10 => ?_;refine bK 26 (ps:=[(x0.map dU).length≤9223372036854775807]) (by kernel_rfl) (fun l0 => ?_);have l1:x0.length≤9223372036854775807:=by simpa only [cq,Mt] using l0
      clear l0;obtain rfl:=sI H10;exact pB 2 [r0 [.v,.v,.b,.b,.b,.b,.b,.wk 53 [(0,1)],.b,.b,.b,.b,.ap,.rwH 58 (.row 38 6 ((s0++[(aG.mk (eh.mk [105,110,116] (Shape.mk [] [(Linear.mk v0.1 v0.2)])) (eh.mk [105,110,116] (Shape.mk [] [(Linear.mk 0 [])])))]).map az)),.v],V2] [.only [2,3,4,26,27,28] [58]] (hJ x0 (i0+1) (s0++[(aG.mk (eh.mk [105,110,116] (Shape.mk [] [(Linear.mk v0.1 v0.2)])) (eh.mk [105,110,116] (Shape.mk [] [(Linear.mk 0 [])])))])) (a8 (tg (c:=az) ya s0 [(aG.mk (eh.mk [105,110,116] (Shape.mk [] [(Linear.mk v0.1 v0.2)])) (eh.mk [105,110,116] (Shape.mk [] [(Linear.mk 0 [])])))] 112 (by decide) (by first | (simp;done) | simpa using g0)) (aC (vQ 38 6 az s0 [(aG.mk (eh.mk [105,110,116] (Shape.mk [] [(Linear.mk v0.1 v0.2)])) (eh.mk [105,110,116] (Shape.mk [] [(Linear.mk 0 [])])))]) (aH i0 aN)))
   ·subst e1;have H11:=bu H6;refine pA 4 [V1] [.only [2,3,4,9] [58]] 4 [] (gX u0 (false,(-20))) aN ?_;refine aL H11 fun R1 h8 H12 => ?_;refine pJ 1 (kq u0) R1 ?_ (fun u2 e3 => ?_)
    ·refine qL (gX u0) (by kernel_rfl) h8 (fun s1 q1 h9 h10 => ?_)
     ·refine aU h9 (fun c8 H13 => ?_) (fun c9 H14 => ?_)
      ·have c8p:=Mp c8;refine pA 14 [V2,.eqT 61 bT,V1,r0 [.v,.e (nI u0.length),.v]] [.only [2,3,4,9,10,64,65,66] [58]] 13 [true] (gW u0 s1 0 true) (aB c8 (aT (aC (bo az u0) aN))) ?_;refine aL H13 fun R2 h11 H15 => ?_;refine pJ 1 (ky u0 s1) R2 ?_ (fun u1 e4 => ?_)
       ·refine pC (gW u0 s1) h11 (fun i1 s2 h12 e5 => ?_) (fun i1 s2 h13 q2 h14 h15 => ?_)
        ·have c10:=lF i1 u0.length (by omega);subst e5;exact pB 5 [r0 [.e bF]] [.only [2,3,4,9,10] [58]] (ky u0 s1 s2) (aB c10 aN)
        ·have c11:=lT i1 u0.length (by omega);refine aP h14 fun g1 H16 => ?_;refine aL H16 fun y2 h16 H17 => ?_;refine pD 11 [r0 [.e bT],r0 [.v,.rl i1 0 (.agg [.str (((u0.getD i1 ag).A).Elem),.str ((((u0.getD i1 ag).A).Shape).Row),.dslice (((((u0.getD i1 ag).A).Shape).Dims).map ah),.str (((u0.getD i1 ag).B).Elem),.str ((((u0.getD i1 ag).B).Shape).Row),.dslice (((((u0.getD i1 ag).B).Shape).Dims).map ah)]),.m,.m],r0 (V 4 [.e (.dptr (ah (((((u0.getD i1 ag).A).Shape).Dims).getD 0 aD))),.v,.v,.b,.b,.c true (.tup [iI y2.1,iI y2.2]),.v,.v,.v,.v,.v])] [.only [2,3,4,9,10,13,14,64,65,66] [58]] 11 [true] (aB c11 (aC (show (0:Int)≤((i1:Nat):Int)∧((i1:Nat):Int)<((u0.map az).length:Int) from by rw [Mt];omega) (aC (lA (f:=az) (l:=u0) (n:=i1) 6 0 6 (by omega) (by decide)) (aC (Gx (f:=az) (l:=u0) (n:=i1) ag 0 6 (by omega)) (aI cP (((((u0.getD i1 ag).A).Shape).Dims)) 0 aD (aC Tryz.call6 (aF (z8 _ _ _ h16) aN))))))) ?_;refine aL H17 fun v1 h17 H18 => ?_;refine cC 1 (eO u0 s1 i1 v1) (by kernel_rfl) ?_ ?_
         ·refine aU h17 (fun c12 H19 => ?_) (fun c13 H20 => ?_)
          ·refine aU H19 (fun c14 H21 => ?_) (fun c15 H22 => ?_)
           ·obtain rfl:=sI H21;exact pB 2 [.eqT 10 bT,r0 [.v,.v,.v,.e bT,.v,.v,.v,.v,.v,.v]] [.only [2,3,4,9,10,64,65,66] [58]] (eO u0 s1 i1 (y2.1==0)) (aB c12 (aB c14 aN))
           ·obtain rfl:=sI H22;exact pB 2 [.eqT 10 bT,r0 [.v,.v,.v,.e bF,.v,.v,.s,.s,.v,.v]] [.only [2,3,4,9,10,64,65,66] [58]] (eO u0 s1 i1 false) (aB c12 (aB c15 aN))
          ·obtain rfl:=sI H20;exact pB 2 [.eqT 10 bF,r0 [.v,.v,.s,.s,.v,.v,.s,.s,.v,.v]] [.only [2,3,4,9,10,64,65,66] [58]] (eO u0 s1 i1 false) (aB c13 aN)
         ·refine wh 58 (n:=(u0.map az).length) (by kernel_rfl) (fun l2 => ?_);have l3:u0.length≤9223372036854775807:=by simpa only [Mt] using l2
          clear l2;obtain rfl:=sI H18;exact pB 1 [V2] [.only [2,3,4,9,10,64,65,66] [58]] (gW u0 s1 (i1+1) v1) (aH i1 aN)
       ·subst e4;have H23:=bu H15;refine aL H23 fun v2 h18 H24 => ?_;refine cC 1 (gY u0 s1 v2) (by kernel_rfl) ?_ ?_
        ·refine aU h18 (fun c16 H25 => ?_) (fun c17 H26 => ?_)
         ·obtain rfl:=sI H25;exact pB 2 [.eqT 4 bT,r0 [.v,.v,.s,.v,.v]] [.only [2,3,4,9] [58]] (gY u0 s1 true) (aB c16 aN)
         ·refine bc H26 fun e6 => ?_;subst e6;exact pB 2 [.eqT 4 bF,V5] [.only [2,3,4,9] [58]] (gY u0 s1 u1) (aB c17 aN)
        ·obtain rfl:=sI H24;exact pB 1 [r0 [.v,.w,.v]] [.only [2,3,4,9] [58]] (gX u0 (v2,(aS (s1.2+1)))) aN
      ·obtain rfl:=sI H14;obtain rfl:=ja h10;exact pB 6 [V2,.eqT 61 bF] [.only [2,3,4] [58]] (kq u0 s1.1) (aB c9 aN)
    ·subst e3;have H27:=bu H12;refine aL H27 fun y3 h19 H28 => ?_;refine aU H28 (fun c18 H29 => ?_) (fun c19 H30 => ?_)
     ·refine aU H29 (fun c20 H31 => ?_) (fun c21 H32 => ?_)
      ·refine aU H31 (fun c22 H33 => ?_) (fun c23 H34 => ?_)
       ·obtain rfl:=sI H33;exact pR 6 [r0 [.v,.fz 58,.c true (.tup [dS aq y3.1,iI y3.2.1,iI y3.2.2]),.v,.v,.v,.v,.v,.v,.v],.eqT 4 bT,r0 [.v,.v,.v,.e bT,.v,.v,.v,.s,.s,.v,.v,.v]] [] [] (aC Tryz.call7 (aF (fy _ _ _ h19) (aB c20 (aB c22 aN))))
       ·obtain rfl:=sI H34;exact pR 6 [r0 [.v,.fz 58,.c true (.tup [dS aq y3.1,iI y3.2.1,iI y3.2.2]),.v,.v,.v,.v,.v,.v,.v],.eqT 4 bT,r0 [.v,.v,.v,.e bF,.v,.s,.s,.s,.s,.s,.v,.v]] [] [] (aC Tryz.call7 (aF (fy _ _ _ h19) (aB c20 (aB c23 aN))))
      ·refine aU H32 (fun c24 H35 => ?_) (fun c25 H36 => ?_)
       ·obtain rfl:=sI H35;exact pR 6 [r0 [.v,.fz 58,.c true (.tup [dS aq y3.1,iI y3.2.1,iI y3.2.2]),.v,.v,.v,.v,.v,.v,.v],.eqT 4 bF,r0 [.v,.v,.v,.e bT,.v,.v,.v,.v,.v,.v,.v,.v]] [] [] (aC Tryz.call7 (aF (fy _ _ _ h19) (aB c21 (aB c24 aN))))
       ·obtain rfl:=sI H36;exact pR 6 [r0 [.v,.fz 58,.c true (.tup [dS aq y3.1,iI y3.2.1,iI y3.2.2]),.v,.v,.v,.v,.v,.v,.v],.eqT 4 bF,r0 [.v,.v,.v,.e bF,.v,.s,.s,.s,.s,.s,.v,.v]] [] [] (aC Tryz.call7 (aF (fy _ _ _ h19) (aB c21 (aB c25 aN))))
     ·obtain rfl:=sI H30;exact pR 5 [r0 [.v,.fz 58,.c true (.tup [dS aq y3.1,iI y3.2.1,iI y3.2.2]),.v,.v,.v,.v,.v,.v,.v],r0 [.v,.v,.v,.e bF,.v,.s,.s,.s,.s,.s,.v,.v]] [] [] (aC Tryz.call7 (aF (fy _ _ _ h19) (aB c19 aN)))
 ·refine aL H2 fun y4 h20 H37 => ?_;refine bc H37 fun e7 => ?_;subst e7;exact pR 9 [V1,r0 [.c true bF,.v,.v,.s,.s,.s,.v],r0 [.c true (.bool y4),.v]] [] [] (aC Tryz.call5 (aC (br.eq (iX _ h0) (cB c1)) (aT (aC Tryz.call5 (aF (iX _ h20) aN)))))
end Go.Proofs.YtoebmibmmlcfiaaGreatDoor
