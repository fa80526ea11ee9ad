/- What functions of the program compute, walked: each as a plain function, with the theorem that the code computes it wherever that answers. Printed by a program, part 4. -/
import Derived.Test.YtlhcekghjfjajaaGreatDoorWkcEquationsComplete
set_option linter.unusedSimpArgs false
set_option linter.unusedVariables false
namespace Go.Proofs.YtlhcekghjfjajaaGreatDoor
open Go.RowKit Go.Ab Go.Sh
def lg (x0:List Linear) (x1:Int):Option ((List Bind)×Int×al×Int) :=
 (im x0).bind fun y0 =>
 ((
  bif y0 then (
   bif decide (x1<1) then (
    some true
   ) else (
    bif decide (x1≥1000000000) then (
     some true
    ) else (
     (ig x0).bind fun y1 =>
     some (decide (y1≥x1))
    )
   )
  ) else (
   some true
  )
 ):Option Bool).bind fun v0 =>
 bif v0 then (
  some ([],0,(al.mk [] 0),1)
 ) else (
  bif decide (((x0.length:Nat):Int)>6000) then (
   some ([],0,(al.mk [] 0),3)
  ) else (
   (dn (σ:=(List Int)) (ε:=(List Int)) (ρ:=Empty) (fun i0 s0 =>
    (fj (Linear.mk ((x0.getD i0 aG).Const) ((x0.getD i0 aG).Terms)) (Linear.mk 0 [])).bind fun y2 =>
    ((
     bif y2 then (
      some s0
     ) else (
      bf ((s0.length+1)*8≤140737488355328) <|
      some (s0++[((i0:Nat):Int)])
     )
    ):Option (List Int)).bind fun v1 =>
    some (.go v1)
   ) (fun i0 s0=>s0) (x0.length-0) 0 []).bind <| ca fun u0 =>
   (dn (σ:=(List ak)) (ε:=(List ak)) (ρ:=Empty) (fun i1 s1 =>
    bf (0≤(u0.getD i1 0)∧(u0.getD i1 0)<(x0.length:Int)) <|
    bf (8*u0.length≤140737488355328) <|
    bf (i1<(List.replicate u0.length (0:Int)).length) <|
    bf ((s1.length+1)*72≤140737488355328) <|
    some (.go (s1++[(ak.mk (Linear.mk ((x0.getD (u0.getD i1 0).toNat aG).Const) ((x0.getD (u0.getD i1 0).toNat aG).Terms)) ((List.replicate u0.length (0:Int)).set i1 1) 1 false)]))
   ) (fun i1 s1=>s1) (u0.length-0) 0 []).bind <| ca fun u1 =>
   (dn (σ:=((List ak)×(List Bind)×(List Bind)×Int)) (ε:=((List ak)×(List Bind)×(List Bind)×Int)) (ρ:=((List Bind)×Int×al×Int)) (fun i2 s2 =>
    (gn (σ:=((List ak)×(List Bind)×(List Bind)×Int)) (ε:=((List ak)×(List Bind)×(List Bind)×Int)) (ρ:=(eR ((List ak)×(List Bind)×(List Bind)×Int) ((List ak)×(List Bind)×(List Bind)×Int) ((List Bind)×Int×al×Int))) (fun s3 =>
     bf (i2<s3.1.length) <|
     (fj (Linear.mk (((s3.1.getD i2 ae).q).Const) (((s3.1.getD i2 ae).q).Terms)) (Linear.mk 0 [])).bind fun y3 =>
     bif y3 then (
      some (.brk (s3.1,s3.2.1,s3.2.2.1,s3.2.2.2))
     ) else (
      (cM ((i2:Nat):Int) s3.2.2.2 s3.1 s3.2.1 s3.2.2.1).bind fun y4 =>
      bif (y4.1.2==0) then (
       some (.go (y4.2.2.1,y4.2.2.2.1,y4.2.2.2.2,y4.2.1))
      ) else (
       (mq y4.1.1 u0 ((x0.length:Nat):Int)).bind fun y5 =>
       some (.ret (.ret ([],0,y5,y4.1.2)))
      )
     )
    ) 4294967296 (s2.1,s2.2.1,s2.2.2.1,s2.2.2.2)).bind <| aft fun u2 =>
    some (.go (u2.1,u2.2.1,u2.2.2.1,u2.2.2.2))
   ) (fun i2 s2=>(s2.1,s2.2.1,s2.2.2.1,s2.2.2.2)) (u0.length-0) 0 (u1,[],[],x1)).bind <| aft fun u3 =>
   bif decide (u3.2.2.2≥1000000000) then (
    some ([],0,(al.mk [] 0),3)
   ) else (
    (ju x0).bind fun y6 =>
    (dn (σ:=(List Bind)) (ε:=(List Bind)) (ρ:=Empty) (fun i3 s4 =>
     (dn (σ:=(List Bind)) (ε:=(List Bind)) (ρ:=Empty) (fun i4 s5 =>
      ((
       bif (((u3.2.1.getD i4 ax).Var)==(y6.getD i3 [])) then (
        bf ((s5.length+1)*112≤140737488355328) <|
        some (s5++[(Bind.mk ((u3.2.1.getD i4 ax).Kind) ((u3.2.1.getD i4 ax).Var) (Linear.mk (((u3.2.1.getD i4 ax).Dim).Const) (((u3.2.1.getD i4 ax).Dim).Terms)) (Shape.mk (((u3.2.1.getD i4 ax).Row).Row) (((u3.2.1.getD i4 ax).Row).Dims)) ((u3.2.1.getD i4 ax).Elem))])
       ) else (
        some s5
       )
      ):Option (List Bind)).bind fun v2 =>
      some (.go v2)
     ) (fun i4 s5=>s5) (u3.2.1.length-0) 0 s4).bind <| ca fun u4 =>
     some (.go u4)
    ) (fun i3 s4=>s4) (y6.length-0) 0 []).bind <| ca fun u5 =>
    some (u5,u3.2.2.2,(al.mk [] 0),0)
   )
  )
 )
def ir (x0:List Linear) (x1:Int) (v0:Bool):AS:=⟨176,[(0,dS aw x0),(1,iI x1),(4,.eslice),(5,iI 0),(6,.hptr 6 0),(7,iI 0),(36,.bool v0)],[(6,.cells 53 [.eslice,iI 0])]⟩
def nO (x0:List Linear) (x1:Int) (i0:Nat) (s0:List Int):AS:=⟨176,[(0,dS aw x0),(4,.eslice),(5,iI 0),(6,.hptr 6 0),(7,iI 0),(8,.hptr 44 0),(9,.rslice 61),(10,nI i0)],[(6,.cells 53 [.eslice,iI 0]),(44,.cells 98 [.eslice,.eslice,.eslice,iI x1]),(61,.row 3 1 (s0.map ao))]⟩
def rv (x0:List Linear) (x1:Int) (u6:List Int):AS:=⟨176,[(0,dS aw x0),(4,.eslice),(5,iI 0),(6,.hptr 6 0),(7,iI 0),(8,.hptr 44 0),(9,.rslice 61)],[(6,.cells 53 [.eslice,iI 0]),(44,.cells 98 [.eslice,.eslice,.eslice,iI x1]),(61,.row 3 1 (u6.map ao))]⟩
def ns (x0:List Linear) (x1:Int) (i0:Nat) (v1:List Int):AS:=⟨176,[(0,dS aw x0),(4,.eslice),(5,iI 0),(6,.hptr 6 0),(7,iI 0),(8,.hptr 44 0),(9,.rslice 61),(10,nI i0)],[(6,.cells 53 [.eslice,iI 0]),(44,.cells 98 [.eslice,.eslice,.eslice,iI x1]),(61,.row 3 1 (v1.map ao))]⟩
def nV (x0:List Linear) (x1:Int) (u0:List Int) (i1:Nat) (s1:List ak):AS:=⟨176,[(0,dS aw x0),(4,.eslice),(5,iI 0),(6,.hptr 6 0),(7,iI 0),(8,.hptr 44 0),(9,.rslice 61),(11,nI i1)],[(6,.cells 53 [.eslice,iI 0]),(44,.cells 98 [.rslice 90,.eslice,.eslice,iI x1]),(61,.row 3 1 (u0.map ao)),(90,.row 100 5 (s1.map ai))]⟩
def rE (x0:List Linear) (x1:Int) (u0:List Int) (u7:List ak):AS:=⟨176,[(0,dS aw x0),(4,.eslice),(5,iI 0),(6,.hptr 6 0),(7,iI 0),(8,.hptr 44 0),(9,.rslice 61)],[(6,.cells 53 [.eslice,iI 0]),(44,.cells 98 [.rslice 90,.eslice,.eslice,iI x1]),(61,.row 3 1 (u0.map ao)),(90,.row 100 5 (u7.map ai))]⟩
def nU (x0:List Linear) (u0:List Int) (i2:Nat) (s2:(List ak)×(List Bind)×(List Bind)×Int):AS:=⟨176,[(0,dS aw x0),(4,.eslice),(5,iI 0),(6,.hptr 6 0),(7,iI 0),(8,.hptr 44 0),(9,.rslice 61),(13,nI i2)],[(6,.cells 53 [.eslice,iI 0]),(44,.cells 98 [.rslice 90,.rslice 902,.rslice 903,iI s2.2.2.2]),(61,.row 3 1 (u0.map ao)),(90,.row 100 5 (s2.1.map ai)),(902,.row 41 7 (s2.2.1.map az)),(903,.row 41 7 (s2.2.2.1.map az))]⟩
def rL (x0:List Linear) (u8:(List ak)×(List Bind)×(List Bind)×Int):AS:=⟨176,[(0,dS aw x0),(4,.eslice),(5,iI 0),(6,.hptr 6 0),(7,iI 0),(8,.hptr 44 0)],[(6,.cells 53 [.eslice,iI 0]),(44,.cells 98 [.rslice 90,.rslice 902,.rslice 903,iI u8.2.2.2]),(90,.row 100 5 (u8.1.map ai)),(902,.row 41 7 (u8.2.1.map az)),(903,.row 41 7 (u8.2.2.1.map az))]⟩
def nC (x0:List Linear) (u0:List Int) (i2:Nat) (s3:(List ak)×(List Bind)×(List Bind)×Int):AS:=⟨176,[(0,dS aw x0),(4,.eslice),(5,iI 0),(6,.hptr 6 0),(7,iI 0),(8,.hptr 44 0),(9,.rslice 61),(13,nI i2)],[(6,.cells 53 [.eslice,iI 0]),(44,.cells 98 [.rslice 90,.rslice 900,.rslice 901,iI s3.2.2.2]),(61,.row 3 1 (u0.map ao)),(90,.row 100 5 (s3.1.map ai)),(900,.row 41 7 (s3.2.1.map az)),(901,.row 41 7 (s3.2.2.1.map az))]⟩
def qR (x0:List Linear) (u0:List Int) (i2:Nat) (u9:(List ak)×(List Bind)×(List Bind)×Int):AS:=⟨176,[(0,dS aw x0),(4,.eslice),(5,iI 0),(6,.hptr 6 0),(7,iI 0),(8,.hptr 44 0),(9,.rslice 61),(13,nI i2)],[(6,.cells 53 [.eslice,iI 0]),(44,.cells 98 [.rslice 90,.rslice 900,.rslice 901,iI u9.2.2.2]),(61,.row 3 1 (u0.map ao)),(90,.row 100 5 (u9.1.map ai)),(900,.row 41 7 (u9.2.1.map az)),(901,.row 41 7 (u9.2.2.1.map az))]⟩
def lQ (u3:(List ak)×(List Bind)×(List Bind)×Int) (y6:List aJ) (i3:Nat) (s4:List Bind):AS:=⟨176,[(4,.eslice),(5,iI 0),(6,.hptr 6 0),(7,iI 0),(8,.hptr 44 0),(16,.rslice 169),(17,dS bq y6),(18,nI i3)],[(6,.cells 53 [.eslice,iI 0]),(44,.cells 98 [.rslice 90,.rslice 902,.rslice 903,iI u3.2.2.2]),(90,.row 100 5 (u3.1.map ai)),(169,.row 41 7 (s4.map az)),(902,.row 41 7 (u3.2.1.map az)),(903,.row 41 7 (u3.2.2.1.map az))]⟩
def qP (u3:(List ak)×(List Bind)×(List Bind)×Int) (u10:List Bind):AS:=⟨176,[(4,.eslice),(5,iI 0),(6,.hptr 6 0),(7,iI 0),(8,.hptr 44 0),(16,.rslice 169)],[(6,.cells 53 [.eslice,iI 0]),(44,.cells 98 [.rslice 90,.rslice 902,.rslice 903,iI u3.2.2.2]),(90,.row 100 5 (u3.1.map ai)),(169,.row 41 7 (u10.map az)),(902,.row 41 7 (u3.2.1.map az)),(903,.row 41 7 (u3.2.2.1.map az))]⟩
def lN (u3:(List ak)×(List Bind)×(List Bind)×Int) (y6:List aJ) (i3 i4:Nat) (s5:List Bind):AS:=⟨176,[(4,.eslice),(5,iI 0),(6,.hptr 6 0),(7,iI 0),(8,.hptr 44 0),(16,.rslice 169),(17,dS bq y6),(18,nI i3),(19,nI i4)],[(6,.cells 53 [.eslice,iI 0]),(44,.cells 98 [.rslice 90,.rslice 902,.rslice 903,iI u3.2.2.2]),(90,.row 100 5 (u3.1.map ai)),(169,.row 41 7 (s5.map az)),(902,.row 41 7 (u3.2.1.map az)),(903,.row 41 7 (u3.2.2.1.map az))]⟩
def qJ (u3:(List ak)×(List Bind)×(List Bind)×Int) (y6:List aJ) (i3:Nat) (u11:List Bind):AS:=⟨176,[(4,.eslice),(5,iI 0),(6,.hptr 6 0),(7,iI 0),(8,.hptr 44 0),(16,.rslice 169),(17,dS bq y6),(18,nI i3)],[(6,.cells 53 [.eslice,iI 0]),(44,.cells 98 [.rslice 90,.rslice 902,.rslice 903,iI u3.2.2.2]),(90,.row 100 5 (u3.1.map ai)),(169,.row 41 7 (u11.map az)),(902,.row 41 7 (u3.2.1.map az)),(903,.row 41 7 (u3.2.2.1.map az))]⟩
def lY (u3:(List ak)×(List Bind)×(List Bind)×Int) (y6:List aJ) (i3 i4:Nat) (v2:List Bind):AS:=⟨176,[(4,.eslice),(5,iI 0),(6,.hptr 6 0),(7,iI 0),(8,.hptr 44 0),(16,.rslice 169),(17,dS bq y6),(18,nI i3),(19,nI i4)],[(6,.cells 53 [.eslice,iI 0]),(44,.cells 98 [.rslice 90,.rslice 902,.rslice 903,iI u3.2.2.2]),(90,.row 100 5 (u3.1.map ai)),(169,.row 41 7 (v2.map az)),(902,.row 41 7 (u3.2.1.map az)),(903,.row 41 7 (u3.2.2.1.map az))]⟩
theorem yY (x0:List Linear) (x1:Int) (r:(List Bind)×Int×al×Int) (H:lg x0 x1=some r):bG Tryz.prog 18 [dS aw x0,iI x1] (.tup [dS az r.1,iI r.2.1,.agg [dS ao r.2.2.1.Mults,iI r.2.2.1.Mod],iI r.2.2.2]):=by
 unfold lg at H;refine aX Tryz.func18 176 [.tmp 4,.tmp 5,.cell 6 53,.tmp 7] ?_;refine aR H fun y0 h0 H0 => ?_;refine pD 4 [r0 [.v,.v,.m,.v]] [.only [0,1,4,5,6,7] [6]] 4 [] aN ?_;refine aR H0 fun v0 h1 H1 => ?_;refine bV 0 (ir x0 x1 v0) (by kernel_rfl) ?_ ?_
 ·refine aV h1 (fun c0 H2 => ?_) (fun c1 H3 => ?_)
  ·refine aV H2 (fun c2 H4 => ?_) (fun c3 H5 => ?_)
   ·obtain rfl:=sI H4;exact pB 1 [r0 [.v,.c true bT,.v,.v,.v,.e bT,.v,.v,.s,.s,.v,.v,.s,.s,.s,.s,.v]] [.only [0,1,4,5,6,7,36] [6]] (ir x0 x1 true) (aC Tryz.call13 (aC (bG.eq (cQ _ _ h0) (cB c0)) (aT (aB c2 aN))))
   ·refine aV H5 (fun c4 H6 => ?_) (fun c5 H7 => ?_)
    ·obtain rfl:=sI H6;exact pB 1 [r0 [.v,.c true bT,.v,.v,.v,.e bF,.v,.v,.v,.e bT,.v,.v,.s,.s,.s,.s,.v]] [.only [0,1,4,5,6,7,36] [6]] (ir x0 x1 true) (aC Tryz.call13 (aC (bG.eq (cQ _ _ h0) (cB c0)) (aT (aB c3 (aB c4 aN)))))
    ·refine aR H7 fun y1 h2 H8 => ?_;obtain rfl:=sI H8;exact pB 1 [r0 [.v,.c true bT,.v,.v,.v,.e bF,.v,.v,.v,.e bF,.v,.v,.v,.c true (iI y1),.v,.v,.v]] [.only [0,1,4,5,6,7,36] [6]] (ir x0 x1 (decide (y1≥x1))) (aC Tryz.call13 (aC (bG.eq (cQ _ _ h0) (cB c0)) (aT (aB c3 (aB c5 (aC Tryz.call41 (aF (vb _ _ h2) aN)))))))
  ·obtain rfl:=sI H3;exact pB 1 [r0 [.v,.c true bF,.v,.v,.s,.s,.v,.v,.s,.s,.v,.v,.s,.s,.s,.s,.v]] [.only [0,1,4,5,6,7,36] [6]] (ir x0 x1 true) (aC Tryz.call13 (aC (bG.eq (cQ _ _ h0) (cB c1)) (aT aN)))
 ·refine aV H1 (fun c6 H9 => ?_) (fun c7 H10 => ?_)
  ·obtain rfl:=sI H9;exact pR 5 [.eqT 36 bT,r0 [.b,.v,.v,.m,.v]] [.wk 4 [],.wkH 6 0 []] [] (aB c6 aN)
  ·refine aV H10 (fun c8 H11 => ?_) (fun c9 H12 => ?_)
   ·obtain rfl:=sI H11;exact pR 11 [.eqT 36 bF,r0 [.v,.e (nI x0.length),.v],.eqT 40 bT,r0 [.b,.v,.v,.m,.v]] [.wk 4 [],.wkH 6 0 []] [] (aB c7 (aT (aC (aQ aw x0) (aB c8 aN))))
   ·have c9p:=MI c9;refine pA 17 [.eqT 36 bF,r0 [.v,.e (nI x0.length),.v],.eqT 40 bF,r0 [.v,.b,.m,.v],V1,V1] [.er 9 61 3 1,.only [0,4,5,6,7,8,9,10] [6,44,61]] 15 [false,false] (nO x0 x1 0 []) (aB c7 (aT (aC (aQ aw x0) (aB c9 aN)))) ?_;refine aR H12 fun R0 h3 H13 => ?_;refine pJ 1 (rv x0 x1) R0 ?_ (fun u0 e0 => ?_)
    ·refine pC (nO x0 x1) h3 (fun i0 s0 h4 e1 => ?_) (fun i0 s0 h5 q0 h6 h7 => ?_)
     ·have c10:=lF i0 x0.length (by omega);subst e1;exact pB 5 [r0 [.v,.v,.e (nI x0.length),.e bF]] [.only [0,4,5,6,7,8,9] [6,44,61]] (rv x0 x1 s0) (aT (aC (aQ aw x0) (aB c10 aN)))
     ·have c11:=lT i0 x0.length (by omega);refine aR h6 fun y2 h8 H14 => ?_;refine pD 9 [r0 [.v,.v,.e (nI x0.length),.e bT],r0 [.v,.v,.e (.dptr (aw (x0.getD i0 aG))),.v,.b,.cw true [(1,[(1,0)])] (.bool y2),.v]] [.only [0,4,5,6,7,8,9,10,57] [6,44,61]] 9 [true] (aT (aC (aQ aw x0) (aB c11 (aI bo x0 i0 aG (aC Tryz.call11 (aF (sW _ _ _ h8) (aT aN))))))) ?_;refine aR H14 fun v1 h9 H15 => ?_;refine bV 1 (ns x0 x1 i0 v1) (by kernel_rfl) ?_ ?_
      ·refine aV h9 (fun c12 H16 => ?_) (fun c13 H17 => ?_)
       ·refine bZ H16 fun e2 => ?_;subst e2;exact pB 3 [.eqT 57 bF] [.only [0,4,5,6,7,8,9,10] [6,44,61]] (ns x0 x1 i0 s0) (aM c12 aN)
       ·refine aL H17 fun g0 H18 => ?_;obtain rfl:=sI H18;exact pB 3 [.eqT 57 bT,r0 [.v,.v,.b,.ap,.rwH 61 (.row 3 1 ((s0++[((i0:Nat):Int)]).map ao)),.v]] [.only [0,4,5,6,7,8,9,10] [6,44,61]] (ns x0 x1 i0 (s0++[((i0:Nat):Int)])) (aM c13 (bp (tT (c:=ao) hU s0 [((i0:Nat):Int)] 8 (by decide) (by first | (simp;done) | simpa using g0)) (aC (wA 3 1 ao s0 [((i0:Nat):Int)]) aN)))
      ·refine bO 0 (ps:=[(x0.map aw).length≤9223372036854775807]) (by kernel_rfl) (fun l0 => ?_);have l1:x0.length≤9223372036854775807:=by simpa only [cu,MM] using l0
       clear l0;obtain rfl:=sI H15;exact pB 1 [V3] [.only [0,4,5,6,7,8,9,10] [6,44,61]] (nO x0 x1 (i0+1) v1) (aH i0 aN)
    ·subst e0;have H19:=a8 H13;refine pA 4 [V1] [.erH 44 0 90 100 5,.only [0,4,5,6,7,8,9,11] [6,44,61,90]] 4 [] (nV x0 x1 u0 0 []) aN ?_;refine aR H19 fun R1 h10 H20 => ?_;refine pJ 1 (rE x0 x1 u0) R1 ?_ (fun u1 e3 => ?_)
     ·refine pC (nV x0 x1 u0) h10 (fun i1 s1 h11 e4 => ?_) (fun i1 s1 h12 q1 h13 h14 => ?_)
      ·have c14:=lF i1 u0.length (by omega);subst e4;exact pB 5 [r0 [.v,.v,.e (nI u0.length),.e bF]] [.only [0,4,5,6,7,8,9] [6,44,61,90]] (rE x0 x1 u0 s1) (aT (aC (aQ ao u0) (aB c14 aN)))
      ·have c15:=lT i1 u0.length (by omega);refine aL h13 fun g1 H21 => ?_;refine aL H21 fun g2 H22 => ?_;refine aL H22 fun g3 H23 => ?_;refine aL H23 fun g4 H24 => ?_;refine oF 61 (n:=(u0.map ao).length) (by kernel_rfl) (fun l2 => ?_);have l3:u0.length≤9223372036854775807:=by simpa only [MM] using l2
       clear l2;obtain rfl:=sI H24;exact pB 15 [r0 [.v,.v,.e (nI u0.length),.e bT],.rg 12 (V 4 [.rl i1 0 (iI (u0.getD i1 0)),.e (.dptr (aw (x0.getD (u0.getD i1 0).toNat aG))),.v,.v,.e (nI u0.length),.mkx u0.length ((List.replicate u0.length (0:Int)).map ao),.b,.m]) [.m],r0 (V 4 [.rs i1 0,.rwH 77 (.row 3 1 (((List.replicate u0.length (0:Int)).set i1 1).map ao))]),.cv [.fz 77],.cv [.ren [(6,6),(12,12),(44,44),(61,61),(90,900)]],.rg 8 (V 4 [.lt,.v,.b,.apx ((s1++[(ak.mk (Linear.mk ((x0.getD (u0.getD i1 0).toNat aG).Const) ((x0.getD (u0.getD i1 0).toNat aG).Terms)) ((List.replicate u0.length (0:Int)).set i1 1) 1 false)]).map ai)]) [.v,.v,.m],V3] [.only [0,4,5,6,7,8,9,11] [6,44,61,90]] (nV x0 x1 u0 (i1+1) (s1++[(ak.mk (Linear.mk ((x0.getD (u0.getD i1 0).toNat aG).Const) ((x0.getD (u0.getD i1 0).toNat aG).Terms)) ((List.replicate u0.length (0:Int)).set i1 1) 1 false)])) (aT (aC (aQ ao u0) (aB c15 (aC (show (0:Int)≤((i1:Nat):Int)∧((i1:Nat):Int)<((u0.map ao).length:Int) from by rw [MM];omega) (aC (dI (f:=ao) (l:=u0) (n:=i1) 1 0 1 (by omega) (by decide)) (aC (ot (f:=ao) (l:=u0) (n:=i1) 0 0 (by omega)) (bp (IZ (f:=aw) (l:=x0) (n:=(u0.getD i1 0)) aG bo (by decide) (by exact g1)) (aT (aC (aQ ao u0) (aC (show (((u0.length:Nat):Int)=((u0.length:Nat):Int)∧((u0.length:Nat):Int)=((u0.length:Nat):Int)∧8*u0.length≤140737488355328∧u0.length≤9223372036854775807)∧List.replicate u0.length (zQ Tryz.prog 3)=(List.replicate u0.length (0:Int)).map ao from ⟨⟨rfl,rfl,by omega,by omega⟩,IA ao (0:Int) u0.length (by kernel_rfl)⟩) (aC (show (0:Int)≤((i1:Nat):Int)∧((i1:Nat):Int)<(((List.replicate u0.length (0:Int)).map ao).length:Int) from by rw [MM];omega) (aC (dI (f:=ao) (l:=(List.replicate u0.length (0:Int))) (n:=i1) 1 0 1 (by omega) (by decide)) (aC (qS (f:=ao) 3 1 (List.replicate u0.length (0:Int)) i1 0 1 0 [iI 1] (by omega) rfl) (bp (Ig (c:=ai) qp s1 [(ak.mk (Linear.mk ((x0.getD (u0.getD i1 0).toNat aG).Const) ((x0.getD (u0.getD i1 0).toNat aG).Terms)) ((List.replicate u0.length (0:Int)).set i1 1) 1 false)] 72 (by decide) (by first | (simp;done) | simpa using g4) List.map_append.symm) (aH i1 aN)))))))))))))))
     ·subst e3;have H25:=a8 H20;refine pA 4 [V1] [.erH 44 1 902 41 7,.erH 44 2 903 41 7,.only [0,4,5,6,7,8,9,13] [6,44,61,90,902,903]] 4 [] (nU x0 u0 0 (u1,[],[],x1)) aN ?_;refine aR H25 fun R2 h15 H26 => ?_;refine pJ 1 (rL x0) R2 ?_ (fun u3 e5 => ?_)
      ·refine pC (nU x0 u0) h15 (fun i2 s2 h16 e6 => ?_) (fun i2 s2 h17 q2 h18 h19 => ?_)
       ·have c16:=lF i2 u0.length (by omega);subst e6;exact pB 5 [r0 [.v,.v,.e (nI u0.length),.e bF]] [.only [0,4,5,6,7,8] [6,44,90,902,903]] (rL x0 (s2.1,s2.2.1,s2.2.2.1,s2.2.2.2)) (aT (aC (aQ ao u0) (aB c16 aN)))
       ·have c17:=lT i2 u0.length (by omega);refine pA 8 [r0 [.v,.v,.e (nI u0.length),.e bT]] [.ren [(6,6),(44,44),(61,61),(90,90),(902,900),(903,901)],.only [0,4,5,6,7,8,9,13] [6,44,61,90,900,901]] 8 [true] (nC x0 u0 i2 (s2.1,s2.2.1,s2.2.2.1,s2.2.2.2)) (aT (aC (aQ ao u0) (aB c17 aN))) ?_;refine aR h18 fun R3 h20 H27 => ?_;refine pJ 2 (qR x0 u0 i2) R3 ?_ (fun u2 e7 => ?_)
        ·refine lB (nC x0 u0 i2) (by kernel_rfl) h20 (fun s3 q3 h21 h22 => ?_)
         ·refine aL h21 fun g5 H28 => ?_;refine aR H28 fun y3 h23 H29 => ?_;refine pD 3 [r0 (V 7 [.rl i2 0 (.agg (aw ((s3.1.getD i2 ae).q))),.b,.cw true [(1,[(1,0)])] (.bool y3),.v])] [.only [0,4,5,6,7,8,9,13,109] [6,44,61,90,900,901]] 3 [] (aC (show (0:Int)≤((i2:Nat):Int)∧((i2:Nat):Int)<((s3.1.map ai).length:Int) from by rw [MM];omega) (aC (dI (f:=ai) (l:=s3.1) (n:=i2) 5 0 2 (by omega) (by decide)) (aC (yK (f:=ai) (l:=s3.1) (n:=i2) ae 0 2 (by omega)) (aC Tryz.call11 (aF (sW _ _ _ h23) (aT aN)))))) ?_;refine aV H29 (fun c18 H30 => ?_) (fun c19 H31 => ?_)
          ·obtain rfl:=sI H30;obtain rfl:=dM h22;exact pB 3 [.eqT 109 bF] [.only [0,4,5,6,7,8,9,13] [6,44,61,90,900,901]] (qR x0 u0 i2 (s3.1,s3.2.1,s3.2.2.1,s3.2.2.2)) (aM c18 aN)
          ·refine aR H31 fun y4 h24 H32 => ?_;refine pD 8 [.eqT 109 bT,r0 [.v,.v,.hM [(44,1000),(90,1001),(900,1002),(901,1003)] [(0,902),(1,903)] (.tup [.agg [dS ao y4.1.1.Mults,iI y4.1.1.Mod],iI y4.1.2]) [(0,.row 41 7 (y4.2.2.2.1.map az)),(1,.row 41 7 (y4.2.2.2.2.map az)),(1000,.cells 98 [.rslice 1001,.rslice 0,.rslice 1,iI y4.2.1]),(1001,.row 100 5 (y4.2.2.1.map ai))],.v,.v,.v,.m,.m,.v],V2] [.only [0,4,5,6,7,8,9,13,14,15,117] [6,14,44,61,90,902,903]] 7 [true] (aM c19 (aC Tryz.call42 (aC (sQ _ _ _ _ _ _ h24) aN))) ?_;refine aV H32 (fun c20 H33 => ?_) (fun c21 H34 => ?_)
           ·obtain rfl:=sI H33;exact pB 3 [.eqT 117 bF] [.ren [(6,6),(44,44),(61,61),(90,90),(902,900),(903,901)],.only [0,4,5,6,7,8,9,13] [6,44,61,90,900,901]] (nC x0 u0 i2 (y4.2.2.1,y4.2.2.2.1,y4.2.2.2.2,y4.2.1)) (aM c20 aN)
           ·refine aR H34 fun y5 h25 H35 => ?_;obtain rfl:=sI H35;obtain rfl:=aW h22;obtain rfl:=sI (aP H27);obtain rfl:=aW h19;obtain rfl:=sI (aP H26);exact pR 5 [.eqT 117 bT,r0 [.v,.v,.v,.e (nI x0.length),.fz 61,.c true (.agg [dS ao y5.Mults,iI y5.Mod]),.v,.v,.v,.m,.v]] [.wk 4 []] [] (aM c21 (aT (aC (aQ aw x0) (aC Tryz.call43 (aF (xd _ _ _ _ h25) aN)))))
        ·subst e7;have H36:=bl H27;refine oF 61 (n:=(u0.map ao).length) (by kernel_rfl) (fun l4 => ?_);have l5:u0.length≤9223372036854775807:=by simpa only [MM] using l4
         clear l4;obtain rfl:=sI H36;exact pB 1 [V3] [.ren [(6,6),(44,44),(61,61),(90,90),(900,902),(901,903)],.only [0,4,5,6,7,8,9,13] [6,44,61,90,902,903]] (nU x0 u0 (i2+1) (u2.1,u2.2.1,u2.2.2.1,u2.2.2.2)) (aH i2 aN)
      ·subst e5;have H37:=bl H26;refine aV H37 (fun c22 H38 => ?_) (fun c23 H39 => ?_)
       ·obtain rfl:=sI H38;exact pR 8 [V5,.eqT 128 bT,r0 [.b,.v,.v,.m,.v]] [.wk 4 [],.wkH 6 0 []] [] (aB c22 aN)
       ·have c23p:=MI c23;refine aR H39 fun y6 h26 H40 => ?_;refine pA 14 [V5,.eqT 128 bF,V1,r0 [.v,.c true (dS bq y6),.v],V1] [.er 16 169 41 7,.only [4,5,6,7,8,16,17,18] [6,44,90,169,902,903]] 13 [false] (lQ u3 y6 0 []) (aB c23 (aC Tryz.call44 (aF (qj _ _ h26) aN))) ?_;refine aR H40 fun R4 h27 H41 => ?_;refine pJ 1 (qP u3) R4 ?_ (fun u5 e8 => ?_)
        ·refine pC (lQ u3 y6) h27 (fun i3 s4 h28 e9 => ?_) (fun i3 s4 h29 q4 h30 h31 => ?_)
         ·have c24:=lF i3 y6.length (by omega);subst e9;exact pB 5 [r0 [.v,.v,.e (nI y6.length),.e bF]] [.only [4,5,6,7,8,16] [6,44,90,169,902,903]] (qP u3 s4) (aT (aC (aQ bq y6) (aB c24 aN)))
         ·have c25:=lT i3 y6.length (by omega);refine pA 10 [r0 [.v,.v,.e (nI y6.length),.e bT],V1] [.only [4,5,6,7,8,16,17,18,19] [6,44,90,169,902,903]] 10 [true] (lN u3 y6 i3 0 s4) (aT (aC (aQ bq y6) (aB c25 aN))) ?_;refine aR h30 fun R5 h32 H42 => ?_;refine pJ 2 (qJ u3 y6 i3) R5 ?_ (fun u4 e10 => ?_)
          ·refine pC (lN u3 y6 i3) h32 (fun i4 s5 h33 e11 => ?_) (fun i4 s5 h34 q5 h35 h36 => ?_)
           ·have c26:=lF i4 u3.2.1.length (by omega);subst e11;exact pB 5 [r0 (V 5 [.e (nI u3.2.1.length),.e bF])] [.only [4,5,6,7,8,16,17,18] [6,44,90,169,902,903]] (qJ u3 y6 i3 s5) (aT (aC (aQ az u3.2.1) (aB c26 aN)))
           ·have c27:=lT i4 u3.2.1.length (by omega);refine pD 9 [r0 (V 5 [.e (nI u3.2.1.length),.e bT]),.rg 12 (V 7 [.rl i4 1 (.str ((u3.2.1.getD i4 ax).Var)),.v,.v,.e (.dptr [.str (y6.getD i3 [])]),.v]) [.v]] [.only [4,5,6,7,8,16,17,18,19,159] [6,44,90,169,902,903]] 9 [true] (aT (aC (aQ az u3.2.1) (aB c27 (aC (show (0:Int)≤((i4:Nat):Int)∧((i4:Nat):Int)<((u3.2.1.map az).length:Int) from by rw [MM];omega) (aC (dI (f:=az) (l:=u3.2.1) (n:=i4) 7 1 1 (by omega) (by decide)) (aC (ot (f:=az) (l:=u3.2.1) (n:=i4) ax 1 (by omega)) (aI mY y6 i3 [] aN))))))) ?_;refine aR h35 fun v2 h37 H43 => ?_;refine bV 1 (lY u3 y6 i3 i4 v2) (by kernel_rfl) ?_ ?_
            ·refine aV h37 (fun c28 H44 => ?_) (fun c29 H45 => ?_)
             ·refine aL H44 fun g6 H46 => ?_;obtain rfl:=sI H46;exact pB 3 [.eqT 159 bT,r0 (V 7 [.rl i4 0 (.agg (az (u3.2.1.getD i4 ax))),.b,.ap,.rwH 169 (.row 41 7 ((s5++[(Bind.mk ((u3.2.1.getD i4 ax).Kind) ((u3.2.1.getD i4 ax).Var) (Linear.mk (((u3.2.1.getD i4 ax).Dim).Const) (((u3.2.1.getD i4 ax).Dim).Terms)) (Shape.mk (((u3.2.1.getD i4 ax).Row).Row) (((u3.2.1.getD i4 ax).Row).Dims)) ((u3.2.1.getD i4 ax).Elem))]).map az)),.v])] [.only [4,5,6,7,8,16,17,18,19] [6,44,90,169,902,903]] (lY u3 y6 i3 i4 (s5++[(Bind.mk ((u3.2.1.getD i4 ax).Kind) ((u3.2.1.getD i4 ax).Var) (Linear.mk (((u3.2.1.getD i4 ax).Dim).Const) (((u3.2.1.getD i4 ax).Dim).Terms)) (Shape.mk (((u3.2.1.getD i4 ax).Row).Row) (((u3.2.1.getD i4 ax).Row).Dims)) ((u3.2.1.getD i4 ax).Elem))])) (aB c28 (aC (show (0:Int)≤((i4:Nat):Int)∧((i4:Nat):Int)<((u3.2.1.map az).length:Int) from by rw [MM];omega) (aC (dI (f:=az) (l:=u3.2.1) (n:=i4) 7 0 7 (by omega) (by decide)) (aC (yK (f:=az) (l:=u3.2.1) (n:=i4) ax 0 7 (by omega)) (bp (tT (c:=az) ru s5 [(Bind.mk ((u3.2.1.getD i4 ax).Kind) ((u3.2.1.getD i4 ax).Var) (Linear.mk (((u3.2.1.getD i4 ax).Dim).Const) (((u3.2.1.getD i4 ax).Dim).Terms)) (Shape.mk (((u3.2.1.getD i4 ax).Row).Row) (((u3.2.1.getD i4 ax).Row).Dims)) ((u3.2.1.getD i4 ax).Elem))] 112 (by decide) (by first | (simp;done) | simpa using g6)) (aC (wA 41 7 az s5 [(Bind.mk ((u3.2.1.getD i4 ax).Kind) ((u3.2.1.getD i4 ax).Var) (Linear.mk (((u3.2.1.getD i4 ax).Dim).Const) (((u3.2.1.getD i4 ax).Dim).Terms)) (Shape.mk (((u3.2.1.getD i4 ax).Row).Row) (((u3.2.1.getD i4 ax).Row).Dims)) ((u3.2.1.getD i4 ax).Elem))]) aN))))))
             ·refine bZ H45 fun e12 => ?_;subst e12;exact pB 3 [.eqT 159 bF] [.only [4,5,6,7,8,16,17,18,19] [6,44,90,169,902,903]] (lY u3 y6 i3 i4 s5) (aB c29 aN)
            ·refine oF 902 (n:=(u3.2.1.map az).length) (by kernel_rfl) (fun l6 => ?_);have l7:u3.2.1.length≤9223372036854775807:=by simpa only [MM] using l6
             clear l6;obtain rfl:=sI H43;exact pB 1 [V3] [.only [4,5,6,7,8,16,17,18,19] [6,44,90,169,902,903]] (lN u3 y6 i3 (i4+1) v2) (aH i4 aN)
          ·subst e10;have H47:=a8 H42;refine bO 17 (ps:=[(y6.map bq).length≤9223372036854775807]) (by kernel_rfl) (fun l8 => ?_);have l9:y6.length≤9223372036854775807:=by simpa only [cu,MM] using l8
           clear l8;obtain rfl:=sI H47;exact pB 1 [V3] [.only [4,5,6,7,8,16,17,18] [6,44,90,169,902,903]] (lQ u3 y6 (i3+1) u4) (aH i3 aN)
        ·subst e8;have H48:=a8 H41;obtain rfl:=sI H48;exact pR 3 [.rg 8 (V 5 [.b,.v,.v]) [.m,.v]] [.fz 169,.wkH 6 0 []] [] aN
noncomputable def dJ (x0:List Linear) (x1:Int×Int×Int×Int):Option Bool :=
 (jP).bind fun y0 =>
 bif y0 then (
  (pP x0 4).bind fun y1 =>
  bif y1 then (
   (im x0).bind fun y2 =>
   bif y2 then (
    (lu x0 20).bind fun y3 =>
    bif y3 then (
     bf (([(Value.mk [110] ((IntKind.wrap .i64 x1.1).tmod 21))].length+1)*24≤140737488355328) <|
     bf ((([(Value.mk [110] ((IntKind.wrap .i64 x1.1).tmod 21))]++[(Value.mk [109] ((IntKind.wrap .i64 x1.2.1).tmod 21))]).length+1)*24≤140737488355328) <|
     bf (((([(Value.mk [110] ((IntKind.wrap .i64 x1.1).tmod 21))]++[(Value.mk [109] ((IntKind.wrap .i64 x1.2.1).tmod 21))])++[(Value.mk [107] ((IntKind.wrap .i64 x1.2.2.1).tmod 21))]).length+1)*24≤140737488355328) <|
     (la x0 ((([(Value.mk [110] ((IntKind.wrap .i64 x1.1).tmod 21))]++[(Value.mk [109] ((IntKind.wrap .i64 x1.2.1).tmod 21))])++[(Value.mk [107] ((IntKind.wrap .i64 x1.2.2.1).tmod 21))])++[(Value.mk [97] ((IntKind.wrap .i64 x1.2.2.2).tmod 21))])).bind fun y4 =>
     bif y4 then (
      (bJ x0 1).bind fun y5 =>
      bif (y5.2.2.2==0) then (
       (dn (σ:=((List Value)×(List Linear))) (ε:=(List Linear)) (ρ:=Empty) (fun i0 s0 =>
        (cW (Linear.mk 0 []) (Linear.mk (((y5.1.getD i0 ax).Dim).Const) (((y5.1.getD i0 ax).Dim).Terms)) 1).bind fun y6 =>
        (cr y6 [110]).bind fun y7 =>
        (bQ y6 [110] (aK (0-y7))).bind fun y8 =>
        bf (0<s0.1.length) <|
        ((
         bif ([110]==((y5.1.getD i0 ax).Var)) then (
          some (aK ((aK (y8.Const+(aK (y7*((s0.1.getD 0 bu).N)))))-((s0.1.getD 0 bu).N)))
         ) else (
          some (aK (y8.Const+(aK (y7*((s0.1.getD 0 bu).N)))))
         )
        ):Option Int).bind fun v0 =>
        (cr (Linear.mk v0 y8.Terms) [109]).bind fun y9 =>
        (bQ (Linear.mk v0 y8.Terms) [109] (aK (0-y9))).bind fun y10 =>
        bf (1<s0.1.length) <|
        ((
         bif ([109]==((y5.1.getD i0 ax).Var)) then (
          some (aK ((aK (y10.Const+(aK (y9*((s0.1.getD 1 bu).N)))))-((s0.1.getD 1 bu).N)))
         ) else (
          some (aK (y10.Const+(aK (y9*((s0.1.getD 1 bu).N)))))
         )
        ):Option Int).bind fun v1 =>
        (cr (Linear.mk v1 y10.Terms) [107]).bind fun y11 =>
        (bQ (Linear.mk v1 y10.Terms) [107] (aK (0-y11))).bind fun y12 =>
        bf (2<s0.1.length) <|
        ((
         bif ([107]==((y5.1.getD i0 ax).Var)) then (
          some (aK ((aK (y12.Const+(aK (y11*((s0.1.getD 2 bu).N)))))-((s0.1.getD 2 bu).N)))
         ) else (
          some (aK (y12.Const+(aK (y11*((s0.1.getD 2 bu).N)))))
         )
        ):Option Int).bind fun v2 =>
        (cr (Linear.mk v2 y12.Terms) [97]).bind fun y13 =>
        (bQ (Linear.mk v2 y12.Terms) [97] (aK (0-y13))).bind fun y14 =>
        bf (3<s0.1.length) <|
        ((
         bif ([97]==((y5.1.getD i0 ax).Var)) then (
          some (aK ((aK (y14.Const+(aK (y13*((s0.1.getD 3 bu).N)))))-((s0.1.getD 3 bu).N)))
         ) else (
          some (aK (y14.Const+(aK (y13*((s0.1.getD 3 bu).N)))))
         )
        ):Option Int).bind fun v3 =>
        bf ((s0.2.length+1)*32≤140737488355328) <|
        some (.go (s0.1,(s0.2++[(Linear.mk v3 y14.Terms)])))
       ) (fun i0 s0=>s0.2) (y5.1.length-0) 0 (((([(Value.mk [110] ((IntKind.wrap .i64 x1.1).tmod 21))]++[(Value.mk [109] ((IntKind.wrap .i64 x1.2.1).tmod 21))])++[(Value.mk [107] ((IntKind.wrap .i64 x1.2.2.1).tmod 21))])++[(Value.mk [97] ((IntKind.wrap .i64 x1.2.2.2).tmod 21))]),[])).bind <| ca fun u0 =>
       (lg u0 (if 1>y5.2.1 then 1 else y5.2.1)).bind fun y15 =>
       some (y15.2.2.2 != 9)
      ) else (
       some (y5.2.2.2==3)
      )
     ) else (
      some true
     )
    ) else (
     some true
    )
   ) else (
    some true
   )
  ) else (
   some true
  )
 ) else (
  some false
 )
def ep (y5:(List Bind)×Int×al×Int) (i0:Nat) (s0:(List Value)×(List Linear)):AS:=⟨141,[(4,.bool false),(5,.rslice 52),(6,.hptr 6 0),(8,dS az y5.1),(9,iI y5.2.1),(12,.rslice 129),(13,nI i0)],[(6,.cells 47 [.str [110],.str [109],.str [107],.str [97]]),(52,.row 49 2 (s0.1.map bj)),(129,.row 34 2 (s0.2.map aw))]⟩
def ia (y5:(List Bind)×Int×al×Int) (u1:List Linear):AS:=⟨141,[(4,.bool false),(9,iI y5.2.1),(12,.rslice 129)],[(129,.row 34 2 (u1.map aw))]⟩
def eL (y5:(List Bind)×Int×al×Int) (i0:Nat) (s0:(List Value)×(List Linear)) (y8:Linear) (v0:Int):AS:=⟨141,[(4,.bool false),(5,.rslice 52),(6,.hptr 6 0),(8,dS az y5.1),(9,iI y5.2.1),(12,.rslice 129),(13,nI i0),(14,.hptr 14 0),(15,iI 0)],[(6,.cells 47 [.str [110],.str [109],.str [107],.str [97]]),(14,.cells 34 [iI v0,dS aq y8.Terms]),(52,.row 49 2 (s0.1.map bj)),(129,.row 34 2 (s0.2.map aw))]⟩
def eh (y5:(List Bind)×Int×al×Int) (i0:Nat) (s0:(List Value)×(List Linear)) (y10:Linear) (v1:Int):AS:=⟨141,[(4,.bool false),(5,.rslice 52),(6,.hptr 6 0),(8,dS az y5.1),(9,iI y5.2.1),(12,.rslice 129),(13,nI i0),(14,.hptr 14 0),(15,iI 1)],[(6,.cells 47 [.str [110],.str [109],.str [107],.str [97]]),(14,.cells 34 [iI v1,dS aq y10.Terms]),(52,.row 49 2 (s0.1.map bj)),(129,.row 34 2 (s0.2.map aw))]⟩
def eB (y5:(List Bind)×Int×al×Int) (i0:Nat) (s0:(List Value)×(List Linear)) (y12:Linear) (v2:Int):AS:=⟨141,[(4,.bool false),(5,.rslice 52),(6,.hptr 6 0),(8,dS az y5.1),(9,iI y5.2.1),(12,.rslice 129),(13,nI i0),(14,.hptr 14 0),(15,iI 2)],[(6,.cells 47 [.str [110],.str [109],.str [107],.str [97]]),(14,.cells 34 [iI v2,dS aq y12.Terms]),(52,.row 49 2 (s0.1.map bj)),(129,.row 34 2 (s0.2.map aw))]⟩
def eE (y5:(List Bind)×Int×al×Int) (i0:Nat) (s0:(List Value)×(List Linear)) (y14:Linear) (v3:Int):AS:=⟨141,[(4,.bool false),(5,.rslice 52),(6,.hptr 6 0),(8,dS az y5.1),(9,iI y5.2.1),(12,.rslice 129),(13,nI i0),(14,.hptr 14 0),(15,iI 3)],[(6,.cells 47 [.str [110],.str [109],.str [107],.str [97]]),(14,.cells 34 [iI v3,dS aq y14.Terms]),(52,.row 49 2 (s0.1.map bj)),(129,.row 34 2 (s0.2.map aw))]⟩
theorem oo (x0:List Linear) (x1:Int×Int×Int×Int) (r:Bool) (H:dJ x0 x1=some r):bG Tryz.prog 4 [dS aw x0,.agg [.int .i8 x1.1,.int .i8 x1.2.1,.int .i8 x1.2.2.1,.int .i8 x1.2.2.2]] (.bool r):=by
 unfold dJ at H;refine aX Tryz.func4 141 [.tmp 4] ?_;refine aR H fun y0 h0 H0 => ?_;refine aV H0 (fun c0 H1 => ?_) (fun c1 H2 => ?_)
 ·refine aR H1 fun y1 h1 H3 => ?_;refine aV H3 (fun c2 H4 => ?_) (fun c3 H5 => ?_)
  ·refine aR H4 fun y2 h2 H6 => ?_;refine aV H6 (fun c4 H7 => ?_) (fun c5 H8 => ?_)
   ·refine aR H7 fun y3 h3 H9 => ?_;refine pD 11 [r0 [.m,.v],r0 [.c true (.bool y0),.v],.eqT 22 bF,r0 [.v,.c true bT,.v,.v,.v,.c true bT,.v,.v,.v,.v,.c true (.bool y3),.v,.v]] [.only [0,3,4,35] [3]] 10 [false] (aC Tryz.call7 (aF (kZ _ h0) (aT (aM c0 (aC Tryz.call8 (aC (bG.eq (q9 _ _ _ h1) (cB c2)) (aT (aC Tryz.call13 (aC (bG.eq (cQ _ _ h2) (cB c4)) (aT (aC Tryz.call14 (aF (yM _ _ _ h3) (aT aN))))))))))))) ?_;refine aV H9 (fun c6 H10 => ?_) (fun c7 H11 => ?_)
    ·refine aL H10 fun g0 H12 => ?_;refine aL H12 fun g1 H13 => ?_;refine aL H13 fun g2 H14 => ?_;refine aR H14 fun y4 h4 H15 => ?_;refine pD 60 [.eqT 35 bF,V1,r0 [.b,.m,.m],V1,.un,V2,.rg 11 (V 9 [.b,.b]) [.er 41 52 49 2,.ap,.rwH 52 (.row 49 2 ([(Value.mk [110] ((IntKind.wrap .i64 x1.1).tmod 21))].map bj)),.v],V3,.cv [.only [0,3,4,5,6,7] [3,6,52]],V2,.rg 11 (V 9 [.b,.b]) [.ap,.rwH 52 (.row 49 2 (([(Value.mk [110] ((IntKind.wrap .i64 x1.1).tmod 21))]++[(Value.mk [109] ((IntKind.wrap .i64 x1.2.1).tmod 21))]).map bj)),.v],V3,.cv [.only [0,3,4,5,6,7] [3,6,52]],V2,.rg 11 (V 9 [.b,.b]) [.ap,.rwH 52 (.row 49 2 ((([(Value.mk [110] ((IntKind.wrap .i64 x1.1).tmod 21))]++[(Value.mk [109] ((IntKind.wrap .i64 x1.2.1).tmod 21))])++[(Value.mk [107] ((IntKind.wrap .i64 x1.2.2.1).tmod 21))]).map bj)),.v],V3,.cv [.only [0,3,4,5,6,7] [3,6,52]],V2,.rg 11 (V 9 [.b,.b]) [.ap,.rwH 52 (.row 49 2 (((([(Value.mk [110] ((IntKind.wrap .i64 x1.1).tmod 21))]++[(Value.mk [109] ((IntKind.wrap .i64 x1.2.1).tmod 21))])++[(Value.mk [107] ((IntKind.wrap .i64 x1.2.2.1).tmod 21))])++[(Value.mk [97] ((IntKind.wrap .i64 x1.2.2.2).tmod 21))]).map bj)),.v],V3,.cv [.only [0,3,4,5,6,7] [3,6,52]],V2,r0 [.v,.v,.c false (.bool y4),.v]] [.only [0,4,5,6,56] [6,52]] 55 [false,true,true,true,true,false] (aM c6 (aT (aT (aT (aC (show (21:Int)≠0 from (by decide)) (bp (tT (c:=bj) sD [] [(Value.mk [110] ((IntKind.wrap .i64 x1.1).tmod 21))] 24 (by decide) (by simp)) (aC (Ll 49 2 bj [(Value.mk [110] ((IntKind.wrap .i64 x1.1).tmod 21))]) (aO (0+1) (aT (aT (aT (aC (show (21:Int)≠0 from (by decide)) (bp (tT (c:=bj) sD [(Value.mk [110] ((IntKind.wrap .i64 x1.1).tmod 21))] [(Value.mk [109] ((IntKind.wrap .i64 x1.2.1).tmod 21))] 24 (by decide) (by first | (simp;done) | simpa using g0)) (aC (wA 49 2 bj [(Value.mk [110] ((IntKind.wrap .i64 x1.1).tmod 21))] [(Value.mk [109] ((IntKind.wrap .i64 x1.2.1).tmod 21))]) (aO (1+1) (aT (aT (aT (aC (show (21:Int)≠0 from (by decide)) (bp (tT (c:=bj) sD ([(Value.mk [110] ((IntKind.wrap .i64 x1.1).tmod 21))]++[(Value.mk [109] ((IntKind.wrap .i64 x1.2.1).tmod 21))]) [(Value.mk [107] ((IntKind.wrap .i64 x1.2.2.1).tmod 21))] 24 (by decide) (by first | (simp;done) | simpa using g1)) (aC (wA 49 2 bj ([(Value.mk [110] ((IntKind.wrap .i64 x1.1).tmod 21))]++[(Value.mk [109] ((IntKind.wrap .i64 x1.2.1).tmod 21))]) [(Value.mk [107] ((IntKind.wrap .i64 x1.2.2.1).tmod 21))]) (aO (2+1) (aT (aT (aT (aC (show (21:Int)≠0 from (by decide)) (bp (tT (c:=bj) sD (([(Value.mk [110] ((IntKind.wrap .i64 x1.1).tmod 21))]++[(Value.mk [109] ((IntKind.wrap .i64 x1.2.1).tmod 21))])++[(Value.mk [107] ((IntKind.wrap .i64 x1.2.2.1).tmod 21))]) [(Value.mk [97] ((IntKind.wrap .i64 x1.2.2.2).tmod 21))] 24 (by decide) (by first | (simp;done) | simpa using g2)) (aC (wA 49 2 bj (([(Value.mk [110] ((IntKind.wrap .i64 x1.1).tmod 21))]++[(Value.mk [109] ((IntKind.wrap .i64 x1.2.1).tmod 21))])++[(Value.mk [107] ((IntKind.wrap .i64 x1.2.2.1).tmod 21))]) [(Value.mk [97] ((IntKind.wrap .i64 x1.2.2.2).tmod 21))]) (aO (3+1) (aC Tryz.call15 (aF (yR _ _ _ h4) (aT aN)))))))))))))))))))))))))))))))) ?_;refine aV H15 (fun c8 H16 => ?_) (fun c9 H17 => ?_)
     ·refine aR H16 fun y5 h5 H18 => ?_;refine aV H18 (fun c10 H19 => ?_) (fun c11 H20 => ?_)
      ·refine pA 17 [.eqT 56 bF,.rg 0 [] [.v,.c true (.tup [.dslice (y5.1.map az),.int .i64 y5.2.1,.agg [.dslice (y5.2.2.1.Mults.map ao),.int .i64 y5.2.2.1.Mod],.int .i64 y5.2.2.2]),.v,.v,.v,.v,.v,.m,.v,.v,.m,.v],.rg 0 [] [.v,.v],.eqT 65 bF,.rg 0 [] [.v],.rg 0 [] [.v]] [.er 12 129 34 2,.only [4,5,6,8,9,12,13] [6,52,129]] 15 [false,false] (ep y5 0 (((([(Value.mk [110] ((IntKind.wrap .i64 x1.1).tmod 21))]++[(Value.mk [109] ((IntKind.wrap .i64 x1.2.1).tmod 21))])++[(Value.mk [107] ((IntKind.wrap .i64 x1.2.2.1).tmod 21))])++[(Value.mk [97] ((IntKind.wrap .i64 x1.2.2.2).tmod 21))]),[])) (aM c8 (aC Tryz.call9 (aF (dL _ _ _ h5) (aM c10 aN)))) ?_;refine aR H19 fun R0 h6 H21 => ?_;refine pJ 1 (ia y5) R0 ?_ (fun u0 e0 => ?_)
       ·refine pC (ep y5) h6 (fun i0 s0 h7 e1 => ?_) (fun i0 s0 h8 q0 h9 h10 => ?_)
        ·have c12:=lF i0 y5.1.length (by omega);subst e1;exact pB 5 [r0 [.v,.v,.e (nI y5.1.length),.e bF]] [.only [4,9,12] [129]] (ia y5 s0.2) (aT (aC (aQ az y5.1) (aB c12 aN)))
        ·have c13:=lT i0 y5.1.length (by omega);refine aR h9 fun y6 h11 H22 => ?_;refine aR H22 fun y7 h12 H23 => ?_;refine aR H23 fun y8 h13 H24 => ?_;refine aL H24 fun g3 H25 => ?_;refine pD 29 [r0 [.v,.v,.e (nI y5.1.length),.e bT],r0 [.b,.v,.v,.e (.dptr (az (y5.1.getD i0 ax))),.v,.v,.cw true [(0,[(1,0)])] (.agg [iI y6.Const,dS aq y6.Terms]),.m,.m],V1,.un,V2,.rg 4 (V 4 []) [.c true (iI y7),.v],.rg 6 (V 5 [.w]) [.c true (.agg [iI y8.Const,dS aq y8.Terms]),.m],.rg 9 (V 7 [.rl 0 1 (iI ((s0.1.getD 0 bu).N)),.w]) [.w,.v,.m],.rg 8 (V 5 [.e (.dptr (az (y5.1.getD i0 ax))),.v,.v]) [.v]] [.only [4,5,6,8,9,12,13,14,15,116] [6,14,52,129]] 29 [true,true] (aT (aC (aQ az y5.1) (aB c13 (aI bb y5.1 i0 ax (aC Tryz.call16 (aF (kY _ _ _ _ h11) (aT (aC Tryz.call12 (aF (gi _ _ _ h12) (aT (aC Tryz.call17 (aF (dy _ _ _ _ h13) (aC (show (0:Int)≤0∧0<((s0.1.map bj).length:Int) from by rw [MM];omega) (aC (dI (f:=bj) (l:=s0.1) (n:=0) 2 1 1 (by omega) (by decide)) (aC (ot (f:=bj) (l:=s0.1) (n:=0) bu 1 (by omega)) (aT (aI bb y5.1 i0 ax aN))))))))))))))))) ?_;refine aR H25 fun v0 h14 H26 => ?_;refine bV 1 (eL y5 i0 s0 y8 v0) (by kernel_rfl) ?_ ?_
         ·refine aV h14 (fun c14 H27 => ?_) (fun c15 H28 => ?_)
          ·obtain rfl:=sI H27;exact pB 3 [.eqT 116 bT,.rg 7 (V 6 [.rl 0 1 (iI ((s0.1.getD 0 bu).N))]) [.w,.v,.m]] [.only [4,5,6,8,9,12,13,14,15] [6,14,52,129]] (eL y5 i0 s0 y8 (aK ((aK (y8.Const+(aK (y7*((s0.1.getD 0 bu).N)))))-((s0.1.getD 0 bu).N)))) (aB c14 (aC (show (0:Int)≤0∧0<((s0.1.map bj).length:Int) from by rw [MM];omega) (aC (dI (f:=bj) (l:=s0.1) (n:=0) 2 1 1 (by omega) (by decide)) (aC (ot (f:=bj) (l:=s0.1) (n:=0) bu 1 (by omega)) aN))))
          ·obtain rfl:=sI H28;exact pB 3 [.eqT 116 bF] [.only [4,5,6,8,9,12,13,14,15] [6,14,52,129]] (eL y5 i0 s0 y8 (aK (y8.Const+(aK (y7*((s0.1.getD 0 bu).N)))))) (aB c15 aN)
         ·refine aR H26 fun y9 h15 H29 => ?_;refine aR H29 fun y10 h16 H30 => ?_;refine aL H30 fun g4 H31 => ?_;refine pD 17 [V3,.cv [.only [4,5,6,8,9,12,13,14,15] [6,14,52,129]],V2,.rg 4 (V 4 []) [.c true (iI y9),.v],.rg 6 (V 5 [.w]) [.c true (.agg [iI y10.Const,dS aq y10.Terms]),.m],.rg 9 (V 7 [.rl 1 1 (iI ((s0.1.getD 1 bu).N)),.w]) [.w,.v,.m],.rg 8 (V 5 [.e (.dptr (az (y5.1.getD i0 ax))),.v,.v]) [.v]] [.only [4,5,6,8,9,12,13,14,15,116] [6,14,52,129]] 16 [true] (aO (0+1) (aT (aC Tryz.call12 (aF (gi _ _ _ h15) (aT (aC Tryz.call17 (aF (dy _ _ _ _ h16) (aC (show (0:Int)≤1∧1<((s0.1.map bj).length:Int) from by rw [MM];omega) (aC (dI (f:=bj) (l:=s0.1) (n:=1) 2 1 1 (by omega) (by decide)) (aC (ot (f:=bj) (l:=s0.1) (n:=1) bu 1 (by omega)) (aT (aI bb y5.1 i0 ax aN)))))))))))) ?_;refine aR H31 fun v1 h17 H32 => ?_;refine bV 1 (eh y5 i0 s0 y10 v1) (by kernel_rfl) ?_ ?_
          ·refine aV h17 (fun c16 H33 => ?_) (fun c17 H34 => ?_)
           ·obtain rfl:=sI H33;exact pB 3 [.eqT 116 bT,.rg 7 (V 6 [.rl 1 1 (iI ((s0.1.getD 1 bu).N))]) [.w,.v,.m]] [.only [4,5,6,8,9,12,13,14,15] [6,14,52,129]] (eh y5 i0 s0 y10 (aK ((aK (y10.Const+(aK (y9*((s0.1.getD 1 bu).N)))))-((s0.1.getD 1 bu).N)))) (aB c16 (aC (show (0:Int)≤1∧1<((s0.1.map bj).length:Int) from by rw [MM];omega) (aC (dI (f:=bj) (l:=s0.1) (n:=1) 2 1 1 (by omega) (by decide)) (aC (ot (f:=bj) (l:=s0.1) (n:=1) bu 1 (by omega)) aN))))
           ·obtain rfl:=sI H34;exact pB 3 [.eqT 116 bF] [.only [4,5,6,8,9,12,13,14,15] [6,14,52,129]] (eh y5 i0 s0 y10 (aK (y10.Const+(aK (y9*((s0.1.getD 1 bu).N)))))) (aB c17 aN)
          ·refine aR H32 fun y11 h18 H35 => ?_;refine aR H35 fun y12 h19 H36 => ?_;refine aL H36 fun g5 H37 => ?_;refine pD 17 [V3,.cv [.only [4,5,6,8,9,12,13,14,15] [6,14,52,129]],V2,.rg 4 (V 4 []) [.c true (iI y11),.v],.rg 6 (V 5 [.w]) [.c true (.agg [iI y12.Const,dS aq y12.Terms]),.m],.rg 9 (V 7 [.rl 2 1 (iI ((s0.1.getD 2 bu).N)),.w]) [.w,.v,.m],.rg 8 (V 5 [.e (.dptr (az (y5.1.getD i0 ax))),.v,.v]) [.v]] [.only [4,5,6,8,9,12,13,14,15,116] [6,14,52,129]] 16 [true] (aO (1+1) (aT (aC Tryz.call12 (aF (gi _ _ _ h18) (aT (aC Tryz.call17 (aF (dy _ _ _ _ h19) (aC (show (0:Int)≤2∧2<((s0.1.map bj).length:Int) from by rw [MM];omega) (aC (dI (f:=bj) (l:=s0.1) (n:=2) 2 1 1 (by omega) (by decide)) (aC (ot (f:=bj) (l:=s0.1) (n:=2) bu 1 (by omega)) (aT (aI bb y5.1 i0 ax aN)))))))))))) ?_;refine aR H37 fun v2 h20 H38 => ?_;refine bV 1 (eB y5 i0 s0 y12 v2) (by kernel_rfl) ?_ ?_
           ·refine aV h20 (fun c18 H39 => ?_) (fun c19 H40 => ?_)
            ·obtain rfl:=sI H39;exact pB 3 [.eqT 116 bT,.rg 7 (V 6 [.rl 2 1 (iI ((s0.1.getD 2 bu).N))]) [.w,.v,.m]] [.only [4,5,6,8,9,12,13,14,15] [6,14,52,129]] (eB y5 i0 s0 y12 (aK ((aK (y12.Const+(aK (y11*((s0.1.getD 2 bu).N)))))-((s0.1.getD 2 bu).N)))) (aB c18 (aC (show (0:Int)≤2∧2<((s0.1.map bj).length:Int) from by rw [MM];omega) (aC (dI (f:=bj) (l:=s0.1) (n:=2) 2 1 1 (by omega) (by decide)) (aC (ot (f:=bj) (l:=s0.1) (n:=2) bu 1 (by omega)) aN))))
            ·obtain rfl:=sI H40;exact pB 3 [.eqT 116 bF] [.only [4,5,6,8,9,12,13,14,15] [6,14,52,129]] (eB y5 i0 s0 y12 (aK (y12.Const+(aK (y11*((s0.1.getD 2 bu).N)))))) (aB c19 aN)
           ·refine aR H38 fun y13 h21 H41 => ?_;refine aR H41 fun y14 h22 H42 => ?_;refine aL H42 fun g6 H43 => ?_;refine pD 17 [V3,.cv [.only [4,5,6,8,9,12,13,14,15] [6,14,52,129]],V2,.rg 4 (V 4 []) [.c true (iI y13),.v],.rg 6 (V 5 [.w]) [.c true (.agg [iI y14.Const,dS aq y14.Terms]),.m],.rg 9 (V 7 [.rl 3 1 (iI ((s0.1.getD 3 bu).N)),.w]) [.w,.v,.m],.rg 8 (V 5 [.e (.dptr (az (y5.1.getD i0 ax))),.v,.v]) [.v]] [.only [4,5,6,8,9,12,13,14,15,116] [6,14,52,129]] 16 [true] (aO (2+1) (aT (aC Tryz.call12 (aF (gi _ _ _ h21) (aT (aC Tryz.call17 (aF (dy _ _ _ _ h22) (aC (show (0:Int)≤3∧3<((s0.1.map bj).length:Int) from by rw [MM];omega) (aC (dI (f:=bj) (l:=s0.1) (n:=3) 2 1 1 (by omega) (by decide)) (aC (ot (f:=bj) (l:=s0.1) (n:=3) bu 1 (by omega)) (aT (aI bb y5.1 i0 ax aN)))))))))))) ?_;refine aR H43 fun v3 h23 H44 => ?_;refine bV 1 (eE y5 i0 s0 y14 v3) (by kernel_rfl) ?_ ?_
            ·refine aV h23 (fun c20 H45 => ?_) (fun c21 H46 => ?_)
             ·obtain rfl:=sI H45;exact pB 3 [.eqT 116 bT,.rg 7 (V 6 [.rl 3 1 (iI ((s0.1.getD 3 bu).N))]) [.w,.v,.m]] [.only [4,5,6,8,9,12,13,14,15] [6,14,52,129]] (eE y5 i0 s0 y14 (aK ((aK (y14.Const+(aK (y13*((s0.1.getD 3 bu).N)))))-((s0.1.getD 3 bu).N)))) (aB c20 (aC (show (0:Int)≤3∧3<((s0.1.map bj).length:Int) from by rw [MM];omega) (aC (dI (f:=bj) (l:=s0.1) (n:=3) 2 1 1 (by omega) (by decide)) (aC (ot (f:=bj) (l:=s0.1) (n:=3) bu 1 (by omega)) aN))))
             ·obtain rfl:=sI H46;exact pB 3 [.eqT 116 bF] [.only [4,5,6,8,9,12,13,14,15] [6,14,52,129]] (eE y5 i0 s0 y14 (aK (y14.Const+(aK (y13*((s0.1.getD 3 bu).N)))))) (aB c21 aN)
            ·refine aL H44 fun g7 H47 => ?_;refine bO 8 (ps:=[(y5.1.map az).length≤9223372036854775807]) (by kernel_rfl) (fun l0 => ?_);have l1:y5.1.length≤9223372036854775807:=by simpa only [cu,MM] using l0
             clear l0;obtain rfl:=sI H47;exact pB 9 [V3,.cv [.only [4,5,6,8,9,12,13,14,15] [6,14,52,129]],V2,r0 [.v,.v,.b,.ap,.rwH 129 (.row 34 2 ((s0.2++[(Linear.mk v3 y14.Terms)]).map aw)),.v],V3] [.only [4,5,6,8,9,12,13] [6,52,129]] (ep y5 (i0+1) (s0.1,(s0.2++[(Linear.mk v3 y14.Terms)]))) (aO (3+1) (bp (tT (c:=aw) xK s0.2 [(Linear.mk v3 y14.Terms)] 32 (by decide) (by first | (simp;done) | simpa using g7)) (aC (wA 34 2 aw s0.2 [(Linear.mk v3 y14.Terms)]) (aH i0 aN))))
       ·subst e0;have H48:=a8 H21;refine aR H48 fun y15 h24 H49 => ?_;obtain rfl:=sI H49;exact pR 5 [r0 [.v,.v,.v,.fz 129,.c true (.tup [dS az y15.1,iI y15.2.1,.agg [dS ao y15.2.2.1.Mults,iI y15.2.2.1.Mod],iI y15.2.2.2]),.v,.v,.v,.v,.v,.m,.v,.v,.m,.v],V3] [] [] (aT (aC Tryz.call18 (aF (yY _ _ _ h24) aN)))
      ·obtain rfl:=sI H20;exact pR 13 [.eqT 56 bF,r0 [.v,.c true (.tup [dS az y5.1,iI y5.2.1,.agg [dS ao y5.2.2.1.Mults,iI y5.2.2.1.Mod],iI y5.2.2.2]),.v,.v,.v,.v,.v,.m,.v,.v,.m,.v],V2,.eqT 65 bT,V3] [] [] (aM c8 (aC Tryz.call9 (aF (dL _ _ _ h5) (aM c11 aN))))
     ·obtain rfl:=sI H17;exact pR 5 [.eqT 56 bT,V1] [] [] (aM c9 aN)
    ·obtain rfl:=sI H11;exact pR 5 [.eqT 35 bT,V1] [] [] (aM c7 aN)
   ·obtain rfl:=sI H8;exact pR 15 [r0 [.m,.v],r0 [.c true (.bool y0),.v],.eqT 22 bF,r0 [.v,.c true bT,.v,.v,.v,.c true bF,.v,.v,.v,.s,.s,.s,.v],V1] [] [] (aC Tryz.call7 (aF (kZ _ h0) (aT (aM c0 (aC Tryz.call8 (aC (bG.eq (q9 _ _ _ h1) (cB c2)) (aT (aC Tryz.call13 (aC (bG.eq (cQ _ _ h2) (cB c5)) (aT aN))))))))))
  ·obtain rfl:=sI H5;exact pR 15 [r0 [.m,.v],r0 [.c true (.bool y0),.v],.eqT 22 bF,r0 [.v,.c true bF,.v,.v,.s,.s,.s,.v,.v,.s,.s,.s,.v],V1] [] [] (aC Tryz.call7 (aF (kZ _ h0) (aT (aM c0 (aC Tryz.call8 (aC (bG.eq (q9 _ _ _ h1) (cB c3)) (aT aN)))))))
 ·obtain rfl:=sI H2;exact pR 10 [r0 [.m,.v],r0 [.c true (.bool y0),.v],.eqT 22 bT,V1] [] [] (aC Tryz.call7 (aF (kZ _ h0) (aT (aM c1 aN))))
end Go.Proofs.YtlhcekghjfjajaaGreatDoor
