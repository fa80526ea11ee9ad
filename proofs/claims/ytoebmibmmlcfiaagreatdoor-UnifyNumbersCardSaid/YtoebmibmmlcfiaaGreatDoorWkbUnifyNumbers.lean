/- What functions of the program compute, walked: each as a plain function, with the theorem that the code computes it wherever that answers. Printed by a program, part 2. -/
import Derived.Test.YtoebmibmmlcfiaaGreatDoorWkaUnifyNumbers
set_option linter.unusedSimpArgs false
set_option linter.unusedVariables false
namespace Go.Proofs.YtoebmibmmlcfiaaGreatDoor
open Go.RowKit Go.Ab Go.Sh
noncomputable def oQ (x0:List aG):Option Int :=
 (fA (σ:=((List (ak×Shape))×(List (Linear×Linear))×(List (ak×ak)))) (ε:=((List (Linear×Linear))×(List (ak×Shape))×(List (ak×ak)))) (ρ:=Int) (fun i0 s0 =>
  (bL (((x0.getD i0 ag).A).Elem) (((x0.getD i0 ag).B).Elem) s0.2.2 s0.1 s0.2.1).bind fun y0 =>
  bif (y0.1==0) then (
   (bG (Shape.mk ((((x0.getD i0 ag).A).Shape).Row) ((((x0.getD i0 ag).A).Shape).Dims)) (Shape.mk ((((x0.getD i0 ag).B).Shape).Row) ((((x0.getD i0 ag).B).Shape).Dims)) y0.2 s0.1 s0.2.1).bind fun y1 =>
   bif (y1.1==0) then (
    some (.go (y1.2.2,y1.2.1,y0.2))
   ) else (
    some (.ret y1.1)
   )
  ) else (
   some (.ret y0.1)
  )
 ) (fun i0 s0=>(s0.2.1,s0.1,s0.2.2)) (x0.length-0) 0 ([],[],[])).bind <| aft fun u0 =>
 none
def kG (x0:List aG) (i0:Nat) (s0:(List (ak×Shape))×(List (Linear×Linear))×(List (ak×ak))):AS:=⟨43,[(2,.lit (.pointer none)),(3,iI 0),(4,.hptr 12 0),(13,dS az x0),(14,nI x0.length),(15,nI i0)],[(9,.smap 0 9 (s0.2.2.map (aQ aZ))),(12,.cells 95 [.amap 9,.amap 902,.rslice 901]),(901,.row 98 4 (s0.2.1.map ay)),(902,.smap 0 34 (s0.1.map (aQ (iY aV))))]⟩
def o6 (u1:(List (Linear×Linear))×(List (ak×Shape))×(List (ak×ak))):AS:=⟨43,[(2,.lit (.pointer none)),(3,iI 0),(4,.hptr 12 0)],[(9,.smap 0 9 (u1.2.2.map (aQ aZ))),(12,.cells 95 [.amap 9,.amap 902,.rslice 901]),(901,.row 98 4 (u1.1.map ay)),(902,.smap 0 34 (u1.2.1.map (aQ (iY aV))))]⟩
theorem vy (x0:List aG) (r:Int) (H:oQ x0=some r):br Tryz.prog 20 [dS az x0] (.tup [.lit (.pointer none),iI r]):=by
 unfold oQ at H;refine aX Tryz.func20 43 [.tmp 2,.tmp 3] ?_;refine pA 8 [V2,r0 [.m,.m,.b,.m,.v],r0 [.v,.e (nI x0.length),.v]] [.erH 12 2 901 98 4,.ren [(9,9),(12,12),(901,901),(10,902)],.only [2,3,4,13,14,15] [9,12,901,902]] 8 [] (kG x0 0 ([],[],[])) (aT (aC (bo az x0) aN)) ?_;refine aL H fun R0 h0 H0 => ?_;refine pJ 1 (o6) R0 ?_ (fun u0 e0 => ?_)
 ·refine pC (kG x0) h0 (fun i0 s0 h1 e1 => ?_) (fun i0 s0 h2 q0 h3 h4 => ?_)
  ·have c0:=lF i0 x0.length (by omega);subst e1;exact pB 5 [r0 [.e bF]] [.only [2,3,4] [9,12,901,902]] (o6 (s0.2.1,s0.1,s0.2.2)) (aB c0 aN)
  ·have c1:=lT i0 x0.length (by omega);refine aL h3 fun y0 h5 H1 => ?_;refine pD 14 [r0 [.e bT],r0 [.e (.dptr [.str (((x0.getD i0 ag).A).Elem),.str ((((x0.getD i0 ag).A).Shape).Row),.dslice (((((x0.getD i0 ag).A).Shape).Dims).map ah),.str (((x0.getD i0 ag).B).Elem),.str ((((x0.getD i0 ag).B).Shape).Row),.dslice (((((x0.getD i0 ag).B).Shape).Dims).map ah)]),.v,.m,.m],r0 (V 7 [.hM [(12,1000),(9,1001),(902,1002),(901,1003)] [] (iI y0.1) [(1000,.cells 95 [.amap 1001,.amap 1002,.rslice 1003]),(1001,.smap 0 9 (y0.2.map (aQ aZ))),(1002,.smap 0 34 (s0.1.map (aQ (iY aV)))),(1003,.row 98 4 (s0.2.1.map ay))],.v]),V2] [.only [2,3,4,6,7,13,14,15,28] [6,9,12,901,902]] 14 [true] (aB c1 (aI gv x0 i0 ag (aC Tryz.call42 (aC (iW _ _ _ _ _ _ h5) aN)))) ?_;refine aU H1 (fun c2 H2 => ?_) (fun c3 H3 => ?_)
   ·refine aL H2 fun y1 h6 H4 => ?_;refine pD 7 [.eqT 28 bF,r0 (V 7 [.hM [(12,1000),(9,1001),(902,1002),(901,1003)] [(0,900),(1,903)] (iI y1.1) [(0,.row 98 4 (y1.2.1.map ay)),(1,.smap 0 34 (y1.2.2.map (aQ (iY aV)))),(1000,.cells 95 [.amap 1001,.amap 1,.rslice 0]),(1001,.smap 0 9 (y0.2.map (aQ aZ)))],.v]),V2] [.only [2,3,4,8,13,14,15,39] [9,12,900,903]] 6 [false] (aM c2 (aC Tryz.call43 (aC (iH _ _ _ _ _ _ h6) aN))) ?_;refine aU H4 (fun c4 H5 => ?_) (fun c5 H6 => ?_)
    ·refine bK 13 (ps:=[(x0.map az).length≤9223372036854775807]) (by kernel_rfl) (fun l0 => ?_);have l1:x0.length≤9223372036854775807:=by simpa only [cq,Mt] using l0
     clear l0;obtain rfl:=sI H5;exact pB 4 [.eqT 39 bF,V2] [.ren [(9,9),(12,12),(900,901),(903,902)],.only [2,3,4,13,14,15] [9,12,901,902]] (kG x0 (i0+1) (y1.2.2,y1.2.1,y0.2)) (aM c4 (aH i0 aN))
    ·obtain rfl:=sI H6;obtain rfl:=ba h4;obtain rfl:=sI (aR H0);exact pR 5 [.eqT 39 bT,V3] [] [] (aM c5 aN)
   ·obtain rfl:=sI H3;obtain rfl:=ba h4;obtain rfl:=sI (aR H0);exact pR 5 [.eqT 28 bT,V3] [] [] (aM c3 aN)
 ·subst e0;have H7:=bB H0;cases H7
def ck (x0:Linear) (x1 x2:Int) (x3:List (ak×Int)):Option (Int×(List (ak×Int))) :=
 (fA (σ:=(List (ak×Int))) (ε:=(Int×(List (ak×Int)))) (ρ:=(Int×(List (ak×Int)))) (fun i0 s0 =>
  some (.go (bH ((x0.Terms.getD i0 aJ).Var) (aS ((be 0 ((x0.Terms.getD i0 aJ).Var) s0)+(aS (x1*((x0.Terms.getD i0 aJ).C))))) s0))
 ) (fun i0 s0=>((aS (x2+(aS (x1*x0.Const)))),s0)) (x0.Terms.length-0) 0 x3).bind <| aft some
def jU (x0:Linear) (x1 x2:Int) (i0:Nat) (s0:List (ak×Int)):AS:=⟨39,[(0,.hptr 1000 0),(2,iI x1),(20,dS aw x0.Terms),(21,nI x0.Terms.length),(22,nI i0)],[(1000,.cells 158 [iI (aS (x2+(aS (x1*x0.Const)))),.amap 1001]),(1001,.smap 0 3 (s0.map (aQ ai)))]⟩
theorem kF (x0:Linear) (x1 x2:Int) (x3:List (ak×Int)) (r:Int×(List (ak×Int))) (H:ck x0 x1 x2 x3=some r):bg Tryz.prog 109 [.hptr 1000 0,.agg [iI x0.Const,dS aw x0.Terms],iI x1] [(1000,.cells 158 [iI x2,.amap 1001]),(1001,.smap 0 3 (x3.map (aQ ai)))] (fun r2 h0=>r2=(.tup [])∧h0=[(1000,.cells 158 [iI r.1,.amap 1001]),(1001,.smap 0 3 (r.2.map (aQ ai)))]):=by
 unfold ck at H;refine aX Tryz.func109 39 [] ?_;refine pA 7 [r0 [.m],.rg 8 (V 7 [.w]) [.w,.v,.v,.m],r0 [.v,.v,.e (nI x0.Terms.length),.v]] [.only [0,2,20,21,22] [1000,1001]] 7 [] (jU x0 x1 x2 0 x3) (aT (aC (bo aw x0.Terms) aN)) ?_;refine aL H fun R0 h1 H0 => ?_;refine pC (jU x0 x1 x2) h1 (fun i0 s0 h2 e0 => ?_) (fun i0 s0 h3 q0 h4 h5 => ?_)
 ·have c0:=lF i0 x0.Terms.length (by omega);subst e0;obtain rfl:=sI (bB H0);exact pR 5 [r0 [.e bF]] [] [1000,1001] (aB c0 aN)
 ·have c1:=lT i0 x0.Terms.length (by omega);refine bK 20 (ps:=[(x0.Terms.map aw).length≤9223372036854775807]) (by kernel_rfl) (fun l0 => ?_);have l1:x0.Terms.length≤9223372036854775807:=by simpa only [cq,Mt] using l0
  clear l0;obtain rfl:=sI h4;exact pB 11 [r0 [.e bT],r0 [.e (.dptr (aw (x0.Terms.getD i0 aJ))),.v,.m,.m],.rg 11 (V 6 [.l (iI (be 0 ((x0.Terms.getD i0 aJ).Var) s0)),.v,.v,.v,.w]) [.w,.m,.rwH 1001 (.smap 0 3 ((bH ((x0.Terms.getD i0 aJ).Var) (aS ((be 0 ((x0.Terms.getD i0 aJ).Var) s0)+(aS (x1*((x0.Terms.getD i0 aJ).C))))) s0).map (aQ ai)))],V2] [.only [0,2,20,21,22] [1000,1001]] (jU x0 x1 x2 (i0+1) (bH ((x0.Terms.getD i0 aJ).Var) (aS ((be 0 ((x0.Terms.getD i0 aJ).Var) s0)+(aS (x1*((x0.Terms.getD i0 aJ).C))))) s0)) (aB c1 (aI cy x0.Terms i0 aJ (aC (jy (c:=ai) ((x0.Terms.getD i0 aJ).Var) 0 s0) (aC (congrArg (AO.smap 0 3) (fJ (c:=ai) ((x0.Terms.getD i0 aJ).Var) (aS ((be 0 ((x0.Terms.getD i0 aJ).Var) s0)+(aS (x1*((x0.Terms.getD i0 aJ).C))))) s0)) (aH i0 aN)))))
noncomputable def bN (x0:Int) (x1:List (ak×Int)):Option (Linear×Int) :=
 lg (σ:=(List ak)) (ε:=Empty) (β:=(Linear×Int)) x1 (fun e0 s0 =>
  bif (e0.2==0) then (
   some (.go s0)
  ) else (
   bX ((s0.length+1)*16≤140737488355328) <|
   some (.go (s0++[e0.1]))
  )
 ) [] (fun s0 =>
  (iT s0).bind fun y0 =>
  (fA (σ:=(List au)) (ε:=(List au)) (ρ:=Empty) (fun i0 s1 =>
   bX ((s1.length+1)*24≤140737488355328) <|
   some (.go (s1++[(au.mk (y0.getD i0 []) (be 0 (y0.getD i0 []) x1))]))
  ) (fun i0 s1=>s1) (y0.length-0) 0 []).bind <| dL fun u0 =>
  (bE (Linear.mk x0 u0)).bind fun y1 =>
  bif y1 then (
   some ((Linear.mk x0 u0),0)
  ) else (
   some ((Linear.mk 0 []),3)
  )
 )
def dO (x0:Int) (x1:List (ak×Int)) (i1:List Nat) (s0:List ak):AS:=⟨58,[(0,.hptr 1000 0),(2,.hptr 2 0),(3,iI 0),(4,.hptr 4 0),(5,.rslice 30),(19,.hptr 19 0)],[(2,.cells 29 [iI 0,.eslice]),(4,.cells 29 [iI x0,.eslice]),(19,.iter (x1.map (aQ ai)) i1),(30,.row 9 1 (s0.map aZ)),(1000,.cells 158 [iI x0,.dmap (x1.map (aQ ai))])]⟩
def gu (x0:Int) (x1:List (ak×Int)) (y0:List ak) (i0:Nat) (s1:List au):AS:=⟨58,[(0,.hptr 1000 0),(2,.hptr 2 0),(3,iI 0),(4,.hptr 4 0),(33,.rslice 30),(34,nI y0.length),(35,nI i0)],[(2,.cells 29 [iI 0,.eslice]),(4,.cells 29 [iI x0,.rslice 50]),(30,.row 9 1 (y0.map aZ)),(50,.row 31 2 (s1.map aw)),(1000,.cells 158 [iI x0,.dmap (x1.map (aQ ai))])]⟩
def j7 (x0:Int) (x1:List (ak×Int)) (u1:List au):AS:=⟨58,[(2,.hptr 2 0),(3,iI 0),(4,.hptr 4 0)],[(2,.cells 29 [iI 0,.eslice]),(4,.cells 29 [iI x0,.rslice 50]),(50,.row 31 2 (u1.map aw)),(1000,.cells 158 [iI x0,.dmap (x1.map (aQ ai))])]⟩
theorem ku (x0:Int) (x1:List (ak×Int)) (r:Linear×Int) (H:bN x0 x1=some r):bg Tryz.prog 110 [.hptr 1000 0] [(1000,.cells 158 [iI x0,.amap 1001]),(1001,.smap 0 3 (x1.map (aQ ai)))] (fun r2 h0=>r2=(.tup [.agg [iI r.1.Const,dS aw r.1.Terms],iI r.2])∧h0=[]):=by
 unfold bN at H;refine aX Tryz.func110 58 [.cell 2 29,.tmp 3] ?_;refine pA 10 [r0 [.m,.v],r0 (V 4 [.b,.m,.m]),V1,r0 (V 4 [.fm 1001,.m])] [.er 5 30 9 1,.only [0,2,3,4,5,19] [2,4,19,30,1000]] 10 [] (dO x0 x1 [] []) (aC (rV ou x1) aN) ?_;refine mj (cc:=ai) 19 (dO x0 x1) (by kernel_rfl) H [.v] (fun i1 s0=>⟨by kernel_rfl,by kernel_rfl⟩) (fun i1 s0=>⟨58,[(0,.hptr 1000 0),(2,.hptr 2 0),(3,iI 0),(4,.hptr 4 0),(5,.rslice 30),(19,.hptr 19 0),(20,.tup [.bool false]),(21,.bool false)],[(2,.cells 29 [iI 0,.eslice]),(4,.cells 29 [iI x0,.eslice]),(19,.iter (x1.map (aQ ai)) i1),(30,.row 9 1 (s0.map aZ)),(1000,.cells 158 [iI x0,.dmap (x1.map (aQ ai))])]⟩) (fun i1 s0=>by kernel_rfl) (fun i1 s0 n0 e0=>⟨58,[(0,.hptr 1000 0),(2,.hptr 2 0),(3,iI 0),(4,.hptr 4 0),(5,.rslice 30),(19,.hptr 19 0),(20,.tup [.bool true,.str e0.1,iI e0.2]),(21,.bool true)],[(2,.cells 29 [iI 0,.eslice]),(4,.cells 29 [iI x0,.eslice]),(19,.iter (x1.map (aQ ai)) (i1++[n0])),(30,.row 9 1 (s0.map aZ)),(1000,.cells 158 [iI x0,.dmap (x1.map (aQ ai))])]⟩) (fun i1 s0 n0 e0=>by kernel_rfl) (fun i1 s0 H0 => ?_) (fun i1 s0 n0 e0 h1 q0 h2 h3 => ?_)
 ·refine aL H0 fun y0 h4 H1 => ?_;refine pA 9 [r0 [.v,.hR [(30,1000)] 32 (.tup []) [(1000,.row 9 1 (y0.map aZ))]],r0 [.v,.e (nI y0.length),.v]] [.erH 4 1 50 31 2,.only [0,2,3,4,33,34,35] [2,4,30,50,1000]] 9 [false] (gu x0 x1 y0 0 []) (aC Tryz.call99 (aC (s5 s0 y0 h4) (aT (aC (bo aZ y0) aN)))) ?_;refine aL H1 fun R0 h5 H2 => ?_;refine pJ 1 (j7 x0 x1) R0 ?_ (fun u0 e1 => ?_)
  ·refine pC (gu x0 x1 y0) h5 (fun i0 s1 h6 e2 => ?_) (fun i0 s1 h7 q1 h8 h9 => ?_)
   ·have c0:=lF i0 y0.length (by omega);subst e2;exact pB 5 [r0 [.e bF]] [.only [2,3,4] [2,4,50,1000]] (j7 x0 x1 s1) (aB c0 aN)
   ·have c1:=lT i0 y0.length (by omega);refine aP h8 fun g0 H3 => ?_;refine wh 30 (n:=(y0.map aZ).length) (by kernel_rfl) (fun l0 => ?_);have l1:y0.length≤9223372036854775807:=by simpa only [Mt] using l0
    clear l0;obtain rfl:=sI H3;exact pB 11 [r0 [.e bT],r0 [.v,.rl i0 0 (.str (y0.getD i0 [])),.v],.rg 11 (V 8 [.l (iI (be 0 (y0.getD i0 []) x1)),.b,.b]) [.ap,.rwH 50 (.row 31 2 ((s1++[(au.mk (y0.getD i0 []) (be 0 (y0.getD i0 []) x1))]).map aw)),.v,.m],V2] [.only [0,2,3,4,33,34,35] [2,4,30,50,1000]] (gu x0 x1 y0 (i0+1) (s1++[(au.mk (y0.getD i0 []) (be 0 (y0.getD i0 []) x1))])) (aB c1 (aC (show (0:Int)≤((i0:Nat):Int)∧((i0:Nat):Int)<((y0.map aZ).length:Int) from by rw [Mt];omega) (aC (lA (f:=aZ) (l:=y0) (n:=i0) 1 0 1 (by omega) (by decide)) (aC (vR (f:=aZ) (l:=y0) (n:=i0) [] 0 (by omega)) (aC (yM ai (y0.getD i0 []) x1) (aC (jy (c:=ai) (y0.getD i0 []) 0 x1) (a8 (tg (c:=aw) mV s1 [(au.mk (y0.getD i0 []) (be 0 (y0.getD i0 []) x1))] 24 (by decide) (by first | (simp;done) | simpa using g0)) (aC (vQ 31 2 aw s1 [(au.mk (y0.getD i0 []) (be 0 (y0.getD i0 []) x1))]) (aH i0 aN)))))))))
  ·subst e1;have H4:=bu H2;refine aL H4 fun y1 h10 H5 => ?_;refine aU H5 (fun c2 H6 => ?_) (fun c3 H7 => ?_)
   ·obtain rfl:=sI H6;exact pR 9 [r0 [.v,.c false (.bool y1),.v],.eqT 55 bF,r0 [.v,.m,.v]] [.fz 50] [] (aC Tryz.call90 (aF (aW _ _ h10) (aT (aM c2 aN))))
   ·obtain rfl:=sI H7;exact pR 8 [r0 [.v,.c false (.bool y1),.v],.eqT 55 bT,r0 [.b,.m,.v]] [.wkH 2 1 []] [] (aC Tryz.call90 (aF (aW _ _ h10) (aT (aM c3 aN))))
 ·refine aU h2 (fun c4 H8 => ?_) (fun c5 H9 => ?_)
  ·obtain rfl:=sI H8;exact pB 11 [r0 [.en n0 (.tup [.str e0.1,iI e0.2]),.v,.v,.v,.v],V2,.eqT 26 bF] [.only [0,2,3,4,5,19] [2,4,19,30,1000]] (dO x0 x1 (i1++[n0]) s0) (aC (fK i1 n0) (aC (rz (cc:=ai) h1) (aM c4 aN)))
  ·refine aP H9 fun g1 H10 => ?_;obtain rfl:=sI H10;exact pB 11 [r0 [.en n0 (.tup [.str e0.1,iI e0.2]),.v,.v,.v,.v],V2,.eqT 26 bT,r0 [.v,.v,.b,.ap,.rwH 30 (.row 9 1 ((s0++[e0.1]).map aZ)),.v]] [.only [0,2,3,4,5,19] [2,4,19,30,1000]] (dO x0 x1 (i1++[n0]) (s0++[e0.1])) (aC (fK i1 n0) (aC (rz (cc:=ai) h1) (aM c5 (a8 (tg (c:=aZ) pY s0 [e0.1] 16 (by decide) (by first | (simp;done) | simpa using g1)) (aC (vQ 9 1 aZ s0 [e0.1]) aN)))))
noncomputable def jM (x0 x1:Linear) (x2:Int):Option (Linear×Int) :=
 (bE x0).bind fun y0 =>
 bif y0 then (
  (bE x1).bind fun y1 =>
  bif y1 then (
   (ck x0 1 0 []).bind fun y2 =>
   (ck x1 x2 y2.1 y2.2).bind fun y3 =>
   (bN y3.1 y3.2).bind fun y4 =>
   some (y4.1,y4.2)
  ) else (
   some ((Linear.mk 0 []),1)
  )
 ) else (
  some ((Linear.mk 0 []),1)
 )
theorem uA (x0 x1:Linear) (x2:Int) (r:Linear×Int) (H:jM x0 x1 x2=some r):br Tryz.prog 87 [.agg [iI x0.Const,dS aw x0.Terms],.agg [iI x1.Const,dS aw x1.Terms],iI x2] (.tup [.agg [iI r.1.Const,dS aw r.1.Terms],iI r.2]):=by
 unfold jM at H;refine aX Tryz.func87 28 [.cell 6 29,.tmp 7] ?_;refine aL H fun y0 h0 H0 => ?_;refine aU H0 (fun c0 H1 => ?_) (fun c1 H2 => ?_)
 ·refine aL H1 fun y1 h1 H3 => ?_;refine aU H3 (fun c2 H4 => ?_) (fun c3 H5 => ?_)
  ·refine aL H4 fun y2 h2 H6 => ?_;refine aL H6 fun y3 h3 H7 => ?_;refine aL H7 fun y4 h4 H8 => ?_;obtain rfl:=sI H8;exact pR 17 [r0 [.m,.m,.m,.v],r0 [.v,.c true bT,.v,.v,.v,.c true (.bool y1),.v,.v],.eqT 16 bF,r0 [.m,.b,.m,.m],r0 [.v,.hR [(8,1000),(18,1001)] 21 (.tup []) [(1000,.cells 158 [iI y2.1,.amap 1001]),(1001,.smap 0 3 (y2.2.map (aQ ai)))]],r0 [.v,.v,.hR [(8,1000),(18,1001)] 24 (.tup []) [(1000,.cells 158 [iI y3.1,.amap 1001]),(1001,.smap 0 3 (y3.2.map (aQ ai)))]],r0 [.hR [(8,1000),(18,1001)] 25 (.tup [.agg [iI y4.1.Const,dS aw y4.1.Terms],iI y4.2]) [],.v,.v,.m,.v]] [] [] (aC Tryz.call90 (aC (br.eq (aW _ _ h0) (cB c0)) (aT (aC Tryz.call90 (aF (aW _ _ h1) (aT (aM c2 (aC Tryz.call109 (aC (kF _ _ _ _ _ h2) (aC Tryz.call109 (aC (kF _ _ _ _ _ h3) (aC Tryz.call110 (aC (ku _ _ _ h4) aN)))))))))))))
  ·obtain rfl:=sI H5;exact pR 10 [r0 [.m,.m,.m,.v],r0 [.v,.c true bT,.v,.v,.v,.c true (.bool y1),.v,.v],.eqT 16 bT,r0 [.b,.m,.v]] [.wkH 6 1 []] [] (aC Tryz.call90 (aC (br.eq (aW _ _ h0) (cB c0)) (aT (aC Tryz.call90 (aF (aW _ _ h1) (aT (aM c3 aN)))))))
 ·obtain rfl:=sI H2;exact pR 9 [r0 [.m,.m,.m,.v],r0 [.v,.c true bF,.v,.v,.s,.s,.s,.v],r0 [.b,.m,.v]] [.wkH 6 1 []] [] (aC Tryz.call90 (aC (br.eq (aW _ _ h0) (cB c1)) (aT aN)))
noncomputable def kO (x0 x1:Linear):Option (Linear×Int) :=
 (jM x0 x1 (-1)).bind fun y0 =>
 some (y0.1,y0.2)
theorem Az (x0 x1:Linear) (r:Linear×Int) (H:kO x0 x1=some r):br Tryz.prog 44 [.agg [iI x0.Const,dS aw x0.Terms],.agg [iI x1.Const,dS aw x1.Terms]] (.tup [.agg [iI r.1.Const,dS aw r.1.Terms],iI r.2]):=by unfold kO at H;refine aX Tryz.func44 11 [.cell 4 29,.tmp 5] ?_;refine aL H fun y0 h0 H0 => ?_;obtain rfl:=sI H0;exact pR 5 [r0 [.m,.m,.m,.v],r0 [.v,.v,.c true (.tup [.agg [iI y0.1.Const,dS aw y0.1.Terms],iI y0.2]),.v,.v,.m,.v]] [] [] (aC Tryz.call87 (aF (uA _ _ _ _ h0) aN))
noncomputable def cL (x0:List (Linear×Linear)) (x1:List (ak×ak)) (x2:List (ak×Shape)):Option ((List Linear)×Int) :=
 (fA (σ:=(List Linear)) (ε:=(List Linear)) (ρ:=((List Linear)×Int)) (fun i0 s0 =>
  (kO (Linear.mk (((x0.getD i0 (aD,aD)).1).Const) (((x0.getD i0 (aD,aD)).1).Terms)) (Linear.mk (((x0.getD i0 (aD,aD)).2).Const) (((x0.getD i0 (aD,aD)).2).Terms))).bind fun y0 =>
  bif (y0.2==0) then (
   bX ((s0.length+1)*32≤140737488355328) <|
   some (.go (s0++[y0.1]))
  ) else (
   some (.ret ([],y0.2))
  )
 ) (fun i0 s0=>s0) (x0.length-0) 0 []).bind <| aft fun u0 =>
 some (u0,0)
def dP (x0:List (Linear×Linear)) (x1:List (ak×ak)) (x2:List (ak×Shape)) (i0:Nat) (s0:List Linear):AS:=⟨35,[(2,.eslice),(3,iI 0),(4,.rslice 32),(12,dS ay x0),(13,nI x0.length),(14,nI i0)],[(32,.row 29 2 (s0.map ah)),(1000,.cells 95 [.amap 1001,.amap 1002,dS ay x0]),(1001,.smap 0 9 (x1.map (aQ aZ))),(1002,.smap 0 34 (x2.map (aQ (iY aV))))]⟩
def ia (x0:List (Linear×Linear)) (x1:List (ak×ak)) (x2:List (ak×Shape)) (u1:List Linear):AS:=⟨35,[(2,.eslice),(3,iI 0),(4,.rslice 32)],[(32,.row 29 2 (u1.map ah)),(1000,.cells 95 [.amap 1001,.amap 1002,dS ay x0]),(1001,.smap 0 9 (x1.map (aQ aZ))),(1002,.smap 0 34 (x2.map (aQ (iY aV))))]⟩
theorem nn (x0:List (Linear×Linear)) (x1:List (ak×ak)) (x2:List (ak×Shape)) (r:(List Linear)×Int) (H:cL x0 x1 x2=some r):bg Tryz.prog 21 [.hptr 1000 0] [(1000,.cells 95 [.amap 1001,.amap 1002,dS ay x0]),(1001,.smap 0 9 (x1.map (aQ aZ))),(1002,.smap 0 34 (x2.map (aQ (iY aV))))] (fun r2 h0=>r2=(.tup [dS ah r.1,iI r.2])∧h0=[(1000,.cells 95 [.amap 1001,.amap 1002,dS ay x0]),(1001,.smap 0 9 (x1.map (aQ aZ))),(1002,.smap 0 34 (x2.map (aQ (iY aV))))]):=by
 unfold cL at H;refine aX Tryz.func21 35 [.tmp 2,.tmp 3] ?_;refine pA 8 [V2,V1,r0 (V 4 [.e (nI x0.length),.v])] [.er 4 32 29 2,.only [2,3,4,12,13,14] [32,1000,1001,1002]] 8 [] (dP x0 x1 x2 0 []) (aT (aC (bo ay x0) aN)) ?_;refine aL H fun R0 h1 H0 => ?_;refine pJ 1 (ia x0 x1 x2) R0 ?_ (fun u0 e0 => ?_)
 ·refine pC (dP x0 x1 x2) h1 (fun i0 s0 h2 e1 => ?_) (fun i0 s0 h3 q0 h4 h5 => ?_)
  ·have c0:=lF i0 x0.length (by omega);subst e1;exact pB 5 [r0 [.e bF]] [.only [2,3,4] [32,1000,1001,1002]] (ia x0 x1 x2 s0) (aB c0 aN)
  ·have c1:=lT i0 x0.length (by omega);refine aL h4 fun y0 h6 H1 => ?_;refine pD 14 [r0 [.e bT],r0 [.e (.dptr [iI (((x0.getD i0 (aD,aD)).1).Const),.dslice ((((x0.getD i0 (aD,aD)).1).Terms).map aw),iI (((x0.getD i0 (aD,aD)).2).Const),.dslice ((((x0.getD i0 (aD,aD)).2).Terms).map aw)]),.v,.m,.m],r0 (V 4 [.c true (.tup [.agg [iI y0.1.Const,dS aw y0.1.Terms],iI y0.2]),.v,.v,.v,.m,.m,.v]),V2] [.only [2,3,4,7,8,12,13,14,27] [7,32,1000,1001,1002]] 14 [true] (aB c1 (aI vz x0 i0 (aD,aD) (aT (aT (aC Tryz.call44 (aF (Az _ _ _ h6) aN)))))) ?_;refine aU H1 (fun c2 H2 => ?_) (fun c3 H3 => ?_)
   ·refine aP H2 fun g0 H4 => ?_;refine bK 12 (ps:=[(x0.map ay).length≤9223372036854775807]) (by kernel_rfl) (fun l0 => ?_);have l1:x0.length≤9223372036854775807:=by simpa only [cq,Mt] using l0
    clear l0;obtain rfl:=sI H4;exact pB 5 [.eqT 27 bF,r0 [.v,.v,.b,.ap,.rwH 32 (.row 29 2 ((s0++[y0.1]).map ah)),.v],V2] [.only [2,3,4,12,13,14] [32,1000,1001,1002]] (dP x0 x1 x2 (i0+1) (s0++[y0.1])) (aM c2 (a8 (tg (c:=ah) kz s0 [y0.1] 32 (by decide) (by first | (simp;done) | simpa using g0)) (aC (vQ 29 2 ah s0 [y0.1]) (aH i0 aN))))
   ·obtain rfl:=sI H3;obtain rfl:=ba h5;obtain rfl:=sI (aR H0);exact pR 5 [.eqT 27 bT,V3] [.wk 2 []] [1000,1001,1002] (aM c3 aN)
 ·subst e0;have H5:=bB H0;obtain rfl:=sI H5;exact pR 3 [V3] [.fz 32] [1000,1001,1002] aN
def hZ (x0:Linear):Option Bool :=
 (bE x0).bind fun y0 =>
 some (!y0)
theorem sl (x0:Linear) (r:Bool) (H:hZ x0=some r):br Tryz.prog 89 [.agg [iI x0.Const,dS aw x0.Terms]] (.bool r):=by unfold hZ at H;refine aX Tryz.func89 6 [.tmp 2] ?_;refine aL H fun y0 h0 H0 => ?_;obtain rfl:=sI H0;exact pR 5 [r0 [.m,.v],r0 [.v,.c true (.bool y0),.v,.v]] [] [] (aC Tryz.call90 (aF (aW _ _ h0) (aT aN)))
def bS (x0:List Linear):Option Int :=
 (fA (σ:=Unit) (ε:=Unit) (ρ:=Int) (fun i0 s0 =>
  (hZ (Linear.mk ((x0.getD i0 aD).Const) ((x0.getD i0 aD).Terms))).bind fun y0 =>
  bif y0 then (
   some (.ret ((i0:Nat):Int))
  ) else (
   some (.go ())
  )
 ) (fun i0 s0=>()) (x0.length-0) 0 ()).bind <| aft fun u0 =>
 some (-1)
def da (x0:List Linear) (i0:Nat) (s0:Unit):AS:=⟨19,[(0,dS ah x0),(1,.fn 89 []),(4,iI 0),(7,nI x0.length),(8,nI i0)],[]⟩
def fb (u1:Unit):AS:=⟨19,[(4,iI 0)],[]⟩
theorem kl (x0:List Linear) (r:Int) (H:bS x0=some r):br Tryz.prog 142 [dS ah x0,.fn 89 []] (iI r):=by
 unfold bS at H;refine aX Tryz.func142 19 [.tmp 4] ?_;refine pA 6 [V1,r0 [.v,.e (nI x0.length),.v]] [.only [0,1,4,7,8] []] 6 [] (da x0 0 ()) (aT (aC (bo ah x0) aN)) ?_;refine aL H fun R0 h0 H0 => ?_;refine pJ 1 (fb) R0 ?_ (fun u0 e0 => ?_)
 ·refine pC (da x0) h0 (fun i0 s0 h1 e1 => ?_) (fun i0 s0 h2 q0 h3 h4 => ?_)
  ·have c0:=lF i0 x0.length (by omega);subst e1;exact pB 5 [r0 [.e bF]] [.only [4] []] (fb ()) (aB c0 aN)
  ·have c1:=lT i0 x0.length (by omega);refine aL h3 fun y0 h5 H1 => ?_;refine pD 11 [r0 [.e bT],V2,r0 [.v,.v,.v,.e (.dptr (ah (x0.getD i0 aD))),.v,.c true (.bool y0)]] [.only [0,1,4,5,7,8,16] []] 11 [true] (aB c1 (aI cP x0 i0 aD (aC Tryz.call89 (aF (sl _ _ h5) aN)))) ?_;refine aU H1 (fun c2 H2 => ?_) (fun c3 H3 => ?_)
   ·obtain rfl:=sI H2;obtain rfl:=ba h4;obtain rfl:=sI (aR H0);exact pR 5 [.eqT 16 bT,V2] [] [] (aB c2 aN)
   ·refine bK 0 (ps:=[(x0.map ah).length≤9223372036854775807]) (by kernel_rfl) (fun l0 => ?_);have l1:x0.length≤9223372036854775807:=by simpa only [cq,Mt] using l0
    clear l0;obtain rfl:=sI H3;exact pB 4 [.eqT 16 bF,V2] [.only [0,1,4,7,8] []] (da x0 (i0+1) ()) (aB c3 (aH i0 aN))
 ·subst e0;have H4:=bB H0;obtain rfl:=sI H4;exact pR 3 [V1] [] [] aN
def ca (x0:List Linear):Option Bool :=
 (bS x0).bind fun y0 =>
 some (decide (y0≥0))
theorem je (x0:List Linear) (r:Bool) (H:ca x0=some r):br Tryz.prog 88 [dS ah x0,.fn 89 []] (.bool r):=by unfold ca at H;refine aX Tryz.func88 9 [.tmp 4] ?_;refine aL H fun y0 h0 H0 => ?_;obtain rfl:=sI H0;exact pR 5 [V1,r0 [.v,.v,.c true (iI y0),.v,.v]] [] [] (aC Tryz.call142 (aF (kl _ _ h0) aN))
def gA (x0:List Linear):Option Bool :=
 (ca x0).bind fun y0 =>
 some (!y0)
theorem ib (x0:List Linear) (r:Bool) (H:gA x0=some r):br Tryz.prog 45 [dS ah x0] (.bool r):=by unfold gA at H;refine aX Tryz.func45 6 [.tmp 2] ?_;refine aL H fun y0 h0 H0 => ?_;obtain rfl:=sI H0;exact pR 5 [V1,r0 [.v,.c true (.bool y0),.v,.v]] [] [] (aC Tryz.call88 (aF (je _ _ h0) (aT aN)))
noncomputable def dh (x0:List Linear):Option (List ak) :=
 (fA (σ:=(List (ak×Bool))) (ε:=(List (ak×Bool))) (ρ:=Empty) (fun i0 s0 =>
  (il (Linear.mk ((x0.getD i0 aD).Const) ((x0.getD i0 aD).Terms))).bind fun y0 =>
  (fA (σ:=(List (ak×Bool))) (ε:=(List (ak×Bool))) (ρ:=Empty) (fun i1 s1 =>
   some (.go (bH (y0.getD i1 []) true s1))
  ) (fun i1 s1=>s1) (y0.length-0) 0 s0).bind <| dL fun u0 =>
  some (.go u0)
 ) (fun i0 s0=>s0) (x0.length-0) 0 []).bind <| dL fun u1 =>
 lg (σ:=(List ak)) (ε:=Empty) (β:=(List ak)) u1 (fun e0 s2 =>
  bX ((s2.length+1)*16≤140737488355328) <|
  some (.go (s2++[e0.1]))
 ) [] (fun s2 =>
  (iT s2).bind fun y1 =>
  some y1
 )
def gb (x0:List Linear) (i0:Nat) (s0:List (ak×Bool)):AS:=⟨41,[(2,.eslice),(3,.amap 10),(11,dS ah x0),(12,nI x0.length),(13,nI i0)],[(10,.smap 0 4 (s0.map (aQ oo)))]⟩
def jQ (u2:List (ak×Bool)):AS:=⟨41,[(2,.eslice),(3,.amap 10)],[(10,.smap 0 4 (u2.map (aQ oo)))]⟩
def gq (x0:List Linear) (i0:Nat) (y0:List ak) (i1:Nat) (s1:List (ak×Bool)):AS:=⟨41,[(2,.eslice),(3,.amap 10),(11,dS ah x0),(12,nI x0.length),(13,nI i0),(18,dS aZ y0),(19,nI y0.length),(20,nI i1)],[(10,.smap 0 4 (s1.map (aQ oo)))]⟩
def j8 (x0:List Linear) (i0:Nat) (u3:List (ak×Bool)):AS:=⟨41,[(2,.eslice),(3,.amap 10),(11,dS ah x0),(12,nI x0.length),(13,nI i0)],[(10,.smap 0 4 (u3.map (aQ oo)))]⟩
def gh (u1:List (ak×Bool)) (i2:List Nat) (s2:List ak):AS:=⟨41,[(2,.eslice),(8,.rslice 37),(29,.hptr 29 0)],[(29,.iter (u1.map (aQ oo)) i2),(37,.row 9 1 (s2.map aZ))]⟩
theorem kr (x0:List Linear) (r:List ak) (H:dh x0=some r):br Tryz.prog 49 [dS ah x0] (dS aZ r):=by
 unfold dh at H;refine aX Tryz.func49 41 [.tmp 2] ?_;refine pA 8 [V1,r0 [.m,.v],r0 [.v,.e (nI x0.length),.v]] [.only [2,3,11,12,13] [10]] 8 [] (gb x0 0 []) (aT (aC (bo ah x0) aN)) ?_;refine aL H fun R0 h0 H0 => ?_;refine pJ 1 (jQ) R0 ?_ (fun u1 e1 => ?_)
 ·refine pC (gb x0) h0 (fun i0 s0 h1 e2 => ?_) (fun i0 s0 h2 q0 h3 h4 => ?_)
  ·have c0:=lF i0 x0.length (by omega);subst e2;exact pB 5 [r0 [.e bF]] [.only [2,3] [10]] (jQ s0) (aB c0 aN)
  ·have c1:=lT i0 x0.length (by omega);refine aL h3 fun y0 h5 H1 => ?_;refine pA 12 [r0 [.e bT],r0 [.e (.dptr (ah (x0.getD i0 aD))),.v,.m,.m],r0 [.v,.c true (dS aZ y0),.e (nI y0.length),.v]] [.only [2,3,11,12,13,18,19,20] [10]] 12 [true] (gq x0 i0 y0 0 s0) (aB c1 (aI cP x0 i0 aD (aC Tryz.call98 (aF (sx _ _ h5) (aT (aC (bo aZ y0) aN)))))) ?_;refine aL H1 fun R1 h6 H2 => ?_;refine pJ 2 (j8 x0 i0) R1 ?_ (fun u0 e3 => ?_)
   ·refine pC (gq x0 i0 y0) h6 (fun i1 s1 h7 e4 => ?_) (fun i1 s1 h8 q1 h9 h10 => ?_)
    ·have c2:=lF i1 y0.length (by omega);subst e4;exact pB 5 [r0 [.e bF]] [.only [2,3,11,12,13] [10]] (j8 x0 i0 s1) (aB c2 aN)
    ·have c3:=lT i1 y0.length (by omega);refine bK 18 (ps:=[(y0.map aZ).length≤9223372036854775807]) (by kernel_rfl) (fun l0 => ?_);have l1:y0.length≤9223372036854775807:=by simpa only [cq,Mt] using l0
     clear l0;obtain rfl:=sI h9;exact pB 11 [r0 [.e bT],r0 [.e (.dptr [.str (y0.getD i1 [])]),.v,.v],r0 [.v,.v,.m,.rwH 10 (.smap 0 4 ((bH (y0.getD i1 []) true s1).map (aQ oo)))],V2] [.only [2,3,11,12,13,18,19,20] [10]] (gq x0 i0 y0 (i1+1) (bH (y0.getD i1 []) true s1)) (aB c3 (aI tG y0 i1 [] (aC (congrArg (AO.smap 0 4) (fJ (c:=oo) (y0.getD i1 []) true s1)) (aH i1 aN))))
   ·subst e3;have H3:=bu H2;refine bK 11 (ps:=[(x0.map ah).length≤9223372036854775807]) (by kernel_rfl) (fun l2 => ?_);have l3:x0.length≤9223372036854775807:=by simpa only [cq,Mt] using l2
    clear l2;obtain rfl:=sI H3;exact pB 1 [V2] [.only [2,3,11,12,13] [10]] (gb x0 (i0+1) u0) (aH i0 aN)
 ·subst e1;have H4:=bu H0;refine pA 6 [V1,r0 [.v,.fm 10,.m]] [.er 8 37 9 1,.only [2,8,29] [29,37]] 6 [] (gh u1 [] []) (aC (rV G8 u1) aN) ?_;refine mj (cc:=oo) 29 (gh u1) (by kernel_rfl) H4 [.v] (fun i2 s2=>⟨by kernel_rfl,by kernel_rfl⟩) (fun i2 s2=>⟨41,[(2,.eslice),(8,.rslice 37),(29,.hptr 29 0),(30,.tup [.bool false]),(31,.bool false)],[(29,.iter (u1.map (aQ oo)) i2),(37,.row 9 1 (s2.map aZ))]⟩) (fun i2 s2=>by kernel_rfl) (fun i2 s2 n0 e0=>⟨41,[(2,.eslice),(8,.rslice 37),(29,.hptr 29 0),(30,.tup [.bool true,.str e0.1,.bool e0.2]),(31,.bool true)],[(29,.iter (u1.map (aQ oo)) (i2++[n0])),(37,.row 9 1 (s2.map aZ))]⟩) (fun i2 s2 n0 e0=>by kernel_rfl) (fun i2 s2 H5 => ?_) (fun i2 s2 n0 e0 h11 q2 h12 h13 => ?_)
  ·refine aL H5 fun y1 h14 H6 => ?_;refine bc H6 fun e5 => ?_;subst e5;exact pR 8 [r0 [.v,.hR [(37,1000)] 39 (.tup []) [(1000,.row 9 1 (y1.map aZ))]],V2] [.fz 37] [] (aC Tryz.call99 (aC (s5 s2 y1 h14) aN))
  ·refine aP h12 fun g0 H7 => ?_;obtain rfl:=sI H7;exact pB 7 [r0 [.en n0 (.tup [.str e0.1,.bool e0.2]),.v,.v],r0 [.v,.v,.b,.ap,.rwH 37 (.row 9 1 ((s2++[e0.1]).map aZ)),.v]] [.only [2,8,29] [29,37]] (gh u1 (i2++[n0]) (s2++[e0.1])) (aC (fK i2 n0) (aC (rz (cc:=oo) h11) (a8 (tg (c:=aZ) pY s2 [e0.1] 16 (by decide) (by first | (simp;done) | simpa using g0)) (aC (vQ 9 1 aZ s2 [e0.1]) aN))))
def dM (x0:ak):Option Int :=
 (strings_HasPrefix x0 [95]).bind fun y0 =>
 bif y0 then (
  bX (1≤x0.length) <|
  (lr (x0.drop 1)).bind fun y1 =>
  some y1.1
 ) else (
  some 0
 )
theorem jK (x0:ak) (r:Int) (H:dM x0=some r):br Tryz.prog 91 [.str x0] (iI r):=by
 unfold dM at H;refine aX Tryz.func91 15 [.tmp 2] ?_;refine aL H fun y0 h0 H0 => ?_;refine aU H0 (fun c0 H1 => ?_) (fun c1 H2 => ?_)
 ·refine aP H1 fun g0 H3 => ?_;refine aL H3 fun y1 h1 H4 => ?_;obtain rfl:=sI H4;exact pR 13 [V1,r0 [.v,.c true (.bool y0),.v],.eqT 7 bF,r0 [.v,.e (.str (x0.drop 1)),.cf true (.tup [iI y1.1,ua 261 y1.2]),.v,.v,.v,.v,.v],V2] [] [] (aC Tryz.call144 (aF (de _ _ _ h0) (aT (aM c0 (aC (show (0:Int)≤1∧1≤(x0.length:Int)∧(x0.length:Int)≤(x0.length:Int) from by omega) (aC (kR x0 1) (aC Tryz.call145 (aF (s9 (x0.drop 1) y1 h1) (aC (show xg true (.tup [iI y1.1,ua 261 y1.2])=true from by cases h2:y1.2<;>rfl) aN)))))))))
 ·obtain rfl:=sI H2;exact pR 10 [V1,r0 [.v,.c true (.bool y0),.v],.eqT 7 bT,V1] [] [] (aC Tryz.call144 (aF (de _ _ _ h0) (aT (aM c1 aN))))
noncomputable def eL (x0:List Linear):Option Int :=
 (dh x0).bind fun y0 =>
 (fA (σ:=Int) (ε:=Int) (ρ:=Empty) (fun i0 s0 =>
  (dM (y0.getD i0 [])).bind fun y1 =>
  some (.go (if y1>s0 then y1 else s0))
 ) (fun i0 s0=>s0) (y0.length-0) 0 0).bind <| dL fun u0 =>
 some u0
def gP (y0:List ak) (i0:Nat) (s0:Int):AS:=⟨19,[(2,iI 0),(3,iI s0),(7,dS aZ y0),(8,nI y0.length),(9,nI i0)],[]⟩
def kn (u1:Int):AS:=⟨19,[(2,iI 0),(3,iI u1)],[]⟩
theorem qK (x0:List Linear) (r:Int) (H:eL x0=some r):br Tryz.prog 46 [dS ah x0] (iI r):=by
 unfold eL at H;refine aX Tryz.func46 19 [.tmp 2] ?_;refine aL H fun y0 h0 H0 => ?_;refine pA 8 [V1,V1,r0 [.v,.c true (dS aZ y0),.e (nI y0.length),.v]] [.only [2,3,7,8,9] []] 8 [] (gP y0 0 0) (aC Tryz.call49 (aF (kr _ _ h0) (aT (aC (bo aZ y0) aN)))) ?_;refine aL H0 fun R0 h1 H1 => ?_;refine pJ 1 (kn) R0 ?_ (fun u0 e0 => ?_)
 ·refine pC (gP y0) h1 (fun i0 s0 h2 e1 => ?_) (fun i0 s0 h3 q0 h4 h5 => ?_)
  ·have c0:=lF i0 y0.length (by omega);subst e1;exact pB 5 [r0 [.e bF]] [.only [2,3] []] (kn s0) (aB c0 aN)
  ·have c1:=lT i0 y0.length (by omega);refine aL h4 fun y1 h6 H2 => ?_;refine bK 7 (ps:=[(y0.map aZ).length≤9223372036854775807]) (by kernel_rfl) (fun l0 => ?_);have l1:y0.length≤9223372036854775807:=by simpa only [cq,Mt] using l0
   clear l0;obtain rfl:=sI H2;exact pB 11 [r0 [.e bT],r0 [.e (.dptr [.str (y0.getD i0 [])]),.v,.v],r0 [.v,.v,.c true (iI y1),.v,.v],V2] [.only [2,3,7,8,9] []] (gP y0 (i0+1) (if y1>s0 then y1 else s0)) (aB c1 (aI tG y0 i0 [] (aC Tryz.call91 (aF (jK _ _ h6) (aT (aH i0 aN))))))
 ·subst e0;have H3:=bu H1;refine bc H3 fun e2 => ?_;subst e2;exact pR 3 [V2] [] [] aN
def ev (x0:Linear):Option Bool :=
 bif (((x0.Terms.length:Nat):Int)==0) then (
  some (x0.Const==0)
 ) else (
  some false
 )
theorem ux (x0:Linear) (r:Bool) (H:ev x0=some r):br Tryz.prog 47 [.agg [iI x0.Const,dS aw x0.Terms]] (.bool r):=by
 unfold ev at H;refine aX Tryz.func47 12 [.tmp 2] ?_;refine aU H (fun c0 H0 => ?_) (fun c1 H1 => ?_)
 ·obtain rfl:=sI H0;exact pR 5 [r0 [.m,.v],r0 [.v,.v,.e (nI x0.Terms.length),.e bT,.v,.v,.v,.v,.v,.v]] [] [] (aT (aC (bo aw x0.Terms) (aB c0 aN)))
 ·obtain rfl:=sI H1;exact pR 5 [r0 [.m,.v],r0 [.v,.v,.e (nI x0.Terms.length),.e bF,.v,.s,.s,.s,.v,.v]] [] [] (aT (aC (bo aw x0.Terms) (aB c1 aN)))
def iv (x0:Linear):Option Int :=
 (bE x0).bind fun y0 =>
 bif y0 then (
  (fA (σ:=Int) (ε:=Int) (ρ:=Empty) (fun i0 s0 =>
   (oa (σ:=(Int×Int)) (ε:=Int) (ρ:=Empty) (fun s1 =>
    bif (s1.2==0) then (
     some (.brk s1.1)
    ) else (
     bX ((s1.2:Int)≠0) <|
     some (.go (s1.2,(s1.1.tmod s1.2)))
    )
   ) 4294967296 (s0,(if (aS (0-((x0.Terms.getD i0 aJ).C)))>((x0.Terms.getD i0 aJ).C) then (aS (0-((x0.Terms.getD i0 aJ).C))) else ((x0.Terms.getD i0 aJ).C)))).bind <| dL fun u0 =>
   some (.go u0)
  ) (fun i0 s0=>s0) (x0.Terms.length-0) 0 0).bind <| dL fun u1 =>
  some u1
 ) else (
  some 0
 )
def jL (x0:Linear) (i0:Nat) (s0:Int):AS:=⟨34,[(2,iI 0),(3,iI s0),(12,dS aw x0.Terms),(13,nI x0.Terms.length),(14,nI i0)],[]⟩
def ox (u2:Int):AS:=⟨34,[(2,iI 0),(3,iI u2)],[]⟩
def j4 (x0:Linear) (i0:Nat) (s0:Int) (s1:Int×Int):AS:=⟨34,[(2,iI 0),(3,iI s0),(6,iI s1.1),(7,iI s1.2),(12,dS aw x0.Terms),(13,nI x0.Terms.length),(14,nI i0)],[]⟩
def ot (x0:Linear) (i0:Nat) (s0 u3:Int):AS:=⟨34,[(2,iI 0),(3,iI s0),(6,iI u3),(12,dS aw x0.Terms),(13,nI x0.Terms.length),(14,nI i0)],[]⟩
theorem tZ (x0:Linear) (r:Int) (H:iv x0=some r):br Tryz.prog 92 [.agg [iI x0.Const,dS aw x0.Terms]] (iI r):=by
 unfold iv at H;refine aX Tryz.func92 34 [.tmp 2] ?_;refine aL H fun y0 h0 H0 => ?_;refine aU H0 (fun c0 H1 => ?_) (fun c1 H2 => ?_)
 ·refine pA 14 [.rg 0 [] [.m,.v],.rg 0 [] [.v],.rg 0 [] [.v,.c true (.bool y0),.v],.eqT 10 bF,.rg 0 [] [.v,.v,.e (.int .i64 ((x0.Terms.length:Nat):Int)),.v]] [.only [2,3,12,13,14] []] 13 [false] (jL x0 0 0) (aC Tryz.call90 (aF (aW _ _ h0) (aT (aM c0 (aT (aC (bo aw x0.Terms) aN)))))) ?_;refine aL H1 fun R0 h1 H3 => ?_;refine pJ 1 (ox) R0 ?_ (fun u1 e0 => ?_)
  ·refine pC (jL x0) h1 (fun i0 s0 h2 e1 => ?_) (fun i0 s0 h3 q0 h4 h5 => ?_)
   ·have c2:=lF i0 x0.Terms.length (by omega);subst e1;exact pB 5 [r0 [.e bF]] [.only [2,3] []] (ox s0) (aB c2 aN)
   ·have c3:=lT i0 x0.Terms.length (by omega);refine pA 13 [r0 [.e bT],r0 [.e (.dptr (aw (x0.Terms.getD i0 aJ))),.v,.m,.m],.rg 8 (V 5 [.w,.v,.v]) [.v]] [.only [2,3,6,7,12,13,14] []] 13 [true] (j4 x0 i0 s0 (s0,(if (aS (0-((x0.Terms.getD i0 aJ).C)))>((x0.Terms.getD i0 aJ).C) then (aS (0-((x0.Terms.getD i0 aJ).C))) else ((x0.Terms.getD i0 aJ).C)))) (aB c3 (aI cy x0.Terms i0 aJ (aT aN))) ?_;refine aL h4 fun R1 h6 H4 => ?_;refine pJ 1 (ot x0 i0 s0) R1 ?_ (fun u0 e2 => ?_)
    ·refine qL (j4 x0 i0 s0) (by kernel_rfl) h6 (fun s1 q1 h7 h8 => ?_)
     ·refine aU h7 (fun c4 H5 => ?_) (fun c5 H6 => ?_)
      ·obtain rfl:=sI H5;obtain rfl:=ja h8;exact pB 6 [V2,.eqT 26 bF] [.only [2,3,6,12,13,14] []] (ot x0 i0 s0 s1.1) (aM c4 aN)
      ·refine aP H6 fun g0 H7 => ?_;obtain rfl:=sI H7;exact pB 8 [V2,.eqT 26 bT,.rg 5 (V 5 []) [.v]] [.only [2,3,6,7,12,13,14] []] (j4 x0 i0 s0 (s1.2,(s1.1.tmod s1.2))) (aM c5 (aC (show (s1.2:Int)≠0 from g0) aN))
    ·subst e2;have H8:=bu H4;refine bK 12 (ps:=[(x0.Terms.map aw).length≤9223372036854775807]) (by kernel_rfl) (fun l0 => ?_);have l1:x0.Terms.length≤9223372036854775807:=by simpa only [cq,Mt] using l0
     clear l0;obtain rfl:=sI H8;exact pB 2 [V2,V2] [.only [2,3,12,13,14] []] (jL x0 (i0+1) u0) (aH i0 aN)
  ·subst e0;have H9:=bu H3;refine bc H9 fun e3 => ?_;subst e3;exact pR 3 [V2] [] [] aN
 ·obtain rfl:=sI H2;exact pR 12 [r0 [.m,.v],V1,r0 [.v,.c true (.bool y0),.v],.eqT 10 bT,V1] [] [] (aC Tryz.call90 (aF (aW _ _ h0) (aT (aM c1 aN))))
def fB (x0:List Int):Option Bool :=
 (fA (σ:=Unit) (ε:=Unit) (ρ:=Bool) (fun i0 s0 =>
  bif decide ((x0.getD i0 0)<(-4611686018427387904)) then (
   some (.ret false)
  ) else (
   bif decide ((x0.getD i0 0)>4611686018427387904) then (
    some (.ret false)
   ) else (
    some (.go ())
   )
  )
 ) (fun i0 s0=>()) (x0.length-0) 0 ()).bind <| aft fun u0 =>
 some true
def oE (x0:List Int) (i0:Nat) (s0:Unit):AS:=⟨18,[(2,.bool false),(5,dS ai x0),(6,nI x0.length),(7,nI i0)],[]⟩
def sO (u1:Unit):AS:=⟨18,[(2,.bool false)],[]⟩
theorem bO (x0:List Int) (r:Bool) (H:fB x0=some r):br Tryz.prog 146 [dS ai x0] (.bool r):=by
 unfold fB at H;refine aX Tryz.func146 18 [.tmp 2] ?_;refine pA 6 [V1,r0 [.v,.e (nI x0.length),.v]] [.only [2,5,6,7] []] 6 [] (oE x0 0 ()) (aT (aC (bo ai x0) aN)) ?_;refine aL H fun R0 h0 H0 => ?_;refine pJ 1 (sO) R0 ?_ (fun u0 e0 => ?_)
 ·refine pC (oE x0) h0 (fun i0 s0 h1 e1 => ?_) (fun i0 s0 h2 q0 h3 h4 => ?_)
  ·have c0:=lF i0 x0.length (by omega);subst e1;exact pB 5 [r0 [.e bF]] [.only [2] []] (sO ()) (aB c0 aN)
  ·have c1:=lT i0 x0.length (by omega);refine aU h3 (fun c2 H1 => ?_) (fun c3 H2 => ?_)
   ·have c2p:=Mp c2;obtain rfl:=sI H1;obtain rfl:=ba h4;obtain rfl:=sI (aR H0);exact pR 15 [r0 [.e bT],r0 [.e (.dptr [iI (x0.getD i0 0)]),.v,.v],r0 [.v,.e bT,.v,.s,.s,.v],V1] [] [] (aB c1 (aI jJ x0 i0 0 (aB c2 aN)))
   ·have c3p:=Mo c3;refine aU H2 (fun c4 H3 => ?_) (fun c5 H4 => ?_)
    ·have c4p:=Mp c4;obtain rfl:=sI H3;obtain rfl:=ba h4;obtain rfl:=sI (aR H0);exact pR 16 [r0 [.e bT],r0 [.e (.dptr [iI (x0.getD i0 0)]),.v,.v],r0 [.v,.e bF,.v,.v,.v,.v],.eqT 16 bT,V1] [] [] (aB c1 (aI jJ x0 i0 0 (aB c3 (aB c4 aN))))
    ·have c5p:=Mo c5;refine bK 5 (ps:=[(x0.map ai).length≤9223372036854775807]) (by kernel_rfl) (fun l0 => ?_);have l1:x0.length≤9223372036854775807:=by simpa only [cq,Mt] using l0
     clear l0;obtain rfl:=sI H4;exact pB 15 [r0 [.e bT],r0 [.e (.dptr [iI (x0.getD i0 0)]),.v,.v],r0 [.v,.e bF,.v,.v,.v,.v],.eqT 16 bF,V2] [.only [2,5,6,7] []] (oE x0 (i0+1) ()) (aB c1 (aI jJ x0 i0 0 (aB c3 (aB c5 (aH i0 aN)))))
 ·subst e0;have H5:=bB H0;obtain rfl:=sI H5;exact pR 3 [V1] [] [] aN
def cE (x0:Int):Option Int :=
 bif decide (x0<0) then (
  some (aS (0-x0))
 ) else (
  some x0
 )
theorem cY (x0 r:Int) (H:cE x0=some r):br Tryz.prog 148 [iI x0] (iI r):=by
 unfold cE at H;refine aX Tryz.func148 8 [.tmp 2] ?_;refine aU H (fun c0 H0 => ?_) (fun c1 H1 => ?_)
 ·obtain rfl:=sI H0;exact pR 10 [V1,V2,.eqT 4 bT,r0 [.v,.w,.v]] [] [] (aB c0 aN)
 ·refine bc H1 fun e0 => ?_;subst e0;exact pR 11 [V1,V2,.eqT 4 bF,V2] [] [] (aB c1 aN)
def e9 (x0 x1:Int):Option (Int×Int) :=
 (fB [x0,x1]).bind fun y0 =>
 bif y0 then (
  (cE x0).bind fun y1 =>
  (cE x1).bind fun y2 =>
  (mA (IntKind.wrap .u64 y1) (IntKind.wrap .u64 y2)).bind fun y3 =>
  bif decide (y3.1>0) then (
   some (0,2)
  ) else (
   bif decide (y3.2>4611686018427387904) then (
    some (0,2)
   ) else (
    bif (decide (x0<0)==decide (x1<0)) then (
     some ((IntKind.wrap .i64 y3.2),0)
    ) else (
     some ((aS (0-(IntKind.wrap .i64 y3.2))),0)
    )
   )
  )
 ) else (
  some (0,2)
 )
theorem iP (x0 x1:Int) (r:Int×Int) (H:e9 x0 x1=some r):br Tryz.prog 93 [iI x0,iI x1] (.tup [iI r.1,iI r.2]):=by
 unfold e9 at H;refine aX Tryz.func93 39 [.tmp 4,.tmp 5] ?_;refine aL H fun y0 h0 H0 => ?_;refine aU H0 (fun c0 H1 => ?_) (fun c1 H2 => ?_)
 ·refine aL H1 fun y1 h1 H3 => ?_;refine aL H3 fun y2 h2 H4 => ?_;refine aL H4 fun y3 h3 H5 => ?_;refine pD 12 [V2,r0 [.v,.v,.b,.c true (.bool y0),.v],.eqT 12 bF,r0 [.v,.c true (iI y1),.v,.v,.c true (iI y2),.v,.c true (.tup [.int .u64 y3.1,.int .u64 y3.2]),.v,.v,.v,.v,.v]] [.only [0,1,4,5,6,7] []] 11 [false] (aC Tryz.call146 (aF (bO _ _ h0) (aT (aM c0 (aC Tryz.call148 (aF (cY _ _ h1) (aT (aC Tryz.call148 (aF (cY _ _ h2) (aT (aC Tryz.call147 (aF (qw (IntKind.wrap .u64 y1) (IntKind.wrap .u64 y2) y3 h3) aN)))))))))))) ?_;refine aU H5 (fun c2 H6 => ?_) (fun c3 H7 => ?_)
  ·obtain rfl:=sI H6;exact pR 5 [r0 [.v,.e bT,.v,.s,.s,.v],V2] [] [] (aB c2 aN)
  ·refine aU H7 (fun c4 H8 => ?_) (fun c5 H9 => ?_)
   ·obtain rfl:=sI H8;exact pR 6 [r0 [.v,.e bF,.v,.v,.v,.v],.eqT 28 bT,V2] [] [] (aB c3 (aB c4 aN))
   ·refine aU H9 (fun c6 H10 => ?_) (fun c7 H11 => ?_)
    ·obtain rfl:=sI H10;exact pR 13 [r0 [.v,.e bF,.v,.v,.v,.v],.eqT 28 bF,V5,.eqT 33 bF,V4] [] [] (aB c3 (aB c5 (aM c6 (aT aN))))
    ·obtain rfl:=sI H11;exact pR 12 [r0 [.v,.e bF,.v,.v,.v,.v],.eqT 28 bF,V5,.eqT 33 bT,r0 [.v,.v,.w,.v,.v]] [] [] (aB c3 (aB c5 (aM c7 (aT aN))))
 ·obtain rfl:=sI H2;exact pR 10 [V2,r0 [.v,.v,.b,.c true (.bool y0),.v],.eqT 12 bT,V2] [] [] (aC Tryz.call146 (aF (bO _ _ h0) (aT (aM c1 aN))))
def cn (x0 x1:Int):Option Bool :=
 bif (x1==0) then (
  bif decide (x0≥(-1099511627776)) then (
   some (decide (x0≤1099511627776))
  ) else (
   some false
  )
 ) else (
  some false
 )
theorem dI (x0 x1:Int) (r:Bool) (H:cn x0 x1=some r):br Tryz.prog 94 [iI x0,iI x1] (.bool r):=by
 unfold cn at H;refine aX Tryz.func94 15 [.tmp 4] ?_;refine aU H (fun c0 H0 => ?_) (fun c1 H1 => ?_)
 ·refine aU H0 (fun c2 H2 => ?_) (fun c3 H3 => ?_)
  ·obtain rfl:=sI H2;exact pR 5 [V1,r0 [.v,.e bT,.v,.v,.e bT,.v,.v,.v,.v,.v,.v]] [] [] (aB c0 (aB c2 aN))
  ·obtain rfl:=sI H3;exact pR 5 [V1,r0 [.v,.e bT,.v,.v,.e bF,.v,.v,.s,.s,.v,.v]] [] [] (aB c0 (aB c3 aN))
 ·obtain rfl:=sI H1;exact pR 5 [V1,r0 [.v,.e bF,.v,.s,.s,.v,.v,.s,.s,.v,.v]] [] [] (aB c1 aN)
def ed (x0 x1:au):Option Int :=
 bif ((if (aS (0-x0.C))>x0.C then (aS (0-x0.C)) else x0.C)==(if (aS (0-x1.C))>x1.C then (aS (0-x1.C)) else x1.C)) then (
  (dM x0.Var).bind fun y0 =>
  (dM x1.Var).bind fun y1 =>
  bif (y0==y1) then (
   (ry x1.Var x0.Var).bind fun y2 =>
   some y2
  ) else (
   some (aS (y1-y0))
  )
 ) else (
  some (aS ((if (aS (0-x0.C))>x0.C then (aS (0-x0.C)) else x0.C)-(if (aS (0-x1.C))>x1.C then (aS (0-x1.C)) else x1.C)))
 )
theorem sV (x0 x1:au) (r:Int) (H:ed x0 x1=some r):br Tryz.prog 150 [.agg [.str x0.Var,iI x0.C],.agg [.str x1.Var,iI x1.C]] (iI r):=by
 unfold ed at H;refine aX Tryz.func150 44 [.tmp 4] ?_;refine aU H (fun c0 H0 => ?_) (fun c1 H1 => ?_)
 ·refine aL H0 fun y0 h0 H2 => ?_;refine aL H2 fun y1 h1 H3 => ?_;refine pD 15 [r0 [.m,.m,.v],.rg 13 (V 4 [.w,.v,.v,.v,.v,.v,.w,.v,.v]) [.v],V3,.eqT 23 bF,.rg 5 [.v,.v,.c true (iI y0),.v,.v] [.c true (iI y1),.v,.v],V3] [.only [2,3,4,7,8,35] [2,3]] 14 [false] (aT (aT (aM c0 (aC Tryz.call91 (aF (jK _ _ h0) (aC Tryz.call91 (aF (jK _ _ h1) aN))))))) ?_;refine aU H3 (fun c2 H4 => ?_) (fun c3 H5 => ?_)
  ·refine aL H4 fun y2 h2 H6 => ?_;refine bc H6 fun e0 => ?_;subst e0;exact pR 6 [.eqT 35 bF,r0 (V 4 [.c true (iI y2),.v])] [] [] (aM c2 (aC Tryz.call52 (aF (yq x1.Var x0.Var y2 h2) aN)))
  ·obtain rfl:=sI H5;exact pR 5 [.eqT 35 bT,r0 [.v,.v,.w,.v]] [] [] (aM c3 aN)
 ·obtain rfl:=sI H1;exact pR 12 [r0 [.m,.m,.v],.rg 13 (V 4 [.w,.v,.v,.v,.v,.v,.w,.v,.v]) [.v],V3,.eqT 23 bT,r0 [.v,.v,.w,.v]] [] [] (aT (aT (aM c1 aN)))
def dJ (x0:List au):Option au :=
 bif decide (((x0.length:Nat):Int)<1) then (
  none
 ) else (
  bX (0<x0.length) <|
  (fA (σ:=(ak×Int)) (ε:=(ak×Int)) (ρ:=Empty) (fun i0 s0 =>
   (ed (au.mk ((x0.getD i0 aJ).Var) ((x0.getD i0 aJ).C)) (au.mk s0.1 s0.2)).bind fun y0 =>
   ((
    bif decide (y0<0) then (
     some (((x0.getD i0 aJ).Var),((x0.getD i0 aJ).C))
    ) else (
     some (s0.1,s0.2)
    )
   ):Option (ak×Int)).bind fun v0 =>
   some (.go (v0.1,v0.2))
  ) (fun i0 s0=>(s0.1,s0.2)) (x0.length-1) 1 (((x0.getD 0 aJ).Var),((x0.getD 0 aJ).C))).bind <| dL fun u0 =>
  some (au.mk u0.1 u0.2)
 )
def eG (x0:List au) (i0:Nat) (s0:ak×Int):AS:=⟨33,[(0,dS aw x0),(1,.fn 150 []),(4,.hptr 4 0),(5,.hptr 5 0),(6,nI i0)],[(4,.cells 31 [.str [],iI 0]),(5,.cells 31 [.str s0.1,iI s0.2])]⟩
def ig (u1:ak×Int):AS:=⟨33,[(4,.hptr 4 0),(5,.hptr 5 0)],[(4,.cells 31 [.str [],iI 0]),(5,.cells 31 [.str u1.1,iI u1.2])]⟩
def eD (x0:List au) (i0:Nat) (v0:ak×Int):AS:=⟨33,[(0,dS aw x0),(1,.fn 150 []),(4,.hptr 4 0),(5,.hptr 5 0),(6,nI i0)],[(4,.cells 31 [.str [],iI 0]),(5,.cells 31 [.str v0.1,iI v0.2])]⟩
theorem od (x0:List au) (r:au) (H:dJ x0=some r):br Tryz.prog 149 [dS aw x0,.fn 150 []] (.agg [.str r.Var,iI r.C]):=by
 unfold dJ at H;refine aX Tryz.func149 33 [.cell 4 31] ?_;refine aU H (fun c0 H0 => ?_) (fun c1 H1 => ?_)
 ·cases H0
 ·have c1p:=Mo c1;refine aP H1 fun g0 H2 => ?_;refine pA 14 [r0 [.m],r0 [.v,.e (nI x0.length),.v],.eqT 9 bF,r0 [.v,.e (.dptr (aw (x0.getD 0 aJ))),.v,.m,.m],V1] [.only [0,1,4,5,6] [4,5]] 13 [false] (eG x0 1 (((x0.getD 0 aJ).Var),((x0.getD 0 aJ).C))) (aT (aC (bo aw x0) (aB c1 (aI cy x0 0 aJ aN)))) ?_;refine aL H2 fun R0 h0 H3 => ?_;refine pJ 1 (ig) R0 ?_ (fun u0 e0 => ?_)
  ·refine pC (eG x0) h0 (fun i0 s0 h1 e1 => ?_) (fun i0 s0 h2 q0 h3 h4 => ?_)
   ·have c2:=lF i0 x0.length (by omega);subst e1;exact pB 5 [r0 [.v,.v,.e (nI x0.length),.e bF]] [.only [4,5] [4,5]] (ig (s0.1,s0.2)) (aT (aC (bo aw x0) (aB c2 aN)))
   ·have c3:=lT i0 x0.length (by omega);refine aL h3 fun y0 h5 H4 => ?_;refine pD 9 [r0 [.v,.v,.e (nI x0.length),.e bT],.rg 6 [.v,.v,.v,.e (.dptr (aw (x0.getD i0 aJ))),.v,.v] [.c true (iI y0),.v]] [.only [0,1,4,5,6,27] [4,5]] 9 [true] (aT (aC (bo aw x0) (aB c3 (aI cy x0 i0 aJ (aC Tryz.call150 (aF (sV _ _ _ h5) aN)))))) ?_;refine aL H4 fun v0 h6 H5 => ?_;refine cC 1 (eD x0 i0 v0) (by kernel_rfl) ?_ ?_
    ·refine aU h6 (fun c4 H6 => ?_) (fun c5 H7 => ?_)
     ·have c4p:=Mp c4;obtain rfl:=sI H6;exact pB 3 [.eqT 27 bT,r0 [.v,.v,.e (.dptr (aw (x0.getD i0 aJ))),.v,.m]] [.only [0,1,4,5,6] [4,5]] (eD x0 i0 (((x0.getD i0 aJ).Var),((x0.getD i0 aJ).C))) (aB c4 (aI cy x0 i0 aJ aN))
     ·obtain rfl:=sI H7;exact pB 3 [.eqT 27 bF] [.only [0,1,4,5,6] [4,5]] (eD x0 i0 (s0.1,s0.2)) (aB c5 aN)
    ·refine bK 0 (ps:=[(x0.map aw).length≤9223372036854775807]) (by kernel_rfl) (fun l0 => ?_);have l1:x0.length≤9223372036854775807:=by simpa only [cq,Mt] using l0
     clear l0;obtain rfl:=sI H5;exact pB 1 [V3] [.only [0,1,4,5,6] [4,5]] (eG x0 (i0+1) (v0.1,v0.2)) (aH i0 aN)
  ·subst e0;have H8:=bu H3;obtain rfl:=sI H8;exact pR 3 [r0 [.v,.m]] [] [] aN
def fO (x0:Linear):Option au :=
 (dJ x0.Terms).bind fun y0 =>
 some y0
theorem pf (x0:Linear) (r:au) (H:fO x0=some r):br Tryz.prog 95 [.agg [iI x0.Const,dS aw x0.Terms]] (.agg [.str r.Var,iI r.C]):=by unfold fO at H;refine aX Tryz.func95 6 [.cell 2 31] ?_;refine aL H fun y0 h0 H0 => ?_;refine bc H0 fun e0 => ?_;subst e0;exact pR 5 [r0 [.m,.m],r0 [.v,.v,.c true (.agg [.str y0.Var,iI y0.C]),.m]] [] [] (aC Tryz.call149 (aF (od _ _ h0) aN))
def fY (x0:Linear) (x1:ak):Option Int :=
 (fA (σ:=Unit) (ε:=Unit) (ρ:=Int) (fun i0 s0 =>
  bif (((x0.Terms.getD i0 aJ).Var)==x1) then (
   some (.ret ((x0.Terms.getD i0 aJ).C))
  ) else (
   some (.go ())
  )
 ) (fun i0 s0=>()) (x0.Terms.length-0) 0 ()).bind <| aft fun u0 =>
 some 0
def nO (x0:Linear) (x1:ak) (i0:Nat) (s0:Unit):AS:=⟨21,[(1,.str x1),(4,iI 0),(8,dS aw x0.Terms),(9,nI x0.Terms.length),(10,nI i0)],[]⟩
def rR (u1:Unit):AS:=⟨21,[(4,iI 0)],[]⟩
theorem oS (x0:Linear) (x1:ak) (r:Int) (H:fY x0 x1=some r):br Tryz.prog 157 [.agg [iI x0.Const,dS aw x0.Terms],.str x1] (iI r):=by
 unfold fY at H;refine aX Tryz.func157 21 [.tmp 4] ?_;refine pA 6 [r0 [.m,.v],r0 [.v,.v,.e (nI x0.Terms.length),.v]] [.only [1,4,8,9,10] []] 6 [] (nO x0 x1 0 ()) (aT (aC (bo aw x0.Terms) aN)) ?_;refine aL H fun R0 h0 H0 => ?_;refine pJ 1 (rR) R0 ?_ (fun u0 e0 => ?_)
 ·refine pC (nO x0 x1) h0 (fun i0 s0 h1 e1 => ?_) (fun i0 s0 h2 q0 h3 h4 => ?_)
  ·have c0:=lF i0 x0.Terms.length (by omega);subst e1;exact pB 5 [r0 [.e bF]] [.only [4] []] (rR ()) (aB c0 aN)
  ·have c1:=lT i0 x0.Terms.length (by omega);refine aU h3 (fun c2 H1 => ?_) (fun c3 H2 => ?_)
   ·obtain rfl:=sI H1;obtain rfl:=ba h4;obtain rfl:=sI (aR H0);exact pR 16 [r0 [.e bT],r0 [.e (.dptr (aw (x0.Terms.getD i0 aJ))),.v,.m,.m],V4,.eqT 17 bT,V3] [] [] (aB c1 (aI cy x0.Terms i0 aJ (aB c2 aN)))
   ·refine bK 8 (ps:=[(x0.Terms.map aw).length≤9223372036854775807]) (by kernel_rfl) (fun l0 => ?_);have l1:x0.Terms.length≤9223372036854775807:=by simpa only [cq,Mt] using l0
    clear l0;obtain rfl:=sI H2;exact pB 15 [r0 [.e bT],r0 [.e (.dptr (aw (x0.Terms.getD i0 aJ))),.v,.m,.m],V4,.eqT 17 bF,V2] [.only [1,4,8,9,10] []] (nO x0 x1 (i0+1) ()) (aB c1 (aI cy x0.Terms i0 aJ (aB c3 (aH i0 aN))))
 ·subst e0;have H3:=bB H0;obtain rfl:=sI H3;exact pR 3 [V1] [] [] aN
def kY (x0 x1:Int):Option Int :=
 (cE x0).bind fun y0 =>
 (cE x1).bind fun y1 =>
 (oa (σ:=(Int×Int)) (ε:=Int) (ρ:=Empty) (fun s0 =>
  bif (s0.2==0) then (
   some (.brk s0.1)
  ) else (
   bX ((s0.2:Int)≠0) <|
   some (.go (s0.2,(s0.1.tmod s0.2)))
  )
 ) 4294967296 (y0,y1)).bind <| dL fun u0 =>
 some u0
def nR (s0:Int×Int):AS:=⟨16,[(0,iI s0.1),(1,iI s0.2),(4,iI 0)],[]⟩
def rN (u1:Int):AS:=⟨16,[(0,iI u1),(4,iI 0)],[]⟩
theorem yj (x0 x1 r:Int) (H:kY x0 x1=some r):br Tryz.prog 240 [iI x0,iI x1] (iI r):=by
 unfold kY at H;refine aX Tryz.func240 16 [.tmp 4] ?_;refine aL H fun y0 h0 H0 => ?_;refine aL H0 fun y1 h1 H1 => ?_;refine pA 6 [V1,r0 [.v,.c true (iI y0),.v,.c true (iI y1),.v,.v]] [.only [0,1,4] []] 6 [] (nR (y0,y1)) (aC Tryz.call148 (aF (cY _ _ h0) (aC Tryz.call148 (aF (cY _ _ h1) aN)))) ?_;refine aL H1 fun R0 h2 H2 => ?_;refine pJ 1 (rN) R0 ?_ (fun u0 e0 => ?_)
 ·refine qL (nR) (by kernel_rfl) h2 (fun s0 q0 h3 h4 => ?_)
  ·refine aU h3 (fun c0 H3 => ?_) (fun c1 H4 => ?_)
   ·obtain rfl:=sI H3;obtain rfl:=ja h4;exact pB 6 [V2,.eqT 10 bF] [.only [0,4] []] (rN s0.1) (aM c0 aN)
   ·refine aP H4 fun g0 H5 => ?_;obtain rfl:=sI H5;exact pB 8 [V2,.eqT 10 bT,.rg 5 (V 5 []) [.v]] [.only [0,1,4] []] (nR (s0.2,(s0.1.tmod s0.2))) (aM c1 (aC (show (s0.2:Int)≠0 from g0) aN))
 ·subst e0;have H6:=bu H2;refine bc H6 fun e1 => ?_;subst e1;exact pR 3 [V2] [] [] aN
def k7 (x0 x1:Int):Option (Int×Int) :=
 (fB [x0,x1]).bind fun y0 =>
 bif y0 then (
  bif (x0==0) then (
   some (0,0)
  ) else (
   bif (x1==0) then (
    some (0,0)
   ) else (
    (cE x0).bind fun y1 =>
    (kY x0 x1).bind fun y2 =>
    bX ((y2:Int)≠0) <|
    (cE x1).bind fun y3 =>
    (e9 (aS (y1.tdiv y2)) y3).bind fun y4 =>
    some (y4.1,y4.2)
   )
  )
 ) else (
  some (0,2)
 )
theorem yw (x0 x1:Int) (r:Int×Int) (H:k7 x0 x1=some r):br Tryz.prog 196 [iI x0,iI x1] (.tup [iI r.1,iI r.2]):=by
 unfold k7 at H;refine aX Tryz.func196 28 [.tmp 4,.tmp 5] ?_;refine aL H fun y0 h0 H0 => ?_;refine aU H0 (fun c0 H1 => ?_) (fun c1 H2 => ?_)
 ·refine aU H1 (fun c2 H3 => ?_) (fun c3 H4 => ?_)
  ·obtain rfl:=sI H3;exact pR 15 [V2,r0 [.v,.v,.b,.c true (.bool y0),.v],.eqT 10 bF,r0 [.v,.e bT,.v,.s,.s,.v],V2] [] [] (aC Tryz.call146 (aF (bO _ _ h0) (aT (aM c0 (aB c2 aN)))))
  ·refine aU H4 (fun c4 H5 => ?_) (fun c5 H6 => ?_)
   ·obtain rfl:=sI H5;exact pR 16 [V2,r0 [.v,.v,.b,.c true (.bool y0),.v],.eqT 10 bF,r0 [.v,.e bF,.v,.v,.v,.v],.eqT 16 bT,V2] [] [] (aC Tryz.call146 (aF (bO _ _ h0) (aT (aM c0 (aB c3 (aB c4 aN))))))
   ·refine aL H6 fun y1 h1 H7 => ?_;refine aL H7 fun y2 h2 H8 => ?_;refine aP H8 fun g0 H9 => ?_;refine aL H9 fun y3 h3 H10 => ?_;refine aL H10 fun y4 h4 H11 => ?_;obtain rfl:=sI H11;exact pR 17 [V2,r0 [.v,.v,.b,.c true (.bool y0),.v],.eqT 10 bF,r0 [.v,.e bF,.v,.v,.v,.v],.eqT 16 bF,.rg 11 [.v,.c true (iI y1),.v,.v,.c true (iI y2),.w,.v,.c true (iI y3),.c true (.tup [iI y4.1,iI y4.2]),.v,.v] [.v,.v]] [] [] (aC Tryz.call146 (aF (bO _ _ h0) (aT (aM c0 (aB c3 (aB c5 (aC Tryz.call148 (aF (cY _ _ h1) (aC Tryz.call240 (aF (yj _ _ _ h2) (aC (show (y2:Int)≠0 from g0) (aC Tryz.call148 (aF (cY _ _ h3) (aC Tryz.call93 (aF (iP _ _ _ h4) aN)))))))))))))))
 ·obtain rfl:=sI H2;exact pR 10 [V2,r0 [.v,.v,.b,.c true (.bool y0),.v],.eqT 10 bT,V2] [] [] (aC Tryz.call146 (aF (bO _ _ h0) (aT (aM c1 aN))))
def db (x0 x1 x2 x3 x4 x5 x6 x7:Int):Option (Int×Int×Int×Int×Int×Int) :=
 bif (decide (x0<0)==decide (x1<0)) then (
  (cE x0).bind fun y0 =>
  (cE x1).bind fun y1 =>
  (mA (IntKind.wrap .u64 y0) (IntKind.wrap .u64 y1)).bind fun y2 =>
  (eU x2 y2.2 0).bind fun y3 =>
  (eU x3 y2.1 y3.2).bind fun y4 =>
  (eU x4 0 y4.2).bind fun y5 =>
  some (y3.1,y4.1,y5.1,x5,x6,x7)
 ) else (
  (cE x0).bind fun y6 =>
  (cE x1).bind fun y7 =>
  (mA (IntKind.wrap .u64 y6) (IntKind.wrap .u64 y7)).bind fun y8 =>
  (eU x5 y8.2 0).bind fun y9 =>
  (eU x6 y8.1 y9.2).bind fun y10 =>
  (eU x7 0 y10.2).bind fun y11 =>
  some (x2,x3,x4,y9.1,y10.1,y11.1)
 )
theorem sq (x0 x1 x2 x3 x4 x5 x6 x7:Int) (r:Int×Int×Int×Int×Int×Int) (H:db x0 x1 x2 x3 x4 x5 x6 x7=some r):bg Tryz.prog 241 [.hptr 1000 0,iI x0,iI x1] [(1000,.cells 272 [.int .u64 x2,.int .u64 x3,.int .u64 x4,.int .u64 x5,.int .u64 x6,.int .u64 x7])] (fun r2 h0=>r2=(.tup [])∧h0=[(1000,.cells 272 [.int .u64 r.1,.int .u64 r.2.1,.int .u64 r.2.2.1,.int .u64 r.2.2.2.1,.int .u64 r.2.2.2.2.1,.int .u64 r.2.2.2.2.2])]):=by
 unfold db at H;refine aX Tryz.func241 54 [] ?_;refine aU H (fun c0 H0 => ?_) (fun c1 H1 => ?_)
 ·refine aL H0 fun y0 h1 H2 => ?_;refine aL H2 fun y1 h2 H3 => ?_;refine aL H3 fun y2 h3 H4 => ?_;refine aL H4 fun y3 h4 H5 => ?_;refine aL H5 fun y4 h5 H6 => ?_;refine aL H6 fun y5 h6 H7 => ?_;obtain rfl:=sI H7;exact pR 57 [V1,V5,.eqT 16 bF,r0 [.v,.c true (iI y0),.v,.v,.c true (iI y1),.v,.c true (.tup [.int .u64 y2.1,.int .u64 y2.2]),.v,.v,.v,.v,.v],V1,r0 [.v,.v,.b,.v],.un,V1,V4,.rg 20 (V 12 [.xc (.tup [.int .u64 y3.1,.int .u64 y3.2]),.v,.v,.v,.v,.v,.v,.m]) [.v],V2,.cv [.only [0,6,9,29,30] [1000]],V1,V4,.rg 20 (V 12 [.xc (.tup [.int .u64 y4.1,.int .u64 y4.2]),.v,.v,.v,.v,.v,.v,.m]) [.v],V2,.cv [.only [0,6,9,29,30] [1000]],V1,V4,.rg 20 (V 12 [.xc (.tup [.int .u64 y5.1,.int .u64 y5.2]),.v,.v,.v,.v,.v,.v,.m]) [.v],V2,.cv [.only [0,6,9,29,30] [1000]],V1] [] [1000] (aM c0 (aC Tryz.call148 (aF (cY _ _ h1) (aT (aC Tryz.call148 (aF (cY _ _ h2) (aT (aC Tryz.call147 (aF (qw (IntKind.wrap .u64 y0) (IntKind.wrap .u64 y1) y2 h3) (aT (aT (aT (aC (jv x2 y2.2 0 y3 h4) (aT (aT (aO (0+1) (aT (aT (aT (aC (jv x3 y2.1 y3.2 y4 h5) (aT (aT (aO (1+1) (aT (aT (aT (aC (jv x4 0 y4.2 y5 h6) (aT (aT (aO (2+1) aN))))))))))))))))))))))))))))))
 ·refine aL H1 fun y6 h7 H8 => ?_;refine aL H8 fun y7 h8 H9 => ?_;refine aL H9 fun y8 h9 H10 => ?_;refine aL H10 fun y9 h10 H11 => ?_;refine aL H11 fun y10 h11 H12 => ?_;refine aL H12 fun y11 h12 H13 => ?_;obtain rfl:=sI H13;exact pR 57 [V1,V5,.eqT 16 bT,V1,r0 [.v,.c true (iI y6),.v,.v,.c true (iI y7),.v,.c true (.tup [.int .u64 y8.1,.int .u64 y8.2]),.v,.v,.v,.v,.v],V1,r0 [.v,.v,.b,.v],.un,V1,V4,.rg 20 (V 12 [.xc (.tup [.int .u64 y9.1,.int .u64 y9.2]),.v,.v,.v,.v,.v,.v,.m]) [.v],V2,.cv [.only [0,6,9,29,30] [1000]],V1,V4,.rg 20 (V 12 [.xc (.tup [.int .u64 y10.1,.int .u64 y10.2]),.v,.v,.v,.v,.v,.v,.m]) [.v],V2,.cv [.only [0,6,9,29,30] [1000]],V1,V4,.rg 20 (V 12 [.xc (.tup [.int .u64 y11.1,.int .u64 y11.2]),.v,.v,.v,.v,.v,.v,.m]) [.v],V2,.cv [.only [0,6,9,29,30] [1000]],V1] [] [1000] (aM c1 (aC Tryz.call148 (aF (cY _ _ h7) (aT (aC Tryz.call148 (aF (cY _ _ h8) (aT (aC Tryz.call147 (aF (qw (IntKind.wrap .u64 y6) (IntKind.wrap .u64 y7) y8 h9) (aT (aT (aT (aC (jv x5 y8.2 0 y9 h10) (aT (aT (aO (0+1) (aT (aT (aT (aC (jv x6 y8.1 y9.2 y10 h11) (aT (aT (aO (1+1) (aT (aT (aT (aC (jv x7 0 y10.2 y11 h12) (aT (aT (aO (2+1) aN))))))))))))))))))))))))))))))
def cG (x0 x1:Int×Int×Int):Option ((Int×Int×Int)×Bool) :=
 (my x0.1 x1.1 0).bind fun y0 =>
 (my x0.2.1 x1.2.1 y0.2).bind fun y1 =>
 (my x0.2.2 x1.2.2 y1.2).bind fun y2 =>
 some ((y0.1,y1.1,y2.1),(y2.2==0))
theorem jA (x0 x1:Int×Int×Int) (r:(Int×Int×Int)×Bool) (H:cG x0 x1=some r):br Tryz.prog 267 [.agg [.int .u64 x0.1,.int .u64 x0.2.1,.int .u64 x0.2.2],.agg [.int .u64 x1.1,.int .u64 x1.2.1,.int .u64 x1.2.2]] (.tup [.agg [.int .u64 r.1.1,.int .u64 r.1.2.1,.int .u64 r.1.2.2],.bool r.2]):=by unfold cG at H;refine aX Tryz.func267 29 [.cell 4 270,.tmp 5] ?_;refine aL H fun y0 h0 H0 => ?_;refine aL H0 fun y1 h1 H1 => ?_;refine aL H1 fun y2 h2 H2 => ?_;obtain rfl:=sI H2;exact pR 55 [r0 [.m,.m,.m,.v],r0 [.m],V1,V1,.un,V1,V2,.rg 14 (V 8 [.xc (.tup [.int .u64 y0.1,.int .u64 y0.2]),.v,.v,.v,.v,.m]) [.v],V2,.cv [.only [2,3,4,5,6,7,9] [2,3,4,6]],V1,V2,.rg 14 (V 8 [.xc (.tup [.int .u64 y1.1,.int .u64 y1.2]),.v,.v,.v,.v,.m]) [.v],V2,.cv [.only [2,3,4,5,6,7,9] [2,3,4,6]],V1,V2,.rg 14 (V 8 [.xc (.tup [.int .u64 y2.1,.int .u64 y2.2]),.v,.v,.v,.v,.m]) [.v],V2,.cv [.only [2,3,4,5,6,7,9] [2,3,4,6]],V1,r0 [.v,.v,.v,.m,.v]] [] [] (aT (aT (aC (rq x0.1 x1.1 0 y0 h0) (aT (aO (0+1) (aT (aT (aC (rq x0.2.1 x1.2.1 y0.2 y1 h1) (aT (aO (1+1) (aT (aT (aC (rq x0.2.2 x1.2.2 y1.2 y2 h2) (aT (aO (2+1) aN)))))))))))))))
def eT (x0:Int):Option (Int×Int) :=
 (fB [x0]).bind fun y0 =>
 bif y0 then (
  some (x0,0)
 ) else (
  some (0,2)
 )
theorem oy (x0:Int) (r:Int×Int) (H:eT x0=some r):br Tryz.prog 269 [iI x0] (.tup [iI r.1,iI r.2]):=by
 unfold eT at H;refine aX Tryz.func269 9 [.tmp 2,.tmp 3] ?_;refine aL H fun y0 h0 H0 => ?_;refine aU H0 (fun c0 H1 => ?_) (fun c1 H2 => ?_)
 ·obtain rfl:=sI H1;exact pR 11 [V2,r0 [.v,.b,.c true (.bool y0),.v],.eqT 7 bF,V3] [] [] (aC Tryz.call146 (aF (bO _ _ h0) (aT (aM c0 aN))))
 ·obtain rfl:=sI H2;exact pR 10 [V2,r0 [.v,.b,.c true (.bool y0),.v],.eqT 7 bT,V2] [] [] (aC Tryz.call146 (aF (bO _ _ h0) (aT (aM c1 aN))))
def cA (x0 x1 x2 x3 x4 x5:Int):Option (Int×Int) :=
 (cG (x0,x1,x2) (x3,x4,x5)).bind fun y0 =>
 bif y0.2 then (
  bif decide (y0.1.2.1>0) then (
   some (0,2)
  ) else (
   bif decide (y0.1.2.2>0) then (
    some (0,2)
   ) else (
    bif decide (y0.1.1>4611686018427387904) then (
     some (0,2)
    ) else (
     (eT (aS (1*(IntKind.wrap .i64 y0.1.1)))).bind fun y1 =>
     some (y1.1,y1.2)
    )
   )
  )
 ) else (
  (cG (x3,x4,x5) (x0,x1,x2)).bind fun y2 =>
  bif y2.2 then (
   bif decide (y2.1.2.1>0) then (
    some (0,2)
   ) else (
    bif decide (y2.1.2.2>0) then (
     some (0,2)
    ) else (
     bif decide (y2.1.1>4611686018427387904) then (
      some (0,2)
     ) else (
      (eT (aS ((-1)*(IntKind.wrap .i64 y2.1.1)))).bind fun y3 =>
      some (y3.1,y3.2)
     )
    )
   )
  ) else (
   some (0,2)
  )
 )
theorem qq (x0 x1 x2 x3 x4 x5:Int) (r:Int×Int) (H:cA x0 x1 x2 x3 x4 x5=some r):bg Tryz.prog 242 [.hptr 1000 0] [(1000,.cells 272 [.int .u64 x0,.int .u64 x1,.int .u64 x2,.int .u64 x3,.int .u64 x4,.int .u64 x5])] (fun r2 h0=>r2=(.tup [iI r.1,iI r.2])∧h0=[(1000,.cells 272 [.int .u64 x0,.int .u64 x1,.int .u64 x2,.int .u64 x3,.int .u64 x4,.int .u64 x5])]):=by
 unfold cA at H;refine aX Tryz.func242 53 [.tmp 2,.tmp 3] ?_;refine aL H fun y0 h1 H0 => ?_;refine pD 22 [V2,V1,r0 [.b,.v],.un,V1,V4,.rg 18 (V 12 [.c true (.tup [.agg [.int .u64 y0.1.1,.int .u64 y0.1.2.1,.int .u64 y0.1.2.2],.bool y0.2]),.v,.v,.v,.m,.m]) [.v],V1] [.only [0,2,3,4,6,7,9,10,30] [7,1000]] 22 [true] (aT (aT (aO (1-0) (aT (aC Tryz.call267 (aF (jA _ _ _ h1) aN)))))) ?_;refine aU H0 (fun c0 H1 => ?_) (fun c1 H2 => ?_)
 ·refine aU H1 (fun c2 H3 => ?_) (fun c3 H4 => ?_)
  ·obtain rfl:=sI H3;exact pR 9 [.eqT 30 bT,r0 [.v,.v,.e bT,.v,.s,.s,.s,.v,.v,.s,.s,.s,.v],V2] [] [1000] (aB c0 (aT (aB c2 aN)))
  ·refine aU H4 (fun c4 H5 => ?_) (fun c5 H6 => ?_)
   ·obtain rfl:=sI H5;exact pR 9 [.eqT 30 bT,r0 [.v,.v,.e bF,.v,.v,.v,.e bT,.v,.v,.s,.s,.s,.v],V2] [] [1000] (aB c0 (aT (aB c3 (aT (aB c4 aN)))))
   ·refine aU H6 (fun c6 H7 => ?_) (fun c7 H8 => ?_)
    ·obtain rfl:=sI H7;exact pR 10 [.eqT 30 bT,r0 [.v,.v,.e bF,.v,.v,.v,.e bF,.v,.v,.v,.v,.v,.v],.eqT 43 bT,V2] [] [1000] (aB c0 (aT (aB c3 (aT (aB c5 (aT (aB c6 aN)))))))
    ·refine aL H8 fun y1 h2 H9 => ?_;obtain rfl:=sI H9;exact pR 11 [.eqT 30 bT,r0 [.v,.v,.e bF,.v,.v,.v,.e bF,.v,.v,.v,.v,.v,.v],.eqT 43 bF,r0 (V 4 [.w,.c true (.tup [iI y1.1,iI y1.2]),.v,.v,.v,.v])] [] [1000] (aB c0 (aT (aB c3 (aT (aB c5 (aT (aB c7 (aT (aT (aC Tryz.call269 (aF (oy _ _ h2) aN)))))))))))
 ·refine aL H2 fun y2 h3 H10 => ?_;refine pD 18 [.eqT 30 bF,V2,.cv [.only [0,2,3,4,9,10] [1000]],V1,V4,.rg 18 (V 12 [.c true (.tup [.agg [.int .u64 y2.1.1,.int .u64 y2.1.2.1,.int .u64 y2.1.2.2],.bool y2.2]),.v,.v,.v,.m,.m]) [.v],V1] [.only [0,2,3,4,6,7,9,10,30] [7,1000]] 16 [false,true] (aB c1 (aO (0+1) (aT (aT (aO (1-1) (aT (aC Tryz.call267 (aF (jA _ _ _ h3) aN)))))))) ?_;refine aU H10 (fun c8 H11 => ?_) (fun c9 H12 => ?_)
  ·refine aU H11 (fun c10 H13 => ?_) (fun c11 H14 => ?_)
   ·obtain rfl:=sI H13;exact pR 9 [.eqT 30 bT,r0 [.v,.v,.e bT,.v,.s,.s,.s,.v,.v,.s,.s,.s,.v],V2] [] [1000] (aB c8 (aT (aB c10 aN)))
   ·refine aU H14 (fun c12 H15 => ?_) (fun c13 H16 => ?_)
    ·obtain rfl:=sI H15;exact pR 9 [.eqT 30 bT,r0 [.v,.v,.e bF,.v,.v,.v,.e bT,.v,.v,.s,.s,.s,.v],V2] [] [1000] (aB c8 (aT (aB c11 (aT (aB c12 aN)))))
    ·refine aU H16 (fun c14 H17 => ?_) (fun c15 H18 => ?_)
     ·obtain rfl:=sI H17;exact pR 10 [.eqT 30 bT,r0 [.v,.v,.e bF,.v,.v,.v,.e bF,.v,.v,.v,.v,.v,.v],.eqT 43 bT,V2] [] [1000] (aB c8 (aT (aB c11 (aT (aB c13 (aT (aB c14 aN)))))))
     ·refine aL H18 fun y3 h4 H19 => ?_;obtain rfl:=sI H19;exact pR 11 [.eqT 30 bT,r0 [.v,.v,.e bF,.v,.v,.v,.e bF,.v,.v,.v,.v,.v,.v],.eqT 43 bF,r0 (V 4 [.w,.c true (.tup [iI y3.1,iI y3.2]),.v,.v,.v,.v])] [] [1000] (aB c8 (aT (aB c11 (aT (aB c13 (aT (aB c15 (aT (aT (aC Tryz.call269 (aF (oy _ _ h4) aN)))))))))))
  ·obtain rfl:=sI H12;exact pR 13 [.eqT 30 bF,V2,.cv [.only [0,2,3,4,9,10] [1000]],V1,V2] [] [1000] (aB c9 (aO (1+1) aN))
def k9 (x0 x1:List Int):Option (Int×Int) :=
 bif (((x0.length:Nat):Int)==((x1.length:Nat):Int)) then (
  bif decide (((x0.length:Nat):Int)>10000) then (
   some (0,3)
  ) else (
   (fB x0).bind fun y0 =>
   bif y0 then (
    (fB x1).bind fun y1 =>
    bif y1 then (
     (fA (σ:=(Int×Int×Int×Int×Int×Int)) (ε:=(Int×Int×Int×Int×Int×Int)) (ρ:=Empty) (fun i0 s0 =>
      bX (i0<x1.length) <|
      (db (x0.getD i0 0) (x1.getD i0 0) s0.1 s0.2.1 s0.2.2.1 s0.2.2.2.1 s0.2.2.2.2.1 s0.2.2.2.2.2).bind fun y2 =>
      some (.go (y2.1,y2.2.1,y2.2.2.1,y2.2.2.2.1,y2.2.2.2.2.1,y2.2.2.2.2.2))
     ) (fun i0 s0=>(s0.1,s0.2.1,s0.2.2.1,s0.2.2.2.1,s0.2.2.2.2.1,s0.2.2.2.2.2)) (x0.length-0) 0 (0,0,0,0,0,0)).bind <| dL fun u0 =>
     (cA u0.1 u0.2.1 u0.2.2.1 u0.2.2.2.1 u0.2.2.2.2.1 u0.2.2.2.2.2).bind fun y3 =>
     some (y3.1,y3.2)
    ) else (
     some (0,2)
    )
   ) else (
    some (0,2)
   )
  )
 ) else (
  some (0,1)
 )
def nV (x0 x1:List Int) (i0:Nat) (s0:Int×Int×Int×Int×Int×Int):AS:=⟨45,[(1,dS ai x1),(4,iI 0),(5,iI 0),(6,.hptr 6 0),(28,dS ai x0),(29,nI x0.length),(30,nI i0)],[(6,.cells 272 [.int .u64 s0.1,.int .u64 s0.2.1,.int .u64 s0.2.2.1,.int .u64 s0.2.2.2.1,.int .u64 s0.2.2.2.2.1,.int .u64 s0.2.2.2.2.2])]⟩
def qU (u1:Int×Int×Int×Int×Int×Int):AS:=⟨45,[(4,iI 0),(5,iI 0),(6,.hptr 6 0)],[(6,.cells 272 [.int .u64 u1.1,.int .u64 u1.2.1,.int .u64 u1.2.2.1,.int .u64 u1.2.2.2.1,.int .u64 u1.2.2.2.2.1,.int .u64 u1.2.2.2.2.2])]⟩
theorem yn (x0 x1:List Int) (r:Int×Int) (H:k9 x0 x1=some r):br Tryz.prog 197 [dS ai x0,dS ai x1] (.tup [iI r.1,iI r.2]):=by
 unfold k9 at H;refine aX Tryz.func197 45 [.tmp 4,.tmp 5] ?_;refine aU H (fun c0 H0 => ?_) (fun c1 H1 => ?_)
 ·refine pD 10 [.rg 0 [] [.v,.v],.rg 0 [] [.v,.e (.int .i64 ((x0.length:Nat):Int)),.v,.e (.int .i64 ((x1.length:Nat):Int)),.v,.v],.eqT 9 bF,.rg 0 [] [.v,.e (.int .i64 ((x0.length:Nat):Int)),.v,.v]] [.only [0,1,4,5,15] []] 9 [false] (aT (aC (bo ai x0) (aT (aC (bo ai x1) (aM c0 (aT (aC (bo ai x0) aN))))))) ?_;refine aU H0 (fun c2 H2 => ?_) (fun c3 H3 => ?_)
  ·obtain rfl:=sI H2;exact pR 5 [.eqT 15 bT,V2] [] [] (aB c2 aN)
  ·have c3p:=Mo c3;refine aL H3 fun y0 h0 H4 => ?_;refine aU H4 (fun c4 H5 => ?_) (fun c5 H6 => ?_)
   ·refine aL H5 fun y1 h1 H7 => ?_;refine aU H7 (fun c6 H8 => ?_) (fun c7 H9 => ?_)
    ·refine pA 13 [.eqT 15 bF,.rg 0 [] [.v,.c true bT,.v,.v,.v,.c true (.bool y1),.v,.v,.v],.eqT 19 bF,.rg 0 [] [.m],.rg 0 [] [.v,.e (.int .i64 ((x0.length:Nat):Int)),.v]] [.only [1,4,5,6,28,29,30] [6]] 11 [false,false] (nV x0 x1 0 (0,0,0,0,0,0)) (aB c3 (aC Tryz.call146 (aC (br.eq (bO _ _ h0) (cB c4)) (aT (aC Tryz.call146 (aF (bO _ _ h1) (aT (aM c6 (aT (aC (bo ai x0) aN)))))))))) ?_;refine aL H8 fun R0 h2 H10 => ?_;refine pJ 1 (qU) R0 ?_ (fun u0 e0 => ?_)
     ·refine pC (nV x0 x1) h2 (fun i0 s0 h3 e1 => ?_) (fun i0 s0 h4 q0 h5 h6 => ?_)
      ·have c8:=lF i0 x0.length (by omega);subst e1;exact pB 5 [r0 [.e bF]] [.only [4,5,6] [6]] (qU (s0.1,s0.2.1,s0.2.2.1,s0.2.2.2.1,s0.2.2.2.2.1,s0.2.2.2.2.2)) (aB c8 aN)
      ·have c9:=lT i0 x0.length (by omega);refine aP h5 fun g0 H11 => ?_;refine aL H11 fun y2 h7 H12 => ?_;refine bK 28 (ps:=[(x0.map ai).length≤9223372036854775807]) (by kernel_rfl) (fun l0 => ?_);have l1:x0.length≤9223372036854775807:=by simpa only [cq,Mt] using l0
       clear l0;obtain rfl:=sI H12;exact pB 11 [r0 [.e bT],r0 [.v,.e (.dptr [iI (x0.getD i0 0)]),.v,.v,.v],r0 [.v,.v,.v,.e (.dptr [iI (x1.getD i0 0)]),.v,.hR [(6,1000)] 40 (.tup []) [(1000,.cells 272 [.int .u64 y2.1,.int .u64 y2.2.1,.int .u64 y2.2.2.1,.int .u64 y2.2.2.2.1,.int .u64 y2.2.2.2.2.1,.int .u64 y2.2.2.2.2.2])]],V2] [.only [1,4,5,6,28,29,30] [6]] (nV x0 x1 (i0+1) (y2.1,y2.2.1,y2.2.2.1,y2.2.2.2.1,y2.2.2.2.2.1,y2.2.2.2.2.2)) (aB c9 (aI jJ x0 i0 0 (aI jJ x1 i0 0 (aC Tryz.call241 (aC (sq _ _ _ _ _ _ _ _ _ h7) (aH i0 aN))))))
     ·subst e0;have H13:=bu H10;refine aL H13 fun y3 h8 H14 => ?_;obtain rfl:=sI H14;exact pR 3 [r0 [.hR [(6,1000)] 42 (.tup [iI y3.1,iI y3.2]) [(1000,.cells 272 [.int .u64 u0.1,.int .u64 u0.2.1,.int .u64 u0.2.2.1,.int .u64 u0.2.2.2.1,.int .u64 u0.2.2.2.2.1,.int .u64 u0.2.2.2.2.2])],.v,.v,.v,.v]] [] [] (aC Tryz.call242 (aC (qq _ _ _ _ _ _ _ h8) aN))
    ·obtain rfl:=sI H9;exact pR 9 [.eqT 15 bF,r0 [.v,.c true bT,.v,.v,.v,.c true (.bool y1),.v,.v,.v],.eqT 19 bT,V2] [] [] (aB c3 (aC Tryz.call146 (aC (br.eq (bO _ _ h0) (cB c4)) (aT (aC Tryz.call146 (aF (bO _ _ h1) (aT (aM c7 aN))))))))
   ·obtain rfl:=sI H6;exact pR 8 [.eqT 15 bF,r0 [.v,.c true bF,.v,.v,.s,.s,.s,.v,.v],V2] [] [] (aB c3 (aC Tryz.call146 (aC (br.eq (bO _ _ h0) (cB c5)) (aT aN))))
 ·obtain rfl:=sI H1;exact pR 11 [V2,r0 [.v,.e (nI x0.length),.v,.e (nI x1.length),.v,.v],.eqT 9 bT,V2] [] [] (aT (aC (bo ai x0) (aT (aC (bo ai x1) (aM c1 aN)))))
noncomputable def dy (x0:Nat) (x1:ae) (x2:Int) (x3:List ae):Option (List ae) :=
 bX (x0<x3.length) <|
 (k7 ((x3.getD x0 aa).scale) x1.scale).bind fun y0 =>
 bif ((x3.getD x0 aa).lost) then (
  some (x3.set x0 (ae.mk (Linear.mk (((x3.getD x0 aa).q).Const) (((x3.getD x0 aa).q).Terms)) ((x3.getD x0 aa).mults) ((x3.getD x0 aa).scale) true))
 ) else (
  bif x1.lost then (
   some (x3.set x0 (ae.mk (Linear.mk (((x3.getD x0 aa).q).Const) (((x3.getD x0 aa).q).Terms)) ((x3.getD x0 aa).mults) ((x3.getD x0 aa).scale) true))
  ) else (
   (cn y0.1 y0.2).bind fun y1 =>
   bif y1 then (
    bX ((((x3.getD x0 aa).scale):Int)≠0) <|
    bX ((x1.scale:Int)≠0) <|
    lg (σ:=((List ae)×(List (Int×Int)))) (ε:=Empty) (β:=(List ae)) ((x3.getD x0 aa).mults) (fun e0 s0 =>
     (e9 e0.2 (aS (y0.1.tdiv ((x3.getD x0 aa).scale)))).bind fun y2 =>
     bX (x0<s0.1.length) <|
     ((
      bif ((s0.1.getD x0 aa).lost) then (
       some (s0.1.set x0 (ae.mk (Linear.mk (((s0.1.getD x0 aa).q).Const) (((s0.1.getD x0 aa).q).Terms)) ((s0.1.getD x0 aa).mults) ((s0.1.getD x0 aa).scale) true))
      ) else (
       (cn y2.1 y2.2).bind fun y3 =>
       some (s0.1.set x0 (ae.mk (Linear.mk (((s0.1.getD x0 aa).q).Const) (((s0.1.getD x0 aa).q).Terms)) ((s0.1.getD x0 aa).mults) ((s0.1.getD x0 aa).scale) (!y3)))
      )
     ):Option (List ae)).bind fun v0 =>
     some (.go (v0,(bH (e0.1:Int) y2.1 s0.2)))
    ) (x3,[]) (fun s0 =>
     lg (σ:=((List ae)×(List (Int×Int)))) (ε:=Empty) (β:=(List ae)) x1.mults (fun e1 s1 =>
      (k9 [1,(aS ((aS (0-(aS (y0.1.tdiv x1.scale))))*x2))] [(be 0 (e1.1:Int) s1.2),e1.2]).bind fun y4 =>
      bX (x0<s1.1.length) <|
      ((
       bif ((s1.1.getD x0 aa).lost) then (
        some (s1.1.set x0 (ae.mk (Linear.mk (((s1.1.getD x0 aa).q).Const) (((s1.1.getD x0 aa).q).Terms)) ((s1.1.getD x0 aa).mults) ((s1.1.getD x0 aa).scale) true))
       ) else (
        (cn y4.1 y4.2).bind fun y5 =>
        some (s1.1.set x0 (ae.mk (Linear.mk (((s1.1.getD x0 aa).q).Const) (((s1.1.getD x0 aa).q).Terms)) ((s1.1.getD x0 aa).mults) ((s1.1.getD x0 aa).scale) (!y5)))
       )
      ):Option (List ae)).bind fun v1 =>
      some (.go (v1,(bH (e1.1:Int) y4.1 s1.2)))
     ) (s0.1,s0.2) (fun s1 =>
      bX (x0<s1.1.length) <|
      bX (x0<(s1.1.set x0 (ae.mk (Linear.mk (((s1.1.getD x0 aa).q).Const) (((s1.1.getD x0 aa).q).Terms)) (ksort s1.2) ((s1.1.getD x0 aa).scale) ((s1.1.getD x0 aa).lost))).length) <|
      some ((s1.1.set x0 (ae.mk (Linear.mk (((s1.1.getD x0 aa).q).Const) (((s1.1.getD x0 aa).q).Terms)) (ksort s1.2) ((s1.1.getD x0 aa).scale) ((s1.1.getD x0 aa).lost))).set x0 (ae.mk (Linear.mk ((((s1.1.set x0 (ae.mk (Linear.mk (((s1.1.getD x0 aa).q).Const) (((s1.1.getD x0 aa).q).Terms)) (ksort s1.2) ((s1.1.getD x0 aa).scale) ((s1.1.getD x0 aa).lost))).getD x0 aa).q).Const) ((((s1.1.set x0 (ae.mk (Linear.mk (((s1.1.getD x0 aa).q).Const) (((s1.1.getD x0 aa).q).Terms)) (ksort s1.2) ((s1.1.getD x0 aa).scale) ((s1.1.getD x0 aa).lost))).getD x0 aa).q).Terms)) (((s1.1.set x0 (ae.mk (Linear.mk (((s1.1.getD x0 aa).q).Const) (((s1.1.getD x0 aa).q).Terms)) (ksort s1.2) ((s1.1.getD x0 aa).scale) ((s1.1.getD x0 aa).lost))).getD x0 aa).mults) y0.1 (((s1.1.set x0 (ae.mk (Linear.mk (((s1.1.getD x0 aa).q).Const) (((s1.1.getD x0 aa).q).Terms)) (ksort s1.2) ((s1.1.getD x0 aa).scale) ((s1.1.getD x0 aa).lost))).getD x0 aa).lost)))
     )
    )
   ) else (
    some (x3.set x0 (ae.mk (Linear.mk (((x3.getD x0 aa).q).Const) (((x3.getD x0 aa).q).Terms)) ((x3.getD x0 aa).mults) ((x3.getD x0 aa).scale) true))
   )
  )
 )
def gI (x0:Nat) (x1:ae) (x2:Int) (x3:List ae) (y0:Int×Int) (i0:List Nat) (s0:(List ae)×(List (Int×Int))):AS:=⟨135,[(0,.hptr 1000 (x0*5)),(2,iI x2),(4,.hptr 4 0),(6,iI y0.1),(8,iI (aS (y0.1.tdiv ((x3.getD x0 aa).scale)))),(9,iI (aS (y0.1.tdiv x1.scale))),(10,.amap 56),(61,.hptr 61 0)],[(4,.cells 109 [iI x1.q.Const,dS aw x1.q.Terms,.dmap (x1.mults.map (dR ai)),iI x1.scale,.bool x1.lost]),(56,.smap 1 3 (s0.2.map (dR ai))),(61,.iter (((x3.getD x0 aa).mults).map (dR ai)) i0),(1000,.row 109 5 (s0.1.map ab))]⟩
def gT (x0:Nat) (x1:ae) (x2:Int) (y0:Int×Int) (i1:List Nat) (s1:(List ae)×(List (Int×Int))):AS:=⟨135,[(0,.hptr 1000 (x0*5)),(2,iI x2),(6,iI y0.1),(9,iI (aS (y0.1.tdiv x1.scale))),(10,.amap 56),(91,.hptr 91 0)],[(56,.smap 1 3 (s1.2.map (dR ai))),(91,.iter (x1.mults.map (dR ai)) i1),(1000,.row 109 5 (s1.1.map ab))]⟩
def gJ (x0:Nat) (x1:ae) (x2:Int) (y0:Int×Int) (i1:List Nat) (s1:(List ae)×(List (Int×Int))) (n0:Nat) (e1 y4:Int×Int) (v1:List ae):AS:=⟨135,[(0,.hptr 1000 (x0*5)),(2,iI x2),(6,iI y0.1),(9,iI (aS (y0.1.tdiv x1.scale))),(10,.amap 56),(15,iI e1.1),(17,iI y4.1),(91,.hptr 91 0)],[(56,.smap 1 3 (s1.2.map (dR ai))),(91,.iter (x1.mults.map (dR ai)) (i1++[n0])),(1000,.row 109 5 (v1.map ab))]⟩
def gQ (x0:Nat) (x1:ae) (x2:Int) (x3:List ae) (y0:Int×Int) (i0:List Nat) (s0:(List ae)×(List (Int×Int))) (n1:Nat) (e0 y2:Int×Int) (v0:List ae):AS:=⟨135,[(0,.hptr 1000 (x0*5)),(2,iI x2),(4,.hptr 4 0),(6,iI y0.1),(8,iI (aS (y0.1.tdiv ((x3.getD x0 aa).scale)))),(9,iI (aS (y0.1.tdiv x1.scale))),(10,.amap 56),(11,iI e0.1),(13,iI y2.1),(61,.hptr 61 0)],[(4,.cells 109 [iI x1.q.Const,dS aw x1.q.Terms,.dmap (x1.mults.map (dR ai)),iI x1.scale,.bool x1.lost]),(56,.smap 1 3 (s0.2.map (dR ai))),(61,.iter (((x3.getD x0 aa).mults).map (dR ai)) (i0++[n1])),(1000,.row 109 5 (v0.map ab))]⟩
theorem qC (x0:Nat) (x1:ae) (x2:Int) (x3 r:List ae) (H:dy x0 x1 x2 x3=some r):bg Tryz.prog 158 [.hptr 1000 (x0*5),.agg [iI x1.q.Const,dS aw x1.q.Terms,.dmap (x1.mults.map (dR ai)),iI x1.scale,.bool x1.lost],iI x2] [(1000,.row 109 5 (x3.map ab))] (fun r2 h0=>r2=(.tup [])∧h0=[(1000,.row 109 5 (r.map ab))]):=by
 unfold dy at H;refine aX Tryz.func158 135 [] ?_;refine aP H fun g0 H0 => ?_;refine aL H0 fun y0 h1 H1 => ?_;refine pD 6 [r0 [.m],.rg 11 [.v,.v,.v,.rl x0 3 (iI ((x3.getD x0 aa).scale)),.v,.v,.c true (.tup [iI y0.1,iI y0.2]),.v,.v,.v,.v] [.v]] [.only [0,2,4,6,7] [4,1000]] 6 [] (aC (lA (f:=ab) (l:=x3) (n:=x0) 5 3 1 (by omega) (by decide)) (aC (vR (f:=ab) (l:=x3) (n:=x0) aa 3 (by omega)) (aC Tryz.call196 (aF (yw _ _ _ h1) aN)))) ?_;refine aU H1 (fun c0 H2 => ?_) (fun c1 H3 => ?_)
 ·obtain rfl:=sI H2;exact pR 5 [r0 [.v,.v,.v,.rl x0 4 (.bool ((x3.getD x0 aa).lost)),.e bT,.s,.s,.v,.v,.s,.s,.s,.s,.v],r0 [.v,.v,.v,.rs x0 4,.rwH 1000 (.row 109 5 ((x3.set x0 (ae.mk (Linear.mk (((x3.getD x0 aa).q).Const) (((x3.getD x0 aa).q).Terms)) ((x3.getD x0 aa).mults) ((x3.getD x0 aa).scale) true)).map ab))]] [] [1000] (aC (lA (f:=ab) (l:=x3) (n:=x0) 5 4 1 (by omega) (by decide)) (aC (vR (f:=ab) (l:=x3) (n:=x0) aa 4 (by omega)) (aB c0 (aC (lA (f:=ab) (l:=x3) (n:=x0) 5 4 1 (by omega) (by decide)) (aC (AH (f:=ab) 109 5 x3 x0 aa (ae.mk (Linear.mk (((x3.getD x0 aa).q).Const) (((x3.getD x0 aa).q).Terms)) ((x3.getD x0 aa).mults) ((x3.getD x0 aa).scale) true) 4 [.bool true] (by omega) rfl) aN)))))
 ·refine aU H3 (fun c2 H4 => ?_) (fun c3 H5 => ?_)
  ·obtain rfl:=sI H4;exact pR 5 [r0 [.v,.v,.v,.rl x0 4 (.bool ((x3.getD x0 aa).lost)),.e bF,.v,.e bT,.v,.v,.s,.s,.s,.s,.v],r0 [.v,.v,.v,.rs x0 4,.rwH 1000 (.row 109 5 ((x3.set x0 (ae.mk (Linear.mk (((x3.getD x0 aa).q).Const) (((x3.getD x0 aa).q).Terms)) ((x3.getD x0 aa).mults) ((x3.getD x0 aa).scale) true)).map ab))]] [] [1000] (aC (lA (f:=ab) (l:=x3) (n:=x0) 5 4 1 (by omega) (by decide)) (aC (vR (f:=ab) (l:=x3) (n:=x0) aa 4 (by omega)) (aB c1 (aB c2 (aC (lA (f:=ab) (l:=x3) (n:=x0) 5 4 1 (by omega) (by decide)) (aC (AH (f:=ab) 109 5 x3 x0 aa (ae.mk (Linear.mk (((x3.getD x0 aa).q).Const) (((x3.getD x0 aa).q).Terms)) ((x3.getD x0 aa).mults) ((x3.getD x0 aa).scale) true) 4 [.bool true] (by omega) rfl) aN))))))
  ·refine aL H5 fun y1 h2 H6 => ?_;refine pD 1 [r0 [.v,.v,.v,.rl x0 4 (.bool ((x3.getD x0 aa).lost)),.e bF,.v,.e bF,.v,.v,.v,.v,.c true (.bool y1),.v,.v]] [.only [0,2,4,6,42] [4,1000]] 1 [] (aC (lA (f:=ab) (l:=x3) (n:=x0) 5 4 1 (by omega) (by decide)) (aC (vR (f:=ab) (l:=x3) (n:=x0) aa 4 (by omega)) (aB c1 (aB c3 (aC Tryz.call94 (aF (dI _ _ _ h2) (aT aN))))))) ?_;refine aU H6 (fun c4 H7 => ?_) (fun c5 H8 => ?_)
   ·refine aP H7 fun g1 H9 => ?_;refine aP H9 fun g2 H10 => ?_;refine pA 11 [.eqT 42 bF,.rg 11 (V 4 [.rl x0 3 (iI ((x3.getD x0 aa).scale)),.w,.v,.v,.v,.w,.v]) [.v],r0 [.m,.v],r0 [.v,.v,.v,.rl x0 2 (.dmap (((x3.getD x0 aa).mults).map (dR ai))),.m]] [.only [0,2,4,6,8,9,10,61] [4,56,61,1000]] 10 [false] (gI x0 x1 x2 x3 y0 [] (x3,[])) (aM c4 (aC (lA (f:=ab) (l:=x3) (n:=x0) 5 3 1 (by omega) (by decide)) (aC (vR (f:=ab) (l:=x3) (n:=x0) aa 3 (by omega)) (aC (show (((x3.getD x0 aa).scale):Int)≠0 from g1) (aC (show (x1.scale:Int)≠0 from g2) (aC (lA (f:=ab) (l:=x3) (n:=x0) 5 2 1 (by omega) (by decide)) (aC (vR (f:=ab) (l:=x3) (n:=x0) aa 2 (by omega)) aN))))))) ?_;refine mj (cc:=ai) 61 (gI x0 x1 x2 x3 y0) (by kernel_rfl) H10 [.v] (fun i0 s0=>⟨by kernel_rfl,by kernel_rfl⟩) (fun i0 s0=>⟨135,[(0,.hptr 1000 (x0*5)),(2,iI x2),(4,.hptr 4 0),(6,iI y0.1),(8,iI (aS (y0.1.tdiv ((x3.getD x0 aa).scale)))),(9,iI (aS (y0.1.tdiv x1.scale))),(10,.amap 56),(61,.hptr 61 0),(62,.tup [.bool false]),(63,.bool false)],[(4,.cells 109 [iI x1.q.Const,dS aw x1.q.Terms,.dmap (x1.mults.map (dR ai)),iI x1.scale,.bool x1.lost]),(56,.smap 1 3 (s0.2.map (dR ai))),(61,.iter (((x3.getD x0 aa).mults).map (dR ai)) i0),(1000,.row 109 5 (s0.1.map ab))]⟩) (fun i0 s0=>by kernel_rfl) (fun i0 s0 n1 e0=>⟨135,[(0,.hptr 1000 (x0*5)),(2,iI x2),(4,.hptr 4 0),(6,iI y0.1),(8,iI (aS (y0.1.tdiv ((x3.getD x0 aa).scale)))),(9,iI (aS (y0.1.tdiv x1.scale))),(10,.amap 56),(61,.hptr 61 0),(62,.tup [.bool true,iI e0.1,iI e0.2]),(63,.bool true)],[(4,.cells 109 [iI x1.q.Const,dS aw x1.q.Terms,.dmap (x1.mults.map (dR ai)),iI x1.scale,.bool x1.lost]),(56,.smap 1 3 (s0.2.map (dR ai))),(61,.iter (((x3.getD x0 aa).mults).map (dR ai)) (i0++[n1])),(1000,.row 109 5 (s0.1.map ab))]⟩) (fun i0 s0 n1 e0=>by kernel_rfl) (fun i0 s0 H11 => ?_) (fun i0 s0 n1 e0 h3 q0 h4 h5 => ?_)
    ·refine pA 7 [.rg 0 [] [.v,.v,.m]] [.only [0,2,6,9,10,91] [56,91,1000]] 7 [false] (gT x0 x1 x2 y0 [] (s0.1,s0.2)) aN ?_;refine mj (cc:=ai) 91 (gT x0 x1 x2 y0) (by kernel_rfl) H11 [.v] (fun i1 s1=>⟨by kernel_rfl,by kernel_rfl⟩) (fun i1 s1=>⟨135,[(0,.hptr 1000 (x0*5)),(2,iI x2),(6,iI y0.1),(9,iI (aS (y0.1.tdiv x1.scale))),(10,.amap 56),(91,.hptr 91 0),(92,.tup [.bool false]),(93,.bool false)],[(56,.smap 1 3 (s1.2.map (dR ai))),(91,.iter (x1.mults.map (dR ai)) i1),(1000,.row 109 5 (s1.1.map ab))]⟩) (fun i1 s1=>by kernel_rfl) (fun i1 s1 n0 e1=>⟨135,[(0,.hptr 1000 (x0*5)),(2,iI x2),(6,iI y0.1),(9,iI (aS (y0.1.tdiv x1.scale))),(10,.amap 56),(91,.hptr 91 0),(92,.tup [.bool true,iI e1.1,iI e1.2]),(93,.bool true)],[(56,.smap 1 3 (s1.2.map (dR ai))),(91,.iter (x1.mults.map (dR ai)) (i1++[n0])),(1000,.row 109 5 (s1.1.map ab))]⟩) (fun i1 s1 n0 e1=>by kernel_rfl) (fun i1 s1 H12 => ?_) (fun i1 s1 n0 e1 h6 q1 h7 h8 => ?_)
     ·refine aP H12 fun g3 H13 => ?_;refine aP H13 fun g4 H14 => ?_;obtain rfl:=sI H14;exact pR 4 [r0 (V 6 [.fo 56 ((ksort s1.2).map (dR ai)),.rs x0 2,.rwH 1000 (.row 109 5 ((s1.1.set x0 (ae.mk (Linear.mk (((s1.1.getD x0 aa).q).Const) (((s1.1.getD x0 aa).q).Terms)) (ksort s1.2) ((s1.1.getD x0 aa).scale) ((s1.1.getD x0 aa).lost))).map ab)),.v,.v,.rs x0 3,.rwH 1000 (.row 109 5 (((s1.1.set x0 (ae.mk (Linear.mk (((s1.1.getD x0 aa).q).Const) (((s1.1.getD x0 aa).q).Terms)) (ksort s1.2) ((s1.1.getD x0 aa).scale) ((s1.1.getD x0 aa).lost))).set x0 (ae.mk (Linear.mk ((((s1.1.set x0 (ae.mk (Linear.mk (((s1.1.getD x0 aa).q).Const) (((s1.1.getD x0 aa).q).Terms)) (ksort s1.2) ((s1.1.getD x0 aa).scale) ((s1.1.getD x0 aa).lost))).getD x0 aa).q).Const) ((((s1.1.set x0 (ae.mk (Linear.mk (((s1.1.getD x0 aa).q).Const) (((s1.1.getD x0 aa).q).Terms)) (ksort s1.2) ((s1.1.getD x0 aa).scale) ((s1.1.getD x0 aa).lost))).getD x0 aa).q).Terms)) (((s1.1.set x0 (ae.mk (Linear.mk (((s1.1.getD x0 aa).q).Const) (((s1.1.getD x0 aa).q).Terms)) (ksort s1.2) ((s1.1.getD x0 aa).scale) ((s1.1.getD x0 aa).lost))).getD x0 aa).mults) y0.1 (((s1.1.set x0 (ae.mk (Linear.mk (((s1.1.getD x0 aa).q).Const) (((s1.1.getD x0 aa).q).Terms)) (ksort s1.2) ((s1.1.getD x0 aa).scale) ((s1.1.getD x0 aa).lost))).getD x0 aa).lost))).map ab))])] [] [1000] (aC (And.intro (rV ou s1.2) (yU ai s1.2)) (aC (lA (f:=ab) (l:=s1.1) (n:=x0) 5 2 1 (by omega) (by decide)) (aC (AH (f:=ab) 109 5 s1.1 x0 aa (ae.mk (Linear.mk (((s1.1.getD x0 aa).q).Const) (((s1.1.getD x0 aa).q).Terms)) (ksort s1.2) ((s1.1.getD x0 aa).scale) ((s1.1.getD x0 aa).lost)) 2 [.dmap ((ksort s1.2).map (dR ai))] (by omega) rfl) (aC (lA (f:=ab) (l:=(s1.1.set x0 (ae.mk (Linear.mk (((s1.1.getD x0 aa).q).Const) (((s1.1.getD x0 aa).q).Terms)) (ksort s1.2) ((s1.1.getD x0 aa).scale) ((s1.1.getD x0 aa).lost)))) (n:=x0) 5 3 1 (by omega) (by decide)) (aC (AH (f:=ab) 109 5 (s1.1.set x0 (ae.mk (Linear.mk (((s1.1.getD x0 aa).q).Const) (((s1.1.getD x0 aa).q).Terms)) (ksort s1.2) ((s1.1.getD x0 aa).scale) ((s1.1.getD x0 aa).lost))) x0 aa (ae.mk (Linear.mk ((((s1.1.set x0 (ae.mk (Linear.mk (((s1.1.getD x0 aa).q).Const) (((s1.1.getD x0 aa).q).Terms)) (ksort s1.2) ((s1.1.getD x0 aa).scale) ((s1.1.getD x0 aa).lost))).getD x0 aa).q).Const) ((((s1.1.set x0 (ae.mk (Linear.mk (((s1.1.getD x0 aa).q).Const) (((s1.1.getD x0 aa).q).Terms)) (ksort s1.2) ((s1.1.getD x0 aa).scale) ((s1.1.getD x0 aa).lost))).getD x0 aa).q).Terms)) (((s1.1.set x0 (ae.mk (Linear.mk (((s1.1.getD x0 aa).q).Const) (((s1.1.getD x0 aa).q).Terms)) (ksort s1.2) ((s1.1.getD x0 aa).scale) ((s1.1.getD x0 aa).lost))).getD x0 aa).mults) y0.1 (((s1.1.set x0 (ae.mk (Linear.mk (((s1.1.getD x0 aa).q).Const) (((s1.1.getD x0 aa).q).Terms)) (ksort s1.2) ((s1.1.getD x0 aa).scale) ((s1.1.getD x0 aa).lost))).getD x0 aa).lost)) 3 [iI y0.1] (by omega) rfl) aN)))))
     ·refine aL h7 fun y4 h9 H15 => ?_;refine aP H15 fun g5 H16 => ?_;refine pD 9 [r0 [.en n0 (.tup [iI e1.1,iI e1.2]),.v,.v,.v,.v],r0 [.v,.w,.v,.w,.b,.v,.v,.l (iI (be 0 (e1.1:Int) s1.2)),.v,.b,.c true (.tup [iI y4.1,iI y4.2]),.v,.v,.v,.v,.v]] [.only [0,2,6,9,10,15,17,18,91] [56,91,1000]] 9 [true] (aC (fK i1 n0) (aC (rz (cc:=ai) h6) (aC (jy (c:=ai) (e1.1:Int) 0 s1.2) (aC Tryz.call197 (aF (yn _ _ _ h9) aN))))) ?_;refine aL H16 fun v1 h10 H17 => ?_;refine cC 0 (gJ x0 x1 x2 y0 i1 s1 n0 e1 y4 v1) (by kernel_rfl) ?_ ?_
      ·refine aU h10 (fun c6 H18 => ?_) (fun c7 H19 => ?_)
       ·obtain rfl:=sI H18;exact pB 1 [r0 (V 4 [.rl x0 4 (.bool ((s1.1.getD x0 aa).lost)),.e bT,.s,.s,.s,.s,.v,.v,.v,.rs x0 4,.rwH 1000 (.row 109 5 ((s1.1.set x0 (ae.mk (Linear.mk (((s1.1.getD x0 aa).q).Const) (((s1.1.getD x0 aa).q).Terms)) ((s1.1.getD x0 aa).mults) ((s1.1.getD x0 aa).scale) true)).map ab))])] [.only [0,2,6,9,10,15,17,91] [56,91,1000]] (gJ x0 x1 x2 y0 i1 s1 n0 e1 y4 (s1.1.set x0 (ae.mk (Linear.mk (((s1.1.getD x0 aa).q).Const) (((s1.1.getD x0 aa).q).Terms)) ((s1.1.getD x0 aa).mults) ((s1.1.getD x0 aa).scale) true))) (aC (lA (f:=ab) (l:=s1.1) (n:=x0) 5 4 1 (by omega) (by decide)) (aC (vR (f:=ab) (l:=s1.1) (n:=x0) aa 4 (by omega)) (aB c6 (aC (lA (f:=ab) (l:=s1.1) (n:=x0) 5 4 1 (by omega) (by decide)) (aC (AH (f:=ab) 109 5 s1.1 x0 aa (ae.mk (Linear.mk (((s1.1.getD x0 aa).q).Const) (((s1.1.getD x0 aa).q).Terms)) ((s1.1.getD x0 aa).mults) ((s1.1.getD x0 aa).scale) true) 4 [.bool true] (by omega) rfl) aN)))))
       ·refine aL H19 fun y5 h11 H20 => ?_;obtain rfl:=sI H20;exact pB 1 [r0 (V 4 [.rl x0 4 (.bool ((s1.1.getD x0 aa).lost)),.e bF,.v,.v,.c true (.bool y5),.v,.v,.v,.v,.rs x0 4,.rwH 1000 (.row 109 5 ((s1.1.set x0 (ae.mk (Linear.mk (((s1.1.getD x0 aa).q).Const) (((s1.1.getD x0 aa).q).Terms)) ((s1.1.getD x0 aa).mults) ((s1.1.getD x0 aa).scale) (!y5))).map ab))])] [.only [0,2,6,9,10,15,17,91] [56,91,1000]] (gJ x0 x1 x2 y0 i1 s1 n0 e1 y4 (s1.1.set x0 (ae.mk (Linear.mk (((s1.1.getD x0 aa).q).Const) (((s1.1.getD x0 aa).q).Terms)) ((s1.1.getD x0 aa).mults) ((s1.1.getD x0 aa).scale) (!y5)))) (aC (lA (f:=ab) (l:=s1.1) (n:=x0) 5 4 1 (by omega) (by decide)) (aC (vR (f:=ab) (l:=s1.1) (n:=x0) aa 4 (by omega)) (aB c7 (aC Tryz.call94 (aF (dI _ _ _ h11) (aT (aC (lA (f:=ab) (l:=s1.1) (n:=x0) 5 4 1 (by omega) (by decide)) (aC (AH (f:=ab) 109 5 s1.1 x0 aa (ae.mk (Linear.mk (((s1.1.getD x0 aa).q).Const) (((s1.1.getD x0 aa).q).Terms)) ((s1.1.getD x0 aa).mults) ((s1.1.getD x0 aa).scale) (!y5)) 4 [.bool (!y5)] (by omega) rfl) aN))))))))
      ·obtain rfl:=sI H17;exact pB 1 [r0 [.v,.v,.v,.m,.rwH 56 (.smap 1 3 ((bH (e1.1:Int) y4.1 s1.2).map (dR ai)))]] [.only [0,2,6,9,10,91] [56,91,1000]] (gT x0 x1 x2 y0 (i1++[n0]) (v1,(bH (e1.1:Int) y4.1 s1.2))) (aC (congrArg (AO.smap 1 3) (fJ (c:=ai) (e1.1:Int) y4.1 s1.2)) aN)
    ·refine aL h4 fun y2 h12 H21 => ?_;refine aP H21 fun g6 H22 => ?_;refine pD 9 [r0 [.en n1 (.tup [iI e0.1,iI e0.2]),.v,.v,.v,.v],r0 [.v,.v,.c true (.tup [iI y2.1,iI y2.2]),.v,.v,.v,.v,.v]] [.only [0,2,4,6,8,9,10,11,13,14,61] [4,56,61,1000]] 9 [true] (aC (fK i0 n1) (aC (rz (cc:=ai) h3) (aC Tryz.call93 (aF (iP _ _ _ h12) aN)))) ?_;refine aL H22 fun v0 h13 H23 => ?_;refine cC 0 (gQ x0 x1 x2 x3 y0 i0 s0 n1 e0 y2 v0) (by kernel_rfl) ?_ ?_
     ·refine aU h13 (fun c8 H24 => ?_) (fun c9 H25 => ?_)
      ·obtain rfl:=sI H24;exact pB 1 [r0 (V 4 [.rl x0 4 (.bool ((s0.1.getD x0 aa).lost)),.e bT,.s,.s,.s,.s,.v,.v,.v,.rs x0 4,.rwH 1000 (.row 109 5 ((s0.1.set x0 (ae.mk (Linear.mk (((s0.1.getD x0 aa).q).Const) (((s0.1.getD x0 aa).q).Terms)) ((s0.1.getD x0 aa).mults) ((s0.1.getD x0 aa).scale) true)).map ab))])] [.only [0,2,4,6,8,9,10,11,13,61] [4,56,61,1000]] (gQ x0 x1 x2 x3 y0 i0 s0 n1 e0 y2 (s0.1.set x0 (ae.mk (Linear.mk (((s0.1.getD x0 aa).q).Const) (((s0.1.getD x0 aa).q).Terms)) ((s0.1.getD x0 aa).mults) ((s0.1.getD x0 aa).scale) true))) (aC (lA (f:=ab) (l:=s0.1) (n:=x0) 5 4 1 (by omega) (by decide)) (aC (vR (f:=ab) (l:=s0.1) (n:=x0) aa 4 (by omega)) (aB c8 (aC (lA (f:=ab) (l:=s0.1) (n:=x0) 5 4 1 (by omega) (by decide)) (aC (AH (f:=ab) 109 5 s0.1 x0 aa (ae.mk (Linear.mk (((s0.1.getD x0 aa).q).Const) (((s0.1.getD x0 aa).q).Terms)) ((s0.1.getD x0 aa).mults) ((s0.1.getD x0 aa).scale) true) 4 [.bool true] (by omega) rfl) aN)))))
      ·refine aL H25 fun y3 h14 H26 => ?_;obtain rfl:=sI H26;exact pB 1 [r0 (V 4 [.rl x0 4 (.bool ((s0.1.getD x0 aa).lost)),.e bF,.v,.v,.c true (.bool y3),.v,.v,.v,.v,.rs x0 4,.rwH 1000 (.row 109 5 ((s0.1.set x0 (ae.mk (Linear.mk (((s0.1.getD x0 aa).q).Const) (((s0.1.getD x0 aa).q).Terms)) ((s0.1.getD x0 aa).mults) ((s0.1.getD x0 aa).scale) (!y3))).map ab))])] [.only [0,2,4,6,8,9,10,11,13,61] [4,56,61,1000]] (gQ x0 x1 x2 x3 y0 i0 s0 n1 e0 y2 (s0.1.set x0 (ae.mk (Linear.mk (((s0.1.getD x0 aa).q).Const) (((s0.1.getD x0 aa).q).Terms)) ((s0.1.getD x0 aa).mults) ((s0.1.getD x0 aa).scale) (!y3)))) (aC (lA (f:=ab) (l:=s0.1) (n:=x0) 5 4 1 (by omega) (by decide)) (aC (vR (f:=ab) (l:=s0.1) (n:=x0) aa 4 (by omega)) (aB c9 (aC Tryz.call94 (aF (dI _ _ _ h14) (aT (aC (lA (f:=ab) (l:=s0.1) (n:=x0) 5 4 1 (by omega) (by decide)) (aC (AH (f:=ab) 109 5 s0.1 x0 aa (ae.mk (Linear.mk (((s0.1.getD x0 aa).q).Const) (((s0.1.getD x0 aa).q).Terms)) ((s0.1.getD x0 aa).mults) ((s0.1.getD x0 aa).scale) (!y3)) 4 [.bool (!y3)] (by omega) rfl) aN))))))))
     ·obtain rfl:=sI H23;exact pB 1 [r0 [.v,.v,.v,.m,.rwH 56 (.smap 1 3 ((bH (e0.1:Int) y2.1 s0.2).map (dR ai)))]] [.only [0,2,4,6,8,9,10,61] [4,56,61,1000]] (gI x0 x1 x2 x3 y0 (i0++[n1]) (v0,(bH (e0.1:Int) y2.1 s0.2))) (aC (congrArg (AO.smap 1 3) (fJ (c:=ai) (e0.1:Int) y2.1 s0.2)) aN)
   ·obtain rfl:=sI H8;exact pR 5 [.eqT 42 bT,r0 [.v,.v,.v,.rs x0 4,.rwH 1000 (.row 109 5 ((x3.set x0 (ae.mk (Linear.mk (((x3.getD x0 aa).q).Const) (((x3.getD x0 aa).q).Terms)) ((x3.getD x0 aa).mults) ((x3.getD x0 aa).scale) true)).map ab))]] [] [1000] (aM c5 (aC (lA (f:=ab) (l:=x3) (n:=x0) 5 4 1 (by omega) (by decide)) (aC (AH (f:=ab) 109 5 x3 x0 aa (ae.mk (Linear.mk (((x3.getD x0 aa).q).Const) (((x3.getD x0 aa).q).Terms)) ((x3.getD x0 aa).mults) ((x3.getD x0 aa).scale) true) 4 [.bool true] (by omega) rfl) aN)))
def j5 (x0:Bind) (x1:au):Option Bool :=
 bif (x0.Kind==1) then (
  some (x0.Var==x1.Var)
 ) else (
  some false
 )
theorem um (x0:Bind) (x1:au) (r:Bool) (H:j5 x0 x1=some r):br Tryz.prog 108 [.agg [iI x0.Kind,.str x0.Var,iI x0.Dim.Const,dS aw x0.Dim.Terms,.str x0.Row.Row,dS ah x0.Row.Dims,.str x0.Elem],.dptr [.str x1.Var,iI x1.C]] (.bool r):=by
 unfold j5 at H;refine aX Tryz.func108 14 [.tmp 3] ?_;refine aU H (fun c0 H0 => ?_) (fun c1 H1 => ?_)
 ·obtain rfl:=sI H0;exact pR 5 [r0 [.m,.v],r0 [.v,.v,.e bT,.v,.v,.v,.v,.v,.v,.v,.v]] [] [] (aB c0 aN)
 ·obtain rfl:=sI H1;exact pR 5 [r0 [.m,.v],r0 [.v,.v,.e bF,.v,.s,.s,.s,.s,.s,.v,.v]] [] [] (aB c1 aN)
def b9 (x0:List Bind) (x1:ak) (x2:Int):Option Int :=
 (fA (σ:=Unit) (ε:=Unit) (ρ:=Int) (fun i0 s0 =>
  (j5 (Bind.mk ((x0.getD i0 ao).Kind) ((x0.getD i0 ao).Var) (Linear.mk (((x0.getD i0 ao).Dim).Const) (((x0.getD i0 ao).Dim).Terms)) (Shape.mk (((x0.getD i0 ao).Row).Row) (((x0.getD i0 ao).Row).Dims)) ((x0.getD i0 ao).Elem)) (au.mk x1 x2)).bind fun y0 =>
  bif y0 then (
   some (.ret ((i0:Nat):Int))
  ) else (
   some (.go ())
  )
 ) (fun i0 s0=>()) (x0.length-0) 0 ()).bind <| aft fun u0 =>
 some (-1)
def dw (x0:List Bind) (x1:ak) (x2:Int) (i0:Nat) (s0:Unit):AS:=⟨19,[(0,dS aq x0),(1,.fn 108 [.hptr 1000 0]),(4,iI 0),(7,nI x0.length),(8,nI i0)],[(1000,.cells 31 [.str x1,iI x2])]⟩
def fG (x1:ak) (x2:Int) (u1:Unit):AS:=⟨19,[(4,iI 0)],[(1000,.cells 31 [.str x1,iI x2])]⟩
theorem lC (x0:List Bind) (x1:ak) (x2 r:Int) (H:b9 x0 x1 x2=some r):bg Tryz.prog 105 [dS aq x0,.fn 108 [.hptr 1000 0]] [(1000,.cells 31 [.str x1,iI x2])] (fun r2 h0=>r2=(iI r)∧h0=[(1000,.cells 31 [.str x1,iI x2])]):=by
 unfold b9 at H;refine aX Tryz.func105 19 [.tmp 4] ?_;refine pA 6 [V1,r0 [.v,.e (nI x0.length),.v]] [.only [0,1,4,7,8] [1000]] 6 [] (dw x0 x1 x2 0 ()) (aT (aC (bo aq x0) aN)) ?_;refine aL H fun R0 h1 H0 => ?_;refine pJ 1 (fG x1 x2) R0 ?_ (fun u0 e0 => ?_)
 ·refine pC (dw x0 x1 x2) h1 (fun i0 s0 h2 e1 => ?_) (fun i0 s0 h3 q0 h4 h5 => ?_)
  ·have c0:=lF i0 x0.length (by omega);subst e1;exact pB 5 [r0 [.e bF]] [.only [4] [1000]] (fG x1 x2 ()) (aB c0 aN)
  ·have c1:=lT i0 x0.length (by omega);refine aL h4 fun y0 h6 H1 => ?_;refine pD 11 [r0 [.e bT],V2,r0 [.v,.v,.v,.e (.dptr (aq (x0.getD i0 ao))),.v,.c false (.bool y0)]] [.only [0,1,4,5,7,8,16] [1000]] 11 [true] (aB c1 (aI cF x0 i0 ao (aC Tryz.call108 (aF (um _ _ _ h6) aN)))) ?_;refine aU H1 (fun c2 H2 => ?_) (fun c3 H3 => ?_)
   ·obtain rfl:=sI H2;obtain rfl:=ba h5;obtain rfl:=sI (aR H0);exact pR 5 [.eqT 16 bT,V2] [] [1000] (aB c2 aN)
   ·refine bK 0 (ps:=[(x0.map aq).length≤9223372036854775807]) (by kernel_rfl) (fun l0 => ?_);have l1:x0.length≤9223372036854775807:=by simpa only [cq,Mt] using l0
    clear l0;obtain rfl:=sI H3;exact pB 4 [.eqT 16 bF,V2] [.only [0,1,4,7,8] [1000]] (dw x0 x1 x2 (i0+1) ()) (aB c3 (aH i0 aN))
 ·subst e0;have H4:=bB H0;obtain rfl:=sI H4;exact pR 3 [V1] [] [1000] aN
noncomputable def gr (x0:Linear) (x1:List Bind):Option (Linear×Int) :=
 (bE x0).bind fun y0 =>
 bif y0 then (
  (fA (σ:=(Int×(List (ak×Int)))) (ε:=(Int×(List (ak×Int)))) (ρ:=(Linear×Int)) (fun i0 s0 =>
   (b9 x1 ((x0.Terms.getD i0 aJ).Var) ((x0.Terms.getD i0 aJ).C)).bind fun y1 =>
   ((
    bif decide (y1<0) then (
     some (.brk (s0.1,(bH ((x0.Terms.getD i0 aJ).Var) (aS ((be 0 ((x0.Terms.getD i0 aJ).Var) s0.2)+((x0.Terms.getD i0 aJ).C))) s0.2)))
    ) else (
     bX (0≤y1∧y1<(x1.length:Int)) <|
     (bE (Linear.mk (((x1.getD y1.toNat ao).Dim).Const) (((x1.getD y1.toNat ao).Dim).Terms))).bind fun y2 =>
     bif y2 then (
      (ck (Linear.mk (((x1.getD y1.toNat ao).Dim).Const) (((x1.getD y1.toNat ao).Dim).Terms)) ((x0.Terms.getD i0 aJ).C) s0.1 s0.2).bind fun y3 =>
      some (.brk (y3.1,y3.2))
     ) else (
      some (.ret (.ret ((Linear.mk 0 []),1)))
     )
    )
   ):Option (Out (Int×(List (ak×Int))) (fE (Int×(List (ak×Int))) (Int×(List (ak×Int))) (Linear×Int)))).bind (aft fun u0 =>
    some (.go (u0.1,u0.2))
   )
  ) (fun i0 s0=>(s0.1,s0.2)) (x0.Terms.length-0) 0 (x0.Const,[])).bind <| aft fun u1 =>
  (bN u1.1 u1.2).bind fun y4 =>
  some (y4.1,y4.2)
 ) else (
  some ((Linear.mk 0 []),1)
 )
def lO (x0:Linear) (x1:List Bind) (i0:Nat) (s0:Int×(List (ak×Int))):AS:=⟨60,[(1,dS aq x1),(4,.hptr 4 0),(5,iI 0),(6,.hptr 6 0),(19,dS aw x0.Terms),(20,nI x0.Terms.length),(21,nI i0)],[(4,.cells 29 [iI 0,.eslice]),(6,.cells 158 [iI s0.1,.amap 16]),(16,.smap 0 3 (s0.2.map (aQ ai)))]⟩
def qe (u2:Int×(List (ak×Int))):AS:=⟨60,[(4,.hptr 4 0),(5,iI 0),(6,.hptr 6 0)],[(4,.cells 29 [iI 0,.eslice]),(6,.cells 158 [iI u2.1,.amap 16]),(16,.smap 0 3 (u2.2.map (aQ ai)))]⟩
def lL (x0:Linear) (x1:List Bind) (i0:Nat) (u0:Int×(List (ak×Int))):AS:=⟨60,[(1,dS aq x1),(4,.hptr 4 0),(5,iI 0),(6,.hptr 6 0),(19,dS aw x0.Terms),(20,nI x0.Terms.length),(21,nI i0)],[(4,.cells 29 [iI 0,.eslice]),(6,.cells 158 [iI u0.1,.amap 16]),(16,.smap 0 3 (u0.2.map (aQ ai)))]⟩
theorem nw (x0:Linear) (x1:List Bind) (r:Linear×Int) (H:gr x0 x1=some r):br Tryz.prog 56 [.agg [iI x0.Const,dS aw x0.Terms],dS aq x1] (.tup [.agg [iI r.1.Const,dS aw r.1.Terms],iI r.2]):=by
 unfold gr at H;refine aX Tryz.func56 60 [.cell 4 29,.tmp 5] ?_;refine aL H fun y0 h0 H0 => ?_;refine aU H0 (fun c0 H1 => ?_) (fun c1 H2 => ?_)
 ·refine pA 14 [.rg 0 [] [.m,.m,.v],.rg 0 [] [.v,.c true (.bool y0),.v],.eqT 12 bF,.rg 0 [] [.v,.v,.m,.b,.m,.m],.rg 0 [] [.v,.v,.e (.int .i64 ((x0.Terms.length:Nat):Int)),.v]] [.only [1,4,5,6,19,20,21] [4,6,16]] 13 [false] (lO x0 x1 0 (x0.Const,[])) (aC Tryz.call90 (aF (aW _ _ h0) (aT (aM c0 (aT (aC (bo aw x0.Terms) aN)))))) ?_;refine aL H1 fun R0 h1 H3 => ?_;refine pJ 1 (qe) R0 ?_ (fun u1 e0 => ?_)
  ·refine pC (lO x0 x1) h1 (fun i0 s0 h2 e1 => ?_) (fun i0 s0 h3 q0 h4 h5 => ?_)
   ·have c2:=lF i0 x0.Terms.length (by omega);subst e1;exact pB 5 [r0 [.e bF]] [.only [4,5,6] [4,6,16]] (qe (s0.1,s0.2)) (aB c2 aN)
   ·have c3:=lT i0 x0.Terms.length (by omega);refine aL h4 fun y1 h6 H4 => ?_;refine pD 14 [r0 [.e bT],r0 [.e (.dptr (aw (x0.Terms.getD i0 aJ))),.v,.m,.m],r0 [.v,.v,.hR [(8,1000)] 27 (iI y1) [(1000,.cells 31 (aw (x0.Terms.getD i0 aJ)))],.v],V3] [.only [1,4,5,6,8,9,19,20,21,36] [4,6,8,16]] 14 [true] (aB c3 (aI cy x0.Terms i0 aJ (aC Tryz.call105 (aC (lC _ _ _ _ h6) aN)))) ?_;refine aL H4 fun v0 h7 H5 => ?_;refine pJ 2 (lL x0 x1 i0) v0 ?_ (fun u0 e2 => ?_)
    ·refine aU h7 (fun c4 H6 => ?_) (fun c5 H7 => ?_)
     ·obtain rfl:=sI H6;exact pB 3 [.eqT 36 bT,r0 (V 4 [.l (iI (be 0 ((x0.Terms.getD i0 aJ).Var) s0.2)),.v,.v,.w,.m,.rwH 16 (.smap 0 3 ((bH ((x0.Terms.getD i0 aJ).Var) (aS ((be 0 ((x0.Terms.getD i0 aJ).Var) s0.2)+((x0.Terms.getD i0 aJ).C))) s0.2).map (aQ ai)))])] [.only [1,4,5,6,19,20,21] [4,6,16]] (lL x0 x1 i0 (s0.1,(bH ((x0.Terms.getD i0 aJ).Var) (aS ((be 0 ((x0.Terms.getD i0 aJ).Var) s0.2)+((x0.Terms.getD i0 aJ).C))) s0.2))) (aB c4 (aC (jy (c:=ai) ((x0.Terms.getD i0 aJ).Var) 0 s0.2) (aC (congrArg (AO.smap 0 3) (fJ (c:=ai) ((x0.Terms.getD i0 aJ).Var) (aS ((be 0 ((x0.Terms.getD i0 aJ).Var) s0.2)+((x0.Terms.getD i0 aJ).C))) s0.2)) aN)))
     ·refine aP H7 fun g0 H8 => ?_;refine aL H8 fun y2 h8 H9 => ?_;refine pD 4 [.eqT 36 bF,r0 [.v,.v,.e (.dptr (aq (x1.getD y1.toNat ao))),.v,.v,.c true (.bool y2),.v,.v]] [.only [1,4,5,6,8,9,19,20,21,47] [4,6,8,16]] 3 [false] (aB c5 (a8 (Jd (f:=aq) (l:=x1) (n:=y1) ao cF (by decide) (by exact g0)) (aC Tryz.call90 (aF (aW _ _ h8) (aT aN))))) ?_;refine aU H9 (fun c6 H10 => ?_) (fun c7 H11 => ?_)
      ·refine aL H10 fun y3 h9 H12 => ?_;obtain rfl:=sI H12;exact pB 3 [.eqT 47 bF,.rg 7 [.v,.v,.e (.dptr (aq (x1.getD y1.toNat ao))),.v,.v,.v,.v] [.hR [(6,1000),(16,1001)] 35 (.tup []) [(1000,.cells 158 [iI y3.1,.amap 1001]),(1001,.smap 0 3 (y3.2.map (aQ ai)))]]] [.only [1,4,5,6,19,20,21] [4,6,16]] (lL x0 x1 i0 (y3.1,y3.2)) (aM c6 (a8 (Jd (f:=aq) (l:=x1) (n:=y1) ao cF (by decide) (by exact g0)) (aC Tryz.call109 (aC (kF _ _ _ _ _ h9) aN))))
      ·obtain rfl:=sI H11;obtain rfl:=sI (aR H5);obtain rfl:=ba h5;obtain rfl:=sI (aR H3);exact pR 5 [.eqT 47 bT,r0 [.b,.m,.v]] [.wkH 4 1 []] [] (aM c7 aN)
    ·subst e2;have H13:=bB H5;refine bK 19 (ps:=[(x0.Terms.map aw).length≤9223372036854775807]) (by kernel_rfl) (fun l0 => ?_);have l1:x0.Terms.length≤9223372036854775807:=by simpa only [cq,Mt] using l0
     clear l0;obtain rfl:=sI H13;exact pB 1 [V2] [.only [1,4,5,6,19,20,21] [4,6,16]] (lO x0 x1 (i0+1) (u0.1,u0.2)) (aH i0 aN)
  ·subst e0;have H14:=bB H3;refine aL H14 fun y4 h10 H15 => ?_;obtain rfl:=sI H15;exact pR 3 [r0 [.hR [(6,1000),(16,1001)] 57 (.tup [.agg [iI y4.1.Const,dS aw y4.1.Terms],iI y4.2]) [],.v,.v,.m,.v]] [] [] (aC Tryz.call110 (aC (ku _ _ _ h10) aN))
 ·obtain rfl:=sI H2;exact pR 10 [r0 [.m,.m,.v],r0 [.v,.c true (.bool y0),.v],.eqT 12 bT,r0 [.b,.m,.v]] [.wkH 4 1 []] [] (aC Tryz.call90 (aF (aW _ _ h0) (aT (aM c1 aN))))
noncomputable def cw (x0:Nat) (x1:List Bind) (x2:ak) (x3:List Bind):Option (Bool×(List Bind)) :=
 bX (x0<x1.length) <|
 (fY (Linear.mk (((x1.getD x0 ao).Dim).Const) (((x1.getD x0 ao).Dim).Terms)) x2).bind fun y0 =>
 bif (y0==0) then (
  some (true,x1)
 ) else (
  (gr (Linear.mk (((x1.getD x0 ao).Dim).Const) (((x1.getD x0 ao).Dim).Terms)) x3).bind fun y1 =>
  some ((y1.2==0),(x1.set x0 (Bind.mk ((x1.getD x0 ao).Kind) ((x1.getD x0 ao).Var) y1.1 (Shape.mk (((x1.getD x0 ao).Row).Row) (((x1.getD x0 ao).Row).Dims)) ((x1.getD x0 ao).Elem))))
 )
theorem oA (x0:Nat) (x1:List Bind) (x2:ak) (x3:List Bind) (r:Bool×(List Bind)) (H:cw x0 x1 x2 x3=some r):bg Tryz.prog 195 [.hptr 1000 (x0*7+2),.hptr 1001 0,.hptr 1002 0] [(1000,.row 62 7 (x1.map aq)),(1001,.cells 9 [.str x2]),(1002,.cells 45 [dS aq x3])] (fun r2 h0=>r2=(.bool r.1)∧h0=[(1000,.row 62 7 (r.2.map aq)),(1001,.cells 9 [.str x2]),(1002,.cells 45 [dS aq x3])]):=by
 unfold cw at H;refine aX Tryz.func195 26 [.tmp 4] ?_;refine aP H fun g0 H0 => ?_;refine aL H0 fun y0 h1 H1 => ?_;refine pD 5 [V1,.rg 4 [.v,.v,.rl x0 2 (.agg (ah ((x1.getD x0 ao).Dim))),.v] [.c true (iI y0),.v]] [.only [0,2,4,12] [1000,1001,1002]] 5 [] (aC (lA (f:=aq) (l:=x1) (n:=x0) 7 2 2 (by omega) (by decide)) (aC (Gx (f:=aq) (l:=x1) (n:=x0) ao 2 2 (by omega)) (aC Tryz.call157 (aF (oS _ _ _ h1) aN)))) ?_;refine aU H1 (fun c0 H2 => ?_) (fun c1 H3 => ?_)
 ·obtain rfl:=sI H2;exact pR 5 [.eqT 12 bT,V1] [] [1000,1001,1002] (aB c0 aN)
 ·refine aL H3 fun y1 h2 H4 => ?_;obtain rfl:=sI H4;exact pR 10 [.eqT 12 bF,.rg 10 [.v,.v,.rl x0 2 (.agg (ah ((x1.getD x0 ao).Dim))),.v,.c true (.tup [.agg [iI y1.1.Const,dS aw y1.1.Terms],iI y1.2]),.v,.v,.v,.m,.m] [.v],r0 [.v,.v,.v,.rs x0 2,.rwH 1000 (.row 62 7 ((x1.set x0 (Bind.mk ((x1.getD x0 ao).Kind) ((x1.getD x0 ao).Var) y1.1 (Shape.mk (((x1.getD x0 ao).Row).Row) (((x1.getD x0 ao).Row).Dims)) ((x1.getD x0 ao).Elem))).map aq))],V3] [] [1000,1001,1002] (aB c1 (aC (lA (f:=aq) (l:=x1) (n:=x0) 7 2 2 (by omega) (by decide)) (aC (Gx (f:=aq) (l:=x1) (n:=x0) ao 2 2 (by omega)) (aC Tryz.call56 (aF (nw _ _ _ h2) (aC (lA (f:=aq) (l:=x1) (n:=x0) 7 2 2 (by omega) (by decide)) (aC (AH (f:=aq) 62 7 x1 x0 ao (Bind.mk ((x1.getD x0 ao).Kind) ((x1.getD x0 ao).Var) y1.1 (Shape.mk (((x1.getD x0 ao).Row).Row) (((x1.getD x0 ao).Row).Dims)) ((x1.getD x0 ao).Elem)) 2 [iI y1.1.Const,dS aw y1.1.Terms] (by omega) rfl) aN)))))))
noncomputable def bZ (x0:Nat) (x1:List ae) (x2:ak) (x3:List Bind):Option (Bool×(List ae)) :=
 bX (x0<x1.length) <|
 (fY (Linear.mk (((x1.getD x0 aa).q).Const) (((x1.getD x0 aa).q).Terms)) x2).bind fun y0 =>
 bif (y0==0) then (
  some (true,x1)
 ) else (
  (gr (Linear.mk (((x1.getD x0 aa).q).Const) (((x1.getD x0 aa).q).Terms)) x3).bind fun y1 =>
  some ((y1.2==0),(x1.set x0 (ae.mk y1.1 ((x1.getD x0 aa).mults) ((x1.getD x0 aa).scale) ((x1.getD x0 aa).lost))))
 )
theorem n9 (x0:Nat) (x1:List ae) (x2:ak) (x3:List Bind) (r:Bool×(List ae)) (H:bZ x0 x1 x2 x3=some r):bg Tryz.prog 195 [.hptr 1000 (x0*5),.hptr 1001 0,.hptr 1002 0] [(1000,.row 109 5 (x1.map ab)),(1001,.cells 9 [.str x2]),(1002,.cells 45 [dS aq x3])] (fun r2 h0=>r2=(.bool r.1)∧h0=[(1000,.row 109 5 (r.2.map ab)),(1001,.cells 9 [.str x2]),(1002,.cells 45 [dS aq x3])]):=by
 unfold bZ at H;refine aX Tryz.func195 26 [.tmp 4] ?_;refine aP H fun g0 H0 => ?_;refine aL H0 fun y0 h1 H1 => ?_;refine pD 5 [V1,.rg 4 [.v,.v,.rl x0 0 (.agg (ah ((x1.getD x0 aa).q))),.v] [.c true (iI y0),.v]] [.only [0,2,4,12] [1000,1001,1002]] 5 [] (aC (lA (f:=ab) (l:=x1) (n:=x0) 5 0 2 (by omega) (by decide)) (aC (Gx (f:=ab) (l:=x1) (n:=x0) aa 0 2 (by omega)) (aC Tryz.call157 (aF (oS _ _ _ h1) aN)))) ?_;refine aU H1 (fun c0 H2 => ?_) (fun c1 H3 => ?_)
 ·obtain rfl:=sI H2;exact pR 5 [.eqT 12 bT,V1] [] [1000,1001,1002] (aB c0 aN)
 ·refine aL H3 fun y1 h2 H4 => ?_;obtain rfl:=sI H4;exact pR 10 [.eqT 12 bF,.rg 10 [.v,.v,.rl x0 0 (.agg (ah ((x1.getD x0 aa).q))),.v,.c true (.tup [.agg [iI y1.1.Const,dS aw y1.1.Terms],iI y1.2]),.v,.v,.v,.m,.m] [.v],r0 [.v,.v,.v,.rs x0 0,.rwH 1000 (.row 109 5 ((x1.set x0 (ae.mk y1.1 ((x1.getD x0 aa).mults) ((x1.getD x0 aa).scale) ((x1.getD x0 aa).lost))).map ab))],V3] [] [1000,1001,1002] (aB c1 (aC (lA (f:=ab) (l:=x1) (n:=x0) 5 0 2 (by omega) (by decide)) (aC (Gx (f:=ab) (l:=x1) (n:=x0) aa 0 2 (by omega)) (aC Tryz.call56 (aF (nw _ _ _ h2) (aC (lA (f:=ab) (l:=x1) (n:=x0) 5 0 2 (by omega) (by decide)) (aC (AH (f:=ab) 109 5 x1 x0 aa (ae.mk y1.1 ((x1.getD x0 aa).mults) ((x1.getD x0 aa).scale) ((x1.getD x0 aa).lost)) 0 [iI y1.1.Const,dS aw y1.1.Terms] (by omega) rfl) aN)))))))
noncomputable def bn (x0:ak) (x1:Linear) (x2 x3:Int) (x4:List ae) (x5:List Bind):Option (Int×(List ae)×(List Bind)) :=
 (bE x1).bind fun y0 =>
 bif y0 then (
  (oa (σ:=(Int×(List Bind))) (ε:=(List Bind)) (ρ:=(Int×(List ae)×(List Bind))) (fun s0 =>
   bif decide (s0.1<((x5.length:Nat):Int)) then (
    bX (0≤s0.1∧s0.1<(s0.2.length:Int)) <|
    (cw s0.1.toNat s0.2 x0 [(Bind.mk 1 x0 x1 (Shape.mk [] []) [])]).bind fun y1 =>
    bif y1.1 then (
     some (.go ((aS (s0.1+1)),y1.2))
    ) else (
     some (.ret (3,x4,y1.2))
    )
   ) else (
    some (.brk s0.2)
   )
  ) 4294967296 (0,x5)).bind <| aft fun u0 =>
  (oa (σ:=(Int×(List ae))) (ε:=(List ae)) (ρ:=(Int×(List ae)×(List Bind))) (fun s1 =>
   bif decide (s1.1<((s1.2.length:Nat):Int)) then (
    bX (0≤s1.1∧s1.1<(s1.2.length:Int)) <|
    (bZ s1.1.toNat s1.2 x0 [(Bind.mk 1 x0 x1 (Shape.mk [] []) [])]).bind fun y2 =>
    bif y2.1 then (
     some (.go ((aS (s1.1+1)),y2.2))
    ) else (
     some (.ret (3,y2.2,u0))
    )
   ) else (
    some (.brk s1.2)
   )
  ) 4294967296 (x2,x4)).bind <| aft fun u1 =>
  bX (0<[(Bind.mk 1 x0 x1 (Shape.mk [] []) [])].length) <|
  bX ((u0.length+1)*112≤140737488355328) <|
  some (0,u1,(u0++[(Bind.mk (([(Bind.mk 1 x0 x1 (Shape.mk [] []) [])].getD 0 ao).Kind) (([(Bind.mk 1 x0 x1 (Shape.mk [] []) [])].getD 0 ao).Var) (Linear.mk ((([(Bind.mk 1 x0 x1 (Shape.mk [] []) [])].getD 0 ao).Dim).Const) ((([(Bind.mk 1 x0 x1 (Shape.mk [] []) [])].getD 0 ao).Dim).Terms)) (Shape.mk ((([(Bind.mk 1 x0 x1 (Shape.mk [] []) [])].getD 0 ao).Row).Row) ((([(Bind.mk 1 x0 x1 (Shape.mk [] []) [])].getD 0 ao).Row).Dims)) (([(Bind.mk 1 x0 x1 (Shape.mk [] []) [])].getD 0 ao).Elem))]))
 ) else (
  some (3,x4,x5)
 )
def fU (x0:ak) (x1:Linear) (x2 x3:Int) (x4:List ae) (x5:List Bind) (s0:Int×(List Bind)):AS:=⟨72,[(0,.hptr 1000 0),(3,iI x2),(8,iI 0),(9,.hptr 9 0),(10,.fn 195 [.hptr 5 0,.hptr 9 0]),(25,nI x5.length),(26,iI s0.1)],[(5,.cells 9 [.str x0]),(9,.cells 45 [.dslice ([(Bind.mk 1 x0 x1 (Shape.mk [] []) [])].map aq)]),(1000,.cells 106 [.rslice 1001,.rslice 1002,iI x3]),(1001,.row 109 5 (x4.map ab)),(1002,.row 62 7 (s0.2.map aq))]⟩
def jx (x0:ak) (x1:Linear) (x2 x3:Int) (x4:List ae) (u2:List Bind):AS:=⟨72,[(0,.hptr 1000 0),(3,iI x2),(8,iI 0),(9,.hptr 9 0),(10,.fn 195 [.hptr 5 0,.hptr 9 0])],[(5,.cells 9 [.str x0]),(9,.cells 45 [.dslice ([(Bind.mk 1 x0 x1 (Shape.mk [] []) [])].map aq)]),(1000,.cells 106 [.rslice 1001,.rslice 1002,iI x3]),(1001,.row 109 5 (x4.map ab)),(1002,.row 62 7 (u2.map aq))]⟩
def fH (x0:ak) (x1:Linear) (x3:Int) (u0:List Bind) (s1:Int×(List ae)):AS:=⟨72,[(0,.hptr 1000 0),(8,iI 0),(9,.hptr 9 0),(10,.fn 195 [.hptr 5 0,.hptr 9 0]),(12,iI s1.1)],[(5,.cells 9 [.str x0]),(9,.cells 45 [.dslice ([(Bind.mk 1 x0 x1 (Shape.mk [] []) [])].map aq)]),(1000,.cells 106 [.rslice 1001,.rslice 1002,iI x3]),(1001,.row 109 5 (s1.2.map ab)),(1002,.row 62 7 (u0.map aq))]⟩
def jD (x0:ak) (x1:Linear) (x3:Int) (u0:List Bind) (u3:List ae):AS:=⟨72,[(0,.hptr 1000 0),(8,iI 0),(9,.hptr 9 0)],[(9,.cells 45 [.dslice ([(Bind.mk 1 x0 x1 (Shape.mk [] []) [])].map aq)]),(1000,.cells 106 [.rslice 1001,.rslice 1002,iI x3]),(1001,.row 109 5 (u3.map ab)),(1002,.row 62 7 (u0.map aq))]⟩
theorem jY (x0:ak) (x1:Linear) (x2 x3:Int) (x4:List ae) (x5:List Bind) (r:Int×(List ae)×(List Bind)) (H:bn x0 x1 x2 x3 x4 x5=some r):bg Tryz.prog 156 [.hptr 1000 0,.str x0,.agg [iI x1.Const,dS aw x1.Terms],iI x2] [(1000,.cells 106 [.rslice 1001,.rslice 1002,iI x3]),(1001,.row 109 5 (x4.map ab)),(1002,.row 62 7 (x5.map aq))] (fun r2 h0=>r2=(iI r.1)∧h0=[(0,.row 62 7 (r.2.2.map aq)),(1000,.cells 106 [.rslice 1001,.rslice 0,iI x3]),(1001,.row 109 5 (r.2.1.map ab))]):=by
 unfold bn at H;refine aX Tryz.func156 72 [.tmp 8] ?_;refine aL H fun y0 h1 H0 => ?_;refine aU H0 (fun c0 H1 => ?_) (fun c1 H2 => ?_)
 ·refine pA 16 [.rg 0 [] [.m,.m,.v],.rg 0 [] [.v,.c true (.bool y0),.v],.eqT 15 bF,.rg 0 [] [.v,.v,.b,.b,.wk 19 [(0,5)],.m,.m],.rg 0 [] [.v,.v],.rg 0 [] (V 4 [.e (.int .i64 ((x5.length:Nat):Int)),.v])] [.only [0,3,8,9,10,25,26] [5,9,1000,1001,1002]] 15 [false] (fU x0 x1 x2 x3 x4 x5 (0,x5)) (aC Tryz.call90 (aF (aW _ _ h1) (aT (aM c0 (aT (aC (bo aq x5) aN)))))) ?_;refine aL H1 fun R0 h2 H3 => ?_;refine pJ 1 (jx x0 x1 x2 x3 x4) R0 ?_ (fun u0 e0 => ?_)
  ·refine qL (fU x0 x1 x2 x3 x4 x5) (by kernel_rfl) h2 (fun s0 q0 h3 h4 => ?_)
   ·refine aU h3 (fun c2 H4 => ?_) (fun c3 H5 => ?_)
    ·refine aP H4 fun g0 H6 => ?_;refine aL H6 fun y1 h5 H7 => ?_;refine pD 12 [V1,.eqT 27 bT,V2,r0 (V 8 [.hM [(1002,1000),(5,1001),(9,1002)] [] (.bool y1.1) [(1000,.row 62 7 (y1.2.map aq)),(1001,.cells 9 [.str x0]),(1002,.cells 45 [.dslice ([(Bind.mk 1 x0 x1 (Shape.mk [] []) [])].map aq)])],.v])] [.only [0,3,8,9,10,25,26,38] [5,9,1000,1001,1002]] 11 [true] (aB c2 (aC (show (0:Int)≤s0.1∧s0.1<((s0.2.map aq).length:Int) from by rw [Mt];exact g0) (aC Tryz.call195 (aC (oA _ _ _ _ _ h5) (aT aN))))) ?_;refine aU H7 (fun c4 H8 => ?_) (fun c5 H9 => ?_)
     ·obtain rfl:=sI H8;exact pB 4 [.eqT 38 bF,r0 [.w,.v]] [.only [0,3,8,9,10,25,26] [5,9,1000,1001,1002]] (fU x0 x1 x2 x3 x4 x5 ((aS (s0.1+1)),y1.2)) (aM c4 aN)
     ·obtain rfl:=sI H9;obtain rfl:=ba h4;obtain rfl:=sI (aR H3);exact pR 5 [.eqT 38 bT,V1] [.ren [(1002,0),(1000,1000),(1001,1001)]] [0,1000,1001] (aM c5 aN)
    ·obtain rfl:=sI H5;obtain rfl:=ja h4;exact pB 6 [V1,.eqT 27 bF] [.only [0,3,8,9,10] [5,9,1000,1001,1002]] (jx x0 x1 x2 x3 x4 s0.2) (aB c3 aN)
  ·subst e0;have H10:=bB H3;refine pA 4 [V2] [.only [0,8,9,10,12] [5,9,1000,1001,1002]] 4 [] (fH x0 x1 x3 u0 (x2,x4)) aN ?_;refine aL H10 fun R1 h6 H11 => ?_;refine pJ 1 (jD x0 x1 x3 u0) R1 ?_ (fun u1 e1 => ?_)
   ·refine qL (fH x0 x1 x3 u0) (by kernel_rfl) h6 (fun s1 q1 h7 h8 => ?_)
    ·refine aU h7 (fun c6 H12 => ?_) (fun c7 H13 => ?_)
     ·refine aP H12 fun g1 H14 => ?_;refine aL H14 fun y2 h9 H15 => ?_;refine pD 10 [r0 (V 5 [.e (nI s1.2.length),.v]),.eqT 47 bT,r0 (V 8 [.hM [(1001,1000),(5,1001),(9,1002)] [] (.bool y2.1) [(1000,.row 109 5 (y2.2.map ab)),(1001,.cells 9 [.str x0]),(1002,.cells 45 [.dslice ([(Bind.mk 1 x0 x1 (Shape.mk [] []) [])].map aq)])],.v])] [.only [0,8,9,10,12,59] [5,9,1000,1001,1002]] 9 [true] (aT (aC (bo ab s1.2) (aB c6 (aC (show (0:Int)≤s1.1∧s1.1<((s1.2.map ab).length:Int) from by rw [Mt];exact g1) (aC Tryz.call195 (aC (n9 _ _ _ _ _ h9) (aT aN))))))) ?_;refine aU H15 (fun c8 H16 => ?_) (fun c9 H17 => ?_)
      ·obtain rfl:=sI H16;exact pB 4 [.eqT 59 bF,r0 [.v,.w,.v]] [.only [0,8,9,10,12] [5,9,1000,1001,1002]] (fH x0 x1 x3 u0 ((aS (s1.1+1)),y2.2)) (aM c8 aN)
      ·obtain rfl:=sI H17;obtain rfl:=ba h8;obtain rfl:=sI (aR H11);exact pR 5 [.eqT 59 bT,V1] [.ren [(1002,0),(1000,1000),(1001,1001)]] [0,1000,1001] (aM c9 aN)
     ·obtain rfl:=sI H13;obtain rfl:=ja h8;exact pB 6 [r0 (V 5 [.e (nI s1.2.length),.v]),.eqT 47 bF] [.only [0,8,9] [9,1000,1001,1002]] (jD x0 x1 x3 u0 s1.2) (aT (aC (bo ab s1.2) (aB c7 aN)))
   ·subst e1;have H18:=bB H11;refine aP H18 fun g2 H19 => ?_;refine aP H19 fun g3 H20 => ?_;obtain rfl:=sI H20;exact pR 5 [.rg 10 (V 4 [.lt,.v,.e (.dptr (aq ([(Bind.mk 1 x0 x1 (Shape.mk [] []) [])].getD 0 ao))),.v,.b,.apx ((u0++[(Bind.mk (([(Bind.mk 1 x0 x1 (Shape.mk [] []) [])].getD 0 ao).Kind) (([(Bind.mk 1 x0 x1 (Shape.mk [] []) [])].getD 0 ao).Var) (Linear.mk ((([(Bind.mk 1 x0 x1 (Shape.mk [] []) [])].getD 0 ao).Dim).Const) ((([(Bind.mk 1 x0 x1 (Shape.mk [] []) [])].getD 0 ao).Dim).Terms)) (Shape.mk ((([(Bind.mk 1 x0 x1 (Shape.mk [] []) [])].getD 0 ao).Row).Row) ((([(Bind.mk 1 x0 x1 (Shape.mk [] []) [])].getD 0 ao).Row).Dims)) (([(Bind.mk 1 x0 x1 (Shape.mk [] []) [])].getD 0 ao).Elem))]).map aq)]) [.v,.v,.m],V1] [.ren [(69,0),(1000,1000),(1001,1001)]] [0,1000,1001] (aI cF ([(Bind.mk 1 x0 x1 (Shape.mk [] []) [])]) 0 ao (a8 (Ku (c:=aq) iV u0 [(Bind.mk (([(Bind.mk 1 x0 x1 (Shape.mk [] []) [])].getD 0 ao).Kind) (([(Bind.mk 1 x0 x1 (Shape.mk [] []) [])].getD 0 ao).Var) (Linear.mk ((([(Bind.mk 1 x0 x1 (Shape.mk [] []) [])].getD 0 ao).Dim).Const) ((([(Bind.mk 1 x0 x1 (Shape.mk [] []) [])].getD 0 ao).Dim).Terms)) (Shape.mk ((([(Bind.mk 1 x0 x1 (Shape.mk [] []) [])].getD 0 ao).Row).Row) ((([(Bind.mk 1 x0 x1 (Shape.mk [] []) [])].getD 0 ao).Row).Dims)) (([(Bind.mk 1 x0 x1 (Shape.mk [] []) [])].getD 0 ao).Elem))] 112 (by decide) (by first | (simp;done) | simpa using g3) List.map_append.symm) aN))
 ·obtain rfl:=sI H2;exact pR 10 [r0 [.m,.m,.v],r0 [.v,.c true (.bool y0),.v],.eqT 15 bT,V1] [.ren [(1002,0),(1000,1000),(1001,1001)]] [0,1000,1001] (aC Tryz.call90 (aF (aW _ _ h1) (aT (aM c1 aN))))
noncomputable def bC (x0:Int) (x1:au) (x2:Int) (x3:List ae) (x4:List Bind):Option (Int×(List ae)×(List Bind)) :=
 bX (0≤x0∧x0<(x3.length:Int)) <|
 bX (x0.toNat<x3.length) <|
 (fA (σ:=(List au)) (ε:=(List au)) (ρ:=Empty) (fun i0 s0 =>
  ((
   bif ((((((x3.getD x0.toNat aa).q).Terms).getD i0 aJ).Var)==x1.Var) then (
    some s0
   ) else (
    bX ((s0.length+1)*24≤140737488355328) <|
    some (s0++[(au.mk (((((x3.getD x0.toNat aa).q).Terms).getD i0 aJ).Var) (aS ((aS (0-x1.C))*(((((x3.getD x0.toNat aa).q).Terms).getD i0 aJ).C))))])
   )
  ):Option (List au)).bind fun v0 =>
  some (.go v0)
 ) (fun i0 s0=>s0) ((((x3.getD x0.toNat aa).q).Terms).length-0) 0 []).bind <| dL fun u0 =>
 (oa (σ:=(Int×(List ae))) (ε:=(List ae)) (ρ:=Empty) (fun s1 =>
  bif decide (s1.1<((s1.2.length:Nat):Int)) then (
   bX (0≤s1.1∧s1.1<(s1.2.length:Int)) <|
   bX (s1.1.toNat<s1.2.length) <|
   (fY (Linear.mk (((s1.2.getD s1.1.toNat aa).q).Const) (((s1.2.getD s1.1.toNat aa).q).Terms)) x1.Var).bind fun y0 =>
   ((
    bif (y0==0) then (
     some s1.2
    ) else (
     (dy s1.1.toNat (ae.mk (Linear.mk (((x3.getD x0.toNat aa).q).Const) (((x3.getD x0.toNat aa).q).Terms)) ((x3.getD x0.toNat aa).mults) ((x3.getD x0.toNat aa).scale) ((x3.getD x0.toNat aa).lost)) (aS (y0*x1.C)) s1.2).bind fun y1 =>
     some y1
    )
   ):Option (List ae)).bind fun v1 =>
   some (.go ((aS (s1.1+1)),v1))
  ) else (
   some (.brk s1.2)
  )
 ) 4294967296 ((aS (x0+1)),x3)).bind <| dL fun u1 =>
 (bn x1.Var (Linear.mk (aS ((aS (0-x1.C))*(((x3.getD x0.toNat aa).q).Const))) u0) x0 x2 u1 x4).bind fun y2 =>
 some (y2.1,y2.2.1,y2.2.2)
def fk (x0:Int) (x1:au) (x2:Int) (x3:List ae) (x4:List Bind) (i0:Nat) (s0:List au):AS:=⟨98,[(0,.hptr 1000 0),(1,iI x0),(5,.hptr 5 0),(6,iI 0),(7,.hptr 7 0),(8,.hptr 8 0),(30,.dslice ((((x3.getD x0.toNat aa).q).Terms).map aw)),(31,iI (((((x3.getD x0.toNat aa).q).Terms).length:Nat):Int)),(32,nI i0)],[(5,.cells 31 [.str x1.Var,iI x1.C]),(7,.cells 109 [iI (((x3.getD x0.toNat aa).q).Const),.dslice ((((x3.getD x0.toNat aa).q).Terms).map aw),.dmap (((x3.getD x0.toNat aa).mults).map (dR ai)),iI ((x3.getD x0.toNat aa).scale),.bool ((x3.getD x0.toNat aa).lost)]),(8,.cells 29 [iI (aS ((aS (0-x1.C))*(((x3.getD x0.toNat aa).q).Const))),.rslice 53]),(53,.row 31 2 (s0.map aw)),(1000,.cells 106 [.rslice 1001,.rslice 1002,iI x2]),(1001,.row 109 5 (x3.map ab)),(1002,.row 62 7 (x4.map aq))]⟩
def iQ (x0:Int) (x1:au) (x2:Int) (x3:List ae) (x4:List Bind) (u2:List au):AS:=⟨98,[(0,.hptr 1000 0),(1,iI x0),(5,.hptr 5 0),(6,iI 0),(7,.hptr 7 0),(8,.hptr 8 0)],[(5,.cells 31 [.str x1.Var,iI x1.C]),(7,.cells 109 [iI (((x3.getD x0.toNat aa).q).Const),.dslice ((((x3.getD x0.toNat aa).q).Terms).map aw),.dmap (((x3.getD x0.toNat aa).mults).map (dR ai)),iI ((x3.getD x0.toNat aa).scale),.bool ((x3.getD x0.toNat aa).lost)]),(8,.cells 29 [iI (aS ((aS (0-x1.C))*(((x3.getD x0.toNat aa).q).Const))),.rslice 53]),(53,.row 31 2 (u2.map aw)),(1000,.cells 106 [.rslice 1001,.rslice 1002,iI x2]),(1001,.row 109 5 (x3.map ab)),(1002,.row 62 7 (x4.map aq))]⟩
def fx (x0:Int) (x1:au) (x2:Int) (x3:List ae) (x4:List Bind) (i0:Nat) (v0:List au):AS:=⟨98,[(0,.hptr 1000 0),(1,iI x0),(5,.hptr 5 0),(6,iI 0),(7,.hptr 7 0),(8,.hptr 8 0),(30,.dslice ((((x3.getD x0.toNat aa).q).Terms).map aw)),(31,iI (((((x3.getD x0.toNat aa).q).Terms).length:Nat):Int)),(32,nI i0)],[(5,.cells 31 [.str x1.Var,iI x1.C]),(7,.cells 109 [iI (((x3.getD x0.toNat aa).q).Const),.dslice ((((x3.getD x0.toNat aa).q).Terms).map aw),.dmap (((x3.getD x0.toNat aa).mults).map (dR ai)),iI ((x3.getD x0.toNat aa).scale),.bool ((x3.getD x0.toNat aa).lost)]),(8,.cells 29 [iI (aS ((aS (0-x1.C))*(((x3.getD x0.toNat aa).q).Const))),.rslice 53]),(53,.row 31 2 (v0.map aw)),(1000,.cells 106 [.rslice 1001,.rslice 1002,iI x2]),(1001,.row 109 5 (x3.map ab)),(1002,.row 62 7 (x4.map aq))]⟩
def fD (x0:Int) (x1:au) (x2:Int) (x3:List ae) (x4:List Bind) (u0:List au) (s1:Int×(List ae)):AS:=⟨98,[(0,.hptr 1000 0),(1,iI x0),(5,.hptr 5 0),(6,iI 0),(7,.hptr 7 0),(8,.hptr 8 0),(11,iI s1.1)],[(5,.cells 31 [.str x1.Var,iI x1.C]),(7,.cells 109 [iI (((x3.getD x0.toNat aa).q).Const),.dslice ((((x3.getD x0.toNat aa).q).Terms).map aw),.dmap (((x3.getD x0.toNat aa).mults).map (dR ai)),iI ((x3.getD x0.toNat aa).scale),.bool ((x3.getD x0.toNat aa).lost)]),(8,.cells 29 [iI (aS ((aS (0-x1.C))*(((x3.getD x0.toNat aa).q).Const))),.rslice 53]),(53,.row 31 2 (u0.map aw)),(1000,.cells 106 [.rslice 1001,.rslice 1002,iI x2]),(1001,.row 109 5 (s1.2.map ab)),(1002,.row 62 7 (x4.map aq))]⟩
def iR (x0:Int) (x1:au) (x2:Int) (x3:List ae) (x4:List Bind) (u0:List au) (u3:List ae):AS:=⟨98,[(0,.hptr 1000 0),(1,iI x0),(5,.hptr 5 0),(6,iI 0),(8,.hptr 8 0)],[(5,.cells 31 [.str x1.Var,iI x1.C]),(8,.cells 29 [iI (aS ((aS (0-x1.C))*(((x3.getD x0.toNat aa).q).Const))),.rslice 53]),(53,.row 31 2 (u0.map aw)),(1000,.cells 106 [.rslice 1001,.rslice 1002,iI x2]),(1001,.row 109 5 (u3.map ab)),(1002,.row 62 7 (x4.map aq))]⟩
def fp (x0:Int) (x1:au) (x2:Int) (x3:List ae) (x4:List Bind) (u0:List au) (s1:Int×(List ae)) (v1:List ae):AS:=⟨98,[(0,.hptr 1000 0),(1,iI x0),(5,.hptr 5 0),(6,iI 0),(7,.hptr 7 0),(8,.hptr 8 0),(11,iI s1.1)],[(5,.cells 31 [.str x1.Var,iI x1.C]),(7,.cells 109 [iI (((x3.getD x0.toNat aa).q).Const),.dslice ((((x3.getD x0.toNat aa).q).Terms).map aw),.dmap (((x3.getD x0.toNat aa).mults).map (dR ai)),iI ((x3.getD x0.toNat aa).scale),.bool ((x3.getD x0.toNat aa).lost)]),(8,.cells 29 [iI (aS ((aS (0-x1.C))*(((x3.getD x0.toNat aa).q).Const))),.rslice 53]),(53,.row 31 2 (u0.map aw)),(1000,.cells 106 [.rslice 1001,.rslice 1002,iI x2]),(1001,.row 109 5 (v1.map ab)),(1002,.row 62 7 (x4.map aq))]⟩
theorem dH (x0:Int) (x1:au) (x2:Int) (x3:List ae) (x4:List Bind) (r:Int×(List ae)×(List Bind)) (H:bC x0 x1 x2 x3 x4=some r):bg Tryz.prog 97 [.hptr 1000 0,iI x0,.agg [.str x1.Var,iI x1.C]] [(1000,.cells 106 [.rslice 1001,.rslice 1002,iI x2]),(1001,.row 109 5 (x3.map ab)),(1002,.row 62 7 (x4.map aq))] (fun r2 h0=>r2=(iI r.1)∧h0=[(0,.row 62 7 (r.2.2.map aq)),(1000,.cells 106 [.rslice 1001,.rslice 0,iI x2]),(1001,.row 109 5 (r.2.1.map ab))]):=by
 unfold bC at H;refine aX Tryz.func97 98 [.tmp 6] ?_;refine aP H fun g0 H0 => ?_;refine aP H0 fun g1 H1 => ?_;refine pA 10 [r0 [.m,.v],r0 (V 6 [.rl x0.toNat 0 (.agg [iI (((x3.getD x0.toNat aa).q).Const),.dslice ((((x3.getD x0.toNat aa).q).Terms).map aw),.dmap (((x3.getD x0.toNat aa).mults).map (dR ai)),iI ((x3.getD x0.toNat aa).scale),.bool ((x3.getD x0.toNat aa).lost)]),.m,.m]),r0 [.v,.v,.w,.v,.v,.v,.w,.b,.m,.m],r0 [.v,.v,.v,.e (iI (((((x3.getD x0.toNat aa).q).Terms).length:Nat):Int)),.v]] [.erH 8 1 53 31 2,.only [0,1,5,6,7,8,30,31,32] [5,7,8,53,1000,1001,1002]] 10 [] (fk x0 x1 x2 x3 x4 0 []) (aC (show (0:Int)≤x0∧x0<((x3.map ab).length:Int) from by rw [Mt];exact g0) (aC (lA (f:=ab) (l:=x3) (n:=x0.toNat) 5 0 5 (by omega) (by decide)) (aC (Gx (f:=ab) (l:=x3) (n:=x0.toNat) aa 0 5 (by omega)) (aT (aC (bo aw (((x3.getD x0.toNat aa).q).Terms)) aN))))) ?_;refine aL H1 fun R0 h1 H2 => ?_;refine pJ 1 (iQ x0 x1 x2 x3 x4) R0 ?_ (fun u0 e0 => ?_)
 ·refine pC (fk x0 x1 x2 x3 x4) h1 (fun i0 s0 h2 e1 => ?_) (fun i0 s0 h3 q0 h4 h5 => ?_)
  ·have c0:=lF i0 ((((x3.getD x0.toNat aa).q).Terms).length) (by omega);subst e1;exact pB 5 [r0 [.e bF]] [.only [0,1,5,6,7,8] [5,7,8,53,1000,1001,1002]] (iQ x0 x1 x2 x3 x4 s0) (aB c0 aN)
  ·have c1:=lT i0 ((((x3.getD x0.toNat aa).q).Terms).length) (by omega);refine pD 11 [r0 [.e bT],r0 [.e (.dptr (aw ((((x3.getD x0.toNat aa).q).Terms).getD i0 aJ))),.v,.m,.m],V5] [.only [0,1,5,6,7,8,10,30,31,32,40] [5,7,8,10,53,1000,1001,1002]] 11 [true] (aB c1 (aI cy ((((x3.getD x0.toNat aa).q).Terms)) i0 aJ aN)) ?_;refine aL h4 fun v0 h6 H3 => ?_;refine cC 1 (fx x0 x1 x2 x3 x4 i0 v0) (by kernel_rfl) ?_ ?_
   ·refine aU h6 (fun c2 H4 => ?_) (fun c3 H5 => ?_)
    ·refine bc H4 fun e2 => ?_;subst e2;exact pB 3 [.eqT 40 bF] [.only [0,1,5,6,7,8,30,31,32] [5,7,8,53,1000,1001,1002]] (fx x0 x1 x2 x3 x4 i0 s0) (aM c2 aN)
    ·refine aP H5 fun g2 H6 => ?_;obtain rfl:=sI H6;exact pB 3 [.eqT 40 bT,r0 (V 6 [.w,.v,.v,.w,.b,.b,.ap,.rwH 53 (.row 31 2 ((s0++[(au.mk (((((x3.getD x0.toNat aa).q).Terms).getD i0 aJ).Var) (aS ((aS (0-x1.C))*(((((x3.getD x0.toNat aa).q).Terms).getD i0 aJ).C))))]).map aw)),.v,.m])] [.only [0,1,5,6,7,8,30,31,32] [5,7,8,53,1000,1001,1002]] (fx x0 x1 x2 x3 x4 i0 (s0++[(au.mk (((((x3.getD x0.toNat aa).q).Terms).getD i0 aJ).Var) (aS ((aS (0-x1.C))*(((((x3.getD x0.toNat aa).q).Terms).getD i0 aJ).C))))])) (aM c3 (a8 (tg (c:=aw) mV s0 [(au.mk (((((x3.getD x0.toNat aa).q).Terms).getD i0 aJ).Var) (aS ((aS (0-x1.C))*(((((x3.getD x0.toNat aa).q).Terms).getD i0 aJ).C))))] 24 (by decide) (by first | (simp;done) | simpa using g2)) (aC (vQ 31 2 aw s0 [(au.mk (((((x3.getD x0.toNat aa).q).Terms).getD i0 aJ).Var) (aS ((aS (0-x1.C))*(((((x3.getD x0.toNat aa).q).Terms).getD i0 aJ).C))))]) aN)))
   ·refine bK 30 (ps:=[((((x3.getD x0.toNat aa).q).Terms).map aw).length≤9223372036854775807]) (by kernel_rfl) (fun l0 => ?_);have l1:(((x3.getD x0.toNat aa).q).Terms).length≤9223372036854775807:=by simpa only [cq,Mt] using l0
    clear l0;obtain rfl:=sI H3;exact pB 1 [V2] [.only [0,1,5,6,7,8,30,31,32] [5,7,8,53,1000,1001,1002]] (fk x0 x1 x2 x3 x4 (i0+1) v0) (aH i0 aN)
 ·subst e0;have H7:=bu H2;refine pA 4 [r0 [.v,.w,.v]] [.only [0,1,5,6,7,8,11] [5,7,8,53,1000,1001,1002]] 4 [] (fD x0 x1 x2 x3 x4 u0 ((aS (x0+1)),x3)) aN ?_;refine aL H7 fun R1 h7 H8 => ?_;refine pJ 1 (iR x0 x1 x2 x3 x4 u0) R1 ?_ (fun u1 e3 => ?_)
  ·refine qL (fD x0 x1 x2 x3 x4 u0) (by kernel_rfl) h7 (fun s1 q1 h8 h9 => ?_)
   ·refine aU h8 (fun c4 H9 => ?_) (fun c5 H10 => ?_)
    ·have c4p:=Mp c4;refine aP H9 fun g3 H11 => ?_;refine aP H11 fun g4 H12 => ?_;refine aL H12 fun y0 h10 H13 => ?_;refine pD 12 [r0 (V 5 [.e (nI s1.2.length),.v]),.eqT 64 bT,.rg 10 (V 7 [.rl s1.1.toNat 0 (.agg (ah ((s1.2.getD s1.1.toNat aa).q))),.v,.v]) [.c true (iI y0),.v],V2] [.only [0,1,5,6,7,8,11,12,79] [5,7,8,53,1000,1001,1002]] 11 [true] (aT (aC (bo ab s1.2) (aB c4 (aC (show (0:Int)≤s1.1∧s1.1<((s1.2.map ab).length:Int) from by rw [Mt];exact g3) (aC (lA (f:=ab) (l:=s1.2) (n:=s1.1.toNat) 5 0 2 (by omega) (by decide)) (aC (Gx (f:=ab) (l:=s1.2) (n:=s1.1.toNat) aa 0 2 (by omega)) (aC Tryz.call157 (aF (oS _ _ _ h10) aN)))))))) ?_;refine aL H13 fun v1 h11 H14 => ?_;refine cC 1 (fp x0 x1 x2 x3 x4 u0 s1 v1) (by kernel_rfl) ?_ ?_
     ·refine aU h11 (fun c6 H15 => ?_) (fun c7 H16 => ?_)
      ·obtain rfl:=sI H15;exact pB 3 [.eqT 79 bF] [.only [0,1,5,6,7,8,11] [5,7,8,53,1000,1001,1002]] (fp x0 x1 x2 x3 x4 u0 s1 s1.2) (aM c6 aN)
      ·refine aL H16 fun y1 h12 H17 => ?_;refine bc H17 fun e4 => ?_;subst e4;exact pB 3 [.eqT 79 bT,.rg 11 (V 10 [.w]) [.hM [(1001,1000)] [] (.tup []) [(1000,.row 109 5 (y1.map ab))]]] [.only [0,1,5,6,7,8,11] [5,7,8,53,1000,1001,1002]] (fp x0 x1 x2 x3 x4 u0 s1 y1) (aM c7 (aC (show (0:Int)≤s1.1∧s1.1<((s1.2.map ab).length:Int) from by rw [Mt];exact g3) (aC Tryz.call158 (aC (qC _ _ _ _ _ h12) aN))))
     ·obtain rfl:=sI H14;exact pB 1 [r0 [.v,.w,.v]] [.only [0,1,5,6,7,8,11] [5,7,8,53,1000,1001,1002]] (fD x0 x1 x2 x3 x4 u0 ((aS (s1.1+1)),v1)) aN
    ·obtain rfl:=sI H10;obtain rfl:=ja h9;exact pB 6 [r0 (V 5 [.e (nI s1.2.length),.v]),.eqT 64 bF] [.only [0,1,5,6,8] [5,8,53,1000,1001,1002]] (iR x0 x1 x2 x3 x4 u0 s1.2) (aT (aC (bo ab s1.2) (aB c5 aN)))
  ·subst e3;have H18:=bu H8;refine aL H18 fun y2 h13 H19 => ?_;obtain rfl:=sI H19;exact pR 3 [r0 (V 5 [.fz 53,.hM [(1000,1000),(1001,1001),(1002,1002)] [(0,900)] (iI y2.1) [(0,.row 62 7 (y2.2.2.map aq)),(1000,.cells 106 [.rslice 1001,.rslice 0,iI x2]),(1001,.row 109 5 (y2.2.1.map ab))],.v])] [.ren [(900,0),(1000,1000),(1001,1001)]] [0,1000,1001] (aC Tryz.call156 (aC (jY _ _ _ _ _ _ _ h13) aN))
def hU (x0 x1:Int):Option Int :=
 (fB [x0,x1]).bind fun y0 =>
 bif y0 then (
  bif (x1==0) then (
   some 1
  ) else (
   some 0
  )
 ) else (
  some 2
 )
theorem mb (x0 x1 r:Int) (H:hU x0 x1=some r):br Tryz.prog 192 [iI x0,iI x1] (iI r):=by
 unfold hU at H;refine aX Tryz.func192 14 [.tmp 4] ?_;refine aL H fun y0 h0 H0 => ?_;refine aU H0 (fun c0 H1 => ?_) (fun c1 H2 => ?_)
 ·refine aU H1 (fun c2 H3 => ?_) (fun c3 H4 => ?_)
  ·obtain rfl:=sI H3;exact pR 15 [V1,r0 [.v,.v,.b,.c true (.bool y0),.v,.v],.eqT 5 bF,V3,.eqT 11 bT,V1] [] [] (aC Tryz.call146 (aF (bO _ _ h0) (aT (aM c0 (aB c2 aN)))))
  ·obtain rfl:=sI H4;exact pR 16 [V1,r0 [.v,.v,.b,.c true (.bool y0),.v,.v],.eqT 5 bF,V3,.eqT 11 bF,V1] [] [] (aC Tryz.call146 (aF (bO _ _ h0) (aT (aM c0 (aB c3 aN)))))
 ·obtain rfl:=sI H2;exact pR 11 [V1,r0 [.v,.v,.b,.c true (.bool y0),.v,.v],.eqT 5 bT,V1] [] [] (aC Tryz.call146 (aF (bO _ _ h0) (aT (aM c1 aN))))
def j6 (x0 x1:Int):Option (Int×Int) :=
 bX ((x1:Int)≠0) <|
 ((
  bif ((x0.tmod x1)==0) then (
   some (.brk ())
  ) else (
   bif (decide ((x0.tmod x1)<0)==decide (x1<0)) then (
    some (.brk ())
   ) else (
    some (.ret ((aS ((aS (x0.tdiv x1))-1)),(aS ((x0.tmod x1)+x1))))
   )
  )
 ):Option (Out Unit (Int×Int))).bind (aft fun u0 =>
  some ((aS (x0.tdiv x1)),(x0.tmod x1))
 )
def kh (x0 x1:Int) (u0:Unit):AS:=⟨30,[(4,iI 0),(5,iI 0),(6,iI (aS (x0.tdiv x1))),(7,iI (x0.tmod x1))],[]⟩
theorem uK (x0 x1:Int) (r:Int×Int) (H:j6 x0 x1=some r):br Tryz.prog 193 [iI x0,iI x1] (.tup [iI r.1,iI r.2]):=by
 unfold j6 at H;refine aX Tryz.func193 30 [.tmp 4,.tmp 5] ?_;refine aP H fun g0 H0 => ?_;refine pD 8 [V2,.rg 7 [.v,.v,.w,.v,.v,.v,.v] [.v],V3] [.only [1,4,5,6,7,14] []] 8 [] (aC (show (x1:Int)≠0 from g0) (aC (show (x1:Int)≠0 from g0) aN)) ?_;refine aL H0 fun v0 h0 H1 => ?_;refine pJ 1 (kh x0 x1) v0 ?_ (fun u0 e0 => ?_)
 ·refine aU h0 (fun c0 H2 => ?_) (fun c1 H3 => ?_)
  ·obtain rfl:=sI H2;exact pB 3 [.eqT 14 bT] [.only [4,5,6,7] []] (kh x0 x1 ()) (aB c0 aN)
  ·refine aU H3 (fun c2 H4 => ?_) (fun c3 H5 => ?_)
   ·obtain rfl:=sI H4;exact pB 7 [.eqT 14 bF,V6,.eqT 17 bF] [.only [4,5,6,7] []] (kh x0 x1 ()) (aB c1 (aM c2 aN))
   ·obtain rfl:=sI H5;obtain rfl:=sI (aR H1);exact pR 9 [.eqT 14 bF,V6,.eqT 17 bT,r0 [.v,.w,.v,.v,.w,.v,.v]] [] [] (aB c1 (aM c3 aN))
 ·subst e0;have H6:=bB H1;obtain rfl:=sI H6;exact pR 3 [V4] [] [] aN
def ln (x0 x1:Int):Option (Int×Int) :=
 (hU x0 x1).bind fun y0 =>
 bif (y0==0) then (
  (j6 x0 x1).bind fun y1 =>
  some (y1.1,0)
 ) else (
  some (0,y0)
 )
theorem yk (x0 x1:Int) (r:Int×Int) (H:ln x0 x1=some r):br Tryz.prog 153 [iI x0,iI x1] (.tup [iI r.1,iI r.2]):=by
 unfold ln at H;refine aX Tryz.func153 22 [.tmp 4,.tmp 5] ?_;refine aL H fun y0 h0 H0 => ?_;refine aU H0 (fun c0 H1 => ?_) (fun c1 H2 => ?_)
 ·refine aL H1 fun y1 h1 H3 => ?_;obtain rfl:=sI H3;exact pR 15 [V2,r0 [.v,.v,.c true (iI y0),.v],V2,.eqT 13 bF,r0 [.v,.v,.c true (.tup [iI y1.1,iI y1.2]),.v,.v,.v,.v,.v],V3] [] [] (aC Tryz.call192 (aF (mb _ _ _ h0) (aM c0 (aC Tryz.call193 (aF (uK _ _ _ h1) aN)))))
 ·obtain rfl:=sI H2;exact pR 12 [V2,r0 [.v,.v,.c true (iI y0),.v],V2,.eqT 13 bT,V3] [] [] (aC Tryz.call192 (aF (mb _ _ _ h0) (aM c1 aN)))
def bJ (x0:Int) (x1:au):Option Int :=
 (ln x0 x1.C).bind fun y0 =>
 some (aS (0-y0.1))
theorem ic (x0:Int) (x1:au) (r:Int) (H:bJ x0 x1=some r):br Tryz.prog 152 [iI x0,.dptr [.str x1.Var,iI x1.C]] (iI r):=by unfold bJ at H;refine aX Tryz.func152 15 [.tmp 3] ?_;refine aL H fun y0 h0 H0 => ?_;obtain rfl:=sI H0;exact pR 7 [V1,r0 [.v,.v,.v,.c true (.tup [iI y0.1,iI y0.2]),.v,.v,.v,.v,.v],r0 [.v,.w,.v]] [] [] (aC Tryz.call153 (aF (yk _ _ _ h0) aN))
noncomputable def bR (x0:Int) (x1:au) (x2:Int) (x3:List ae) (x4:List Bind):Option (Int×Int×(List ae)×(List Bind)) :=
 bX (0≤x0∧x0<(x3.length:Int)) <|
 bX (x0.toNat<x3.length) <|
 (iw x2).bind fun y0 =>
 bX ([95].length+y0.length≤9223372036854775807) <|
 bif decide ((aS (x2+1))≥1000000000) then (
  some (3,(aS (x2+1)),x3,x4)
 ) else (
  (bJ (((x3.getD x0.toNat aa).q).Const) x1).bind fun y1 =>
  (fA (σ:=(List au)) (ε:=(List au)) (ρ:=Empty) (fun i0 s0 =>
   (bJ (((((x3.getD x0.toNat aa).q).Terms).getD i0 aJ).C) x1).bind fun y2 =>
   ((
    bif ((((((x3.getD x0.toNat aa).q).Terms).getD i0 aJ).Var)==x1.Var) then (
     some false
    ) else (
     some (y2 != 0)
    )
   ):Option Bool).bind fun v0 =>
   ((
    bif v0 then (
     bX ((s0.length+1)*24≤140737488355328) <|
     some (s0++[(au.mk (((((x3.getD x0.toNat aa).q).Terms).getD i0 aJ).Var) y2)])
    ) else (
     some s0
    )
   ):Option (List au)).bind fun v1 =>
   some (.go v1)
  ) (fun i0 s0=>s0) ((((x3.getD x0.toNat aa).q).Terms).length-0) 0 [(au.mk ([95]++y0) 1)]).bind <| dL fun u0 =>
  (jF (fun x=>x.Var) u0).bind fun y3 =>
  (bn x1.Var (Linear.mk y1 y3) x0 (aS (x2+1)) x3 x4).bind fun y4 =>
  some (y4.1,(aS (x2+1)),y4.2.1,y4.2.2)
 )
def eM (x0:Int) (x1:au) (x2:Int) (x3:List ae) (x4:List Bind) (y1:Int) (i0:Nat) (s0:List au):AS:=⟨93,[(0,.hptr 1000 0),(1,iI x0),(5,.hptr 5 0),(6,iI 0),(9,.hptr 9 0),(10,.fn 152 [.hptr 5 0]),(55,.dslice ((((x3.getD x0.toNat aa).q).Terms).map aw)),(56,iI (((((x3.getD x0.toNat aa).q).Terms).length:Nat):Int)),(57,nI i0)],[(5,.cells 31 [.str x1.Var,iI x1.C]),(9,.cells 29 [iI y1,.rslice 52]),(52,.row 31 2 (s0.map aw)),(1000,.cells 106 [.rslice 1001,.rslice 1002,iI (aS (x2+1))]),(1001,.row 109 5 (x3.map ab)),(1002,.row 62 7 (x4.map aq))]⟩
def iu (x0:Int) (x1:au) (x2:Int) (x3:List ae) (x4:List Bind) (y1:Int) (u1:List au):AS:=⟨93,[(0,.hptr 1000 0),(1,iI x0),(5,.hptr 5 0),(6,iI 0),(9,.hptr 9 0)],[(5,.cells 31 [.str x1.Var,iI x1.C]),(9,.cells 29 [iI y1,.rslice 52]),(52,.row 31 2 (u1.map aw)),(1000,.cells 106 [.rslice 1001,.rslice 1002,iI (aS (x2+1))]),(1001,.row 109 5 (x3.map ab)),(1002,.row 62 7 (x4.map aq))]⟩
def eB (x0:Int) (x1:au) (x2:Int) (x3:List ae) (x4:List Bind) (y1:Int) (i0:Nat) (s0:List au) (y2:Int) (v0:Bool):AS:=⟨93,[(0,.hptr 1000 0),(1,iI x0),(5,.hptr 5 0),(6,iI 0),(9,.hptr 9 0),(10,.fn 152 [.hptr 5 0]),(12,.hptr 12 0),(13,iI y2),(55,.dslice ((((x3.getD x0.toNat aa).q).Terms).map aw)),(56,iI (((((x3.getD x0.toNat aa).q).Terms).length:Nat):Int)),(57,nI i0),(73,.bool v0)],[(5,.cells 31 [.str x1.Var,iI x1.C]),(9,.cells 29 [iI y1,.rslice 52]),(12,.cells 31 [.str (((((x3.getD x0.toNat aa).q).Terms).getD i0 aJ).Var),iI (((((x3.getD x0.toNat aa).q).Terms).getD i0 aJ).C)]),(52,.row 31 2 (s0.map aw)),(1000,.cells 106 [.rslice 1001,.rslice 1002,iI (aS (x2+1))]),(1001,.row 109 5 (x3.map ab)),(1002,.row 62 7 (x4.map aq))]⟩
def eH (x0:Int) (x1:au) (x2:Int) (x3:List ae) (x4:List Bind) (y1:Int) (i0:Nat) (v1:List au):AS:=⟨93,[(0,.hptr 1000 0),(1,iI x0),(5,.hptr 5 0),(6,iI 0),(9,.hptr 9 0),(10,.fn 152 [.hptr 5 0]),(55,.dslice ((((x3.getD x0.toNat aa).q).Terms).map aw)),(56,iI (((((x3.getD x0.toNat aa).q).Terms).length:Nat):Int)),(57,nI i0)],[(5,.cells 31 [.str x1.Var,iI x1.C]),(9,.cells 29 [iI y1,.rslice 52]),(52,.row 31 2 (v1.map aw)),(1000,.cells 106 [.rslice 1001,.rslice 1002,iI (aS (x2+1))]),(1001,.row 109 5 (x3.map ab)),(1002,.row 62 7 (x4.map aq))]⟩
theorem iJ (x0:Int) (x1:au) (x2:Int) (x3:List ae) (x4:List Bind) (r:Int×Int×(List ae)×(List Bind)) (H:bR x0 x1 x2 x3 x4=some r):bg Tryz.prog 96 [.hptr 1000 0,iI x0,.agg [.str x1.Var,iI x1.C]] [(1000,.cells 106 [.rslice 1001,.rslice 1002,iI x2]),(1001,.row 109 5 (x3.map ab)),(1002,.row 62 7 (x4.map aq))] (fun r2 h0=>r2=(iI r.1)∧h0=[(0,.row 62 7 (r.2.2.2.map aq)),(1000,.cells 106 [.rslice 1001,.rslice 0,iI r.2.1]),(1001,.row 109 5 (r.2.2.1.map ab))]):=by
 unfold bR at H;refine aX Tryz.func96 93 [.tmp 6] ?_;refine aP H fun g0 H0 => ?_;refine aP H0 fun g1 H1 => ?_;refine aL H1 fun y0 h1 H2 => ?_;refine aP H2 fun g2 H3 => ?_;refine pD 11 [r0 [.m,.v],r0 (V 7 [.rl x0.toNat 0 (.agg (ah ((x3.getD x0.toNat aa).q))),.m,.m]),r0 (V 4 [.c true (.str y0),.v,.v]),r0 (V 4 [.w,.v,.v,.m]),V5] [.only [0,1,5,6,7,8,39] [5,7,1000,1001,1002]] 11 [] (aC (show (0:Int)≤x0∧x0<((x3.map ab).length:Int) from by rw [Mt];exact g0) (aC (lA (f:=ab) (l:=x3) (n:=x0.toNat) 5 0 2 (by omega) (by decide)) (aC (Gx (f:=ab) (l:=x3) (n:=x0.toNat) aa 0 2 (by omega)) (aC Tryz.call151 (aF (sZ x2 y0 h1) (aC (show [95].length+y0.length≤9223372036854775807 from g2) aN)))))) ?_;refine aU H3 (fun c0 H4 => ?_) (fun c1 H5 => ?_)
 ·obtain rfl:=sI H4;exact pR 5 [.eqT 39 bT,V1] [.ren [(1002,0),(1000,1000),(1001,1001)]] [0,1000,1001] (aB c0 aN)
 ·have c1p:=Mo c1;refine aL H5 fun y1 h2 H6 => ?_;refine pA 15 [.eqT 39 bF,r0 [.b,.m,.m],V2,r0 [.v,.v,.v,.c false (iI y1),.v,.m],r0 [.v,.v,.v,.b,.b,.er 48 52 31 2,.ap,.rwH 52 (.row 31 2 ([(au.mk ([95]++y0) 1)].map aw)),.v,.m],r0 [.v,.v,.e (iI (((((x3.getD x0.toNat aa).q).Terms).length:Nat):Int)),.v]] [.only [0,1,5,6,9,10,55,56,57] [5,9,52,1000,1001,1002]] 14 [false] (eM x0 x1 x2 x3 x4 y1 0 [(au.mk ([95]++y0) 1)]) (aB c1 (aC Tryz.call152 (aF (ic _ _ _ h2) (a8 (tg (c:=aw) mV [] [(au.mk ([95]++y0) 1)] 24 (by decide) (by simp)) (aC (Fv 31 2 aw [(au.mk ([95]++y0) 1)]) (aT (aC (bo aw (((x3.getD x0.toNat aa).q).Terms)) aN))))))) ?_;refine aL H6 fun R0 h3 H7 => ?_;refine pJ 1 (iu x0 x1 x2 x3 x4 y1) R0 ?_ (fun u0 e0 => ?_)
  ·refine pC (eM x0 x1 x2 x3 x4 y1) h3 (fun i0 s0 h4 e1 => ?_) (fun i0 s0 h5 q0 h6 h7 => ?_)
   ·have c2:=lF i0 ((((x3.getD x0.toNat aa).q).Terms).length) (by omega);subst e1;exact pB 5 [r0 [.e bF]] [.only [0,1,5,6,9] [5,9,52,1000,1001,1002]] (iu x0 x1 x2 x3 x4 y1 s0) (aB c2 aN)
   ·have c3:=lT i0 ((((x3.getD x0.toNat aa).q).Terms).length) (by omega);refine aL h6 fun y2 h8 H8 => ?_;refine pD 12 [r0 [.e bT],r0 [.e (.dptr (aw ((((x3.getD x0.toNat aa).q).Terms).getD i0 aJ))),.v,.m,.m],r0 [.v,.v,.v,.c false (iI y2),.v]] [.only [0,1,5,6,9,10,12,13,55,56,57] [5,9,12,52,1000,1001,1002]] 12 [true] (aB c3 (aI cy ((((x3.getD x0.toNat aa).q).Terms)) i0 aJ (aC Tryz.call152 (aF (ic _ _ _ h8) aN)))) ?_;refine aL H8 fun v0 h9 H9 => ?_;refine cC 0 (eB x0 x1 x2 x3 x4 y1 i0 s0 y2 v0) (by kernel_rfl) ?_ ?_
    ·refine aU h9 (fun c4 H10 => ?_) (fun c5 H11 => ?_)
     ·obtain rfl:=sI H10;exact pB 1 [r0 (V 4 [.e bF,.v,.s,.s,.v])] [.only [0,1,5,6,9,10,12,13,55,56,57,73] [5,9,12,52,1000,1001,1002]] (eB x0 x1 x2 x3 x4 y1 i0 s0 y2 false) (aM c4 aN)
     ·obtain rfl:=sI H11;exact pB 1 [r0 (V 4 [.e bT,.v,.v,.v,.v])] [.only [0,1,5,6,9,10,12,13,55,56,57,73] [5,9,12,52,1000,1001,1002]] (eB x0 x1 x2 x3 x4 y1 i0 s0 y2 (y2 != 0)) (aM c5 aN)
    ·refine aL H9 fun v1 h10 H12 => ?_;refine cC 1 (eH x0 x1 x2 x3 x4 y1 i0 v1) (by kernel_rfl) ?_ ?_
     ·refine aU h10 (fun c6 H13 => ?_) (fun c7 H14 => ?_)
      ·refine aP H13 fun g3 H15 => ?_;obtain rfl:=sI H15;exact pB 3 [.eqT 73 bT,r0 (V 5 [.b,.b,.ap,.rwH 81 (.row 31 2 ((s0++[(au.mk (((((x3.getD x0.toNat aa).q).Terms).getD i0 aJ).Var) y2)]).map aw)),.v,.m])] [.ren [(5,5),(9,9),(81,52),(1000,1000),(1001,1001),(1002,1002)],.only [0,1,5,6,9,10,55,56,57] [5,9,52,1000,1001,1002]] (eH x0 x1 x2 x3 x4 y1 i0 (s0++[(au.mk (((((x3.getD x0.toNat aa).q).Terms).getD i0 aJ).Var) y2)])) (aB c6 (a8 (tg (c:=aw) mV s0 [(au.mk (((((x3.getD x0.toNat aa).q).Terms).getD i0 aJ).Var) y2)] 24 (by decide) (by first | (simp;done) | simpa using g3)) (aC (vQ 31 2 aw s0 [(au.mk (((((x3.getD x0.toNat aa).q).Terms).getD i0 aJ).Var) y2)]) aN)))
      ·refine bc H14 fun e2 => ?_;subst e2;exact pB 3 [.eqT 73 bF] [.only [0,1,5,6,9,10,55,56,57] [5,9,52,1000,1001,1002]] (eH x0 x1 x2 x3 x4 y1 i0 s0) (aB c7 aN)
     ·refine bK 55 (ps:=[((((x3.getD x0.toNat aa).q).Terms).map aw).length≤9223372036854775807]) (by kernel_rfl) (fun l0 => ?_);have l1:(((x3.getD x0.toNat aa).q).Terms).length≤9223372036854775807:=by simpa only [cq,Mt] using l0
      clear l0;obtain rfl:=sI H12;exact pB 1 [V2] [.only [0,1,5,6,9,10,55,56,57] [5,9,52,1000,1001,1002]] (eM x0 x1 x2 x3 x4 y1 (i0+1) v1) (aH i0 aN)
  ·subst e0;have H16:=bu H7;refine aL H16 fun y3 h11 H17 => ?_;refine aL H17 fun y4 h12 H18 => ?_;obtain rfl:=sI H18;exact pR 5 [r0 [.v,.v,.hR [(52,1000)] 86 (.tup []) [(1000,.row 31 2 (y3.map aw))]],r0 (V 5 [.fz 52,.hM [(1000,1000),(1001,1001),(1002,1002)] [(0,900)] (iI y4.1) [(0,.row 62 7 (y4.2.2.map aq)),(1000,.cells 106 [.rslice 1001,.rslice 0,iI (aS (x2+1))]),(1001,.row 109 5 (y4.2.1.map ab))],.v])] [.ren [(900,0),(1000,1000),(1001,1001)]] [0,1000,1001] (aC Tryz.call154 (aC (AL aw (fun x=>x.Var) _ (fun _=>rfl) (fun _=>rfl) u0 y3 h11) (aC Tryz.call156 (aC (jY _ _ _ _ _ _ _ h12) aN))))
noncomputable def bp (x0 x1:Int) (x2:List ae) (x3:List Bind):Option ((aj×Int)×Int×(List ae)×(List Bind)) :=
 bX (0≤x0∧x0<(x2.length:Int)) <|
 bX (x0.toNat<x2.length) <|
 (iv (Linear.mk (((x2.getD x0.toNat aa).q).Const) (((x2.getD x0.toNat aa).q).Terms))).bind fun y0 =>
 bif (y0==0) then (
  (e9 ((x2.getD x0.toNat aa).scale) y0).bind fun y1 =>
  bif ((x2.getD x0.toNat aa).lost) then (
   some (((aj.mk [] 0),9),x1,x2,x3)
  ) else (
   (cn y1.1 y1.2).bind fun y2 =>
   bif y2 then (
    bX (8*x2.length≤140737488355328) <|
    lg (σ:=(List Int)) (ε:=Empty) (β:=((aj×Int)×Int×(List ae)×(List Bind))) ((x2.getD x0.toNat aa).mults) (fun e0 s0 =>
     bX (0≤e0.1∧e0.1<(s0.length:Int)) <|
     bX (e0.1.toNat<s0.length) <|
     (some (s0.set e0.1.toNat e0.2)).bind fun y3 =>
     some (.go y3)
    ) (List.replicate x2.length (0:Int)) (fun s0 =>
     some (((aj.mk s0 y1.1),9),x1,x2,x3)
    )
   ) else (
    some (((aj.mk [] 0),9),x1,x2,x3)
   )
  )
 ) else (
  bX ((y0:Int)≠0) <|
  bif (((((x2.getD x0.toNat aa).q).Const).tmod y0)==0) then (
   (fA (σ:=(List au)) (ε:=(List au)) (ρ:=Empty) (fun i0 s1 =>
    bX ((s1.length+1)*24≤140737488355328) <|
    some (.go (s1++[(au.mk (((((x2.getD x0.toNat aa).q).Terms).getD i0 aJ).Var) (aS ((((((x2.getD x0.toNat aa).q).Terms).getD i0 aJ).C).tdiv y0)))]))
   ) (fun i0 s1=>s1) ((((x2.getD x0.toNat aa).q).Terms).length-0) 0 []).bind <| dL fun u0 =>
   (e9 ((x2.getD x0.toNat aa).scale) y0).bind fun y4 =>
   (cn y4.1 y4.2).bind fun y5 =>
   bif y5 then (
    (some (x2.set x0.toNat (ae.mk (Linear.mk (aS ((((x2.getD x0.toNat aa).q).Const).tdiv y0)) u0) ((x2.getD x0.toNat aa).mults) ((x2.getD x0.toNat aa).scale) ((x2.getD x0.toNat aa).lost)))).bind fun y6 =>
    bX (x0.toNat<y6.length) <|
    (some (y6.set x0.toNat (ae.mk (Linear.mk (((y6.getD x0.toNat aa).q).Const) (((y6.getD x0.toNat aa).q).Terms)) ((y6.getD x0.toNat aa).mults) y4.1 ((y6.getD x0.toNat aa).lost)))).bind fun y7 =>
    (fO (Linear.mk (aS ((((x2.getD x0.toNat aa).q).Const).tdiv y0)) u0)).bind fun y8 =>
    bif (y8.C==1) then (
     (bC x0 y8 x1 y7 x3).bind fun y9 =>
     some (((aj.mk [] 0),y9.1),x1,y9.2.1,y9.2.2)
    ) else (
     bif (y8.C==(-1)) then (
      (bC x0 y8 x1 y7 x3).bind fun y10 =>
      some (((aj.mk [] 0),y10.1),x1,y10.2.1,y10.2.2)
     ) else (
      (bR x0 y8 x1 y7 x3).bind fun y11 =>
      some (((aj.mk [] 0),y11.1),y11.2.1,y11.2.2.1,y11.2.2.2)
     )
    )
   ) else (
    (some (x2.set x0.toNat (ae.mk (Linear.mk (((x2.getD x0.toNat aa).q).Const) (((x2.getD x0.toNat aa).q).Terms)) ((x2.getD x0.toNat aa).mults) ((x2.getD x0.toNat aa).scale) true))).bind fun y12 =>
    bX (x0.toNat<y12.length) <|
    (some (y12.set x0.toNat (ae.mk (Linear.mk (aS ((((x2.getD x0.toNat aa).q).Const).tdiv y0)) u0) ((y12.getD x0.toNat aa).mults) ((y12.getD x0.toNat aa).scale) ((y12.getD x0.toNat aa).lost)))).bind fun y13 =>
    bX (x0.toNat<y13.length) <|
    (some (y13.set x0.toNat (ae.mk (Linear.mk (((y13.getD x0.toNat aa).q).Const) (((y13.getD x0.toNat aa).q).Terms)) ((y13.getD x0.toNat aa).mults) 1 ((y13.getD x0.toNat aa).lost)))).bind fun y14 =>
    (fO (Linear.mk (aS ((((x2.getD x0.toNat aa).q).Const).tdiv y0)) u0)).bind fun y15 =>
    bif (y15.C==1) then (
     (bC x0 y15 x1 y14 x3).bind fun y16 =>
     some (((aj.mk [] 0),y16.1),x1,y16.2.1,y16.2.2)
    ) else (
     bif (y15.C==(-1)) then (
      (bC x0 y15 x1 y14 x3).bind fun y17 =>
      some (((aj.mk [] 0),y17.1),x1,y17.2.1,y17.2.2)
     ) else (
      (bR x0 y15 x1 y14 x3).bind fun y18 =>
      some (((aj.mk [] 0),y18.1),y18.2.1,y18.2.2.1,y18.2.2.2)
     )
    )
   )
  ) else (
   (e9 ((x2.getD x0.toNat aa).scale) y0).bind fun y19 =>
   bif ((x2.getD x0.toNat aa).lost) then (
    some (((aj.mk [] 0),9),x1,x2,x3)
   ) else (
    (cn y19.1 y19.2).bind fun y20 =>
    bif y20 then (
     bX (8*x2.length≤140737488355328) <|
     lg (σ:=(List Int)) (ε:=Empty) (β:=((aj×Int)×Int×(List ae)×(List Bind))) ((x2.getD x0.toNat aa).mults) (fun e1 s2 =>
      bX (0≤e1.1∧e1.1<(s2.length:Int)) <|
      bX (e1.1.toNat<s2.length) <|
      (some (s2.set e1.1.toNat e1.2)).bind fun y21 =>
      some (.go y21)
     ) (List.replicate x2.length (0:Int)) (fun s2 =>
      some (((aj.mk s2 y19.1),9),x1,x2,x3)
     )
    ) else (
     some (((aj.mk [] 0),9),x1,x2,x3)
    )
   )
  )
 )
def fv (x0 x1:Int) (x2:List ae) (x3:List Bind) (y0:Int) (y1:Int×Int) (i1:List Nat) (s0:List Int):AS:=⟨161,[(0,.hptr 1000 0),(1,iI x0),(4,.hptr 4 0),(5,iI 0),(6,.hptr 1001 (x0.toNat*5)),(7,iI y0),(10,.hptr 10 0),(75,.hptr 75 0)],[(4,.cells 72 [.eslice,iI 0]),(10,.cells 72 [.rslice 68,iI y1.1]),(68,.row 3 1 (s0.map ai)),(75,.iter (((x2.getD x0.toNat aa).mults).map (dR ai)) i1),(1000,.cells 106 [.rslice 1001,.rslice 1002,iI x1]),(1001,.row 109 5 (x2.map ab)),(1002,.row 62 7 (x3.map aq))]⟩
def fq (x0 x1:Int) (x2:List ae) (x3:List Bind) (y0:Int) (i0:Nat) (s1:List au):AS:=⟨161,[(0,.hptr 1000 0),(1,iI x0),(4,.hptr 4 0),(5,iI 0),(6,.hptr 1001 (x0.toNat*5)),(7,iI y0),(13,.hptr 13 0),(99,.dslice ((((x2.getD x0.toNat aa).q).Terms).map aw)),(100,iI (((((x2.getD x0.toNat aa).q).Terms).length:Nat):Int)),(101,nI i0)],[(4,.cells 72 [.eslice,iI 0]),(13,.cells 29 [iI (aS ((((x2.getD x0.toNat aa).q).Const).tdiv y0)),.rslice 115]),(115,.row 31 2 (s1.map aw)),(1000,.cells 106 [.rslice 1001,.rslice 1002,iI x1]),(1001,.row 109 5 (x2.map ab)),(1002,.row 62 7 (x3.map aq))]⟩
def iZ (x0 x1:Int) (x2:List ae) (x3:List Bind) (y0:Int) (u1:List au):AS:=⟨161,[(0,.hptr 1000 0),(1,iI x0),(4,.hptr 4 0),(5,iI 0),(6,.hptr 1001 (x0.toNat*5)),(7,iI y0),(13,.hptr 13 0)],[(4,.cells 72 [.eslice,iI 0]),(13,.cells 29 [iI (aS ((((x2.getD x0.toNat aa).q).Const).tdiv y0)),.rslice 115]),(115,.row 31 2 (u1.map aw)),(1000,.cells 106 [.rslice 1001,.rslice 1002,iI x1]),(1001,.row 109 5 (x2.map ab)),(1002,.row 62 7 (x3.map aq))]⟩
def fu (x0 x1:Int) (x2:List ae) (x3:List Bind) (y0:Int) (y19:Int×Int) (i2:List Nat) (s2:List Int):AS:=⟨161,[(0,.hptr 1000 0),(1,iI x0),(4,.hptr 4 0),(5,iI 0),(6,.hptr 1001 (x0.toNat*5)),(7,iI y0),(10,.hptr 10 0),(75,.hptr 75 0)],[(4,.cells 72 [.eslice,iI 0]),(10,.cells 72 [.rslice 68,iI y19.1]),(68,.row 3 1 (s2.map ai)),(75,.iter (((x2.getD x0.toNat aa).mults).map (dR ai)) i2),(1000,.cells 106 [.rslice 1001,.rslice 1002,iI x1]),(1001,.row 109 5 (x2.map ab)),(1002,.row 62 7 (x3.map aq))]⟩
theorem pn (x0 x1:Int) (x2:List ae) (x3:List Bind) (r:(aj×Int)×Int×(List ae)×(List Bind)) (H:bp x0 x1 x2 x3=some r):bg Tryz.prog 48 [.hptr 1000 0,iI x0] [(1000,.cells 106 [.rslice 1001,.rslice 1002,iI x1]),(1001,.row 109 5 (x2.map ab)),(1002,.row 62 7 (x3.map aq))] (fun r2 h0=>r2=(.tup [.agg [dS ai r.1.1.Mults,iI r.1.1.Mod],iI r.1.2])∧h0=[(0,.row 62 7 (r.2.2.2.map aq)),(1000,.cells 106 [.rslice 1001,.rslice 0,iI r.2.1]),(1001,.row 109 5 (r.2.2.1.map ab))]):=by
 unfold bp at H;refine aX Tryz.func48 161 [.cell 4 72,.tmp 5] ?_;refine aP H fun g0 H0 => ?_;refine aP H0 fun g1 H1 => ?_;refine aL H1 fun y0 h1 H2 => ?_;refine pD 8 [r0 [.m,.v],r0 (V 7 []),r0 [.v,.v,.v,.rl x0.toNat 0 (.agg (ah ((x2.getD x0.toNat aa).q))),.c true (iI y0),.v]] [.only [0,1,4,5,6,7] [4,1000,1001,1002]] 8 [] (aC (show (0:Int)≤x0∧x0<((x2.map ab).length:Int) from by rw [Mt];exact g0) (aC (lA (f:=ab) (l:=x2) (n:=x0.toNat) 5 0 2 (by omega) (by decide)) (aC (Gx (f:=ab) (l:=x2) (n:=x0.toNat) aa 0 2 (by omega)) (aC Tryz.call92 (aF (tZ _ _ h1) aN))))) ?_;refine aU H2 (fun c0 H3 => ?_) (fun c1 H4 => ?_)
 ·refine aL H3 fun y1 h2 H5 => ?_;refine pD 6 [r0 [.v,.e bT,.v,.s,.s,.s,.s,.s,.s,.s,.s,.v],r0 [.v,.v,.v,.rl x0.toNat 3 (iI ((x2.getD x0.toNat aa).scale)),.v,.c true (.tup [iI y1.1,iI y1.2]),.v,.v,.v,.v,.v]] [.only [0,1,4,5,6,7,8,9] [4,1000,1001,1002]] 6 [true] (aB c0 (aC (lA (f:=ab) (l:=x2) (n:=x0.toNat) 5 3 1 (by omega) (by decide)) (aC (vR (f:=ab) (l:=x2) (n:=x0.toNat) aa 3 (by omega)) (aC Tryz.call93 (aF (iP _ _ _ h2) aN))))) ?_;refine aU H5 (fun c2 H6 => ?_) (fun c3 H7 => ?_)
  ·obtain rfl:=sI H6;exact pR 5 [r0 [.v,.v,.v,.rl x0.toNat 4 (.bool ((x2.getD x0.toNat aa).lost)),.e bT,.s,.s,.s,.s,.v],r0 [.b,.m,.v]] [.wkH 4 0 [],.ren [(1002,0),(4,4),(1000,1000),(1001,1001)]] [0,1000,1001] (aC (lA (f:=ab) (l:=x2) (n:=x0.toNat) 5 4 1 (by omega) (by decide)) (aC (vR (f:=ab) (l:=x2) (n:=x0.toNat) aa 4 (by omega)) (aB c2 aN)))
  ·refine aL H7 fun y2 h3 H8 => ?_;refine pD 1 [r0 [.v,.v,.v,.rl x0.toNat 4 (.bool ((x2.getD x0.toNat aa).lost)),.e bF,.v,.v,.c true (.bool y2),.v,.v]] [.only [0,1,4,5,6,7,8,61] [4,1000,1001,1002]] 1 [] (aC (lA (f:=ab) (l:=x2) (n:=x0.toNat) 5 4 1 (by omega) (by decide)) (aC (vR (f:=ab) (l:=x2) (n:=x0.toNat) aa 4 (by omega)) (aB c3 (aC Tryz.call94 (aF (dI _ _ _ h3) (aT aN)))))) ?_;refine aU H8 (fun c4 H9 => ?_) (fun c5 H10 => ?_)
   ·refine aP H9 fun g2 H11 => ?_;refine pA 9 [.eqT 61 bF,r0 (V 4 [.e (nI x2.length),.mk x2.length,.rwH 68 (.row 3 1 ((List.replicate x2.length (0:Int)).map ai)),.v,.b,.m,.m]),r0 [.v,.v,.v,.rl x0.toNat 2 (.dmap (((x2.getD x0.toNat aa).mults).map (dR ai))),.m]] [.only [0,1,4,5,6,7,10,75] [4,10,68,75,1000,1001,1002]] 8 [false] (fv x0 x1 x2 x3 y0 y1 [] (List.replicate x2.length (0:Int))) (aM c4 (aT (aC (bo ab x2) (aC (show ((x2.length:Nat):Int)=((x2.length:Nat):Int)∧((x2.length:Nat):Int)=((x2.length:Nat):Int)∧8*x2.length≤140737488355328∧x2.length≤9223372036854775807 from ⟨rfl,rfl,by omega,by omega⟩) (aC (Gs (z:=JC Tryz.prog 3) ai (0:Int) x2.length 3 1 (by kernel_rfl)) (aC (lA (f:=ab) (l:=x2) (n:=x0.toNat) 5 2 1 (by omega) (by decide)) (aC (vR (f:=ab) (l:=x2) (n:=x0.toNat) aa 2 (by omega)) aN))))))) ?_;refine mj (cc:=ai) 75 (fv x0 x1 x2 x3 y0 y1) (by kernel_rfl) H11 [.v] (fun i1 s0=>⟨by kernel_rfl,by kernel_rfl⟩) (fun i1 s0=>⟨161,[(0,.hptr 1000 0),(1,iI x0),(4,.hptr 4 0),(5,iI 0),(6,.hptr 1001 (x0.toNat*5)),(7,iI y0),(10,.hptr 10 0),(75,.hptr 75 0),(76,.tup [.bool false]),(77,.bool false)],[(4,.cells 72 [.eslice,iI 0]),(10,.cells 72 [.rslice 68,iI y1.1]),(68,.row 3 1 (s0.map ai)),(75,.iter (((x2.getD x0.toNat aa).mults).map (dR ai)) i1),(1000,.cells 106 [.rslice 1001,.rslice 1002,iI x1]),(1001,.row 109 5 (x2.map ab)),(1002,.row 62 7 (x3.map aq))]⟩) (fun i1 s0=>by kernel_rfl) (fun i1 s0 n0 e0=>⟨161,[(0,.hptr 1000 0),(1,iI x0),(4,.hptr 4 0),(5,iI 0),(6,.hptr 1001 (x0.toNat*5)),(7,iI y0),(10,.hptr 10 0),(75,.hptr 75 0),(76,.tup [.bool true,iI e0.1,iI e0.2]),(77,.bool true)],[(4,.cells 72 [.eslice,iI 0]),(10,.cells 72 [.rslice 68,iI y1.1]),(68,.row 3 1 (s0.map ai)),(75,.iter (((x2.getD x0.toNat aa).mults).map (dR ai)) (i1++[n0])),(1000,.cells 106 [.rslice 1001,.rslice 1002,iI x1]),(1001,.row 109 5 (x2.map ab)),(1002,.row 62 7 (x3.map aq))]⟩) (fun i1 s0 n0 e0=>by kernel_rfl) (fun i1 s0 H12 => ?_) (fun i1 s0 n0 e0 h4 q0 h5 h6 => ?_)
    ·obtain rfl:=sI H12;exact pR 6 [r0 [.v,.m,.v]] [.fz 68,.ren [(1002,0),(4,4),(1000,1000),(1001,1001)]] [0,1000,1001] aN
    ·refine aP h5 fun g3 H13 => ?_;refine aP H13 fun g4 H14 => ?_;refine aL H14 fun y3 h7 H15 => ?_;obtain rfl:=sI H15;exact pB 7 [r0 [.en n0 (.tup [iI e0.1,iI e0.2]),.v,.v,.v,.v],r0 (V 5 [.rs e0.1.toNat 0,.rwH 68 (.row 3 1 (y3.map ai))])] [.only [0,1,4,5,6,7,10,75] [4,10,68,75,1000,1001,1002]] (fv x0 x1 x2 x3 y0 y1 (i1++[n0]) y3) (aC (fK i1 n0) (aC (rz (cc:=ai) h4) (aC (show (0:Int)≤e0.1∧e0.1<((s0.map ai).length:Int) from by rw [Mt];exact g3) (aC (lA (f:=ai) (l:=s0) (n:=e0.1.toNat) 1 0 1 (by omega) (by decide)) (aC ((AH (f:=ai) 3 1 s0 e0.1.toNat 0 e0.2 0 [iI e0.2] (by omega) rfl).trans (congrArg (fun l=>AO.row 3 1 (l.map ai)) (Mx h7))) aN)))))
   ·obtain rfl:=sI H10;exact pR 5 [.eqT 61 bT,r0 [.b,.m,.v]] [.wkH 4 0 [],.ren [(1002,0),(4,4),(1000,1000),(1001,1001)]] [0,1000,1001] (aM c5 aN)
 ·refine aP H4 fun g5 H16 => ?_;refine pD 1 [r0 [.v,.e bF,.v,.v,.v,.v,.v,.rl x0.toNat 0 (iI (((x2.getD x0.toNat aa).q).Const)),.v,.v,.v,.v]] [.only [0,1,4,5,6,7,42] [4,1000,1001,1002]] 1 [] (aB c1 (aC (lA (f:=ab) (l:=x2) (n:=x0.toNat) 5 0 1 (by omega) (by decide)) (aC (vR (f:=ab) (l:=x2) (n:=x0.toNat) aa 0 (by omega)) (aC (show (y0:Int)≠0 from g5) aN)))) ?_;refine aU H16 (fun c6 H17 => ?_) (fun c7 H18 => ?_)
  ·refine pA 9 [.eqT 42 bF,.rg 0 [] (V 4 [.rl x0.toNat 0 (.int .i64 (((x2.getD x0.toNat aa).q).Const)),.v,.w,.b,.m,.m]),.rg 0 [] (V 4 [.rl x0.toNat 1 (.dslice ((((x2.getD x0.toNat aa).q).Terms).map aw)),.e (.int .i64 (((((x2.getD x0.toNat aa).q).Terms).length:Nat):Int)),.v])] [.erH 13 1 115 31 2,.only [0,1,4,5,6,7,13,99,100,101] [4,13,115,1000,1001,1002]] 8 [false] (fq x0 x1 x2 x3 y0 0 []) (aM c6 (aC (lA (f:=ab) (l:=x2) (n:=x0.toNat) 5 0 1 (by omega) (by decide)) (aC (vR (f:=ab) (l:=x2) (n:=x0.toNat) aa 0 (by omega)) (aC (show (y0:Int)≠0 from g5) (aC (lA (f:=ab) (l:=x2) (n:=x0.toNat) 5 1 1 (by omega) (by decide)) (aC (vR (f:=ab) (l:=x2) (n:=x0.toNat) aa 1 (by omega)) (aT (aC (bo aw (((x2.getD x0.toNat aa).q).Terms)) aN)))))))) ?_;refine aL H17 fun R0 h8 H19 => ?_;refine pJ 1 (iZ x0 x1 x2 x3 y0) R0 ?_ (fun u0 e2 => ?_)
   ·refine pC (fq x0 x1 x2 x3 y0) h8 (fun i0 s1 h9 e3 => ?_) (fun i0 s1 h10 q1 h11 h12 => ?_)
    ·have c8:=lF i0 ((((x2.getD x0.toNat aa).q).Terms).length) (by omega);subst e3;exact pB 5 [r0 [.e bF]] [.only [0,1,4,5,6,7,13] [4,13,115,1000,1001,1002]] (iZ x0 x1 x2 x3 y0 s1) (aB c8 aN)
    ·have c9:=lT i0 ((((x2.getD x0.toNat aa).q).Terms).length) (by omega);refine aP h11 fun g6 H20 => ?_;refine bK 99 (ps:=[((((x2.getD x0.toNat aa).q).Terms).map aw).length≤9223372036854775807]) (by kernel_rfl) (fun l0 => ?_);have l1:(((x2.getD x0.toNat aa).q).Terms).length≤9223372036854775807:=by simpa only [cq,Mt] using l0
     clear l0;obtain rfl:=sI H20;exact pB 11 [r0 [.e bT],r0 [.e (.dptr (aw ((((x2.getD x0.toNat aa).q).Terms).getD i0 aJ))),.v,.m,.m],.rg 10 (V 7 [.w,.b,.b]) [.ap,.rwH 115 (.row 31 2 ((s1++[(au.mk (((((x2.getD x0.toNat aa).q).Terms).getD i0 aJ).Var) (aS ((((((x2.getD x0.toNat aa).q).Terms).getD i0 aJ).C).tdiv y0)))]).map aw)),.v,.m],V2] [.only [0,1,4,5,6,7,13,99,100,101] [4,13,115,1000,1001,1002]] (fq x0 x1 x2 x3 y0 (i0+1) (s1++[(au.mk (((((x2.getD x0.toNat aa).q).Terms).getD i0 aJ).Var) (aS ((((((x2.getD x0.toNat aa).q).Terms).getD i0 aJ).C).tdiv y0)))])) (aB c9 (aI cy ((((x2.getD x0.toNat aa).q).Terms)) i0 aJ (aC (show (y0:Int)≠0 from g5) (a8 (tg (c:=aw) mV s1 [(au.mk (((((x2.getD x0.toNat aa).q).Terms).getD i0 aJ).Var) (aS ((((((x2.getD x0.toNat aa).q).Terms).getD i0 aJ).C).tdiv y0)))] 24 (by decide) (by first | (simp;done) | simpa using g6)) (aC (vQ 31 2 aw s1 [(au.mk (((((x2.getD x0.toNat aa).q).Terms).getD i0 aJ).Var) (aS ((((((x2.getD x0.toNat aa).q).Terms).getD i0 aJ).C).tdiv y0)))]) (aH i0 aN))))))
   ·subst e2;have H21:=bu H19;refine aL H21 fun y4 h13 H22 => ?_;refine aL H22 fun y5 h14 H23 => ?_;refine pD 5 [r0 [.v,.v,.v,.rl x0.toNat 3 (iI ((x2.getD x0.toNat aa).scale)),.v,.c true (.tup [iI y4.1,iI y4.2]),.v,.v,.v,.v,.v],r0 [.v,.v,.c true (.bool y5),.v]] [.only [0,1,4,5,6,13,16,130] [4,13,115,1000,1001,1002]] 5 [] (aC (lA (f:=ab) (l:=x2) (n:=x0.toNat) 5 3 1 (by omega) (by decide)) (aC (vR (f:=ab) (l:=x2) (n:=x0.toNat) aa 3 (by omega)) (aC Tryz.call93 (aF (iP _ _ _ h13) (aC Tryz.call94 (aF (dI _ _ _ h14) (aT aN))))))) ?_;refine aU H23 (fun c10 H24 => ?_) (fun c11 H25 => ?_)
    ·refine aL H24 fun y6 h15 H26 => ?_;refine aP H26 fun g7 H27 => ?_;refine aL H27 fun y7 h16 H28 => ?_;refine aL H28 fun y8 h17 H29 => ?_;refine pD 11 [.eqT 130 bF,r0 (V 6 [.fz 115,.rs x0.toNat 0,.rwH 1001 (.row 109 5 (y6.map ab)),.v,.v,.rs x0.toNat 3,.rwH 1001 (.row 109 5 (y7.map ab))]),r0 [.v,.c true (.agg [.str y8.Var,iI y8.C]),.m,.m],V3] [.only [0,1,4,5,18,19] [4,18,1000,1001,1002]] 10 [false] (aM c10 (aC (lA (f:=ab) (l:=x2) (n:=x0.toNat) 5 0 2 (by omega) (by decide)) (aC ((AH (f:=ab) 109 5 x2 x0.toNat aa (ae.mk (Linear.mk (aS ((((x2.getD x0.toNat aa).q).Const).tdiv y0)) u0) ((x2.getD x0.toNat aa).mults) ((x2.getD x0.toNat aa).scale) ((x2.getD x0.toNat aa).lost)) 0 [iI (aS ((((x2.getD x0.toNat aa).q).Const).tdiv y0)),dS aw u0] (by omega) rfl).trans (congrArg (fun l=>AO.row 109 5 (l.map ab)) (Mx h15))) (aC (lA (f:=ab) (l:=y6) (n:=x0.toNat) 5 3 1 (by omega) (by decide)) (aC ((AH (f:=ab) 109 5 y6 x0.toNat aa (ae.mk (Linear.mk (((y6.getD x0.toNat aa).q).Const) (((y6.getD x0.toNat aa).q).Terms)) ((y6.getD x0.toNat aa).mults) y4.1 ((y6.getD x0.toNat aa).lost)) 3 [iI y4.1] (by omega) rfl).trans (congrArg (fun l=>AO.row 109 5 (l.map ab)) (Mx h16))) (aC Tryz.call95 (aF (pf _ _ h17) aN))))))) ?_;refine aU H29 (fun c12 H30 => ?_) (fun c13 H31 => ?_)
     ·refine aL H30 fun y9 h18 H32 => ?_;obtain rfl:=sI H32;exact pR 6 [r0 [.v,.v,.e bT,.v,.s,.s,.s,.v],V3,r0 [.b,.v,.v,.v,.hM [(1000,1000),(1001,1001),(1002,1002)] [(0,900)] (iI y9.1) [(0,.row 62 7 (y9.2.2.map aq)),(1000,.cells 106 [.rslice 1001,.rslice 0,iI x1]),(1001,.row 109 5 (y9.2.1.map ab))],.m,.v]] [.wkH 4 0 [],.ren [(900,0),(4,4),(1000,1000),(1001,1001)]] [0,1000,1001] (aB c12 (aC Tryz.call97 (aC (dH _ _ _ _ _ _ h18) aN)))
     ·refine aU H31 (fun c14 H33 => ?_) (fun c15 H34 => ?_)
      ·refine aL H33 fun y10 h19 H35 => ?_;obtain rfl:=sI H35;exact pR 7 [r0 [.v,.v,.e bF,.v,.v,.v,.v,.v],.eqT 153 bT,V3,r0 [.b,.v,.v,.v,.hM [(1000,1000),(1001,1001),(1002,1002)] [(0,900)] (iI y10.1) [(0,.row 62 7 (y10.2.2.map aq)),(1000,.cells 106 [.rslice 1001,.rslice 0,iI x1]),(1001,.row 109 5 (y10.2.1.map ab))],.m,.v]] [.wkH 4 0 [],.ren [(900,0),(4,4),(1000,1000),(1001,1001)]] [0,1000,1001] (aB c13 (aB c14 (aC Tryz.call97 (aC (dH _ _ _ _ _ _ h19) aN))))
      ·refine aL H34 fun y11 h20 H36 => ?_;obtain rfl:=sI H36;exact pR 7 [r0 [.v,.v,.e bF,.v,.v,.v,.v,.v],.eqT 153 bF,r0 [.b,.v,.v,.v,.hM [(1000,1000),(1001,1001),(1002,1002)] [(0,900)] (iI y11.1) [(0,.row 62 7 (y11.2.2.2.map aq)),(1000,.cells 106 [.rslice 1001,.rslice 0,iI y11.2.1]),(1001,.row 109 5 (y11.2.2.1.map ab))],.m,.v]] [.wkH 4 0 [],.ren [(900,0),(4,4),(1000,1000),(1001,1001)]] [0,1000,1001] (aB c13 (aB c15 (aC Tryz.call96 (aC (iJ _ _ _ _ _ _ h20) aN))))
    ·refine aL H25 fun y12 h21 H37 => ?_;refine aP H37 fun g8 H38 => ?_;refine aL H38 fun y13 h22 H39 => ?_;refine aP H39 fun g9 H40 => ?_;refine aL H40 fun y14 h23 H41 => ?_;refine aL H41 fun y15 h24 H42 => ?_;refine pD 13 [.eqT 130 bT,r0 [.v,.v,.v,.rs x0.toNat 4,.rwH 1001 (.row 109 5 (y12.map ab))],V1,r0 (V 6 [.fz 115,.rs x0.toNat 0,.rwH 1001 (.row 109 5 (y13.map ab)),.v,.v,.rs x0.toNat 3,.rwH 1001 (.row 109 5 (y14.map ab))]),r0 [.v,.c true (.agg [.str y15.Var,iI y15.C]),.m,.m],V3] [.only [0,1,4,5,18,19] [4,18,1000,1001,1002]] 12 [true] (aM c11 (aC (lA (f:=ab) (l:=x2) (n:=x0.toNat) 5 4 1 (by omega) (by decide)) (aC ((AH (f:=ab) 109 5 x2 x0.toNat aa (ae.mk (Linear.mk (((x2.getD x0.toNat aa).q).Const) (((x2.getD x0.toNat aa).q).Terms)) ((x2.getD x0.toNat aa).mults) ((x2.getD x0.toNat aa).scale) true) 4 [.bool true] (by omega) rfl).trans (congrArg (fun l=>AO.row 109 5 (l.map ab)) (Mx h21))) (aC (lA (f:=ab) (l:=y12) (n:=x0.toNat) 5 0 2 (by omega) (by decide)) (aC ((AH (f:=ab) 109 5 y12 x0.toNat aa (ae.mk (Linear.mk (aS ((((x2.getD x0.toNat aa).q).Const).tdiv y0)) u0) ((y12.getD x0.toNat aa).mults) ((y12.getD x0.toNat aa).scale) ((y12.getD x0.toNat aa).lost)) 0 [iI (aS ((((x2.getD x0.toNat aa).q).Const).tdiv y0)),dS aw u0] (by omega) rfl).trans (congrArg (fun l=>AO.row 109 5 (l.map ab)) (Mx h22))) (aC (lA (f:=ab) (l:=y13) (n:=x0.toNat) 5 3 1 (by omega) (by decide)) (aC ((AH (f:=ab) 109 5 y13 x0.toNat aa (ae.mk (Linear.mk (((y13.getD x0.toNat aa).q).Const) (((y13.getD x0.toNat aa).q).Terms)) ((y13.getD x0.toNat aa).mults) 1 ((y13.getD x0.toNat aa).lost)) 3 [iI 1] (by omega) rfl).trans (congrArg (fun l=>AO.row 109 5 (l.map ab)) (Mx h23))) (aC Tryz.call95 (aF (pf _ _ h24) aN))))))))) ?_;refine aU H42 (fun c16 H43 => ?_) (fun c17 H44 => ?_)
     ·refine aL H43 fun y16 h25 H45 => ?_;obtain rfl:=sI H45;exact pR 6 [r0 [.v,.v,.e bT,.v,.s,.s,.s,.v],V3,r0 [.b,.v,.v,.v,.hM [(1000,1000),(1001,1001),(1002,1002)] [(0,900)] (iI y16.1) [(0,.row 62 7 (y16.2.2.map aq)),(1000,.cells 106 [.rslice 1001,.rslice 0,iI x1]),(1001,.row 109 5 (y16.2.1.map ab))],.m,.v]] [.wkH 4 0 [],.ren [(900,0),(4,4),(1000,1000),(1001,1001)]] [0,1000,1001] (aB c16 (aC Tryz.call97 (aC (dH _ _ _ _ _ _ h25) aN)))
     ·refine aU H44 (fun c18 H46 => ?_) (fun c19 H47 => ?_)
      ·refine aL H46 fun y17 h26 H48 => ?_;obtain rfl:=sI H48;exact pR 7 [r0 [.v,.v,.e bF,.v,.v,.v,.v,.v],.eqT 153 bT,V3,r0 [.b,.v,.v,.v,.hM [(1000,1000),(1001,1001),(1002,1002)] [(0,900)] (iI y17.1) [(0,.row 62 7 (y17.2.2.map aq)),(1000,.cells 106 [.rslice 1001,.rslice 0,iI x1]),(1001,.row 109 5 (y17.2.1.map ab))],.m,.v]] [.wkH 4 0 [],.ren [(900,0),(4,4),(1000,1000),(1001,1001)]] [0,1000,1001] (aB c17 (aB c18 (aC Tryz.call97 (aC (dH _ _ _ _ _ _ h26) aN))))
      ·refine aL H47 fun y18 h27 H49 => ?_;obtain rfl:=sI H49;exact pR 7 [r0 [.v,.v,.e bF,.v,.v,.v,.v,.v],.eqT 153 bF,r0 [.b,.v,.v,.v,.hM [(1000,1000),(1001,1001),(1002,1002)] [(0,900)] (iI y18.1) [(0,.row 62 7 (y18.2.2.2.map aq)),(1000,.cells 106 [.rslice 1001,.rslice 0,iI y18.2.1]),(1001,.row 109 5 (y18.2.2.1.map ab))],.m,.v]] [.wkH 4 0 [],.ren [(900,0),(4,4),(1000,1000),(1001,1001)]] [0,1000,1001] (aB c17 (aB c19 (aC Tryz.call96 (aC (iJ _ _ _ _ _ _ h27) aN))))
  ·refine aL H18 fun y19 h28 H50 => ?_;refine pD 6 [.eqT 42 bT,r0 [.v,.v,.v,.rl x0.toNat 3 (iI ((x2.getD x0.toNat aa).scale)),.v,.c true (.tup [iI y19.1,iI y19.2]),.v,.v,.v,.v,.v]] [.only [0,1,4,5,6,7,8,9] [4,1000,1001,1002]] 5 [true] (aM c7 (aC (lA (f:=ab) (l:=x2) (n:=x0.toNat) 5 3 1 (by omega) (by decide)) (aC (vR (f:=ab) (l:=x2) (n:=x0.toNat) aa 3 (by omega)) (aC Tryz.call93 (aF (iP _ _ _ h28) aN))))) ?_;refine aU H50 (fun c20 H51 => ?_) (fun c21 H52 => ?_)
   ·obtain rfl:=sI H51;exact pR 5 [r0 [.v,.v,.v,.rl x0.toNat 4 (.bool ((x2.getD x0.toNat aa).lost)),.e bT,.s,.s,.s,.s,.v],r0 [.b,.m,.v]] [.wkH 4 0 [],.ren [(1002,0),(4,4),(1000,1000),(1001,1001)]] [0,1000,1001] (aC (lA (f:=ab) (l:=x2) (n:=x0.toNat) 5 4 1 (by omega) (by decide)) (aC (vR (f:=ab) (l:=x2) (n:=x0.toNat) aa 4 (by omega)) (aB c20 aN)))
   ·refine aL H52 fun y20 h29 H53 => ?_;refine pD 1 [r0 [.v,.v,.v,.rl x0.toNat 4 (.bool ((x2.getD x0.toNat aa).lost)),.e bF,.v,.v,.c true (.bool y20),.v,.v]] [.only [0,1,4,5,6,7,8,61] [4,1000,1001,1002]] 1 [] (aC (lA (f:=ab) (l:=x2) (n:=x0.toNat) 5 4 1 (by omega) (by decide)) (aC (vR (f:=ab) (l:=x2) (n:=x0.toNat) aa 4 (by omega)) (aB c21 (aC Tryz.call94 (aF (dI _ _ _ h29) (aT aN)))))) ?_;refine aU H53 (fun c22 H54 => ?_) (fun c23 H55 => ?_)
    ·refine aP H54 fun g10 H56 => ?_;refine pA 9 [.eqT 61 bF,r0 (V 4 [.e (nI x2.length),.mk x2.length,.rwH 68 (.row 3 1 ((List.replicate x2.length (0:Int)).map ai)),.v,.b,.m,.m]),r0 [.v,.v,.v,.rl x0.toNat 2 (.dmap (((x2.getD x0.toNat aa).mults).map (dR ai))),.m]] [.only [0,1,4,5,6,7,10,75] [4,10,68,75,1000,1001,1002]] 8 [false] (fu x0 x1 x2 x3 y0 y19 [] (List.replicate x2.length (0:Int))) (aM c22 (aT (aC (bo ab x2) (aC (show ((x2.length:Nat):Int)=((x2.length:Nat):Int)∧((x2.length:Nat):Int)=((x2.length:Nat):Int)∧8*x2.length≤140737488355328∧x2.length≤9223372036854775807 from ⟨rfl,rfl,by omega,by omega⟩) (aC (Gs (z:=JC Tryz.prog 3) ai (0:Int) x2.length 3 1 (by kernel_rfl)) (aC (lA (f:=ab) (l:=x2) (n:=x0.toNat) 5 2 1 (by omega) (by decide)) (aC (vR (f:=ab) (l:=x2) (n:=x0.toNat) aa 2 (by omega)) aN))))))) ?_;refine mj (cc:=ai) 75 (fu x0 x1 x2 x3 y0 y19) (by kernel_rfl) H56 [.v] (fun i2 s2=>⟨by kernel_rfl,by kernel_rfl⟩) (fun i2 s2=>⟨161,[(0,.hptr 1000 0),(1,iI x0),(4,.hptr 4 0),(5,iI 0),(6,.hptr 1001 (x0.toNat*5)),(7,iI y0),(10,.hptr 10 0),(75,.hptr 75 0),(76,.tup [.bool false]),(77,.bool false)],[(4,.cells 72 [.eslice,iI 0]),(10,.cells 72 [.rslice 68,iI y19.1]),(68,.row 3 1 (s2.map ai)),(75,.iter (((x2.getD x0.toNat aa).mults).map (dR ai)) i2),(1000,.cells 106 [.rslice 1001,.rslice 1002,iI x1]),(1001,.row 109 5 (x2.map ab)),(1002,.row 62 7 (x3.map aq))]⟩) (fun i2 s2=>by kernel_rfl) (fun i2 s2 n1 e1=>⟨161,[(0,.hptr 1000 0),(1,iI x0),(4,.hptr 4 0),(5,iI 0),(6,.hptr 1001 (x0.toNat*5)),(7,iI y0),(10,.hptr 10 0),(75,.hptr 75 0),(76,.tup [.bool true,iI e1.1,iI e1.2]),(77,.bool true)],[(4,.cells 72 [.eslice,iI 0]),(10,.cells 72 [.rslice 68,iI y19.1]),(68,.row 3 1 (s2.map ai)),(75,.iter (((x2.getD x0.toNat aa).mults).map (dR ai)) (i2++[n1])),(1000,.cells 106 [.rslice 1001,.rslice 1002,iI x1]),(1001,.row 109 5 (x2.map ab)),(1002,.row 62 7 (x3.map aq))]⟩) (fun i2 s2 n1 e1=>by kernel_rfl) (fun i2 s2 H57 => ?_) (fun i2 s2 n1 e1 h30 q2 h31 h32 => ?_)
     ·obtain rfl:=sI H57;exact pR 6 [r0 [.v,.m,.v]] [.fz 68,.ren [(1002,0),(4,4),(1000,1000),(1001,1001)]] [0,1000,1001] aN
     ·refine aP h31 fun g11 H58 => ?_;refine aP H58 fun g12 H59 => ?_;refine aL H59 fun y21 h33 H60 => ?_;obtain rfl:=sI H60;exact pB 7 [r0 [.en n1 (.tup [iI e1.1,iI e1.2]),.v,.v,.v,.v],r0 (V 5 [.rs e1.1.toNat 0,.rwH 68 (.row 3 1 (y21.map ai))])] [.only [0,1,4,5,6,7,10,75] [4,10,68,75,1000,1001,1002]] (fu x0 x1 x2 x3 y0 y19 (i2++[n1]) y21) (aC (fK i2 n1) (aC (rz (cc:=ai) h30) (aC (show (0:Int)≤e1.1∧e1.1<((s2.map ai).length:Int) from by rw [Mt];exact g11) (aC (lA (f:=ai) (l:=s2) (n:=e1.1.toNat) 1 0 1 (by omega) (by decide)) (aC ((AH (f:=ai) 3 1 s2 e1.1.toNat 0 e1.2 0 [iI e1.2] (by omega) rfl).trans (congrArg (fun l=>AO.row 3 1 (l.map ai)) (Mx h33))) aN)))))
    ·obtain rfl:=sI H55;exact pR 5 [.eqT 61 bT,r0 [.b,.m,.v]] [.wkH 4 0 [],.ren [(1002,0),(4,4),(1000,1000),(1001,1001)]] [0,1000,1001] (aM c23 aN)
end Go.Proofs.YtoebmibmmlcfiaaGreatDoor
