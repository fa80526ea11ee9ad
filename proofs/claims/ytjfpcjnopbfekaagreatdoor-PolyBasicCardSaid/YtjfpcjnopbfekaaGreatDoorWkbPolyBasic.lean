/- What functions of the program compute, walked: each as a plain function, with the theorem that the code computes it wherever that answers. Printed by a program, part 2. -/
import Derived.Test.YtjfpcjnopbfekaaGreatDoorWkaPolyBasic
set_option linter.unusedSimpArgs false
set_option linter.unusedVariables false
namespace Go.Proofs.YtjfpcjnopbfekaaGreatDoor
open Go.RowKit Go.Ab Go.Sh
/-- framewise/framewiselaw05.awake -/
noncomputable def law05_awake  : Option Bool :=
 (poly_Product [(Linear.mk (-1) [(Coef.mk [110] 1)]),(Linear.mk 1 [(Coef.mk [110] 1)])]).bind fun y0 =>
 (poly_Parse [50,42,109,42,110,94,50]).bind fun y1 =>
 (poly_Eval y1.1 [(Value.mk [109] 3),(Value.mk [110] (-1))]).bind fun y2 =>
 bif (y0.2==0) then (
  bif (y1.2==0) then (
   bif (y2.2==0) then (
    bif (y2.1==6) then (
     (poly_Print y0.1).bind fun y3 =>
     bif (y3==[45,49,43,110,94,50]) then (
      (poly_Valid y1.1).bind fun y4 =>
      bif y4 then (
       (poly_Degree y1.1).bind fun y5 =>
       some (y5==3)
      ) else (
       some false
      )
     ) else (
      some false
     )
    ) else (
     some false
    )
   ) else (
    some false
   )
  ) else (
   some false
  )
 ) else (
  some false
 )
theorem law05_awake_c  (r:Bool) (H:law05_awake  = some r):AFn Tryz.prog 45 [] (.bool r):=by
 unfold law05_awake at H
 refine acallX Tryz.func45 59 [.tmp 0] (by kernel_rfl) (by kernel_rfl) ?_
 refine bnd H fun y0 h0 H0 => ?_
 refine bnd H0 fun y1 h1 H1 => ?_
 refine bnd H1 fun y2 h2 H2 => ?_
 refine p_at mo 11 [r0 [.v],r0 [.b,.b,.v],r0 [.v,.b,.v,.b,.b,.c true (.tup [dS cMonomial y0.1,iI y0.2]),.v,.v,.v,.v,.v],r0 [.c true (.tup [dS cMonomial y1.1,iI y1.2]),.v,.v,.v,.v,.v],r0 [.v,.b,.b,.b,.c true (.tup [iI y2.1,iI y2.2]),.v,.v,.v,.v,.v]] [.only [0,2,3,4,5,6,7] []] 11 [] ⟨59,[(0,.bool false),(2,dS cMonomial y0.1),(3,iI y0.2),(4,dS cMonomial y1.1),(5,iI y1.2),(6,iI y2.1),(7,iI y2.2)],[]⟩ (aC Tryz.call110 (aF (poly_Product_c [(Linear.mk (-1) [(Coef.mk [110] 1)]),(Linear.mk 1 [(Coef.mk [110] 1)])] y0 h0) (aC Tryz.call51 (aF (poly_Parse_c [50,42,109,42,110,94,50] y1 h1) (aC Tryz.call47 (aF (poly_Eval_c y1.1 [(Value.mk [109] 3),(Value.mk [110] (-1))] y2 h2) aN)))))) (by kernel_rfl) ?_
 refine bsp H2 (fun c0 H3 => ?_) (fun c1 H4 => ?_)
 ·refine bsp H3 (fun c2 H5 => ?_) (fun c3 H6 => ?_)
  ·refine bsp H5 (fun c4 H7 => ?_) (fun c5 H8 => ?_)
   ·refine bsp H7 (fun c6 H9 => ?_) (fun c7 H10 => ?_)
    ·refine bnd H9 fun y3 h3 H11 => ?_
     refine bsp H11 (fun c8 H12 => ?_) (fun c9 H13 => ?_)
     ·refine bnd H12 fun y4 h4 H14 => ?_
      refine bsp H14 (fun c10 H15 => ?_) (fun c11 H16 => ?_)
      ·refine bnd H15 fun y5 h5 H17 => ?_
       obtain rfl:=sI H17
       exact p_ret mo 2 [r0 [.v,.e (.bool true),.v,.v,.e (.bool true),.v,.v,.v,.e (.bool true),.v,.v,.v,.e (.bool true),.v,.v,.v,.c true (.str y3),.e (.bool true),.v,.v,.v,.c true (.bool true),.v,.v,.v,.c true (iI y5),.v,.v,.v]] [] [] (aB c0 (aB c2 (aB c4 (aB c6 (aC Tryz.call49 (aF (poly_Print_c y0.1 y3 h3) (aB c8 (aC Tryz.call70 (aC (AFn.eq (poly_Valid_c y1.1 y4 h4) (cB c10)) (aC Tryz.call57 (aF (poly_Degree_c y1.1 y5 h5) aN))))))))))) (by kernel_rfl)
      ·obtain rfl:=sI H16
       exact p_ret mo 2 [r0 [.v,.e (.bool true),.v,.v,.e (.bool true),.v,.v,.v,.e (.bool true),.v,.v,.v,.e (.bool true),.v,.v,.v,.c true (.str y3),.e (.bool true),.v,.v,.v,.c true (.bool false),.v,.v,.s,.s,.s,.v,.v]] [] [] (aB c0 (aB c2 (aB c4 (aB c6 (aC Tryz.call49 (aF (poly_Print_c y0.1 y3 h3) (aB c8 (aC Tryz.call70 (aC (AFn.eq (poly_Valid_c y1.1 y4 h4) (cB c11)) aN))))))))) (by kernel_rfl)
     ·obtain rfl:=sI H13
      exact p_ret mo 2 [r0 [.v,.e (.bool true),.v,.v,.e (.bool true),.v,.v,.v,.e (.bool true),.v,.v,.v,.e (.bool true),.v,.v,.v,.c true (.str y3),.e (.bool false),.v,.v,.s,.s,.v,.v,.s,.s,.s,.v,.v]] [] [] (aB c0 (aB c2 (aB c4 (aB c6 (aC Tryz.call49 (aF (poly_Print_c y0.1 y3 h3) (aB c9 aN))))))) (by kernel_rfl)
    ·obtain rfl:=sI H10
     exact p_ret mo 2 [r0 [.v,.e (.bool true),.v,.v,.e (.bool true),.v,.v,.v,.e (.bool true),.v,.v,.v,.e (.bool false),.v,.v,.s,.s,.s,.v,.v,.s,.s,.v,.v,.s,.s,.s,.v,.v]] [] [] (aB c0 (aB c2 (aB c4 (aB c7 aN)))) (by kernel_rfl)
   ·obtain rfl:=sI H8
    exact p_ret mo 2 [r0 [.v,.e (.bool true),.v,.v,.e (.bool true),.v,.v,.v,.e (.bool false),.v,.v,.s,.s,.v,.v,.s,.s,.s,.v,.v,.s,.s,.v,.v,.s,.s,.s,.v,.v]] [] [] (aB c0 (aB c2 (aB c5 aN))) (by kernel_rfl)
  ·obtain rfl:=sI H6
   exact p_ret mo 2 [r0 [.v,.e (.bool true),.v,.v,.e (.bool false),.v,.v,.s,.s,.v,.v,.s,.s,.v,.v,.s,.s,.s,.v,.v,.s,.s,.v,.v,.s,.s,.s,.v,.v]] [] [] (aB c0 (aB c3 aN)) (by kernel_rfl)
 ·obtain rfl:=sI H4
  exact p_ret mo 2 [r0 [.v,.e (.bool false),.v,.s,.s,.v,.v,.s,.s,.v,.v,.s,.s,.v,.v,.s,.s,.s,.v,.v,.s,.s,.v,.v,.s,.s,.s,.v,.v]] [] [] (aB c1 aN) (by kernel_rfl)
/-- framewise/framewiseref05.Few -/
def ref05_Few (x0:(List Monomial)) (x1:Int):Option Bool :=
 (cnt (σ:=Unit) (ε:=Unit) (ρ:=Bool) (fun i0 s0 =>
  bif decide (((((x0.getD i0 ⟨0,[]⟩).Vars).length:Nat):Int)>10) then (
   some (.ret false)
  ) else (
   (whl (σ:=Int) (ε:=Unit) (ρ:=(Stp Unit Unit Bool)) (fun s1 =>
    bif decide (s1<((((x0.getD i0 ⟨0,[]⟩).Vars).length:Nat):Int)) then (
     grd (0≤s1∧s1<(((x0.getD i0 ⟨0,[]⟩).Vars).length:Int)) <|
     bif decide ((((((x0.getD i0 ⟨0,[]⟩).Vars).getD s1.toNat []).length:Nat):Int)>40) then (
      some (.ret (.ret false))
     ) else (
      some (.go (w64 (s1+1)))
     )
    ) else (
     some (.brk ())
    )
   ) 4294967296 0).bind <| aft fun u0 =>
   some (.go ())
  )
 ) (fun i0 s0=>()) (x0.length-0) 0 ()).bind <| aft fun u1 =>
 some (decide (((x0.length:Nat):Int)≤x1))
def ref05_Few_S1 (x0:(List Monomial)) (x1:Int) (i0:Nat) (s0:Unit):AS:=⟨44,[(0,dS cMonomial x0),(1,iI x1),(4,.bool false),(5,nI i0)],[]⟩
def ref05_Few_S2 (x0:(List Monomial)) (x1:Int) (u2:Unit):AS:=⟨44,[(0,dS cMonomial x0),(1,iI x1),(4,.bool false)],[]⟩
def ref05_Few_S3 (x0:(List Monomial)) (x1:Int) (i0:Nat) (s1:Int):AS:=⟨44,[(0,dS cMonomial x0),(1,iI x1),(4,.bool false),(5,nI i0),(6,iI s1)],[]⟩
def ref05_Few_S4 (x0:(List Monomial)) (x1:Int) (i0:Nat) (u3:Unit):AS:=⟨44,[(0,dS cMonomial x0),(1,iI x1),(4,.bool false),(5,nI i0)],[]⟩
theorem ref05_Few_c (x0:(List Monomial)) (x1:Int) (r:Bool) (H:ref05_Few x0 x1=some r):AFn Tryz.prog 46 [dS cMonomial x0,iI x1] (.bool r):=by
 unfold ref05_Few at H
 refine acallX Tryz.func46 44 [.tmp 4] (by kernel_rfl) (by kernel_rfl) ?_
 refine p_at mo 6 [r0 [.v],r0 [.v]] [.only [0,1,4,5] []] 6 [] (ref05_Few_S1 x0 x1 0 ()) aN (by kernel_rfl) ?_
 refine bnd H fun R0 h0 H0 => ?_
 refine p_joinO 1 (ref05_Few_S2 x0 x1) R0 (by kernel_rfl) ?_ (fun u1 e0 => ?_)
 ·refine p_cnt (ref05_Few_S1 x0 x1) (by kernel_rfl) h0 (fun i0 s0 h1 e1 => ?_) (fun i0 s0 h2 q0 h3 h4 => ?_)
  ·have c0:=lF i0 x0.length (by omega)
   subst e1
   exact p_bar mo 5 [r0 [.v,.v,.e (nI x0.length),.e (.bool false)]] [.only [0,1,4] []] (ref05_Few_S2 x0 x1 ()) (aT (aC (lenm cMonomial x0) (aB c0 aN))) (by kernel_rfl)
  ·have c1:=lT i0 x0.length (by omega)
   refine p_at mo 10 [r0 [.v,.v,.e (nI x0.length),.e (.bool true)],r0 [.v,.v,.e (.dptr [iI ((x0.getD i0 ⟨0,[]⟩).Coef),.dslice (((x0.getD i0 ⟨0,[]⟩).Vars).map cStr)]),.v,.v,.e (iI ((((x0.getD i0 ⟨0,[]⟩).Vars).length:Nat):Int)),.v]] [.only [0,1,4,5,19] []] 10 [true] ⟨44,[(0,dS cMonomial x0),(1,iI x1),(4,.bool false),(5,nI i0),(19,.bool (decide (((((x0.getD i0 ⟨0,[]⟩).Vars).length:Nat):Int)>10)))],[]⟩ (aT (aC (lenm cMonomial x0) (aB c1 (all_app (ix (f:=cMonomial) (l:=x0) (n:=i0) ⟨0,[]⟩ cMonomial_len (by decide) (by omega)) (aT (aC (lenm cStr ((x0.getD i0 ⟨0,[]⟩).Vars)) aN)))))) (by kernel_rfl) ?_
   refine bsp h3 (fun c2 H1 => ?_) (fun c3 H2 => ?_)
   ·obtain rfl:=sI H1
    obtain rfl:=out_ret h4
    obtain rfl:=sI (aft_ret H0)
    exact p_ret mo 5 [.eqT 19 (.bool true),r0 [.v]] [] [] (aB c2 aN) (by kernel_rfl)
   ·have c3p:=of_decide_eq_false c3
    refine p_at mo 6 [.eqT 19 (.bool false),r0 [.v]] [.only [0,1,4,5,6] []] 5 [false] (ref05_Few_S3 x0 x1 i0 0) (aB c3 aN) (by kernel_rfl) ?_
    refine bnd H2 fun R1 h5 H3 => ?_
    refine p_joinO 2 (ref05_Few_S4 x0 x1 i0) R1 (by kernel_rfl) ?_ (fun u0 e2 => ?_)
    ·refine p_whl (ref05_Few_S3 x0 x1 i0) (by kernel_rfl) h5 (fun s1 q1 h6 h7 => ?_)
     ·refine bsp h6 (fun c4 H4 => ?_) (fun c5 H5 => ?_)
      ·have c4p:=of_decide_eq_true c4
       refine grd_e H4 fun g0 H6 => ?_
       refine p_at mo 10 [r0 [.v,.v,.v,.e (.dptr [iI ((x0.getD i0 ⟨0,[]⟩).Coef),.dslice (((x0.getD i0 ⟨0,[]⟩).Vars).map cStr)]),.v,.v,.e (iI ((((x0.getD i0 ⟨0,[]⟩).Vars).length:Nat):Int)),.v],.eqT 27 (.bool true),r0 [.v,.v,.e (.dptr [iI ((x0.getD i0 ⟨0,[]⟩).Coef),.dslice (((x0.getD i0 ⟨0,[]⟩).Vars).map cStr)]),.v,.v,.v,.e (.dptr [.str (((x0.getD i0 ⟨0,[]⟩).Vars).getD s1.toNat [])]),.v,.v,.v]] [.only [0,1,4,5,6,39] []] 9 [true] ⟨44,[(0,dS cMonomial x0),(1,iI x1),(4,.bool false),(5,nI i0),(6,iI s1),(39,.bool (decide ((((((x0.getD i0 ⟨0,[]⟩).Vars).getD s1.toNat []).length:Nat):Int)>40)))],[]⟩ (all_app (ix (f:=cMonomial) (l:=x0) (n:=i0) ⟨0,[]⟩ cMonomial_len (by decide) (by omega)) (aT (aC (lenm cStr ((x0.getD i0 ⟨0,[]⟩).Vars)) (aB c4 (all_app (ix (f:=cMonomial) (l:=x0) (n:=i0) ⟨0,[]⟩ cMonomial_len (by decide) (by omega)) (all_app (ixz (f:=cStr) (l:=((x0.getD i0 ⟨0,[]⟩).Vars)) (n:=s1) [] cStr_len (by decide) (by exact g0)) (aT aN))))))) (by kernel_rfl) ?_
       refine bsp H6 (fun c6 H7 => ?_) (fun c7 H8 => ?_)
       ·obtain rfl:=sI H7
        obtain rfl:=out_ret h7
        obtain rfl:=sI (aft_ret H3)
        obtain rfl:=out_ret h4
        obtain rfl:=sI (aft_ret H0)
        exact p_ret mo 5 [.eqT 39 (.bool true),r0 [.v]] [] [] (aB c6 aN) (by kernel_rfl)
       ·obtain rfl:=sI H8
        exact p_bar mo 4 [.eqT 39 (.bool false),r0 [.v,.w,.v]] [.only [0,1,4,5,6] []] (ref05_Few_S3 x0 x1 i0 (w64 (s1+1))) (aB c7 aN) (by kernel_rfl)
      ·have c5p:=of_decide_eq_false c5
       obtain rfl:=sI H5
       obtain rfl:=out_brk h7
       exact p_bar mo 6 [r0 [.v,.v,.v,.e (.dptr [iI ((x0.getD i0 ⟨0,[]⟩).Coef),.dslice (((x0.getD i0 ⟨0,[]⟩).Vars).map cStr)]),.v,.v,.e (iI ((((x0.getD i0 ⟨0,[]⟩).Vars).length:Nat):Int)),.v],.eqT 27 (.bool false)] [.only [0,1,4,5] []] (ref05_Few_S4 x0 x1 i0 ()) (all_app (ix (f:=cMonomial) (l:=x0) (n:=i0) ⟨0,[]⟩ cMonomial_len (by decide) (by omega)) (aT (aC (lenm cStr ((x0.getD i0 ⟨0,[]⟩).Vars)) (aB c5 aN)))) (by kernel_rfl)
    ·subst e2
     have H9:=aft_brk H3
     refine t_lens 0 (ps:=[(x0.map cMonomial).length≤9223372036854775807]) (by kernel_rfl) (fun l0 => ?_)
     have l1:x0.length≤9223372036854775807:=by simpa only [All,List.length_map] using l0
     clear l0
     obtain rfl:=sI H9
     exact p_bar mo 1 [r0 [.v,.v,.v]] [.only [0,1,4,5] []] (ref05_Few_S1 x0 x1 (i0+1) ()) (aC (pI i0 (by omega)) aN) (by kernel_rfl)
 ·subst e0
  have H10:=aft_brk H0
  obtain rfl:=sI H10
  exact p_ret mo 3 [r0 [.v,.e (nI x0.length),.v,.v,.v]] [] [] (aT (aC (lenm cMonomial x0) aN)) (by kernel_rfl)
/-- framewise/framewiselaw05.few -/
def law05_few (x0:(List Monomial)) (x1:(List Monomial)):Option Bool :=
 (ref05_Few x0 8).bind fun y0 =>
 bif y0 then (
  (ref05_Few x1 8).bind fun y1 =>
  some y1
 ) else (
  some false
 )
theorem law05_few_c (x0:(List Monomial)) (x1:(List Monomial)) (r:Bool) (H:law05_few x0 x1=some r):AFn Tryz.prog 55 [dS cMonomial x0,dS cMonomial x1] (.bool r):=by
 unfold law05_few at H
 refine acallX Tryz.func55 11 [.tmp 4] (by kernel_rfl) (by kernel_rfl) ?_
 refine bnd H fun y0 h0 H0 => ?_
 refine bsp H0 (fun c0 H1 => ?_) (fun c1 H2 => ?_)
 ·refine bnd H1 fun y1 h1 H3 => ?_
  refine some_e H3 fun e0 => ?_
  subst e0
  exact p_ret mo 5 [r0 [.v],r0 [.v,.c true (.bool true),.v,.v,.c true (.bool y1),.v,.v]] [] [] (aC Tryz.call46 (aC (AFn.eq (ref05_Few_c x0 8 y0 h0) (cB c0)) (aC Tryz.call46 (aF (ref05_Few_c x1 8 y1 h1) aN)))) (by kernel_rfl)
 ·obtain rfl:=sI H2
  exact p_ret mo 5 [r0 [.v],r0 [.v,.c true (.bool false),.v,.s,.s,.v,.v]] [] [] (aC Tryz.call46 (aC (AFn.eq (ref05_Few_c x0 8 y0 h0) (cB c1)) aN)) (by kernel_rfl)
/-- framewise/framewiseref04.Few -/
def ref04_Few (x0:Linear) (x1:Int):Option Bool :=
 (cnt (σ:=Unit) (ε:=Unit) (ρ:=Bool) (fun i0 s0 =>
  bif decide (((((x0.Terms.getD i0 ⟨[],0⟩).Var).length:Nat):Int)>40) then (
   some (.ret false)
  ) else (
   some (.go ())
  )
 ) (fun i0 s0=>()) (x0.Terms.length-0) 0 ()).bind <| aft fun u0 =>
 some (decide (((x0.Terms.length:Nat):Int)≤x1))
def ref04_Few_S1 (x0:Linear) (x1:Int) (i0:Nat) (s0:Unit):AS:=⟨26,[(1,iI x1),(2,.hptr 2 0),(4,.bool false),(5,nI i0)],[(2,.cells 39 [iI x0.Const,dS cCoef x0.Terms])]⟩
def ref04_Few_S2 (x0:Linear) (x1:Int) (u1:Unit):AS:=⟨26,[(1,iI x1),(2,.hptr 2 0),(4,.bool false)],[(2,.cells 39 [iI x0.Const,dS cCoef x0.Terms])]⟩
theorem ref04_Few_c (x0:Linear) (x1:Int) (r:Bool) (H:ref04_Few x0 x1=some r):AFn Tryz.prog 66 [.agg [iI x0.Const,dS cCoef x0.Terms],iI x1] (.bool r):=by
 unfold ref04_Few at H
 refine acallX Tryz.func66 26 [.tmp 4] (by kernel_rfl) (by kernel_rfl) ?_
 refine p_at mo 6 [r0 [.m,.v],r0 [.v]] [.only [1,2,4,5] [2]] 6 [] (ref04_Few_S1 x0 x1 0 ()) aN (by kernel_rfl) ?_
 refine bnd H fun R0 h0 H0 => ?_
 refine p_joinO 1 (ref04_Few_S2 x0 x1) R0 (by kernel_rfl) ?_ (fun u0 e0 => ?_)
 ·refine p_cnt (ref04_Few_S1 x0 x1) (by kernel_rfl) h0 (fun i0 s0 h1 e1 => ?_) (fun i0 s0 h2 q0 h3 h4 => ?_)
  ·have c0:=lF i0 x0.Terms.length (by omega)
   subst e1
   exact p_bar mo 5 [r0 [.v,.v,.v,.e (nI x0.Terms.length),.e (.bool false)]] [.only [1,2,4] [2]] (ref04_Few_S2 x0 x1 ()) (aT (aC (lenm cCoef x0.Terms) (aB c0 aN))) (by kernel_rfl)
  ·have c1:=lT i0 x0.Terms.length (by omega)
   refine p_at mo 9 [r0 [.v,.v,.v,.e (nI x0.Terms.length),.e (.bool true)],r0 [.v,.v,.v,.e (.dptr [.str ((x0.Terms.getD i0 ⟨[],0⟩).Var),iI ((x0.Terms.getD i0 ⟨[],0⟩).C)]),.v,.v,.v,.v]] [.only [1,2,4,5,20] [2]] 9 [true] ⟨26,[(1,iI x1),(2,.hptr 2 0),(4,.bool false),(5,nI i0),(20,.bool (decide (((((x0.Terms.getD i0 ⟨[],0⟩).Var).length:Nat):Int)>40)))],[(2,.cells 39 [iI x0.Const,dS cCoef x0.Terms])]⟩ (aT (aC (lenm cCoef x0.Terms) (aB c1 (all_app (ix (f:=cCoef) (l:=x0.Terms) (n:=i0) ⟨[],0⟩ cCoef_len (by decide) (by omega)) (aT aN))))) (by kernel_rfl) ?_
   refine bsp h3 (fun c2 H1 => ?_) (fun c3 H2 => ?_)
   ·obtain rfl:=sI H1
    obtain rfl:=out_ret h4
    obtain rfl:=sI (aft_ret H0)
    exact p_ret mo 5 [.eqT 20 (.bool true),r0 [.v]] [] [] (aB c2 aN) (by kernel_rfl)
   ·have c3p:=of_decide_eq_false c3
    refine t_lensH 2 1 (ps:=[(x0.Terms.map cCoef).length≤9223372036854775807]) (by kernel_rfl) (fun l0 => ?_)
    have l1:x0.Terms.length≤9223372036854775807:=by simpa only [All,List.length_map] using l0
    clear l0
    obtain rfl:=sI H2
    exact p_bar mo 4 [.eqT 20 (.bool false),r0 [.v,.v,.v]] [.only [1,2,4,5] [2]] (ref04_Few_S1 x0 x1 (i0+1) ()) (aB c3 (aC (pI i0 (by omega)) aN)) (by kernel_rfl)
 ·subst e0
  have H3:=aft_brk H0
  obtain rfl:=sI H3
  exact p_ret mo 3 [r0 [.v,.v,.e (nI x0.Terms.length),.v,.v,.v]] [] [] (aT (aC (lenm cCoef x0.Terms) aN)) (by kernel_rfl)
/-- framewise/framewiseref04.small -/
def ref04_small (x0:Int):Option Bool :=
 bif decide (x0≥(-1000000)) then (
  some (decide (x0≤1000000))
 ) else (
  some false
 )
theorem ref04_small_c (x0:Int) (r:Bool) (H:ref04_small x0=some r):AFn Tryz.prog 151 [iI x0] (.bool r):=by
 unfold ref04_small at H
 refine acallX Tryz.func151 9 [.tmp 2] (by kernel_rfl) (by kernel_rfl) ?_
 refine bsp H (fun c0 H0 => ?_) (fun c1 H1 => ?_)
 ·obtain rfl:=sI H0
  exact p_ret mo 5 [r0 [.v],r0 [.v,.e (.bool true),.v,.v,.v,.v,.v]] [] [] (aB c0 aN) (by kernel_rfl)
 ·obtain rfl:=sI H1
  exact p_ret mo 5 [r0 [.v],r0 [.v,.e (.bool false),.v,.s,.s,.v,.v]] [] [] (aB c1 aN) (by kernel_rfl)
/-- framewise/framewiseref04.digit -/
def ref04_digit (x0:UInt8):Option Bool :=
 bif decide (((x0).toNat:Int)≥48) then (
  some (decide (((x0).toNat:Int)≤57))
 ) else (
  some false
 )
theorem ref04_digit_c (x0:UInt8) (r:Bool) (H:ref04_digit x0=some r):AFn Tryz.prog 171 [.int .u8 ((x0).toNat:Int)] (.bool r):=by
 unfold ref04_digit at H
 refine acallX Tryz.func171 9 [.tmp 2] (by kernel_rfl) (by kernel_rfl) ?_
 refine bsp H (fun c0 H0 => ?_) (fun c1 H1 => ?_)
 ·obtain rfl:=sI H0
  exact p_ret mo 5 [r0 [.v],r0 [.v,.e (.bool true),.v,.v,.v,.v,.v]] [] [] (aB c0 aN) (by kernel_rfl)
 ·obtain rfl:=sI H1
  exact p_ret mo 5 [r0 [.v],r0 [.v,.e (.bool false),.v,.s,.s,.v,.v]] [] [] (aB c1 aN) (by kernel_rfl)
/-- framewise/framewiseref04.letter -/
def ref04_letter (x0:UInt8):Option Bool :=
 bif decide (((x0).toNat:Int)≥97) then (
  some (decide (((x0).toNat:Int)≤122))
 ) else (
  some false
 )
theorem ref04_letter_c (x0:UInt8) (r:Bool) (H:ref04_letter x0=some r):AFn Tryz.prog 172 [.int .u8 ((x0).toNat:Int)] (.bool r):=by
 unfold ref04_letter at H
 refine acallX Tryz.func172 9 [.tmp 2] (by kernel_rfl) (by kernel_rfl) ?_
 refine bsp H (fun c0 H0 => ?_) (fun c1 H1 => ?_)
 ·obtain rfl:=sI H0
  exact p_ret mo 5 [r0 [.v],r0 [.v,.e (.bool true),.v,.v,.v,.v,.v]] [] [] (aB c0 aN) (by kernel_rfl)
 ·obtain rfl:=sI H1
  exact p_ret mo 5 [r0 [.v],r0 [.v,.e (.bool false),.v,.s,.s,.v,.v]] [] [] (aB c1 aN) (by kernel_rfl)
/-- framewise/framewiseref04.Name -/
def ref04_Name (x0:Str):Option Bool :=
 bif (((x0.length:Nat):Int)==0) then (
  some false
 ) else (
  bif decide (((x0.length:Nat):Int)>30) then (
   some false
  ) else (
   grd (0<x0.length) <|
   bif (((x0.getD 0 0).toNat:Int)==95) then (
    bif decide (((x0.length:Nat):Int)<2) then (
     some false
    ) else (
     bif decide (((x0.length:Nat):Int)>10) then (
      some false
     ) else (
      grd (1<x0.length) <|
      bif (((x0.getD 1 0).toNat:Int)==48) then (
       some false
      ) else (
       (cnt (σ:=Unit) (ε:=Unit) (ρ:=Bool) (fun i0 s0 =>
        (ref04_digit (x0.getD i0 0)).bind fun y0 =>
        bif y0 then (
         some (.go ())
        ) else (
         some (.ret false)
        )
       ) (fun i0 s0=>()) (x0.length-1) 1 ()).bind <| aft fun u0 =>
       some true
      )
     )
    )
   ) else (
    (cnt (σ:=Unit) (ε:=Unit) (ρ:=Bool) (fun i1 s1 =>
     (ref04_letter (x0.getD i1 0)).bind fun y1 =>
     ((
      bif y1 then (
       some (.brk ())
      ) else (
       bif (((i1:Nat):Int)==0) then (
        some (.ret (.ret false))
       ) else (
        (ref04_digit (x0.getD i1 0)).bind fun y2 =>
        bif y2 then (
         some (.brk ())
        ) else (
         some (.ret (.ret false))
        )
       )
      )
     ):Option (Out Unit (Stp Unit Unit Bool))).bind (aft fun u1 =>
      some (.go ())
     )
    ) (fun i1 s1=>()) (x0.length-0) 0 ()).bind <| aft fun u2 =>
    some true
   )
  )
 )
def ref04_Name_S1 (x0:Str) (i0:Nat) (s0:Unit):AS:=⟨62,[(0,.str x0),(2,.bool false),(3,nI i0)],[]⟩
def ref04_Name_S2 (x0:Str) (u3:Unit):AS:=⟨62,[(0,.str x0),(2,.bool false)],[]⟩
def ref04_Name_S3 (x0:Str) (i1:Nat) (s1:Unit):AS:=⟨62,[(0,.str x0),(2,.bool false),(4,nI i1)],[]⟩
def ref04_Name_S4 (u4:Unit):AS:=⟨62,[(2,.bool false)],[]⟩
def ref04_Name_S5 (x0:Str) (i1:Nat) (u1:Unit):AS:=⟨62,[(0,.str x0),(2,.bool false),(4,nI i1)],[]⟩
theorem ref04_Name_c (x0:Str) (r:Bool) (H:ref04_Name x0=some r):AFn Tryz.prog 100 [.str x0] (.bool r):=by
 unfold ref04_Name at H
 refine acallX Tryz.func100 62 [.tmp 2] (by kernel_rfl) (by kernel_rfl) ?_
 refine bsp H (fun c0 H0 => ?_) (fun c1 H1 => ?_)
 ·obtain rfl:=sI H0
  exact p_ret mo 9 [r0 [.v],r0 [.v,.v,.e (.bool true),.v,.s,.s,.s,.v],r0 [.v]] [] [] (aT (aB c0 aN)) (by kernel_rfl)
 ·refine bsp H1 (fun c2 H2 => ?_) (fun c3 H3 => ?_)
  ·obtain rfl:=sI H2
   exact p_ret mo 10 [r0 [.v],r0 [.v,.v,.e (.bool false),.v,.v,.v,.v,.v],.eqT 12 (.bool true),r0 [.v]] [] [] (aT (aB c1 (aT (aB c2 aN)))) (by kernel_rfl)
  ·have c3p:=of_decide_eq_false c3
   refine grd_e H3 fun g0 H4 => ?_
   refine bsp H4 (fun c4 H5 => ?_) (fun c5 H6 => ?_)
   ·refine bsp H5 (fun c6 H7 => ?_) (fun c7 H8 => ?_)
    ·have c6p:=of_decide_eq_true c6
     obtain rfl:=sI H7
     exact p_ret mo 20 [r0 [.v],r0 [.v,.v,.e (.bool false),.v,.v,.v,.v,.v],.eqT 12 (.bool false),r0 [.v,.v,.v],.eqT 15 (.bool true),r0 [.v,.v,.e (.bool true),.v,.s,.s,.s,.v,.v,.s,.s,.s,.v],r0 [.v]] [] [] (aT (aB c1 (aT (aB c3 (aC (show (0:Int)≤0∧0<(x0.length:Int) from by omega) (aB c4 (aT (aB c6 aN)))))))) (by kernel_rfl)
    ·have c7p:=of_decide_eq_false c7
     refine bsp H8 (fun c8 H9 => ?_) (fun c9 H10 => ?_)
     ·have c8p:=of_decide_eq_true c8
      obtain rfl:=sI H9
      exact p_ret mo 20 [r0 [.v],r0 [.v,.v,.e (.bool false),.v,.v,.v,.v,.v],.eqT 12 (.bool false),r0 [.v,.v,.v],.eqT 15 (.bool true),r0 [.v,.v,.e (.bool false),.v,.v,.v,.e (.bool true),.v,.v,.s,.s,.s,.v],r0 [.v]] [] [] (aT (aB c1 (aT (aB c3 (aC (show (0:Int)≤0∧0<(x0.length:Int) from by omega) (aB c4 (aT (aB c7 (aT (aB c8 aN)))))))))) (by kernel_rfl)
     ·have c9p:=of_decide_eq_false c9
      refine grd_e H10 fun g1 H11 => ?_
      refine p_at mo 16 [r0 [.v],r0 [.v,.v,.e (.bool false),.v,.v,.v,.v,.v],.eqT 12 (.bool false),r0 [.v,.v,.v],.eqT 15 (.bool true),r0 [.v,.v,.e (.bool false),.v,.v,.v,.e (.bool false),.v,.v,.v,.v,.v,.v]] [.only [0,2,28] []] 14 [false,true] ⟨62,[(0,.str x0),(2,.bool false),(28,.bool (((x0.getD 1 0).toNat:Int)==48))],[]⟩ (aT (aB c1 (aT (aB c3 (aC (show (0:Int)≤0∧0<(x0.length:Int) from by omega) (aB c4 (aT (aB c7 (aT (aB c9 (aC (show (0:Int)≤1∧1<(x0.length:Int) from by omega) aN))))))))))) (by kernel_rfl) ?_
      refine bsp H11 (fun c10 H12 => ?_) (fun c11 H13 => ?_)
      ·obtain rfl:=sI H12
       exact p_ret mo 5 [.eqT 28 (.bool true),r0 [.v]] [] [] (aB c10 aN) (by kernel_rfl)
      ·refine p_at mo 7 [.eqT 28 (.bool false),.rg 0 [] [.v]] [.only [0,2,3] []] 6 [false] (ref04_Name_S1 x0 1 ()) (aB c11 aN) (by kernel_rfl) ?_
       refine bnd H13 fun R0 h0 H14 => ?_
       refine p_joinO 1 (ref04_Name_S2 x0) R0 (by kernel_rfl) ?_ (fun u0 e0 => ?_)
       ·refine p_cnt (ref04_Name_S1 x0) (by kernel_rfl) h0 (fun i0 s0 h1 e1 => ?_) (fun i0 s0 h2 q0 h3 h4 => ?_)
        ·have c12:=lF i0 x0.length (by omega)
         subst e1
         exact p_bar mo 5 [r0 [.v,.v,.v,.e (.bool false)]] [.only [0,2] []] (ref04_Name_S2 x0 ()) (aT (aB c12 aN)) (by kernel_rfl)
        ·have c13:=lT i0 x0.length (by omega)
         refine bnd h3 fun y0 h5 H15 => ?_
         refine bsp H15 (fun c14 H16 => ?_) (fun c15 H17 => ?_)
         ·refine t_lens 0 (ps:=[x0.length≤9223372036854775807]) (by kernel_rfl) (fun l0 => ?_)
          have l1:x0.length≤9223372036854775807:=by simpa only [All,List.length_map] using l0
          clear l0
          obtain rfl:=sI H16
          exact p_bar mo 13 [r0 [.v,.v,.v,.e (.bool true)],r0 [.v,.v,.v,.c true (.bool y0),.v],.eqT 39 (.bool false),r0 [.v,.v,.v]] [.only [0,2,3] []] (ref04_Name_S1 x0 (i0+1) ()) (aT (aB c13 (aC (show (0:Int)≤((i0:Nat):Int)∧((i0:Nat):Int)<(x0.length:Int) from by omega) (aC Tryz.call171 (aF (ref04_digit_c (x0.getD i0 0) y0 h5) (aT (aM c14 (aC (pI i0 (by omega)) aN)))))))) (by kernel_rfl)
         ·obtain rfl:=sI H17
          obtain rfl:=out_ret h4
          obtain rfl:=sI (aft_ret H14)
          exact p_ret mo 14 [r0 [.v,.v,.v,.e (.bool true)],r0 [.v,.v,.v,.c true (.bool y0),.v],.eqT 39 (.bool true),r0 [.v]] [] [] (aT (aB c13 (aC (show (0:Int)≤((i0:Nat):Int)∧((i0:Nat):Int)<(x0.length:Int) from by omega) (aC Tryz.call171 (aF (ref04_digit_c (x0.getD i0 0) y0 h5) (aT (aM c15 aN))))))) (by kernel_rfl)
       ·subst e0
        have H18:=aft_brk H14
        obtain rfl:=sI H18
        exact p_ret mo 3 [r0 [.v]] [] [] aN (by kernel_rfl)
   ·refine p_at mo 18 [.rg 0 [] [.v],.rg 0 [] [.v,.v,.e (.bool false),.v,.v,.v,.v,.v],.eqT 12 (.bool false),.rg 0 [] [.v,.v,.v],.eqT 15 (.bool false),.rg 0 [] [.v]] [.only [0,2,4] []] 16 [false,false] (ref04_Name_S3 x0 0 ()) (aT (aB c1 (aT (aB c3 (aC (show (0:Int)≤0∧0<(x0.length:Int) from by omega) (aB c5 aN)))))) (by kernel_rfl) ?_
    refine bnd H6 fun R1 h6 H19 => ?_
    refine p_joinO 1 (ref04_Name_S4) R1 (by kernel_rfl) ?_ (fun u2 e2 => ?_)
    ·refine p_cnt (ref04_Name_S3 x0) (by kernel_rfl) h6 (fun i1 s1 h7 e3 => ?_) (fun i1 s1 h8 q1 h9 h10 => ?_)
     ·have c16:=lF i1 x0.length (by omega)
      subst e3
      exact p_bar mo 5 [r0 [.v,.v,.v,.e (.bool false)]] [.only [2] []] (ref04_Name_S4 ()) (aT (aB c16 aN)) (by kernel_rfl)
     ·have c17:=lT i1 x0.length (by omega)
      refine bnd h9 fun y1 h11 H20 => ?_
      refine p_at mo 8 [r0 [.v,.v,.v,.e (.bool true)]] [.only [0,2,4] []] 8 [true] ⟨62,[(0,.str x0),(2,.bool false),(4,nI i1)],[]⟩ (aT (aB c17 aN)) (by kernel_rfl) ?_
      refine bnd H20 fun v0 h12 H21 => ?_
      refine p_joinO 2 (ref04_Name_S5 x0 i1) v0 (by kernel_rfl) ?_ (fun u1 e4 => ?_)
      ·refine bsp h12 (fun c18 H22 => ?_) (fun c19 H23 => ?_)
       ·obtain rfl:=sI H22
        exact p_bar mo 3 [r0 [.v,.v,.v,.c true (.bool true),.v,.v,.s,.s,.s,.s,.s,.s,.s,.s,.s,.v]] [.only [0,2,4] []] (ref04_Name_S5 x0 i1 ()) (aC (show (0:Int)≤((i1:Nat):Int)∧((i1:Nat):Int)<(x0.length:Int) from by omega) (aC Tryz.call172 (aC (AFn.eq (ref04_letter_c (x0.getD i1 0) y1 h11) (cB c18)) (aT aN)))) (by kernel_rfl)
       ·refine bsp H23 (fun c20 H24 => ?_) (fun c21 H25 => ?_)
        ·obtain rfl:=sI H24
         obtain rfl:=sI (aft_ret H21)
         obtain rfl:=out_ret h10
         obtain rfl:=sI (aft_ret H19)
         exact p_ret mo 5 [r0 [.v,.v,.v,.c true (.bool false),.v,.v,.v,.e (.bool true),.v,.s,.s,.s,.s,.s,.v,.v],r0 [.v]] [] [] (aC (show (0:Int)≤((i1:Nat):Int)∧((i1:Nat):Int)<(x0.length:Int) from by omega) (aC Tryz.call172 (aC (AFn.eq (ref04_letter_c (x0.getD i1 0) y1 h11) (cB c19)) (aT (aB c20 aN))))) (by kernel_rfl)
        ·refine bnd H25 fun y2 h13 H26 => ?_
         refine p_at mo 1 [r0 [.v,.v,.v,.c true (.bool false),.v,.v,.v,.e (.bool false),.v,.v,.v,.v,.c true (.bool y2),.v,.v,.v]] [.only [0,2,4,61] []] 1 [] ⟨62,[(0,.str x0),(2,.bool false),(4,nI i1),(61,.bool (!y2))],[]⟩ (aC (show (0:Int)≤((i1:Nat):Int)∧((i1:Nat):Int)<(x0.length:Int) from by omega) (aC Tryz.call172 (aC (AFn.eq (ref04_letter_c (x0.getD i1 0) y1 h11) (cB c19)) (aT (aB c21 (aC (show (0:Int)≤((i1:Nat):Int)∧((i1:Nat):Int)<(x0.length:Int) from by omega) (aC Tryz.call171 (aF (ref04_digit_c (x0.getD i1 0) y2 h13) (aT aN))))))))) (by kernel_rfl) ?_
         refine bsp H26 (fun c22 H27 => ?_) (fun c23 H28 => ?_)
         ·obtain rfl:=sI H27
          exact p_bar mo 3 [.eqT 61 (.bool false)] [.only [0,2,4] []] (ref04_Name_S5 x0 i1 ()) (aM c22 aN) (by kernel_rfl)
         ·obtain rfl:=sI H28
          obtain rfl:=sI (aft_ret H21)
          obtain rfl:=out_ret h10
          obtain rfl:=sI (aft_ret H19)
          exact p_ret mo 5 [.eqT 61 (.bool true),r0 [.v]] [] [] (aM c23 aN) (by kernel_rfl)
      ·subst e4
       have H29:=aft_brk H21
       refine t_lens 0 (ps:=[x0.length≤9223372036854775807]) (by kernel_rfl) (fun l2 => ?_)
       have l3:x0.length≤9223372036854775807:=by simpa only [All,List.length_map] using l2
       clear l2
       obtain rfl:=sI H29
       exact p_bar mo 1 [r0 [.v,.v,.v]] [.only [0,2,4] []] (ref04_Name_S3 x0 (i1+1) ()) (aC (pI i1 (by omega)) aN) (by kernel_rfl)
    ·subst e2
     have H30:=aft_brk H19
     obtain rfl:=sI H30
     exact p_ret mo 3 [r0 [.v]] [] [] aN (by kernel_rfl)
/-- framewise/framewiseref04.Valid -/
def ref04_Valid (x0:Linear):Option Bool :=
 (ref04_small x0.Const).bind fun y0 =>
 bif y0 then (
  bif decide (((x0.Terms.length:Nat):Int)>12) then (
   some false
  ) else (
   (cnt (σ:=Unit) (ε:=Unit) (ρ:=Bool) (fun i0 s0 =>
    (ref04_Name ((x0.Terms.getD i0 ⟨[],0⟩).Var)).bind fun y1 =>
    ((
     bif y1 then (
      bif (((x0.Terms.getD i0 ⟨[],0⟩).C)==0) then (
       some (.ret (.ret false))
      ) else (
       (ref04_small ((x0.Terms.getD i0 ⟨[],0⟩).C)).bind fun y2 =>
       bif y2 then (
        bif decide (((i0:Nat):Int)>0) then (
         grd (0≤(w64 (((i0:Nat):Int)-1))∧(w64 (((i0:Nat):Int)-1))<(x0.Terms.length:Int)) <|
         bif (Op.bytesLess ((x0.Terms.getD (w64 (((i0:Nat):Int)-1)).toNat ⟨[],0⟩).Var) ((x0.Terms.getD i0 ⟨[],0⟩).Var)) then (
          some (.brk ())
         ) else (
          some (.ret (.ret false))
         )
        ) else (
         some (.brk ())
        )
       ) else (
        some (.ret (.ret false))
       )
      )
     ) else (
      some (.ret (.ret false))
     )
    ):Option (Out Unit (Stp Unit Unit Bool))).bind (aft fun u0 =>
     some (.go ())
    )
   ) (fun i0 s0=>()) (x0.Terms.length-0) 0 ()).bind <| aft fun u1 =>
   some true
  )
 ) else (
  some false
 )
def ref04_Valid_S1 (x0:Linear) (i0:Nat) (s0:Unit):AS:=⟨58,[(1,.hptr 1 0),(2,.bool false),(3,nI i0)],[(1,.cells 39 [iI x0.Const,dS cCoef x0.Terms])]⟩
def ref04_Valid_S2 (u2:Unit):AS:=⟨58,[(2,.bool false)],[]⟩
def ref04_Valid_S3 (x0:Linear) (i0:Nat) (u0:Unit):AS:=⟨58,[(1,.hptr 1 0),(2,.bool false),(3,nI i0)],[(1,.cells 39 [iI x0.Const,dS cCoef x0.Terms])]⟩
theorem ref04_Valid_c (x0:Linear) (r:Bool) (H:ref04_Valid x0=some r):AFn Tryz.prog 87 [.agg [iI x0.Const,dS cCoef x0.Terms]] (.bool r):=by
 unfold ref04_Valid at H
 refine acallX Tryz.func87 58 [.tmp 2] (by kernel_rfl) (by kernel_rfl) ?_
 refine bnd H fun y0 h0 H0 => ?_
 refine bsp H0 (fun c0 H1 => ?_) (fun c1 H2 => ?_)
 ·refine bsp H1 (fun c2 H3 => ?_) (fun c3 H4 => ?_)
  ·obtain rfl:=sI H3
   exact p_ret mo 10 [r0 [.m,.v],r0 [.v,.v,.c true (.bool true),.v,.v,.v,.v,.e (nI x0.Terms.length),.v,.v],.eqT 14 (.bool true),r0 [.v]] [] [] (aC Tryz.call151 (aC (AFn.eq (ref04_small_c x0.Const y0 h0) (cB c0)) (aT (aT (aC (lenm cCoef x0.Terms) (aB c2 aN)))))) (by kernel_rfl)
  ·have c3p:=of_decide_eq_false c3
   refine p_at mo 12 [r0 [.m,.v],r0 [.v,.v,.c true (.bool true),.v,.v,.v,.v,.e (nI x0.Terms.length),.v,.v],.eqT 14 (.bool false),r0 [.v]] [.only [1,2,3] [1]] 11 [false] (ref04_Valid_S1 x0 0 ()) (aC Tryz.call151 (aC (AFn.eq (ref04_small_c x0.Const y0 h0) (cB c0)) (aT (aT (aC (lenm cCoef x0.Terms) (aB c3 aN)))))) (by kernel_rfl) ?_
   refine bnd H4 fun R0 h1 H5 => ?_
   refine p_joinO 1 (ref04_Valid_S2) R0 (by kernel_rfl) ?_ (fun u1 e0 => ?_)
   ·refine p_cnt (ref04_Valid_S1 x0) (by kernel_rfl) h1 (fun i0 s0 h2 e1 => ?_) (fun i0 s0 h3 q0 h4 h5 => ?_)
    ·have c4:=lF i0 x0.Terms.length (by omega)
     subst e1
     exact p_bar mo 5 [r0 [.v,.v,.v,.e (nI x0.Terms.length),.e (.bool false)]] [.only [2] []] (ref04_Valid_S2 ()) (aT (aC (lenm cCoef x0.Terms) (aB c4 aN))) (by kernel_rfl)
    ·have c5:=lT i0 x0.Terms.length (by omega)
     refine bnd h4 fun y1 h6 H6 => ?_
     refine p_at mo 10 [r0 [.v,.v,.v,.e (nI x0.Terms.length),.e (.bool true)],r0 [.v,.v,.v,.e (.dptr [.str ((x0.Terms.getD i0 ⟨[],0⟩).Var),iI ((x0.Terms.getD i0 ⟨[],0⟩).C)]),.v,.m,.m]] [.only [1,2,3,4] [1,4]] 10 [true] ⟨58,[(1,.hptr 1 0),(2,.bool false),(3,nI i0),(4,.hptr 4 0)],[(1,.cells 39 [iI x0.Const,dS cCoef x0.Terms]),(4,.cells 44 [.str ((x0.Terms.getD i0 ⟨[],0⟩).Var),iI ((x0.Terms.getD i0 ⟨[],0⟩).C)])]⟩ (aT (aC (lenm cCoef x0.Terms) (aB c5 (all_app (ix (f:=cCoef) (l:=x0.Terms) (n:=i0) ⟨[],0⟩ cCoef_len (by decide) (by omega)) aN)))) (by kernel_rfl) ?_
     refine bnd H6 fun v0 h7 H7 => ?_
     refine p_joinO 2 (ref04_Valid_S3 x0 i0) v0 (by kernel_rfl) ?_ (fun u0 e2 => ?_)
     ·refine bsp h7 (fun c6 H8 => ?_) (fun c7 H9 => ?_)
      ·refine bsp H8 (fun c8 H10 => ?_) (fun c9 H11 => ?_)
       ·obtain rfl:=sI H10
        obtain rfl:=sI (aft_ret H7)
        obtain rfl:=out_ret h5
        obtain rfl:=sI (aft_ret H5)
        exact p_ret mo 5 [.rg 28 [.v,.v,.c true (.bool true),.v,.v,.v,.v,.e (.bool true),.v,.v,.s,.s,.s,.s,.v,.v,.s,.s,.s,.s,.s,.s,.s,.s,.s,.s,.s,.s] [.s,.s,.v],r0 [.v]] [] [] (aC Tryz.call100 (aC (AFn.eq (ref04_Name_c ((x0.Terms.getD i0 ⟨[],0⟩).Var) y1 h6) (cB c6)) (aT (aB c8 aN)))) (by kernel_rfl)
       ·refine bnd H11 fun y2 h8 H12 => ?_
        refine bsp H12 (fun c10 H13 => ?_) (fun c11 H14 => ?_)
        ·refine bsp H13 (fun c12 H15 => ?_) (fun c13 H16 => ?_)
         ·refine grd_e H15 fun g0 H17 => ?_
          refine p_at mo 1 [.rg 28 [.v,.v,.c true (.bool true),.v,.v,.v,.v,.e (.bool false),.v,.v,.v,.v,.c true (.bool true),.v,.v,.v,.v,.e (.bool true),.v,.v,.v,.v,.w,.e (.dptr [.str ((x0.Terms.getD (w64 (((i0:Nat):Int)-1)).toNat ⟨[],0⟩).Var),iI ((x0.Terms.getD (w64 (((i0:Nat):Int)-1)).toNat ⟨[],0⟩).C)]),.v,.v,.v,.v] [.v,.v,.v]] [.only [1,2,3,57] [1]] 1 [] ⟨58,[(1,.hptr 1 0),(2,.bool false),(3,nI i0),(57,.bool (!(Op.bytesLess ((x0.Terms.getD (w64 (((i0:Nat):Int)-1)).toNat ⟨[],0⟩).Var) ((x0.Terms.getD i0 ⟨[],0⟩).Var))))],[(1,.cells 39 [iI x0.Const,dS cCoef x0.Terms])]⟩ (aC Tryz.call100 (aC (AFn.eq (ref04_Name_c ((x0.Terms.getD i0 ⟨[],0⟩).Var) y1 h6) (cB c6)) (aT (aB c9 (aC Tryz.call151 (aC (AFn.eq (ref04_small_c ((x0.Terms.getD i0 ⟨[],0⟩).C) y2 h8) (cB c10)) (aT (aB c12 (all_app (ixz (f:=cCoef) (l:=x0.Terms) (n:=(w64 (((i0:Nat):Int)-1))) ⟨[],0⟩ cCoef_len (by decide) (by exact g0)) aN))))))))) (by kernel_rfl) ?_
          refine bsp H17 (fun c14 H18 => ?_) (fun c15 H19 => ?_)
          ·obtain rfl:=sI H18
           exact p_bar mo 3 [.eqT 57 (.bool false)] [.only [1,2,3] [1]] (ref04_Valid_S3 x0 i0 ()) (aM c14 aN) (by kernel_rfl)
          ·obtain rfl:=sI H19
           obtain rfl:=sI (aft_ret H7)
           obtain rfl:=out_ret h5
           obtain rfl:=sI (aft_ret H5)
           exact p_ret mo 5 [.eqT 57 (.bool true),r0 [.v]] [] [] (aM c15 aN) (by kernel_rfl)
         ·obtain rfl:=sI H16
          exact p_bar mo 3 [.rg 28 [.v,.v,.c true (.bool true),.v,.v,.v,.v,.e (.bool false),.v,.v,.v,.v,.c true (.bool true),.v,.v,.v,.v,.e (.bool false),.v,.s,.s,.s,.s,.s,.s,.s,.s,.s] [.s,.v,.v]] [.only [1,2,3] [1]] (ref04_Valid_S3 x0 i0 ()) (aC Tryz.call100 (aC (AFn.eq (ref04_Name_c ((x0.Terms.getD i0 ⟨[],0⟩).Var) y1 h6) (cB c6)) (aT (aB c9 (aC Tryz.call151 (aC (AFn.eq (ref04_small_c ((x0.Terms.getD i0 ⟨[],0⟩).C) y2 h8) (cB c10)) (aT (aB c13 aN)))))))) (by kernel_rfl)
        ·obtain rfl:=sI H14
         obtain rfl:=sI (aft_ret H7)
         obtain rfl:=out_ret h5
         obtain rfl:=sI (aft_ret H5)
         exact p_ret mo 5 [.rg 28 [.v,.v,.c true (.bool true),.v,.v,.v,.v,.e (.bool false),.v,.v,.v,.v,.c true (.bool false),.v,.v,.v,.s,.s,.s,.s,.s,.s,.s,.s,.s,.s,.s,.s] [.s,.s,.v],r0 [.v]] [] [] (aC Tryz.call100 (aC (AFn.eq (ref04_Name_c ((x0.Terms.getD i0 ⟨[],0⟩).Var) y1 h6) (cB c6)) (aT (aB c9 (aC Tryz.call151 (aC (AFn.eq (ref04_small_c ((x0.Terms.getD i0 ⟨[],0⟩).C) y2 h8) (cB c11)) (aT aN))))))) (by kernel_rfl)
      ·obtain rfl:=sI H9
       obtain rfl:=sI (aft_ret H7)
       obtain rfl:=out_ret h5
       obtain rfl:=sI (aft_ret H5)
       exact p_ret mo 5 [.rg 28 [.v,.v,.c true (.bool false),.v,.v,.s,.s,.s,.v,.v,.s,.s,.s,.s,.v,.v,.s,.s,.s,.s,.s,.s,.s,.s,.s,.s,.s,.s] [.s,.s,.v],r0 [.v]] [] [] (aC Tryz.call100 (aC (AFn.eq (ref04_Name_c ((x0.Terms.getD i0 ⟨[],0⟩).Var) y1 h6) (cB c7)) (aT aN))) (by kernel_rfl)
     ·subst e2
      have H20:=aft_brk H7
      refine t_lensH 1 1 (ps:=[(x0.Terms.map cCoef).length≤9223372036854775807]) (by kernel_rfl) (fun l0 => ?_)
      have l1:x0.Terms.length≤9223372036854775807:=by simpa only [All,List.length_map] using l0
      clear l0
      obtain rfl:=sI H20
      exact p_bar mo 1 [r0 [.v,.v,.v]] [.only [1,2,3] [1]] (ref04_Valid_S1 x0 (i0+1) ()) (aC (pI i0 (by omega)) aN) (by kernel_rfl)
   ·subst e0
    have H21:=aft_brk H5
    obtain rfl:=sI H21
    exact p_ret mo 3 [r0 [.v]] [] [] aN (by kernel_rfl)
 ·obtain rfl:=sI H2
  exact p_ret mo 9 [r0 [.m,.v],r0 [.v,.v,.c true (.bool false),.v,.v,.s,.s,.s,.s,.v],r0 [.v]] [] [] (aC Tryz.call151 (aC (AFn.eq (ref04_small_c x0.Const y0 h0) (cB c1)) (aT aN))) (by kernel_rfl)
/-- framewise/framewiseref05.order -/
def ref05_order (x0:(List Str)) (x1:(List Str)):Option Int :=
 (cnt (σ:=Unit) (ε:=Unit) (ρ:=Int) (fun i0 s0 =>
  bif decide (((i0:Nat):Int)<((x1.length:Nat):Int)) then (
   bif (Op.bytesLess (x0.getD i0 []) (x1.getD i0 [])) then (
    some (.ret (-1))
   ) else (
    bif (Op.bytesLess (x0.getD i0 []) (x1.getD i0 [])||(x0.getD i0 [])==(x1.getD i0 [])) then (
     some (.go ())
    ) else (
     some (.ret 1)
    )
   )
  ) else (
   some (.brk ())
  )
 ) (fun i0 s0=>()) (x0.length-0) 0 ()).bind <| aft fun u0 =>
 some (w64 (((x0.length:Nat):Int)-((x1.length:Nat):Int)))
def ref05_order_S1 (x0:(List Str)) (x1:(List Str)) (i0:Nat) (s0:Unit):AS:=⟨41,[(0,dS cStr x0),(1,dS cStr x1),(4,iI 0),(5,nI i0)],[]⟩
def ref05_order_S2 (x0:(List Str)) (x1:(List Str)) (u1:Unit):AS:=⟨41,[(0,dS cStr x0),(1,dS cStr x1),(4,iI 0)],[]⟩
theorem ref05_order_c (x0:(List Str)) (x1:(List Str)) (r:Int) (H:ref05_order x0 x1=some r):AFn Tryz.prog 122 [dS cStr x0,dS cStr x1] (iI r):=by
 unfold ref05_order at H
 refine acallX Tryz.func122 41 [.tmp 4] (by kernel_rfl) (by kernel_rfl) ?_
 refine p_at mo 6 [r0 [.v],r0 [.v]] [.only [0,1,4,5] []] 6 [] (ref05_order_S1 x0 x1 0 ()) aN (by kernel_rfl) ?_
 refine bnd H fun R0 h0 H0 => ?_
 refine p_joinO 1 (ref05_order_S2 x0 x1) R0 (by kernel_rfl) ?_ (fun u0 e0 => ?_)
 ·refine p_cnt (ref05_order_S1 x0 x1) (by kernel_rfl) h0 (fun i0 s0 h1 e1 => ?_) (fun i0 s0 h2 q0 h3 h4 => ?_)
  ·have c0:=lF i0 x0.length (by omega)
   subst e1
   exact p_bar mo 5 [r0 [.v,.v,.e (nI x0.length),.e (.bool false),.v,.s,.s,.s,.s,.v]] [.only [0,1,4] []] (ref05_order_S2 x0 x1 ()) (aT (aC (lenm cStr x0) (aB c0 aN))) (by kernel_rfl)
  ·have c1:=lT i0 x0.length (by omega)
   refine bsp h3 (fun c2 H1 => ?_) (fun c3 H2 => ?_)
   ·have c2p:=of_decide_eq_true c2
    refine p_at mo 11 [r0 [.v,.v,.e (nI x0.length),.e (.bool true),.v,.v,.v,.e (nI x1.length),.v,.v],.eqT 15 (.bool true),.rg 8 [.v,.v,.e (.dptr [.str (x0.getD i0 [])]),.v,.v,.v,.e (.dptr [.str (x1.getD i0 [])]),.v] [.v]] [.only [0,1,4,5,26] []] 10 [true] ⟨41,[(0,dS cStr x0),(1,dS cStr x1),(4,iI 0),(5,nI i0),(26,.bool (Op.bytesLess (x0.getD i0 []) (x1.getD i0 [])))],[]⟩ (aT (aC (lenm cStr x0) (aB c1 (aT (aC (lenm cStr x1) (aB c2 (all_app (ix (f:=cStr) (l:=x0) (n:=i0) [] cStr_len (by decide) (by omega)) (all_app (ix (f:=cStr) (l:=x1) (n:=i0) [] cStr_len (by decide) (by omega)) aN)))))))) (by kernel_rfl) ?_
    refine bsp H1 (fun c4 H3 => ?_) (fun c5 H4 => ?_)
    ·obtain rfl:=sI H3
     obtain rfl:=out_ret h4
     obtain rfl:=sI (aft_ret H0)
     exact p_ret mo 5 [.eqT 26 (.bool true),r0 [.v]] [] [] (aB c4 aN) (by kernel_rfl)
    ·refine bsp H4 (fun c6 H5 => ?_) (fun c7 H6 => ?_)
     ·refine t_lens 0 (ps:=[(x0.map cStr).length≤9223372036854775807]) (by kernel_rfl) (fun l0 => ?_)
      have l1:x0.length≤9223372036854775807:=by simpa only [All,List.length_map] using l0
      clear l0
      obtain rfl:=sI H5
      exact p_bar mo 9 [.eqT 26 (.bool false),.rg 8 [.v,.v,.e (.dptr [.str (x0.getD i0 [])]),.v,.v,.v,.e (.dptr [.str (x1.getD i0 [])]),.v] [.v],.eqT 35 (.bool false),r0 [.v,.v,.v]] [.only [0,1,4,5] []] (ref05_order_S1 x0 x1 (i0+1) ()) (aB c5 (all_app (ix (f:=cStr) (l:=x0) (n:=i0) [] cStr_len (by decide) (by omega)) (all_app (ix (f:=cStr) (l:=x1) (n:=i0) [] cStr_len (by decide) (by omega)) (aM c6 (aC (pI i0 (by omega)) aN))))) (by kernel_rfl)
     ·obtain rfl:=sI H6
      obtain rfl:=out_ret h4
      obtain rfl:=sI (aft_ret H0)
      exact p_ret mo 10 [.eqT 26 (.bool false),.rg 8 [.v,.v,.e (.dptr [.str (x0.getD i0 [])]),.v,.v,.v,.e (.dptr [.str (x1.getD i0 [])]),.v] [.v],.eqT 35 (.bool true),r0 [.v]] [] [] (aB c5 (all_app (ix (f:=cStr) (l:=x0) (n:=i0) [] cStr_len (by decide) (by omega)) (all_app (ix (f:=cStr) (l:=x1) (n:=i0) [] cStr_len (by decide) (by omega)) (aM c7 aN)))) (by kernel_rfl)
   ·obtain rfl:=sI H2
    obtain rfl:=out_brk h4
    exact p_bar mo 6 [r0 [.v,.v,.e (nI x0.length),.e (.bool true),.v,.v,.v,.e (nI x1.length),.v,.v],.eqT 15 (.bool false)] [.only [0,1,4] []] (ref05_order_S2 x0 x1 ()) (aT (aC (lenm cStr x0) (aB c1 (aT (aC (lenm cStr x1) (aB c3 aN)))))) (by kernel_rfl)
 ·subst e0
  have H7:=aft_brk H0
  obtain rfl:=sI H7
  exact p_ret mo 3 [r0 [.v,.e (nI x0.length),.v,.e (nI x1.length),.w,.v]] [] [] (aT (aC (lenm cStr x0) (aT (aC (lenm cStr x1) aN)))) (by kernel_rfl)
/-- framewise/framewiseref05.plus -/
def ref05_plus (x0:(List Monomial)) (x1:Monomial):Option (List Monomial) :=
 (cnt (σ:=((List Monomial)×Bool)) (ε:=((List Monomial)×Bool)) (ρ:=Empty) (fun i0 s0 =>
  (ref05_order ((x0.getD i0 ⟨0,[]⟩).Vars) x1.Vars).bind fun y0 =>
  ((
   bif s0.2 then (
    some (true,false)
   ) else (
    some (false,decide (y0>0))
   )
  ):Option (Bool×Bool)).bind fun v0 =>
  ((
   bif v0.2 then (
    grd ((s0.1.length+1)*32≤140737488355328) <|
    some ((s0.1++[x1]),true)
   ) else (
    some (s0.1,v0.1)
   )
  ):Option ((List Monomial)×Bool)).bind fun v1 =>
  ((
   bif v1.2 then (
    some (true,false)
   ) else (
    some (false,(y0==0))
   )
  ):Option (Bool×Bool)).bind fun v2 =>
  ((
   bif v2.2 then (
    some (true,(w64 (((x0.getD i0 ⟨0,[]⟩).Coef)+x1.Coef)))
   ) else (
    some (v2.1,((x0.getD i0 ⟨0,[]⟩).Coef))
   )
  ):Option (Bool×Int)).bind fun v3 =>
  ((
   bif (v3.2==0) then (
    some v1.1
   ) else (
    grd ((v1.1.length+1)*32≤140737488355328) <|
    some (v1.1++[(Monomial.mk v3.2 ((x0.getD i0 ⟨0,[]⟩).Vars))])
   )
  ):Option (List Monomial)).bind fun v4 =>
  some (.go (v4,v3.1))
 ) (fun i0 s0=>(s0.1,s0.2)) (x0.length-0) 0 ([],(x1.Coef==0))).bind <| aftE fun u0 =>
 bif u0.2 then (
  some u0.1
 ) else (
  grd ((u0.1.length+1)*32≤140737488355328) <|
  some (u0.1++[x1])
 )
def ref05_plus_S1 (x0:(List Monomial)) (x1:Monomial) (i0:Nat) (s0:((List Monomial)×Bool)):AS:=⟨67,[(0,dS cMonomial x0),(3,.hptr 3 0),(4,.eslice),(5,.rslice 59),(6,.bool s0.2),(7,nI i0)],[(3,.cells 118 [iI x1.Coef,dS cStr x1.Vars]),(59,.row 118 2 (s0.1.map cMonomial))]⟩
def ref05_plus_S2 (x1:Monomial) (u1:((List Monomial)×Bool)):AS:=⟨67,[(3,.hptr 3 0),(4,.eslice),(5,.rslice 59),(6,.bool u1.2)],[(3,.cells 118 [iI x1.Coef,dS cStr x1.Vars]),(59,.row 118 2 (u1.1.map cMonomial))]⟩
def ref05_plus_S3 (x0:(List Monomial)) (x1:Monomial) (i0:Nat) (s0:((List Monomial)×Bool)) (y0:Int) (v0:(Bool×Bool)):AS:=⟨67,[(0,dS cMonomial x0),(3,.hptr 3 0),(4,.eslice),(5,.rslice 59),(6,.bool v0.1),(7,nI i0),(8,iI y0),(32,.bool v0.2)],[(3,.cells 118 [iI x1.Coef,dS cStr x1.Vars]),(59,.row 118 2 (s0.1.map cMonomial))]⟩
def ref05_plus_S4 (x0:(List Monomial)) (x1:Monomial) (i0:Nat) (y0:Int) (v1:((List Monomial)×Bool)):AS:=⟨67,[(0,dS cMonomial x0),(3,.hptr 3 0),(4,.eslice),(5,.rslice 59),(6,.bool v1.2),(7,nI i0),(8,iI y0)],[(3,.cells 118 [iI x1.Coef,dS cStr x1.Vars]),(59,.row 118 2 (v1.1.map cMonomial))]⟩
def ref05_plus_S5 (x0:(List Monomial)) (x1:Monomial) (i0:Nat) (v1:((List Monomial)×Bool)) (v2:(Bool×Bool)):AS:=⟨67,[(0,dS cMonomial x0),(3,.hptr 3 0),(4,.eslice),(5,.rslice 59),(6,.bool v2.1),(7,nI i0),(9,.hptr 9 0),(46,.bool v2.2)],[(3,.cells 118 [iI x1.Coef,dS cStr x1.Vars]),(9,.cells 118 [iI ((x0.getD i0 ⟨0,[]⟩).Coef),.dslice (((x0.getD i0 ⟨0,[]⟩).Vars).map cStr)]),(59,.row 118 2 (v1.1.map cMonomial))]⟩
def ref05_plus_S6 (x0:(List Monomial)) (x1:Monomial) (i0:Nat) (v1:((List Monomial)×Bool)) (v3:(Bool×Int)):AS:=⟨67,[(0,dS cMonomial x0),(3,.hptr 3 0),(4,.eslice),(5,.rslice 59),(6,.bool v3.1),(7,nI i0),(9,.hptr 9 0)],[(3,.cells 118 [iI x1.Coef,dS cStr x1.Vars]),(9,.cells 118 [iI v3.2,.dslice (((x0.getD i0 ⟨0,[]⟩).Vars).map cStr)]),(59,.row 118 2 (v1.1.map cMonomial))]⟩
def ref05_plus_S7 (x0:(List Monomial)) (x1:Monomial) (i0:Nat) (v3:(Bool×Int)) (v4:(List Monomial)):AS:=⟨67,[(0,dS cMonomial x0),(3,.hptr 3 0),(4,.eslice),(5,.rslice 59),(6,.bool v3.1),(7,nI i0)],[(3,.cells 118 [iI x1.Coef,dS cStr x1.Vars]),(59,.row 118 2 (v4.map cMonomial))]⟩
theorem ref05_plus_c (x0:(List Monomial)) (x1:Monomial) (r:(List Monomial)) (H:ref05_plus x0 x1=some r):AFn Tryz.prog 128 [dS cMonomial x0,.agg [iI x1.Coef,dS cStr x1.Vars]] (dS cMonomial r):=by
 unfold ref05_plus at H
 refine acallX Tryz.func128 67 [.tmp 4] (by kernel_rfl) (by kernel_rfl) ?_
 refine p_at mo 10 [r0 [.m,.v],r0 [.v],r0 [.v,.v,.v,.v],r0 [.v]] [.er 5 59 118 2,.only [0,3,4,5,6,7] [3,59]] 10 [] (ref05_plus_S1 x0 x1 0 ([],(x1.Coef==0))) aN (by kernel_rfl) ?_
 refine bnd H fun R0 h0 H0 => ?_
 refine p_joinO 1 (ref05_plus_S2 x1) R0 (by kernel_rfl) ?_ (fun u0 e0 => ?_)
 ·refine p_cnt (ref05_plus_S1 x0 x1) (by kernel_rfl) h0 (fun i0 s0 h1 e1 => ?_) (fun i0 s0 h2 q0 h3 h4 => ?_)
  ·have c0:=lF i0 x0.length (by omega)
   subst e1
   exact p_bar mo 5 [r0 [.v,.v,.e (nI x0.length),.e (.bool false)]] [.only [3,4,5,6] [3,59]] (ref05_plus_S2 x1 (s0.1,s0.2)) (aT (aC (lenm cMonomial x0) (aB c0 aN))) (by kernel_rfl)
  ·have c1:=lT i0 x0.length (by omega)
   refine bnd h3 fun y0 h5 H1 => ?_
   refine p_at mo 11 [r0 [.v,.v,.e (nI x0.length),.e (.bool true)],.rg 7 [.v,.v,.e (.dptr [iI ((x0.getD i0 ⟨0,[]⟩).Coef),.dslice (((x0.getD i0 ⟨0,[]⟩).Vars).map cStr)]),.v,.v,.v,.v] [.c true (iI y0),.v]] [.only [0,3,4,5,6,7,8] [3,59]] 11 [true] ⟨67,[(0,dS cMonomial x0),(3,.hptr 3 0),(4,.eslice),(5,.rslice 59),(6,.bool s0.2),(7,nI i0),(8,iI y0)],[(3,.cells 118 [iI x1.Coef,dS cStr x1.Vars]),(59,.row 118 2 (s0.1.map cMonomial))]⟩ (aT (aC (lenm cMonomial x0) (aB c1 (all_app (ix (f:=cMonomial) (l:=x0) (n:=i0) ⟨0,[]⟩ cMonomial_len (by decide) (by omega)) (aC Tryz.call122 (aF (ref05_order_c ((x0.getD i0 ⟨0,[]⟩).Vars) x1.Vars y0 h5) aN)))))) (by kernel_rfl) ?_
   refine bnd H1 fun v0 h6 H2 => ?_
   refine p_join 0 (ref05_plus_S3 x0 x1 i0 s0 y0 v0) (by kernel_rfl) ?_ ?_
   ·refine bsp h6 (fun c2 H3 => ?_) (fun c3 H4 => ?_)
    ·obtain rfl:=sI H3
     exact p_bar mo 2 [.eqT 6 (.bool true),r0 [.v,.v,.v,.s,.s,.v]] [.only [0,3,4,5,6,7,8,32] [3,59]] (ref05_plus_S3 x0 x1 i0 s0 y0 (true,false)) (aB c2 (aT aN)) (by kernel_rfl)
    ·obtain rfl:=sI H4
     exact p_bar mo 2 [.eqT 6 (.bool false),r0 [.v,.v,.v,.v,.v,.v]] [.only [0,3,4,5,6,7,8,32] [3,59]] (ref05_plus_S3 x0 x1 i0 s0 y0 (false,decide (y0>0))) (aB c3 (aT aN)) (by kernel_rfl)
   ·refine bnd H2 fun v1 h7 H5 => ?_
    refine p_join 0 (ref05_plus_S4 x0 x1 i0 y0 v1) (by kernel_rfl) ?_ ?_
    ·refine bsp h7 (fun c4 H6 => ?_) (fun c5 H7 => ?_)
     ·refine grd_e H6 fun g0 H8 => ?_
      obtain rfl:=sI H8
      exact p_bar mo 5 [.eqT 32 (.bool true),r0 [.v,.v,.b,.ap,.rwH 36 (.row 118 2 ((s0.1++[x1]).map cMonomial)),.v],r0 [.v]] [.ren [(3,3),(36,59)],.only [0,3,4,5,6,7,8] [3,59]] (ref05_plus_S4 x0 x1 i0 y0 ((s0.1++[x1]),true)) (aB c4 (all_app (apR (c:=cMonomial) cMonomial_ok s0.1 [x1] 32 (by decide) (by simpa using g0)) (aC (apQ 118 2 cMonomial s0.1 [x1]) aN))) (by kernel_rfl)
     ·obtain rfl:=sI H7
      exact p_bar mo 3 [.eqT 32 (.bool false)] [.only [0,3,4,5,6,7,8] [3,59]] (ref05_plus_S4 x0 x1 i0 y0 (s0.1,v0.1)) (aB c5 aN) (by kernel_rfl)
    ·refine p_at mo 4 [.rg 0 [] [.v,.v,.e (.dptr [.int .i64 ((x0.getD i0 ⟨0,[]⟩).Coef),.dslice (((x0.getD i0 ⟨0,[]⟩).Vars).map cStr)]),.v,.m,.m]] [.only [0,3,4,5,6,7,8,9] [3,9,59]] 4 [] ⟨67,[(0,.dslice (x0.map cMonomial)),(3,.hptr 3 0),(4,.eslice),(5,.rslice 59),(6,.bool v1.2),(7,.int .i64 ((i0:Nat):Int)),(8,.int .i64 y0),(9,.hptr 9 0)],[(3,.cells 118 [.int .i64 x1.Coef,.dslice (x1.Vars.map cStr)]),(9,.cells 118 [.int .i64 ((x0.getD i0 ⟨0,[]⟩).Coef),.dslice (((x0.getD i0 ⟨0,[]⟩).Vars).map cStr)]),(59,.row 118 2 (v1.1.map cMonomial))]⟩ (all_app (ix (f:=cMonomial) (l:=x0) (n:=i0) ⟨0,[]⟩ cMonomial_len (by decide) (by omega)) aN) (by kernel_rfl) ?_
     refine bnd H5 fun v2 h8 H9 => ?_
     refine p_join 0 (ref05_plus_S5 x0 x1 i0 v1 v2) (by kernel_rfl) ?_ ?_
     ·refine bsp h8 (fun c6 H10 => ?_) (fun c7 H11 => ?_)
      ·obtain rfl:=sI H10
       exact p_bar mo 2 [.eqT 6 (.bool true),r0 [.v,.v,.v,.s,.s,.v]] [.only [0,3,4,5,6,7,9,46] [3,9,59]] (ref05_plus_S5 x0 x1 i0 v1 (true,false)) (aB c6 (aT aN)) (by kernel_rfl)
      ·obtain rfl:=sI H11
       exact p_bar mo 2 [.eqT 6 (.bool false),r0 [.v,.v,.v,.v,.v,.v]] [.only [0,3,4,5,6,7,9,46] [3,9,59]] (ref05_plus_S5 x0 x1 i0 v1 (false,(y0==0))) (aB c7 (aT aN)) (by kernel_rfl)
     ·refine bnd H9 fun v3 h9 H12 => ?_
      refine p_join 0 (ref05_plus_S6 x0 x1 i0 v1 v3) (by kernel_rfl) ?_ ?_
      ·refine bsp h9 (fun c8 H13 => ?_) (fun c9 H14 => ?_)
       ·obtain rfl:=sI H13
        exact p_bar mo 5 [.eqT 46 (.bool true),r0 [.v,.v,.v,.v,.w,.v,.m],r0 [.v]] [.only [0,3,4,5,6,7,9] [3,9,59]] (ref05_plus_S6 x0 x1 i0 v1 (true,(w64 (((x0.getD i0 ⟨0,[]⟩).Coef)+x1.Coef)))) (aB c8 aN) (by kernel_rfl)
       ·obtain rfl:=sI H14
        exact p_bar mo 3 [.eqT 46 (.bool false)] [.only [0,3,4,5,6,7,9] [3,9,59]] (ref05_plus_S6 x0 x1 i0 v1 (v2.1,((x0.getD i0 ⟨0,[]⟩).Coef))) (aB c9 aN) (by kernel_rfl)
      ·refine p_at mo 2 [.rg 0 [] [.v,.v,.v]] [.only [0,3,4,5,6,7,9,55] [3,9,59]] 2 [] ⟨67,[(0,.dslice (x0.map cMonomial)),(3,.hptr 3 0),(4,.eslice),(5,.rslice 59),(6,.bool v3.1),(7,.int .i64 ((i0:Nat):Int)),(9,.hptr 9 0),(55,.bool (v3.2 != 0))],[(3,.cells 118 [.int .i64 x1.Coef,.dslice (x1.Vars.map cStr)]),(9,.cells 118 [.int .i64 v3.2,.dslice (((x0.getD i0 ⟨0,[]⟩).Vars).map cStr)]),(59,.row 118 2 (v1.1.map cMonomial))]⟩ aN (by kernel_rfl) ?_
       refine bnd H12 fun v4 h10 H15 => ?_
       refine p_join 1 (ref05_plus_S7 x0 x1 i0 v3 v4) (by kernel_rfl) ?_ ?_
       ·refine bsp h10 (fun c10 H16 => ?_) (fun c11 H17 => ?_)
        ·obtain rfl:=sI H16
         exact p_bar mo 3 [.eqT 55 (.bool false)] [.only [0,3,4,5,6,7] [3,59]] (ref05_plus_S7 x0 x1 i0 v3 v1.1) (aM c10 aN) (by kernel_rfl)
        ·refine grd_e H17 fun g1 H18 => ?_
         obtain rfl:=sI H18
         exact p_bar mo 3 [.eqT 55 (.bool true),r0 [.v,.v,.b,.ap,.rwH 59 (.row 118 2 ((v1.1++[(Monomial.mk v3.2 ((x0.getD i0 ⟨0,[]⟩).Vars))]).map cMonomial)),.v]] [.only [0,3,4,5,6,7] [3,59]] (ref05_plus_S7 x0 x1 i0 v3 (v1.1++[(Monomial.mk v3.2 ((x0.getD i0 ⟨0,[]⟩).Vars))])) (aM c11 (all_app (apR (c:=cMonomial) cMonomial_ok v1.1 [(Monomial.mk v3.2 ((x0.getD i0 ⟨0,[]⟩).Vars))] 32 (by decide) (by simpa using g1)) (aC (apQ 118 2 cMonomial v1.1 [(Monomial.mk v3.2 ((x0.getD i0 ⟨0,[]⟩).Vars))]) aN))) (by kernel_rfl)
       ·refine t_lens 0 (ps:=[(x0.map cMonomial).length≤9223372036854775807]) (by kernel_rfl) (fun l0 => ?_)
        have l1:x0.length≤9223372036854775807:=by simpa only [All,List.length_map] using l0
        clear l0
        obtain rfl:=sI H15
        exact p_bar mo 1 [r0 [.v,.v,.v]] [.only [0,3,4,5,6,7] [3,59]] (ref05_plus_S1 x0 x1 (i0+1) (v4,v3.1)) (aC (pI i0 (by omega)) aN) (by kernel_rfl)
 ·subst e0
  have H19:=aftE_brk H0
  refine bsp H19 (fun c12 H20 => ?_) (fun c13 H21 => ?_)
  ·obtain rfl:=sI H20
   exact p_ret mo 9 [r0 [.v,.v],.eqT 61 (.bool false),r0 [.v,.v]] [.fz 59] [] (aT (aM c12 aN)) (by kernel_rfl)
  ·refine grd_e H21 fun g2 H22 => ?_
   obtain rfl:=sI H22
   exact p_ret mo 9 [r0 [.v,.v],.eqT 61 (.bool true),r0 [.v,.v,.b,.ap,.rwH 65 (.row 118 2 ((u0.1++[x1]).map cMonomial)),.v],r0 [.v,.v]] [.fz 65] [] (aT (aM c13 (all_app (apR (c:=cMonomial) cMonomial_ok u0.1 [x1] 32 (by decide) (by simpa using g2)) (aC (apQ 118 2 cMonomial u0.1 [x1]) aN)))) (by kernel_rfl)
/-- framewise/framewiseref05.Valid -/
def ref05_Valid (x0:(List Monomial)):Option Bool :=
 bif decide (((x0.length:Nat):Int)>60) then (
  some false
 ) else (
  (cnt (σ:=Unit) (ε:=Unit) (ρ:=Bool) (fun i0 s0 =>
   ((
    bif (((x0.getD i0 ⟨0,[]⟩).Coef)==0) then (
     some (.ret (.ret false))
    ) else (
     bif decide (((x0.getD i0 ⟨0,[]⟩).Coef)<(-1099511627776)) then (
      some (.ret (.ret false))
     ) else (
      bif decide (((x0.getD i0 ⟨0,[]⟩).Coef)>1099511627776) then (
       some (.ret (.ret false))
      ) else (
       bif decide (((((x0.getD i0 ⟨0,[]⟩).Vars).length:Nat):Int)>8) then (
        some (.ret (.ret false))
       ) else (
        bif decide (((i0:Nat):Int)>0) then (
         grd (0≤(w64 (((i0:Nat):Int)-1))∧(w64 (((i0:Nat):Int)-1))<(x0.length:Int)) <|
         (ref05_order ((x0.getD (w64 (((i0:Nat):Int)-1)).toNat ⟨0,[]⟩).Vars) ((x0.getD i0 ⟨0,[]⟩).Vars)).bind fun y0 =>
         bif decide (y0≥0) then (
          some (.ret (.ret false))
         ) else (
          some (.brk ())
         )
        ) else (
         some (.brk ())
        )
       )
      )
     )
    )
   ):Option (Out Unit (Stp Unit Unit Bool))).bind (aft fun u0 =>
    (cnt (σ:=Unit) (ε:=Unit) (ρ:=(Stp Unit Unit Bool)) (fun i1 s1 =>
     (ref04_Name (((x0.getD i0 ⟨0,[]⟩).Vars).getD i1 [])).bind fun y1 =>
     ((
      bif y1 then (
       bif decide (((i1:Nat):Int)>0) then (
        grd (0≤(w64 (((i1:Nat):Int)-1))∧(w64 (((i1:Nat):Int)-1))<(((x0.getD i0 ⟨0,[]⟩).Vars).length:Int)) <|
        bif (Op.bytesLess (((x0.getD i0 ⟨0,[]⟩).Vars).getD (w64 (((i1:Nat):Int)-1)).toNat []) (((x0.getD i0 ⟨0,[]⟩).Vars).getD i1 [])||(((x0.getD i0 ⟨0,[]⟩).Vars).getD (w64 (((i1:Nat):Int)-1)).toNat [])==(((x0.getD i0 ⟨0,[]⟩).Vars).getD i1 [])) then (
         some (.brk ())
        ) else (
         some (.ret (.ret (.ret false)))
        )
       ) else (
        some (.brk ())
       )
      ) else (
       some (.ret (.ret (.ret false)))
      )
     ):Option (Out Unit (Stp Unit Unit (Stp Unit Unit Bool)))).bind (aft fun u1 =>
      some (.go ())
     )
    ) (fun i1 s1=>()) (((x0.getD i0 ⟨0,[]⟩).Vars).length-0) 0 ()).bind <| aft fun u2 =>
    some (.go ())
   )
  ) (fun i0 s0=>()) (x0.length-0) 0 ()).bind <| aft fun u3 =>
  some true
 )
def ref05_Valid_S1 (x0:(List Monomial)) (i0:Nat) (s0:Unit):AS:=⟨86,[(0,dS cMonomial x0),(2,.bool false),(3,nI i0)],[]⟩
def ref05_Valid_S2 (u4:Unit):AS:=⟨86,[(2,.bool false)],[]⟩
def ref05_Valid_S3 (x0:(List Monomial)) (i0:Nat) (u0:Unit):AS:=⟨86,[(0,dS cMonomial x0),(2,.bool false),(3,nI i0),(4,.hptr 4 0)],[(4,.cells 118 [iI ((x0.getD i0 ⟨0,[]⟩).Coef),.dslice (((x0.getD i0 ⟨0,[]⟩).Vars).map cStr)])]⟩
def ref05_Valid_S4 (x0:(List Monomial)) (i0:Nat) (i1:Nat) (s1:Unit):AS:=⟨86,[(0,dS cMonomial x0),(2,.bool false),(3,nI i0),(4,.hptr 4 0),(5,nI i1)],[(4,.cells 118 [iI ((x0.getD i0 ⟨0,[]⟩).Coef),.dslice (((x0.getD i0 ⟨0,[]⟩).Vars).map cStr)])]⟩
def ref05_Valid_S5 (x0:(List Monomial)) (i0:Nat) (u5:Unit):AS:=⟨86,[(0,dS cMonomial x0),(2,.bool false),(3,nI i0)],[]⟩
def ref05_Valid_S6 (x0:(List Monomial)) (i0:Nat) (i1:Nat) (u1:Unit):AS:=⟨86,[(0,dS cMonomial x0),(2,.bool false),(3,nI i0),(4,.hptr 4 0),(5,nI i1)],[(4,.cells 118 [iI ((x0.getD i0 ⟨0,[]⟩).Coef),.dslice (((x0.getD i0 ⟨0,[]⟩).Vars).map cStr)])]⟩
theorem ref05_Valid_c (x0:(List Monomial)) (r:Bool) (H:ref05_Valid x0=some r):AFn Tryz.prog 52 [dS cMonomial x0] (.bool r):=by
 unfold ref05_Valid at H
 refine acallX Tryz.func52 86 [.tmp 2] (by kernel_rfl) (by kernel_rfl) ?_
 refine bsp H (fun c0 H0 => ?_) (fun c1 H1 => ?_)
 ·obtain rfl:=sI H0
  exact p_ret mo 10 [r0 [.v],r0 [.v,.e (nI x0.length),.v],.eqT 8 (.bool true),r0 [.v]] [] [] (aT (aC (lenm cMonomial x0) (aB c0 aN))) (by kernel_rfl)
 ·have c1p:=of_decide_eq_false c1
  refine p_at mo 12 [r0 [.v],r0 [.v,.e (nI x0.length),.v],.eqT 8 (.bool false),r0 [.v]] [.only [0,2,3] []] 11 [false] (ref05_Valid_S1 x0 0 ()) (aT (aC (lenm cMonomial x0) (aB c1 aN))) (by kernel_rfl) ?_
  refine bnd H1 fun R0 h0 H2 => ?_
  refine p_joinO 1 (ref05_Valid_S2) R0 (by kernel_rfl) ?_ (fun u3 e0 => ?_)
  ·refine p_cnt (ref05_Valid_S1 x0) (by kernel_rfl) h0 (fun i0 s0 h1 e1 => ?_) (fun i0 s0 h2 q0 h3 h4 => ?_)
   ·have c2:=lF i0 x0.length (by omega)
    subst e1
    exact p_bar mo 5 [r0 [.v,.v,.e (nI x0.length),.e (.bool false)]] [.only [2] []] (ref05_Valid_S2 ()) (aT (aC (lenm cMonomial x0) (aB c2 aN))) (by kernel_rfl)
   ·have c3:=lT i0 x0.length (by omega)
    refine p_at mo 11 [r0 [.v,.v,.e (nI x0.length),.e (.bool true)],r0 [.v,.v,.e (.dptr [iI ((x0.getD i0 ⟨0,[]⟩).Coef),.dslice (((x0.getD i0 ⟨0,[]⟩).Vars).map cStr)]),.v,.m,.m]] [.only [0,2,3,4] [4]] 11 [true] ⟨86,[(0,dS cMonomial x0),(2,.bool false),(3,nI i0),(4,.hptr 4 0)],[(4,.cells 118 [iI ((x0.getD i0 ⟨0,[]⟩).Coef),.dslice (((x0.getD i0 ⟨0,[]⟩).Vars).map cStr)])]⟩ (aT (aC (lenm cMonomial x0) (aB c3 (all_app (ix (f:=cMonomial) (l:=x0) (n:=i0) ⟨0,[]⟩ cMonomial_len (by decide) (by omega)) aN)))) (by kernel_rfl) ?_
    refine bnd h3 fun v0 h5 H3 => ?_
    refine p_joinO 1 (ref05_Valid_S3 x0 i0) v0 (by kernel_rfl) ?_ (fun u0 e2 => ?_)
    ·refine bsp h5 (fun c4 H4 => ?_) (fun c5 H5 => ?_)
     ·obtain rfl:=sI H4
      obtain rfl:=sI (aft_ret H3)
      obtain rfl:=out_ret h4
      obtain rfl:=sI (aft_ret H2)
      exact p_ret mo 5 [.rg 31 [.v,.v,.e (.bool true),.v,.s,.s,.s,.v,.v,.s,.s,.s,.v,.v,.s,.s,.s,.s,.v,.v,.s,.s,.s,.s,.s,.s,.s,.s,.s,.s,.s] [.s,.s,.s,.v],r0 [.v]] [] [] (aB c4 aN) (by kernel_rfl)
     ·refine bsp H5 (fun c6 H6 => ?_) (fun c7 H7 => ?_)
      ·obtain rfl:=sI H6
       obtain rfl:=sI (aft_ret H3)
       obtain rfl:=out_ret h4
       obtain rfl:=sI (aft_ret H2)
       exact p_ret mo 5 [.rg 31 [.v,.v,.e (.bool false),.v,.v,.v,.e (.bool true),.v,.v,.s,.s,.s,.v,.v,.s,.s,.s,.s,.v,.v,.s,.s,.s,.s,.s,.s,.s,.s,.s,.s,.s] [.s,.s,.s,.v],r0 [.v]] [] [] (aB c5 (aB c6 aN)) (by kernel_rfl)
      ·refine bsp H7 (fun c8 H8 => ?_) (fun c9 H9 => ?_)
       ·obtain rfl:=sI H8
        obtain rfl:=sI (aft_ret H3)
        obtain rfl:=out_ret h4
        obtain rfl:=sI (aft_ret H2)
        exact p_ret mo 5 [.rg 31 [.v,.v,.e (.bool false),.v,.v,.v,.e (.bool false),.v,.v,.v,.v,.e (.bool true),.v,.v,.s,.s,.s,.s,.v,.v,.s,.s,.s,.s,.s,.s,.s,.s,.s,.s,.s] [.s,.s,.s,.v],r0 [.v]] [] [] (aB c5 (aB c7 (aB c8 aN))) (by kernel_rfl)
       ·refine bsp H9 (fun c10 H10 => ?_) (fun c11 H11 => ?_)
        ·obtain rfl:=sI H10
         obtain rfl:=sI (aft_ret H3)
         obtain rfl:=out_ret h4
         obtain rfl:=sI (aft_ret H2)
         exact p_ret mo 5 [.rg 31 [.v,.v,.e (.bool false),.v,.v,.v,.e (.bool false),.v,.v,.v,.v,.e (.bool false),.v,.v,.v,.v,.e (iI ((((x0.getD i0 ⟨0,[]⟩).Vars).length:Nat):Int)),.e (.bool true),.v,.v,.s,.s,.s,.s,.s,.s,.s,.s,.s,.s,.s] [.s,.s,.s,.v],r0 [.v]] [] [] (aB c5 (aB c7 (aB c9 (aT (aC (lenm cStr ((x0.getD i0 ⟨0,[]⟩).Vars)) (aB c10 aN)))))) (by kernel_rfl)
        ·refine bsp H11 (fun c12 H12 => ?_) (fun c13 H13 => ?_)
         ·refine grd_e H12 fun g0 H14 => ?_
          refine bnd H14 fun y0 h6 H15 => ?_
          refine p_at mo 1 [.rg 31 [.v,.v,.e (.bool false),.v,.v,.v,.e (.bool false),.v,.v,.v,.v,.e (.bool false),.v,.v,.v,.v,.e (iI ((((x0.getD i0 ⟨0,[]⟩).Vars).length:Nat):Int)),.e (.bool false),.v,.v,.v,.e (.bool true),.v,.v,.v,.w,.e (.dptr [iI ((x0.getD (w64 (((i0:Nat):Int)-1)).toNat ⟨0,[]⟩).Coef),.dslice (((x0.getD (w64 (((i0:Nat):Int)-1)).toNat ⟨0,[]⟩).Vars).map cStr)]),.v,.v,.v,.v] [.c true (iI y0),.v,.v,.v]] [.only [0,2,3,4,53] [4]] 1 [] ⟨86,[(0,dS cMonomial x0),(2,.bool false),(3,nI i0),(4,.hptr 4 0),(53,.bool (decide (y0≥0)))],[(4,.cells 118 [iI ((x0.getD i0 ⟨0,[]⟩).Coef),.dslice (((x0.getD i0 ⟨0,[]⟩).Vars).map cStr)])]⟩ (aB c5 (aB c7 (aB c9 (aT (aC (lenm cStr ((x0.getD i0 ⟨0,[]⟩).Vars)) (aB c11 (aB c12 (all_app (ixz (f:=cMonomial) (l:=x0) (n:=(w64 (((i0:Nat):Int)-1))) ⟨0,[]⟩ cMonomial_len (by decide) (by exact g0)) (aC Tryz.call122 (aF (ref05_order_c ((x0.getD (w64 (((i0:Nat):Int)-1)).toNat ⟨0,[]⟩).Vars) ((x0.getD i0 ⟨0,[]⟩).Vars) y0 h6) aN)))))))))) (by kernel_rfl) ?_
          refine bsp H15 (fun c14 H16 => ?_) (fun c15 H17 => ?_)
          ·obtain rfl:=sI H16
           obtain rfl:=sI (aft_ret H3)
           obtain rfl:=out_ret h4
           obtain rfl:=sI (aft_ret H2)
           exact p_ret mo 5 [.eqT 53 (.bool true),r0 [.v]] [] [] (aB c14 aN) (by kernel_rfl)
          ·obtain rfl:=sI H17
           exact p_bar mo 3 [.eqT 53 (.bool false)] [.only [0,2,3,4] [4]] (ref05_Valid_S3 x0 i0 ()) (aB c15 aN) (by kernel_rfl)
         ·obtain rfl:=sI H13
          exact p_bar mo 3 [.rg 31 [.v,.v,.e (.bool false),.v,.v,.v,.e (.bool false),.v,.v,.v,.v,.e (.bool false),.v,.v,.v,.v,.e (iI ((((x0.getD i0 ⟨0,[]⟩).Vars).length:Nat):Int)),.e (.bool false),.v,.v,.v,.e (.bool false),.v,.s,.s,.s,.s,.s,.s,.s,.s] [.s,.s,.v,.v]] [.only [0,2,3,4] [4]] (ref05_Valid_S3 x0 i0 ()) (aB c5 (aB c7 (aB c9 (aT (aC (lenm cStr ((x0.getD i0 ⟨0,[]⟩).Vars)) (aB c11 (aB c13 aN))))))) (by kernel_rfl)
    ·subst e2
     have H18:=aft_brk H3
     refine p_at mo 3 [r0 [.v]] [.only [0,2,3,4,5] [4]] 3 [] (ref05_Valid_S4 x0 i0 0 ()) aN (by kernel_rfl) ?_
     refine bnd H18 fun R1 h7 H19 => ?_
     refine p_joinO 2 (ref05_Valid_S5 x0 i0) R1 (by kernel_rfl) ?_ (fun u2 e3 => ?_)
     ·refine p_cnt (ref05_Valid_S4 x0 i0) (by kernel_rfl) h7 (fun i1 s1 h8 e4 => ?_) (fun i1 s1 h9 q1 h10 h11 => ?_)
      ·have c16:=lF i1 (((x0.getD i0 ⟨0,[]⟩).Vars).length) (by omega)
       subst e4
       exact p_bar mo 5 [r0 [.v,.v,.v,.e (iI ((((x0.getD i0 ⟨0,[]⟩).Vars).length:Nat):Int)),.e (.bool false)]] [.only [0,2,3] []] (ref05_Valid_S5 x0 i0 ()) (aT (aC (lenm cStr ((x0.getD i0 ⟨0,[]⟩).Vars)) (aB c16 aN))) (by kernel_rfl)
      ·have c17:=lT i1 (((x0.getD i0 ⟨0,[]⟩).Vars).length) (by omega)
       refine bnd h10 fun y1 h12 H20 => ?_
       refine p_at mo 8 [r0 [.v,.v,.v,.e (iI ((((x0.getD i0 ⟨0,[]⟩).Vars).length:Nat):Int)),.e (.bool true)]] [.only [0,2,3,4,5] [4]] 8 [true] ⟨86,[(0,dS cMonomial x0),(2,.bool false),(3,nI i0),(4,.hptr 4 0),(5,nI i1)],[(4,.cells 118 [iI ((x0.getD i0 ⟨0,[]⟩).Coef),.dslice (((x0.getD i0 ⟨0,[]⟩).Vars).map cStr)])]⟩ (aT (aC (lenm cStr ((x0.getD i0 ⟨0,[]⟩).Vars)) (aB c17 aN))) (by kernel_rfl) ?_
       refine bnd H20 fun v1 h13 H21 => ?_
       refine p_joinO 2 (ref05_Valid_S6 x0 i0 i1) v1 (by kernel_rfl) ?_ (fun u1 e5 => ?_)
       ·refine bsp h13 (fun c18 H22 => ?_) (fun c19 H23 => ?_)
        ·refine bsp H22 (fun c20 H24 => ?_) (fun c21 H25 => ?_)
         ·have c20p:=of_decide_eq_true c20
          refine grd_e H24 fun g1 H26 => ?_
          refine p_at mo 1 [.rg 22 [.v,.v,.v,.e (.dptr [.str (((x0.getD i0 ⟨0,[]⟩).Vars).getD i1 [])]),.v,.c true (.bool true),.v,.v,.v,.e (.bool true),.v,.v,.v,.v,.w,.e (.dptr [.str (((x0.getD i0 ⟨0,[]⟩).Vars).getD (w64 (((i1:Nat):Int)-1)).toNat [])]),.v,.v,.v,.v,.e (.dptr [.str (((x0.getD i0 ⟨0,[]⟩).Vars).getD i1 [])]),.v] [.v,.v,.v]] [.only [0,2,3,4,5,85] [4]] 1 [] ⟨86,[(0,dS cMonomial x0),(2,.bool false),(3,nI i0),(4,.hptr 4 0),(5,nI i1),(85,.bool (!(Op.bytesLess (((x0.getD i0 ⟨0,[]⟩).Vars).getD (w64 (((i1:Nat):Int)-1)).toNat []) (((x0.getD i0 ⟨0,[]⟩).Vars).getD i1 [])||(((x0.getD i0 ⟨0,[]⟩).Vars).getD (w64 (((i1:Nat):Int)-1)).toNat [])==(((x0.getD i0 ⟨0,[]⟩).Vars).getD i1 []))))],[(4,.cells 118 [iI ((x0.getD i0 ⟨0,[]⟩).Coef),.dslice (((x0.getD i0 ⟨0,[]⟩).Vars).map cStr)])]⟩ (all_app (ix (f:=cStr) (l:=((x0.getD i0 ⟨0,[]⟩).Vars)) (n:=i1) [] cStr_len (by decide) (by omega)) (aC Tryz.call100 (aC (AFn.eq (ref04_Name_c (((x0.getD i0 ⟨0,[]⟩).Vars).getD i1 []) y1 h12) (cB c18)) (aT (aB c20 (all_app (ixz (f:=cStr) (l:=((x0.getD i0 ⟨0,[]⟩).Vars)) (n:=(w64 (((i1:Nat):Int)-1))) [] cStr_len (by decide) (by exact g1)) (all_app (ix (f:=cStr) (l:=((x0.getD i0 ⟨0,[]⟩).Vars)) (n:=i1) [] cStr_len (by decide) (by omega)) aN))))))) (by kernel_rfl) ?_
          refine bsp H26 (fun c22 H27 => ?_) (fun c23 H28 => ?_)
          ·obtain rfl:=sI H27
           exact p_bar mo 3 [.eqT 85 (.bool false)] [.only [0,2,3,4,5] [4]] (ref05_Valid_S6 x0 i0 i1 ()) (aM c22 aN) (by kernel_rfl)
          ·obtain rfl:=sI H28
           obtain rfl:=sI (aft_ret H21)
           obtain rfl:=out_ret h11
           obtain rfl:=sI (aft_ret H19)
           obtain rfl:=out_ret h4
           obtain rfl:=sI (aft_ret H2)
           exact p_ret mo 5 [.eqT 85 (.bool true),r0 [.v]] [] [] (aM c23 aN) (by kernel_rfl)
         ·have c21p:=of_decide_eq_false c21
          obtain rfl:=sI H25
          exact p_bar mo 3 [.rg 22 [.v,.v,.v,.e (.dptr [.str (((x0.getD i0 ⟨0,[]⟩).Vars).getD i1 [])]),.v,.c true (.bool true),.v,.v,.v,.e (.bool false),.v,.s,.s,.s,.s,.s,.s,.s,.s,.s,.s,.s] [.s,.v,.v]] [.only [0,2,3,4,5] [4]] (ref05_Valid_S6 x0 i0 i1 ()) (all_app (ix (f:=cStr) (l:=((x0.getD i0 ⟨0,[]⟩).Vars)) (n:=i1) [] cStr_len (by decide) (by omega)) (aC Tryz.call100 (aC (AFn.eq (ref04_Name_c (((x0.getD i0 ⟨0,[]⟩).Vars).getD i1 []) y1 h12) (cB c18)) (aT (aB c21 aN))))) (by kernel_rfl)
        ·obtain rfl:=sI H23
         obtain rfl:=sI (aft_ret H21)
         obtain rfl:=out_ret h11
         obtain rfl:=sI (aft_ret H19)
         obtain rfl:=out_ret h4
         obtain rfl:=sI (aft_ret H2)
         exact p_ret mo 5 [.rg 22 [.v,.v,.v,.e (.dptr [.str (((x0.getD i0 ⟨0,[]⟩).Vars).getD i1 [])]),.v,.c true (.bool false),.v,.v,.s,.s,.s,.s,.s,.s,.s,.s,.s,.s,.s,.s,.s,.s] [.s,.s,.v],r0 [.v]] [] [] (all_app (ix (f:=cStr) (l:=((x0.getD i0 ⟨0,[]⟩).Vars)) (n:=i1) [] cStr_len (by decide) (by omega)) (aC Tryz.call100 (aC (AFn.eq (ref04_Name_c (((x0.getD i0 ⟨0,[]⟩).Vars).getD i1 []) y1 h12) (cB c19)) (aT aN)))) (by kernel_rfl)
       ·subst e5
        have H29:=aft_brk H21
        refine t_lensH 4 1 (ps:=[(((x0.getD i0 ⟨0,[]⟩).Vars).map cStr).length≤9223372036854775807]) (by kernel_rfl) (fun l0 => ?_)
        have l1:((x0.getD i0 ⟨0,[]⟩).Vars).length≤9223372036854775807:=by simpa only [All,List.length_map] using l0
        clear l0
        obtain rfl:=sI H29
        exact p_bar mo 1 [r0 [.v,.v,.v]] [.only [0,2,3,4,5] [4]] (ref05_Valid_S4 x0 i0 (i1+1) ()) (aC (pI i1 (by omega)) aN) (by kernel_rfl)
     ·subst e3
      have H30:=aft_brk H19
      refine t_lens 0 (ps:=[(x0.map cMonomial).length≤9223372036854775807]) (by kernel_rfl) (fun l2 => ?_)
      have l3:x0.length≤9223372036854775807:=by simpa only [All,List.length_map] using l2
      clear l2
      obtain rfl:=sI H30
      exact p_bar mo 1 [r0 [.v,.v,.v]] [.only [0,2,3] []] (ref05_Valid_S1 x0 (i0+1) ()) (aC (pI i0 (by omega)) aN) (by kernel_rfl)
  ·subst e0
   have H31:=aft_brk H2
   obtain rfl:=sI H31
   exact p_ret mo 3 [r0 [.v]] [] [] aN (by kernel_rfl)
/-- framewise/framewiseref05.limited -/
def ref05_limited (x0:(List Monomial)):Option ((List Monomial)×Int) :=
 (ref05_Valid x0).bind fun y0 =>
 bif y0 then (
  some (x0,0)
 ) else (
  some ([],3)
 )
theorem ref05_limited_c (x0:(List Monomial)) (r:((List Monomial)×Int)) (H:ref05_limited x0=some r):AFn Tryz.prog 126 [dS cMonomial x0] (.tup [dS cMonomial r.1,iI r.2]):=by
 unfold ref05_limited at H
 refine acallX Tryz.func126 8 [.tmp 2,.tmp 3] (by kernel_rfl) (by kernel_rfl) ?_
 refine bnd H fun y0 h0 H0 => ?_
 refine bsp H0 (fun c0 H1 => ?_) (fun c1 H2 => ?_)
 ·obtain rfl:=sI H1
  exact p_ret mo 11 [r0 [.v,.v],r0 [.v,.c true (.bool y0),.v],.eqT 6 (.bool false),r0 [.v,.v,.v]] [] [] (aC Tryz.call52 (aF (ref05_Valid_c x0 y0 h0) (aT (aM c0 aN)))) (by kernel_rfl)
 ·obtain rfl:=sI H2
  exact p_ret mo 10 [r0 [.v,.v],r0 [.v,.c true (.bool y0),.v],.eqT 6 (.bool true),r0 [.v,.v]] [.wk 2 []] [] (aC Tryz.call52 (aF (ref05_Valid_c x0 y0 h0) (aT (aM c1 aN)))) (by kernel_rfl)
/-- framewise/framewiseref05.Of -/
def ref05_Of (x0:Linear):Option ((List Monomial)×Int) :=
 (ref04_Valid x0).bind fun y0 =>
 bif y0 then (
  (ref05_plus [] (Monomial.mk x0.Const [])).bind fun y1 =>
  (cnt (σ:=(List Monomial)) (ε:=(List Monomial)) (ρ:=Empty) (fun i0 s0 =>
   (ref05_plus s0 (Monomial.mk ((x0.Terms.getD i0 ⟨[],0⟩).C) [((x0.Terms.getD i0 ⟨[],0⟩).Var)])).bind fun y2 =>
   some (.go y2)
  ) (fun i0 s0=>s0) (x0.Terms.length-0) 0 y1).bind <| aftE fun u0 =>
  (ref05_limited u0).bind fun y3 =>
  some (y3.1,y3.2)
 ) else (
  some ([],1)
 )
def ref05_Of_S1 (x0:Linear) (i0:Nat) (s0:(List Monomial)):AS:=⟨40,[(1,.hptr 1 0),(2,.eslice),(3,iI 0),(4,dS cMonomial s0),(5,nI i0)],[(1,.cells 39 [iI x0.Const,dS cCoef x0.Terms])]⟩
def ref05_Of_S2 (u1:(List Monomial)):AS:=⟨40,[(2,.eslice),(3,iI 0),(4,dS cMonomial u1)],[]⟩
theorem ref05_Of_c (x0:Linear) (r:((List Monomial)×Int)) (H:ref05_Of x0=some r):AFn Tryz.prog 68 [.agg [iI x0.Const,dS cCoef x0.Terms]] (.tup [dS cMonomial r.1,iI r.2]):=by
 unfold ref05_Of at H
 refine acallX Tryz.func68 40 [.tmp 2,.tmp 3] (by kernel_rfl) (by kernel_rfl) ?_
 refine bnd H fun y0 h0 H0 => ?_
 refine bsp H0 (fun c0 H1 => ?_) (fun c1 H2 => ?_)
 ·refine bnd H1 fun y1 h1 H3 => ?_
  refine p_at mo 14 [r0 [.m,.v,.v],r0 [.v,.c true (.bool y0),.v],.eqT 8 (.bool false),r0 [.v,.v,.b,.cw true [(0,[]),(1,[(1,0)])] (dS cMonomial y1),.v],r0 [.v]] [.only [1,2,3,4,5] [1]] 13 [false] (ref05_Of_S1 x0 0 y1) (aC Tryz.call87 (aF (ref04_Valid_c x0 y0 h0) (aT (aM c0 (aC Tryz.call128 (aF (ref05_plus_c [] (Monomial.mk x0.Const []) y1 h1) aN)))))) (by kernel_rfl) ?_
  refine bnd H3 fun R0 h2 H4 => ?_
  refine p_joinO 1 (ref05_Of_S2) R0 (by kernel_rfl) ?_ (fun u0 e0 => ?_)
  ·refine p_cnt (ref05_Of_S1 x0) (by kernel_rfl) h2 (fun i0 s0 h3 e1 => ?_) (fun i0 s0 h4 q0 h5 h6 => ?_)
   ·have c2:=lF i0 x0.Terms.length (by omega)
    subst e1
    exact p_bar mo 5 [r0 [.v,.v,.v,.e (nI x0.Terms.length),.e (.bool false)]] [.only [2,3,4] []] (ref05_Of_S2 s0) (aT (aC (lenm cCoef x0.Terms) (aB c2 aN))) (by kernel_rfl)
   ·have c3:=lT i0 x0.Terms.length (by omega)
    refine bnd h5 fun y2 h7 H5 => ?_
    refine t_lensH 1 1 (ps:=[(x0.Terms.map cCoef).length≤9223372036854775807]) (by kernel_rfl) (fun l0 => ?_)
    have l1:x0.Terms.length≤9223372036854775807:=by simpa only [All,List.length_map] using l0
    clear l0
    obtain rfl:=sI H5
    exact p_bar mo 9 [r0 [.v,.v,.v,.e (nI x0.Terms.length),.e (.bool true)],.rg 15 [.v,.v,.v,.v,.e (.dptr [.str ((x0.Terms.getD i0 ⟨[],0⟩).Var),iI ((x0.Terms.getD i0 ⟨[],0⟩).C)]),.v,.v,.v,.v,.v,.e (.dptr [.str ((x0.Terms.getD i0 ⟨[],0⟩).Var),iI ((x0.Terms.getD i0 ⟨[],0⟩).C)]),.v,.v,.b,.b] [.c true (dS cMonomial y2),.v],r0 [.v,.v,.v]] [.only [1,2,3,4,5] [1]] (ref05_Of_S1 x0 (i0+1) y2) (aT (aC (lenm cCoef x0.Terms) (aB c3 (all_app (ix (f:=cCoef) (l:=x0.Terms) (n:=i0) ⟨[],0⟩ cCoef_len (by decide) (by omega)) (all_app (ix (f:=cCoef) (l:=x0.Terms) (n:=i0) ⟨[],0⟩ cCoef_len (by decide) (by omega)) (aC Tryz.call128 (aF (ref05_plus_c s0 (Monomial.mk ((x0.Terms.getD i0 ⟨[],0⟩).C) [((x0.Terms.getD i0 ⟨[],0⟩).Var)]) y2 h7) (aC (pI i0 (by omega)) aN)))))))) (by kernel_rfl)
  ·subst e0
   have H6:=aftE_brk H4
   refine bnd H6 fun y3 h8 H7 => ?_
   obtain rfl:=sI H7
   exact p_ret mo 3 [r0 [.v,.c true (.tup [dS cMonomial y3.1,iI y3.2]),.v,.v,.v,.v]] [] [] (aC Tryz.call126 (aF (ref05_limited_c u0 y3 h8) aN)) (by kernel_rfl)
 ·obtain rfl:=sI H2
  exact p_ret mo 10 [r0 [.m,.v,.v],r0 [.v,.c true (.bool y0),.v],.eqT 8 (.bool true),r0 [.v,.v]] [.wk 2 []] [] (aC Tryz.call87 (aF (ref04_Valid_c x0 y0 h0) (aT (aM c1 aN)))) (by kernel_rfl)
/-- framewise/poly.Number -/
noncomputable def poly_Number (x0:Int):Option ((List Monomial)×Int) :=
 (poly_newSum).bind fun y0 =>
 bif decide (x0<(-1099511627776)) then (
  some ([],3)
 ) else (
  bif decide (x0>1099511627776) then (
   some ([],3)
  ) else (
   (poly_sum_add [] x0 1 y0.1 y0.2.1 y0.2.2).bind fun y1 =>
   (poly_sum_result y1.1 y1.2.1 y1.2.2).bind fun y2 =>
   some (y2.1,y2.2)
  )
 )
theorem poly_Number_c (x0:Int) (r:((List Monomial)×Int)) (H:poly_Number x0=some r):AFn Tryz.prog 65 [iI x0] (.tup [dS cMonomial r.1,iI r.2]):=by
 unfold poly_Number at H
 refine acallX Tryz.func65 19 [.tmp 2,.tmp 3] (by kernel_rfl) (by kernel_rfl) ?_
 refine bnd H fun y0 h0 H0 => ?_
 refine bsp H0 (fun c0 H1 => ?_) (fun c1 H2 => ?_)
 ·obtain rfl:=sI H1
  exact p_ret mo 11 [r0 [.v,.v],r0 [.hM [] [(1,900),(2,901),(3,902)] (.agg [.amap 1,.amap 2,.amap 3]) [(1,.smap 9 90 (y0.1.map (mapV cL_cStr))),(2,.rmap 3 1 (rcm cInt_i64 y0.2.1)),(3,.rmap 3 1 (rcm cInt_i64 y0.2.2))],.m,.m],r0 [.v,.e (.bool true),.v,.s,.s,.v],r0 [.v,.v]] [.wk 2 []] [] (aC Tryz.call131 (aC (poly_newSum_c y0 h0) (aB c0 aN))) (by kernel_rfl)
 ·refine bsp H2 (fun c2 H3 => ?_) (fun c3 H4 => ?_)
  ·obtain rfl:=sI H3
   exact p_ret mo 12 [r0 [.v,.v],r0 [.hM [] [(1,900),(2,901),(3,902)] (.agg [.amap 1,.amap 2,.amap 3]) [(1,.smap 9 90 (y0.1.map (mapV cL_cStr))),(2,.rmap 3 1 (rcm cInt_i64 y0.2.1)),(3,.rmap 3 1 (rcm cInt_i64 y0.2.2))],.m,.m],r0 [.v,.e (.bool false),.v,.v,.v,.v],.eqT 11 (.bool true),r0 [.v,.v]] [.wk 2 []] [] (aC Tryz.call131 (aC (poly_newSum_c y0 h0) (aB c1 (aB c2 aN)))) (by kernel_rfl)
  ·refine bnd H4 fun y1 h1 H5 => ?_
   refine bnd H5 fun y2 h2 H6 => ?_
   obtain rfl:=sI H6
   exact p_ret mo 15 [r0 [.v,.v],r0 [.hM [] [(1,900),(2,901),(3,902)] (.agg [.amap 1,.amap 2,.amap 3]) [(1,.smap 9 90 (y0.1.map (mapV cL_cStr))),(2,.rmap 3 1 (rcm cInt_i64 y0.2.1)),(3,.rmap 3 1 (rcm cInt_i64 y0.2.2))],.m,.m],r0 [.v,.e (.bool false),.v,.v,.v,.v],.eqT 11 (.bool false),r0 [.v,.v,.hR [(900,1000),(901,1001),(902,1002)] 14 (.tup []) [(1000,.smap 9 90 (y1.1.map (mapV cL_cStr))),(1001,.rmap 3 1 (rcm cInt_i64 y1.2.1)),(1002,.rmap 3 1 (rcm cInt_i64 y1.2.2))]],r0 [.v,.hR [(900,1000),(901,1001),(902,1002)] 16 (.tup [dS cMonomial y2.1,iI y2.2]) [],.v,.v,.v,.v]] [] [] (aC Tryz.call131 (aC (poly_newSum_c y0 h0) (aB c1 (aB c3 (aC Tryz.call132 (aC (ACall.es (args:=[.agg [.amap 1000,.amap 1001,.amap 1002],.eslice,iI x0,iI 1]) 1 (poly_sum_add_c [] x0 1 y0.1 y0.2.1 y0.2.2 y1 h1) rfl) (aC Tryz.call133 (aC (poly_sum_result_c y1.1 y1.2.1 y1.2.2 y2 h2) aN)))))))) (by kernel_rfl)
/-- framewise/framewiseref05.Number -/
def ref05_Number (x0:Int):Option ((List Monomial)×Int) :=
 (ref05_plus [] (Monomial.mk x0 [])).bind fun y0 =>
 (ref05_limited y0).bind fun y1 =>
 some (y1.1,y1.2)
theorem ref05_Number_c (x0:Int) (r:((List Monomial)×Int)) (H:ref05_Number x0=some r):AFn Tryz.prog 69 [iI x0] (.tup [dS cMonomial r.1,iI r.2]):=by
 unfold ref05_Number at H
 refine acallX Tryz.func69 10 [.tmp 2,.tmp 3] (by kernel_rfl) (by kernel_rfl) ?_
 refine bnd H fun y0 h0 H0 => ?_
 refine bnd H0 fun y1 h1 H1 => ?_
 obtain rfl:=sI H1
 exact p_ret mo 5 [r0 [.v,.v],r0 [.v,.b,.cw true [(0,[]),(1,[(1,0)])] (dS cMonomial y0),.c true (.tup [dS cMonomial y1.1,iI y1.2]),.v,.v,.v,.v]] [] [] (aC Tryz.call128 (aF (ref05_plus_c [] (Monomial.mk x0 []) y0 h0) (aC Tryz.call126 (aF (ref05_limited_c y0 y1 h1) aN)))) (by kernel_rfl)
/-- framewise/poly.Vars -/
def poly_Vars (x0:(List Monomial)):Option (List Str) :=
 (poly_Valid x0).bind fun y0 =>
 bif y0 then (
  (cnt (σ:=(List Str)) (ε:=(List Str)) (ρ:=Empty) (fun i0 s0 =>
   grd ((s0.length+((x0.getD i0 ⟨0,[]⟩).Vars).length)*16≤140737488355328) <|
   some (.go (s0++((x0.getD i0 ⟨0,[]⟩).Vars)))
  ) (fun i0 s0=>s0) (x0.length-0) 0 []).bind <| aftE fun u0 =>
  (lib_Sort u0).bind fun y1 =>
  (lib_Compact y1).bind fun y2 =>
  some y2
 ) else (
  some []
 )
def poly_Vars_S1 (x0:(List Monomial)) (i0:Nat) (s0:(List Str)):AS:=⟨24,[(2,.eslice),(3,.rslice 18),(9,dS cMonomial x0),(10,nI x0.length),(11,nI i0)],[(18,.row 9 1 (s0.map cStr))]⟩
def poly_Vars_S2 (u1:(List Str)):AS:=⟨24,[(2,.eslice),(3,.rslice 18)],[(18,.row 9 1 (u1.map cStr))]⟩
theorem poly_Vars_c (x0:(List Monomial)) (r:(List Str)) (H:poly_Vars x0=some r):AFn Tryz.prog 72 [dS cMonomial x0] (dS cStr r):=by
 unfold poly_Vars at H
 refine acallX Tryz.func72 24 [.tmp 2] (by kernel_rfl) (by kernel_rfl) ?_
 refine bnd H fun y0 h0 H0 => ?_
 refine bsp H0 (fun c0 H1 => ?_) (fun c1 H2 => ?_)
 ·refine p_at mo 14 [.rg 0 [] [.v],.rg 0 [] [.v,.c true (.bool y0),.v],.eqT 8 (.bool false),.rg 0 [] [.v],.rg 0 [] [.v,.e (.int .i64 ((x0.length:Nat):Int)),.v]] [.er 3 18 9 1,.only [2,3,9,10,11] [18]] 13 [false] (poly_Vars_S1 x0 0 []) (aC Tryz.call70 (aF (poly_Valid_c x0 y0 h0) (aT (aM c0 (aT (aC (lenm cMonomial x0) aN)))))) (by kernel_rfl) ?_
  refine bnd H1 fun R0 h1 H3 => ?_
  refine p_joinO 1 (poly_Vars_S2) R0 (by kernel_rfl) ?_ (fun u0 e0 => ?_)
  ·refine p_cnt (poly_Vars_S1 x0) (by kernel_rfl) h1 (fun i0 s0 h2 e1 => ?_) (fun i0 s0 h3 q0 h4 h5 => ?_)
   ·have c2:=lF i0 x0.length (by omega)
    subst e1
    exact p_bar mo 5 [r0 [.e (.bool false)]] [.only [2,3] [18]] (poly_Vars_S2 s0) (aB c2 aN) (by kernel_rfl)
   ·have c3:=lT i0 x0.length (by omega)
    refine grd_e h4 fun g0 H4 => ?_
    refine t_lens 9 (ps:=[(x0.map cMonomial).length≤9223372036854775807]) (by kernel_rfl) (fun l0 => ?_)
    have l1:x0.length≤9223372036854775807:=by simpa only [All,List.length_map] using l0
    clear l0
    obtain rfl:=sI H4
    exact p_bar mo 11 [r0 [.e (.bool true)],r0 [.e (.dptr [iI ((x0.getD i0 ⟨0,[]⟩).Coef),.dslice (((x0.getD i0 ⟨0,[]⟩).Vars).map cStr)]),.v,.m,.m],r0 [.v,.v,.v,.ap,.rwH 18 (.row 9 1 ((s0++((x0.getD i0 ⟨0,[]⟩).Vars)).map cStr)),.v],r0 [.v,.v]] [.only [2,3,9,10,11] [18]] (poly_Vars_S1 x0 (i0+1) (s0++((x0.getD i0 ⟨0,[]⟩).Vars))) (aB c3 (all_app (ix (f:=cMonomial) (l:=x0) (n:=i0) ⟨0,[]⟩ cMonomial_len (by decide) (by omega)) (all_app (apR (c:=cStr) cStr_ok s0 ((x0.getD i0 ⟨0,[]⟩).Vars) 16 (by decide) (by simpa using g0)) (aC (apQ 9 1 cStr s0 ((x0.getD i0 ⟨0,[]⟩).Vars)) (aC (pI i0 (by omega)) aN))))) (by kernel_rfl)
  ·subst e0
   have H5:=aftE_brk H3
   refine bnd H5 fun y1 h6 H6 => ?_
   refine bnd H6 fun y2 h7 H7 => ?_
   refine some_e H7 fun e2 => ?_
   subst e2
   exact p_ret mo 5 [r0 [.v,.hR [(18,1000)] 21 (.tup []) [(1000,.row 9 1 (y1.map cStr))]],r0 [.v,.hR [(18,1000)] 23 (.rslice 0) [(0,.row 9 1 (y2.map cStr))],.v]] [.fz 23] [] (aC Tryz.call138 (aC (lib_Sort_c u0 y1 h6) (aC Tryz.call139 (aC (lib_Compact_c y1 y2 h7) aN)))) (by kernel_rfl)
 ·obtain rfl:=sI H2
  exact p_ret mo 10 [r0 [.v],r0 [.v,.c true (.bool y0),.v],.eqT 8 (.bool true),r0 [.v]] [.wk 2 []] [] (aC Tryz.call70 (aF (poly_Valid_c x0 y0 h0) (aT (aM c1 aN)))) (by kernel_rfl)
/-- framewise/framewiseref05.Vars -/
def ref05_Vars (x0:(List Monomial)):Option (List Str) :=
 (ref05_Valid x0).bind fun y0 =>
 bif y0 then (
  (cnt (σ:=(List Str)) (ε:=(List Str)) (ρ:=Empty) (fun i0 s0 =>
   (whl (σ:=((List Str)×Int)) (ε:=(List Str)) (ρ:=Empty) (fun s1 =>
    bif decide (s1.2<((((x0.getD i0 ⟨0,[]⟩).Vars).length:Nat):Int)) then (
     (cnt (σ:=Unit) (ε:=Nat) (ρ:=Empty) (fun i1 s2 =>
      grd (0≤s1.2∧s1.2<(((x0.getD i0 ⟨0,[]⟩).Vars).length:Int)) <|
      bif (Op.bytesLess (s1.1.getD i1 []) (((x0.getD i0 ⟨0,[]⟩).Vars).getD s1.2.toNat [])) then (
       some (.go ())
      ) else (
       some (.brk i1)
      )
     ) (fun i1 s2=>i1) (s1.1.length-0) 0 ()).bind <| aftE fun u0 =>
     ((
      bif (((u0:Nat):Int)==((s1.1.length:Nat):Int)) then (
       some true
      ) else (
       grd (u0<s1.1.length) <|
       grd (0≤s1.2∧s1.2<(((x0.getD i0 ⟨0,[]⟩).Vars).length:Int)) <|
       some (!((s1.1.getD u0 [])==(((x0.getD i0 ⟨0,[]⟩).Vars).getD s1.2.toNat [])))
      )
     ):Option Bool).bind fun v0 =>
     ((
      bif v0 then (
       grd (u0≤s1.1.length) <|
       grd ((0+(s1.1.take u0).length)*16≤140737488355328) <|
       grd (0≤s1.2∧s1.2<(((x0.getD i0 ⟨0,[]⟩).Vars).length:Int)) <|
       grd (((s1.1.take u0).length+[(((x0.getD i0 ⟨0,[]⟩).Vars).getD s1.2.toNat [])].length)*16≤140737488355328) <|
       grd ((((s1.1.take u0)++[(((x0.getD i0 ⟨0,[]⟩).Vars).getD s1.2.toNat [])]).length+(s1.1.drop u0).length)*16≤140737488355328) <|
       some (((s1.1.take u0)++[(((x0.getD i0 ⟨0,[]⟩).Vars).getD s1.2.toNat [])])++(s1.1.drop u0))
      ) else (
       some s1.1
      )
     ):Option (List Str)).bind fun v1 =>
     some (.go (v1,(w64 (s1.2+1))))
    ) else (
     some (.brk s1.1)
    )
   ) 4294967296 (s0,0)).bind <| aftE fun u1 =>
   some (.go u1)
  ) (fun i0 s0=>s0) (x0.length-0) 0 []).bind <| aftE fun u2 =>
  some u2
 ) else (
  some []
 )
def ref05_Vars_S1 (x0:(List Monomial)) (i0:Nat) (s0:(List Str)):AS:=⟨86,[(0,dS cMonomial x0),(2,.eslice),(3,.rslice 84),(4,nI i0)],[(84,.row 9 1 (s0.map cStr))]⟩
def ref05_Vars_S2 (u3:(List Str)):AS:=⟨86,[(2,.eslice),(3,.rslice 84)],[(84,.row 9 1 (u3.map cStr))]⟩
def ref05_Vars_S3 (x0:(List Monomial)) (i0:Nat) (s1:((List Str)×Int)):AS:=⟨86,[(0,dS cMonomial x0),(2,.eslice),(3,.rslice 84),(4,nI i0),(5,iI s1.2)],[(84,.row 9 1 (s1.1.map cStr))]⟩
def ref05_Vars_S4 (x0:(List Monomial)) (i0:Nat) (u4:(List Str)):AS:=⟨86,[(0,dS cMonomial x0),(2,.eslice),(3,.rslice 84),(4,nI i0)],[(84,.row 9 1 (u4.map cStr))]⟩
def ref05_Vars_S5 (x0:(List Monomial)) (i0:Nat) (s1:((List Str)×Int)) (i1:Nat) (s2:Unit):AS:=⟨86,[(0,dS cMonomial x0),(2,.eslice),(3,.rslice 84),(4,nI i0),(5,iI s1.2),(6,nI i1)],[(84,.row 9 1 (s1.1.map cStr))]⟩
def ref05_Vars_S6 (x0:(List Monomial)) (i0:Nat) (s1:((List Str)×Int)) (u5:Nat):AS:=⟨86,[(0,dS cMonomial x0),(2,.eslice),(3,.rslice 84),(4,nI i0),(5,iI s1.2),(6,nI u5)],[(84,.row 9 1 (s1.1.map cStr))]⟩
def ref05_Vars_S7 (x0:(List Monomial)) (i0:Nat) (s1:((List Str)×Int)) (u0:Nat) (v0:Bool):AS:=⟨86,[(0,dS cMonomial x0),(2,.eslice),(3,.rslice 84),(4,nI i0),(5,iI s1.2),(6,nI u0),(65,.bool v0)],[(84,.row 9 1 (s1.1.map cStr))]⟩
def ref05_Vars_S8 (x0:(List Monomial)) (i0:Nat) (s1:((List Str)×Int)) (v1:(List Str)):AS:=⟨86,[(0,dS cMonomial x0),(2,.eslice),(3,.rslice 84),(4,nI i0),(5,iI s1.2)],[(84,.row 9 1 (v1.map cStr))]⟩
theorem ref05_Vars_c (x0:(List Monomial)) (r:(List Str)) (H:ref05_Vars x0=some r):AFn Tryz.prog 73 [dS cMonomial x0] (dS cStr r):=by
 unfold ref05_Vars at H
 refine acallX Tryz.func73 86 [.tmp 2] (by kernel_rfl) (by kernel_rfl) ?_
 refine bnd H fun y0 h0 H0 => ?_
 refine bsp H0 (fun c0 H1 => ?_) (fun c1 H2 => ?_)
 ·refine p_at mo 14 [.rg 0 [] [.v],.rg 0 [] [.v],.rg 0 [] [.v,.c true (.bool y0),.v],.eqT 9 (.bool false),.rg 0 [] [.v]] [.er 3 84 9 1,.only [0,2,3,4] [84]] 13 [false] (ref05_Vars_S1 x0 0 []) (aC Tryz.call52 (aF (ref05_Valid_c x0 y0 h0) (aT (aM c0 aN)))) (by kernel_rfl) ?_
  refine bnd H1 fun R0 h1 H3 => ?_
  refine p_joinO 1 (ref05_Vars_S2) R0 (by kernel_rfl) ?_ (fun u2 e0 => ?_)
  ·refine p_cnt (ref05_Vars_S1 x0) (by kernel_rfl) h1 (fun i0 s0 h2 e1 => ?_) (fun i0 s0 h3 q0 h4 h5 => ?_)
   ·have c2:=lF i0 x0.length (by omega)
    subst e1
    exact p_bar mo 5 [r0 [.v,.v,.e (nI x0.length),.e (.bool false)]] [.only [2,3] [84]] (ref05_Vars_S2 s0) (aT (aC (lenm cMonomial x0) (aB c2 aN))) (by kernel_rfl)
   ·have c3:=lT i0 x0.length (by omega)
    refine p_at mo 10 [r0 [.v,.v,.e (nI x0.length),.e (.bool true)],r0 [.v]] [.only [0,2,3,4,5] [84]] 10 [true] (ref05_Vars_S3 x0 i0 (s0,0)) (aT (aC (lenm cMonomial x0) (aB c3 aN))) (by kernel_rfl) ?_
    refine bnd h4 fun R1 h6 H4 => ?_
    refine p_joinO 2 (ref05_Vars_S4 x0 i0) R1 (by kernel_rfl) ?_ (fun u1 e2 => ?_)
    ·refine p_whl (ref05_Vars_S3 x0 i0) (by kernel_rfl) h6 (fun s1 q1 h7 h8 => ?_)
     ·refine bsp h7 (fun c4 H5 => ?_) (fun c5 H6 => ?_)
      ·have c4p:=of_decide_eq_true c4
       refine p_at mo 12 [r0 [.v,.v,.v,.e (.dptr [iI ((x0.getD i0 ⟨0,[]⟩).Coef),.dslice (((x0.getD i0 ⟨0,[]⟩).Vars).map cStr)]),.v,.v,.e (iI ((((x0.getD i0 ⟨0,[]⟩).Vars).length:Nat):Int)),.v],.eqT 23 (.bool true),r0 [.v]] [.only [0,2,3,4,5,6] [84]] 11 [true] (ref05_Vars_S5 x0 i0 s1 0 ()) (all_app (ix (f:=cMonomial) (l:=x0) (n:=i0) ⟨0,[]⟩ cMonomial_len (by decide) (by omega)) (aT (aC (lenm cStr ((x0.getD i0 ⟨0,[]⟩).Vars)) (aB c4 aN)))) (by kernel_rfl) ?_
       refine bnd H5 fun R2 h9 H7 => ?_
       refine p_joinO 1 (ref05_Vars_S6 x0 i0 s1) R2 (by kernel_rfl) ?_ (fun u0 e3 => ?_)
       ·refine p_cnt (ref05_Vars_S5 x0 i0 s1) (by kernel_rfl) h9 (fun i1 s2 h10 e4 => ?_) (fun i1 s2 h11 q2 h12 h13 => ?_)
        ·have c6:=lF i1 s1.1.length (by omega)
         subst e4
         exact p_bar mo 5 [.rg 17 [.v,.v,.e (nI s1.1.length),.e (.bool false),.v,.s,.s,.s,.s,.s,.s,.s,.s,.s,.s,.s,.s] [.s,.v]] [.only [0,2,3,4,5,6] [84]] (ref05_Vars_S6 x0 i0 s1 i1) (aT (aC (lenm cStr s1.1) (aB c6 aN))) (by kernel_rfl)
        ·have c7:=lT i1 s1.1.length (by omega)
         refine grd_e h12 fun g0 H8 => ?_
         refine p_at mo 3 [.rg 17 [.v,.v,.e (nI s1.1.length),.e (.bool true),.v,.v,.v,.v,.rl i1 0 (.str (s1.1.getD i1 [])),.v,.v,.e (.dptr [iI ((x0.getD i0 ⟨0,[]⟩).Coef),.dslice (((x0.getD i0 ⟨0,[]⟩).Vars).map cStr)]),.v,.v,.v,.e (.dptr [.str (((x0.getD i0 ⟨0,[]⟩).Vars).getD s1.2.toNat [])]),.v] [.v,.v]] [.only [0,2,3,4,5,6,44] [84]] 3 [] ⟨86,[(0,dS cMonomial x0),(2,.eslice),(3,.rslice 84),(4,nI i0),(5,iI s1.2),(6,nI i1),(44,.bool (Op.bytesLess (s1.1.getD i1 []) (((x0.getD i0 ⟨0,[]⟩).Vars).getD s1.2.toNat [])))],[(84,.row 9 1 (s1.1.map cStr))]⟩ (aT (aC (lenm cStr s1.1) (aB c7 (aC (show (0:Int)≤((i1:Nat):Int)∧((i1:Nat):Int)<((s1.1.map cStr).length:Int) from by rw [List.length_map];omega) (aC (rlP (f:=cStr) (l:=s1.1) (n:=i1) 1 0 1 (by omega) (by decide)) (aC (rl1 (f:=cStr) (l:=s1.1) (n:=i1) [] 0 (by omega)) (all_app (ix (f:=cMonomial) (l:=x0) (n:=i0) ⟨0,[]⟩ cMonomial_len (by decide) (by omega)) (all_app (ixz (f:=cStr) (l:=((x0.getD i0 ⟨0,[]⟩).Vars)) (n:=s1.2) [] cStr_len (by decide) (by exact g0)) aN)))))))) (by kernel_rfl) ?_
         refine bsp H8 (fun c8 H9 => ?_) (fun c9 H10 => ?_)
         ·refine t_lensR 84 (n:=(s1.1.map cStr).length) (by kernel_rfl) (fun l0 => ?_)
          have l1:s1.1.length≤9223372036854775807:=by simpa only [List.length_map] using l0
          clear l0
          obtain rfl:=sI H9
          exact p_bar mo 5 [.eqT 44 (.bool true),r0 [.v,.v,.v]] [.only [0,2,3,4,5,6] [84]] (ref05_Vars_S5 x0 i0 s1 (i1+1) ()) (aB c8 (aC (pI i1 (by omega)) aN)) (by kernel_rfl)
         ·obtain rfl:=sI H10
          obtain rfl:=out_brk h13
          exact p_bar mo 3 [.eqT 44 (.bool false)] [.only [0,2,3,4,5,6] [84]] (ref05_Vars_S6 x0 i0 s1 i1) (aB c9 aN) (by kernel_rfl)
       ·subst e3
        have H11:=aftE_brk H7
        refine p_at mo 1 [] [.only [0,2,3,4,5,6] [84]] 1 [] ⟨86,[(0,dS cMonomial x0),(2,.eslice),(3,.rslice 84),(4,nI i0),(5,iI s1.2),(6,nI u0)],[(84,.row 9 1 (s1.1.map cStr))]⟩ aN (by kernel_rfl) ?_
        refine bnd H11 fun v0 h14 H12 => ?_
        refine p_join 0 (ref05_Vars_S7 x0 i0 s1 u0 v0) (by kernel_rfl) ?_ ?_
        ·refine bsp h14 (fun c10 H13 => ?_) (fun c11 H14 => ?_)
         ·obtain rfl:=sI H13
          exact p_bar mo 1 [.rg 17 [.v,.v,.e (nI s1.1.length),.e (.bool true),.v,.s,.s,.s,.s,.s,.s,.s,.s,.s,.s,.s,.s] [.s,.v]] [.only [0,2,3,4,5,6,65] [84]] (ref05_Vars_S7 x0 i0 s1 u0 true) (aT (aC (lenm cStr s1.1) (aB c10 aN))) (by kernel_rfl)
         ·refine grd_e H14 fun g1 H15 => ?_
          refine grd_e H15 fun g2 H16 => ?_
          obtain rfl:=sI H16
          exact p_bar mo 1 [.rg 17 [.v,.v,.e (nI s1.1.length),.e (.bool false),.v,.v,.v,.v,.rl u0 0 (.str (s1.1.getD u0 [])),.v,.v,.e (.dptr [iI ((x0.getD i0 ⟨0,[]⟩).Coef),.dslice (((x0.getD i0 ⟨0,[]⟩).Vars).map cStr)]),.v,.v,.v,.e (.dptr [.str (((x0.getD i0 ⟨0,[]⟩).Vars).getD s1.2.toNat [])]),.v] [.v,.v]] [.only [0,2,3,4,5,6,65] [84]] (ref05_Vars_S7 x0 i0 s1 u0 (!((s1.1.getD u0 [])==(((x0.getD i0 ⟨0,[]⟩).Vars).getD s1.2.toNat [])))) (aT (aC (lenm cStr s1.1) (aB c11 (aC (show (0:Int)≤((u0:Nat):Int)∧((u0:Nat):Int)<((s1.1.map cStr).length:Int) from by rw [List.length_map];omega) (aC (rlP (f:=cStr) (l:=s1.1) (n:=u0) 1 0 1 (by omega) (by decide)) (aC (rl1 (f:=cStr) (l:=s1.1) (n:=u0) [] 0 (by omega)) (all_app (ix (f:=cMonomial) (l:=x0) (n:=i0) ⟨0,[]⟩ cMonomial_len (by decide) (by omega)) (all_app (ixz (f:=cStr) (l:=((x0.getD i0 ⟨0,[]⟩).Vars)) (n:=s1.2) [] cStr_len (by decide) (by exact g2)) aN)))))))) (by kernel_rfl)
        ·refine bnd H12 fun v1 h15 H17 => ?_
         refine p_join 1 (ref05_Vars_S8 x0 i0 s1 v1) (by kernel_rfl) ?_ ?_
         ·refine bsp h15 (fun c12 H18 => ?_) (fun c13 H19 => ?_)
          ·refine grd_e H18 fun g3 H20 => ?_
           refine grd_e H20 fun g4 H21 => ?_
           refine grd_e H21 fun g5 H22 => ?_
           refine grd_e H22 fun g6 H23 => ?_
           refine grd_e H23 fun g7 H24 => ?_
           obtain rfl:=sI H24
           exact p_bar mo 4 [.eqT 65 (.bool true),.cv [.fz 84],.rg 18 [.b,.v,.v,.e (.dslice ((s1.1.take u0).map cStr)),.apx ((s1.1.take u0).map cStr),.v,.v,.e (.dptr [iI ((x0.getD i0 ⟨0,[]⟩).Coef),.dslice (((x0.getD i0 ⟨0,[]⟩).Vars).map cStr)]),.v,.v,.v,.e (.dptr [.str (((x0.getD i0 ⟨0,[]⟩).Vars).getD s1.2.toNat [])]),.v,.b,.apx (((s1.1.take u0)++[(((x0.getD i0 ⟨0,[]⟩).Vars).getD s1.2.toNat [])]).map cStr),.v,.v,.e (.dslice ((s1.1.drop u0).map cStr))] [.ap,.rwH 84 (.row 9 1 ((((s1.1.take u0)++[(((x0.getD i0 ⟨0,[]⟩).Vars).getD s1.2.toNat [])])++(s1.1.drop u0)).map cStr)),.v]] [.only [0,2,3,4,5] [84]] (ref05_Vars_S8 x0 i0 s1 (((s1.1.take u0)++[(((x0.getD i0 ⟨0,[]⟩).Vars).getD s1.2.toNat [])])++(s1.1.drop u0))) (aB c12 (aC (show ((0:Int)≤0∧0≤((u0:Nat):Int)∧((u0:Nat):Int)≤((s1.1.map cStr).length:Int))∧UL 1 (s1.1.map cStr) from ⟨by first | omega | (simp only [List.length_map];omega),UL.map cStr_len _⟩) (aC (slm_take cStr s1.1 u0) (all_app (apXP (c:=cStr) cStr_ok [] (s1.1.take u0) 16 (by decide) (by simpa using g4) rfl) (all_app (ix (f:=cMonomial) (l:=x0) (n:=i0) ⟨0,[]⟩ cMonomial_len (by decide) (by omega)) (all_app (ixz (f:=cStr) (l:=((x0.getD i0 ⟨0,[]⟩).Vars)) (n:=s1.2) [] cStr_len (by decide) (by exact g5)) (all_app (apXP (c:=cStr) cStr_ok (s1.1.take u0) [(((x0.getD i0 ⟨0,[]⟩).Vars).getD s1.2.toNat [])] 16 (by decide) (by simpa using g6) List.map_append.symm) (aC (show ((0:Int)≤((u0:Nat):Int)∧((u0:Nat):Int)≤((s1.1.map cStr).length:Int)∧((s1.1.map cStr).length:Int)≤((s1.1.map cStr).length:Int))∧UL 1 (s1.1.map cStr) from ⟨by first | omega | (simp only [List.length_map];omega),UL.map cStr_len _⟩) (aC (slm_drop cStr s1.1 u0) (all_app (apR (c:=cStr) cStr_ok ((s1.1.take u0)++[(((x0.getD i0 ⟨0,[]⟩).Vars).getD s1.2.toNat [])]) (s1.1.drop u0) 16 (by decide) (by simpa using g7)) (aC (apQ 9 1 cStr ((s1.1.take u0)++[(((x0.getD i0 ⟨0,[]⟩).Vars).getD s1.2.toNat [])]) (s1.1.drop u0)) aN))))))))))) (by kernel_rfl)
          ·obtain rfl:=sI H19
           exact p_bar mo 3 [.eqT 65 (.bool false)] [.only [0,2,3,4,5] [84]] (ref05_Vars_S8 x0 i0 s1 s1.1) (aB c13 aN) (by kernel_rfl)
         ·obtain rfl:=sI H17
          exact p_bar mo 1 [r0 [.v,.w,.v]] [.only [0,2,3,4,5] [84]] (ref05_Vars_S3 x0 i0 (v1,(w64 (s1.2+1)))) aN (by kernel_rfl)
      ·have c5p:=of_decide_eq_false c5
       obtain rfl:=sI H6
       obtain rfl:=out_brk h8
       exact p_bar mo 6 [r0 [.v,.v,.v,.e (.dptr [iI ((x0.getD i0 ⟨0,[]⟩).Coef),.dslice (((x0.getD i0 ⟨0,[]⟩).Vars).map cStr)]),.v,.v,.e (iI ((((x0.getD i0 ⟨0,[]⟩).Vars).length:Nat):Int)),.v],.eqT 23 (.bool false)] [.only [0,2,3,4] [84]] (ref05_Vars_S4 x0 i0 s1.1) (all_app (ix (f:=cMonomial) (l:=x0) (n:=i0) ⟨0,[]⟩ cMonomial_len (by decide) (by omega)) (aT (aC (lenm cStr ((x0.getD i0 ⟨0,[]⟩).Vars)) (aB c5 aN)))) (by kernel_rfl)
    ·subst e2
     have H25:=aftE_brk H4
     refine t_lens 0 (ps:=[(x0.map cMonomial).length≤9223372036854775807]) (by kernel_rfl) (fun l2 => ?_)
     have l3:x0.length≤9223372036854775807:=by simpa only [All,List.length_map] using l2
     clear l2
     obtain rfl:=sI H25
     exact p_bar mo 1 [r0 [.v,.v,.v]] [.only [0,2,3,4] [84]] (ref05_Vars_S1 x0 (i0+1) u1) (aC (pI i0 (by omega)) aN) (by kernel_rfl)
  ·subst e0
   have H26:=aftE_brk H3
   refine some_e H26 fun e5 => ?_
   subst e5
   exact p_ret mo 3 [r0 [.v,.v]] [.fz 84] [] aN (by kernel_rfl)
 ·obtain rfl:=sI H2
  exact p_ret mo 12 [r0 [.v],r0 [.v],r0 [.v,.c true (.bool y0),.v],.eqT 9 (.bool true),r0 [.v]] [.wk 2 []] [] (aC Tryz.call52 (aF (ref05_Valid_c x0 y0 h0) (aT (aM c1 aN)))) (by kernel_rfl)
/-- framewise/framewiseref01.SameTexts -/
def ref01_SameTexts (x0:(List Str)) (x1:(List Str)):Option Bool :=
 bif (((x0.length:Nat):Int)==((x1.length:Nat):Int)) then (
  (cnt (σ:=Unit) (ε:=Unit) (ρ:=Bool) (fun i0 s0 =>
   grd (i0<x1.length) <|
   bif ((x0.getD i0 [])==(x1.getD i0 [])) then (
    some (.go ())
   ) else (
    some (.ret false)
   )
  ) (fun i0 s0=>()) (x0.length-0) 0 ()).bind <| aft fun u0 =>
  some true
 ) else (
  some false
 )
def ref01_SameTexts_S1 (x0:(List Str)) (x1:(List Str)) (i0:Nat) (s0:Unit):AS:=⟨26,[(0,dS cStr x0),(1,dS cStr x1),(4,.bool false),(5,nI i0)],[]⟩
def ref01_SameTexts_S2 (u1:Unit):AS:=⟨26,[(4,.bool false)],[]⟩
theorem ref01_SameTexts_c (x0:(List Str)) (x1:(List Str)) (r:Bool) (H:ref01_SameTexts x0 x1=some r):AFn Tryz.prog 71 [dS cStr x0,dS cStr x1] (.bool r):=by
 unfold ref01_SameTexts at H
 refine acallX Tryz.func71 26 [.tmp 4] (by kernel_rfl) (by kernel_rfl) ?_
 refine bsp H (fun c0 H0 => ?_) (fun c1 H1 => ?_)
 ·refine p_at mo 12 [.rg 0 [] [.v],.rg 0 [] [.v,.e (.int .i64 ((x0.length:Nat):Int)),.v,.e (.int .i64 ((x1.length:Nat):Int)),.v],.eqT 10 (.bool false),.rg 0 [] [.v]] [.only [0,1,4,5] []] 11 [false] (ref01_SameTexts_S1 x0 x1 0 ()) (aT (aC (lenm cStr x0) (aT (aC (lenm cStr x1) (aM c0 aN))))) (by kernel_rfl) ?_
  refine bnd H0 fun R0 h0 H2 => ?_
  refine p_joinO 1 (ref01_SameTexts_S2) R0 (by kernel_rfl) ?_ (fun u0 e0 => ?_)
  ·refine p_cnt (ref01_SameTexts_S1 x0 x1) (by kernel_rfl) h0 (fun i0 s0 h1 e1 => ?_) (fun i0 s0 h2 q0 h3 h4 => ?_)
   ·have c2:=lF i0 x0.length (by omega)
    subst e1
    exact p_bar mo 5 [r0 [.v,.v,.e (nI x0.length),.e (.bool false)]] [.only [4] []] (ref01_SameTexts_S2 ()) (aT (aC (lenm cStr x0) (aB c2 aN))) (by kernel_rfl)
   ·have c3:=lT i0 x0.length (by omega)
    refine grd_e h3 fun g0 H3 => ?_
    refine p_at mo 9 [r0 [.v,.v,.e (nI x0.length),.e (.bool true)],.rg 8 [.v,.v,.e (.dptr [.str (x0.getD i0 [])]),.v,.v,.v,.e (.dptr [.str (x1.getD i0 [])]),.v] [.v]] [.only [0,1,4,5,25] []] 9 [true] ⟨26,[(0,dS cStr x0),(1,dS cStr x1),(4,.bool false),(5,nI i0),(25,.bool (!((x0.getD i0 [])==(x1.getD i0 []))))],[]⟩ (aT (aC (lenm cStr x0) (aB c3 (all_app (ix (f:=cStr) (l:=x0) (n:=i0) [] cStr_len (by decide) (by omega)) (all_app (ix (f:=cStr) (l:=x1) (n:=i0) [] cStr_len (by decide) (by omega)) aN))))) (by kernel_rfl) ?_
    refine bsp H3 (fun c4 H4 => ?_) (fun c5 H5 => ?_)
    ·refine t_lens 0 (ps:=[(x0.map cStr).length≤9223372036854775807]) (by kernel_rfl) (fun l0 => ?_)
     have l1:x0.length≤9223372036854775807:=by simpa only [All,List.length_map] using l0
     clear l0
     obtain rfl:=sI H4
     exact p_bar mo 4 [.eqT 25 (.bool false),r0 [.v,.v,.v]] [.only [0,1,4,5] []] (ref01_SameTexts_S1 x0 x1 (i0+1) ()) (aM c4 (aC (pI i0 (by omega)) aN)) (by kernel_rfl)
    ·obtain rfl:=sI H5
     obtain rfl:=out_ret h4
     obtain rfl:=sI (aft_ret H2)
     exact p_ret mo 5 [.eqT 25 (.bool true),r0 [.v]] [] [] (aM c5 aN) (by kernel_rfl)
  ·subst e0
   have H6:=aft_brk H2
   obtain rfl:=sI H6
   exact p_ret mo 3 [r0 [.v]] [] [] aN (by kernel_rfl)
 ·obtain rfl:=sI H1
  exact p_ret mo 10 [r0 [.v],r0 [.v,.e (nI x0.length),.v,.e (nI x1.length),.v],.eqT 10 (.bool true),r0 [.v]] [] [] (aT (aC (lenm cStr x0) (aT (aC (lenm cStr x1) (aM c1 aN))))) (by kernel_rfl)
/-- framewise/framewiseref05.Degree -/
def ref05_Degree (x0:(List Monomial)):Option Int :=
 (cnt (σ:=Int) (ε:=Int) (ρ:=Empty) (fun i0 s0 =>
  (ref05_Valid x0).bind fun y0 =>
  bif y0 then (
   some (.go (if ((((x0.getD i0 ⟨0,[]⟩).Vars).length:Nat):Int)>s0 then ((((x0.getD i0 ⟨0,[]⟩).Vars).length:Nat):Int) else s0))
  ) else (
   some (.brk s0)
  )
 ) (fun i0 s0=>s0) (x0.length-0) 0 0).bind <| aftE fun u0 =>
 some u0
def ref05_Degree_S1 (x0:(List Monomial)) (i0:Nat) (s0:Int):AS:=⟨24,[(0,dS cMonomial x0),(2,iI 0),(3,iI s0),(4,nI i0)],[]⟩
def ref05_Degree_S2 (u1:Int):AS:=⟨24,[(2,iI 0),(3,iI u1)],[]⟩
theorem ref05_Degree_c (x0:(List Monomial)) (r:Int) (H:ref05_Degree x0=some r):AFn Tryz.prog 74 [dS cMonomial x0] (iI r):=by
 unfold ref05_Degree at H
 refine acallX Tryz.func74 24 [.tmp 2] (by kernel_rfl) (by kernel_rfl) ?_
 refine p_at mo 8 [r0 [.v],r0 [.v],r0 [.v]] [.only [0,2,3,4] []] 8 [] (ref05_Degree_S1 x0 0 0) aN (by kernel_rfl) ?_
 refine bnd H fun R0 h0 H0 => ?_
 refine p_joinO 1 (ref05_Degree_S2) R0 (by kernel_rfl) ?_ (fun u0 e0 => ?_)
 ·refine p_cnt (ref05_Degree_S1 x0) (by kernel_rfl) h0 (fun i0 s0 h1 e1 => ?_) (fun i0 s0 h2 q0 h3 h4 => ?_)
  ·have c0:=lF i0 x0.length (by omega)
   subst e1
   exact p_bar mo 5 [r0 [.v,.v,.e (nI x0.length),.e (.bool false),.v,.s,.s,.v]] [.only [2,3] []] (ref05_Degree_S2 s0) (aT (aC (lenm cMonomial x0) (aB c0 aN))) (by kernel_rfl)
  ·have c1:=lT i0 x0.length (by omega)
   refine bnd h3 fun y0 h5 H1 => ?_
   refine bsp H1 (fun c2 H2 => ?_) (fun c3 H3 => ?_)
   ·refine t_lens 0 (ps:=[(x0.map cMonomial).length≤9223372036854775807]) (by kernel_rfl) (fun l0 => ?_)
    have l1:x0.length≤9223372036854775807:=by simpa only [All,List.length_map] using l0
    clear l0
    obtain rfl:=sI H2
    exact p_bar mo 10 [r0 [.v,.v,.e (nI x0.length),.e (.bool true),.v,.v,.c true (.bool y0),.v],.eqT 12 (.bool true),r0 [.v,.v,.v,.e (.dptr [iI ((x0.getD i0 ⟨0,[]⟩).Coef),.dslice (((x0.getD i0 ⟨0,[]⟩).Vars).map cStr)]),.v,.v,.e (iI ((((x0.getD i0 ⟨0,[]⟩).Vars).length:Nat):Int)),.v,.v],r0 [.v,.v,.v]] [.only [0,2,3,4] []] (ref05_Degree_S1 x0 (i0+1) (if ((((x0.getD i0 ⟨0,[]⟩).Vars).length:Nat):Int)>s0 then ((((x0.getD i0 ⟨0,[]⟩).Vars).length:Nat):Int) else s0)) (aT (aC (lenm cMonomial x0) (aB c1 (aC Tryz.call52 (aF (ref05_Valid_c x0 y0 h5) (aB c2 (all_app (ix (f:=cMonomial) (l:=x0) (n:=i0) ⟨0,[]⟩ cMonomial_len (by decide) (by omega)) (aT (aC (lenm cStr ((x0.getD i0 ⟨0,[]⟩).Vars)) (aT (aC (pI i0 (by omega)) aN))))))))))) (by kernel_rfl)
   ·obtain rfl:=sI H3
    obtain rfl:=out_brk h4
    exact p_bar mo 6 [r0 [.v,.v,.e (nI x0.length),.e (.bool true),.v,.v,.c true (.bool y0),.v],.eqT 12 (.bool false)] [.only [2,3] []] (ref05_Degree_S2 s0) (aT (aC (lenm cMonomial x0) (aB c1 (aC Tryz.call52 (aF (ref05_Valid_c x0 y0 h5) (aB c3 aN)))))) (by kernel_rfl)
 ·subst e0
  have H4:=aftE_brk H0
  refine some_e H4 fun e2 => ?_
  subst e2
  exact p_ret mo 3 [r0 [.v,.v]] [] [] aN (by kernel_rfl)
/-- slices.Equal[[]string,string] -/
def slices_Equal_string (x0:(List Str)) (x1:(List Str)):Option Bool :=
 bif (((x0.length:Nat):Int)==((x1.length:Nat):Int)) then (
  (cnt (σ:=Unit) (ε:=Unit) (ρ:=Bool) (fun i0 s0 =>
   grd (i0<x1.length) <|
   bif ((x0.getD i0 [])==(x1.getD i0 [])) then (
    some (.go ())
   ) else (
    some (.ret false)
   )
  ) (fun i0 s0=>()) (x0.length-0) 0 ()).bind <| aft fun u0 =>
  some true
 ) else (
  some false
 )
def slices_Equal_string_S1 (x0:(List Str)) (x1:(List Str)) (i0:Nat) (s0:Unit):AS:=⟨26,[(0,dS cStr x0),(1,dS cStr x1),(4,.bool false),(12,nI x0.length),(13,nI i0)],[]⟩
def slices_Equal_string_S2 (u1:Unit):AS:=⟨26,[(4,.bool false)],[]⟩
theorem slices_Equal_string_c (x0:(List Str)) (x1:(List Str)) (r:Bool) (H:slices_Equal_string x0 x1=some r):AFn Tryz.prog 142 [dS cStr x0,dS cStr x1] (.bool r):=by
 unfold slices_Equal_string at H
 refine acallX Tryz.func142 26 [.tmp 4] (by kernel_rfl) (by kernel_rfl) ?_
 refine bsp H (fun c0 H0 => ?_) (fun c1 H1 => ?_)
 ·refine p_at mo 12 [.rg 0 [] [.v],.rg 0 [] [.v,.e (.int .i64 ((x0.length:Nat):Int)),.v,.e (.int .i64 ((x1.length:Nat):Int)),.v],.eqT 10 (.bool false),.rg 0 [] [.v,.e (.int .i64 ((x0.length:Nat):Int)),.v]] [.only [0,1,4,12,13] []] 11 [false] (slices_Equal_string_S1 x0 x1 0 ()) (aT (aC (lenm cStr x0) (aT (aC (lenm cStr x1) (aM c0 (aT (aC (lenm cStr x0) aN))))))) (by kernel_rfl) ?_
  refine bnd H0 fun R0 h0 H2 => ?_
  refine p_joinO 1 (slices_Equal_string_S2) R0 (by kernel_rfl) ?_ (fun u0 e0 => ?_)
  ·refine p_cnt (slices_Equal_string_S1 x0 x1) (by kernel_rfl) h0 (fun i0 s0 h1 e1 => ?_) (fun i0 s0 h2 q0 h3 h4 => ?_)
   ·have c2:=lF i0 x0.length (by omega)
    subst e1
    exact p_bar mo 5 [r0 [.e (.bool false)]] [.only [4] []] (slices_Equal_string_S2 ()) (aB c2 aN) (by kernel_rfl)
   ·have c3:=lT i0 x0.length (by omega)
    refine grd_e h3 fun g0 H3 => ?_
    refine bsp H3 (fun c4 H4 => ?_) (fun c5 H5 => ?_)
    ·refine t_lens 0 (ps:=[(x0.map cStr).length≤9223372036854775807]) (by kernel_rfl) (fun l0 => ?_)
     have l1:x0.length≤9223372036854775807:=by simpa only [All,List.length_map] using l0
     clear l0
     obtain rfl:=sI H4
     exact p_bar mo 15 [r0 [.e (.bool true)],r0 [.v,.v],.rg 8 [.v,.v,.e (.dptr [.str (x0.getD i0 [])]),.v,.v,.v,.e (.dptr [.str (x1.getD i0 [])]),.v] [.v],.eqT 24 (.bool false),r0 [.v,.v]] [.only [0,1,4,12,13] []] (slices_Equal_string_S1 x0 x1 (i0+1) ()) (aB c3 (all_app (ix (f:=cStr) (l:=x0) (n:=i0) [] cStr_len (by decide) (by omega)) (all_app (ix (f:=cStr) (l:=x1) (n:=i0) [] cStr_len (by decide) (by omega)) (aM c4 (aC (pI i0 (by omega)) aN))))) (by kernel_rfl)
    ·obtain rfl:=sI H5
     obtain rfl:=out_ret h4
     obtain rfl:=sI (aft_ret H2)
     exact p_ret mo 16 [r0 [.e (.bool true)],r0 [.v,.v],.rg 8 [.v,.v,.e (.dptr [.str (x0.getD i0 [])]),.v,.v,.v,.e (.dptr [.str (x1.getD i0 [])]),.v] [.v],.eqT 24 (.bool true),r0 [.v]] [] [] (aB c3 (all_app (ix (f:=cStr) (l:=x0) (n:=i0) [] cStr_len (by decide) (by omega)) (all_app (ix (f:=cStr) (l:=x1) (n:=i0) [] cStr_len (by decide) (by omega)) (aM c5 aN)))) (by kernel_rfl)
  ·subst e0
   have H6:=aft_brk H2
   obtain rfl:=sI H6
   exact p_ret mo 3 [r0 [.v]] [] [] aN (by kernel_rfl)
 ·obtain rfl:=sI H1
  exact p_ret mo 10 [r0 [.v],r0 [.v,.e (nI x0.length),.v,.e (nI x1.length),.v],.eqT 10 (.bool true),r0 [.v]] [] [] (aT (aC (lenm cStr x0) (aT (aC (lenm cStr x1) (aM c1 aN))))) (by kernel_rfl)
/-- framewise/poly.Equal$1 -/
def poly_Equal_1 (x0:Monomial) (x1:Monomial):Option Bool :=
 bif (x0.Coef==x1.Coef) then (
  (slices_Equal_string x0.Vars x1.Vars).bind fun y0 =>
  some y0
 ) else (
  some false
 )
theorem poly_Equal_1_c (x0:Monomial) (x1:Monomial) (r:Bool) (H:poly_Equal_1 x0 x1=some r):AFn Tryz.prog 141 [.agg [iI x0.Coef,dS cStr x0.Vars],.agg [iI x1.Coef,dS cStr x1.Vars]] (.bool r):=by
 unfold poly_Equal_1 at H
 refine acallX Tryz.func141 17 [.tmp 4] (by kernel_rfl) (by kernel_rfl) ?_
 refine bsp H (fun c0 H0 => ?_) (fun c1 H1 => ?_)
 ·refine bnd H0 fun y0 h0 H2 => ?_
  refine some_e H2 fun e0 => ?_
  subst e0
  exact p_ret mo 5 [r0 [.m,.m,.v],r0 [.v,.v,.v,.v,.e (.bool true),.v,.v,.v,.v,.v,.c true (.bool y0),.v,.v]] [] [] (aB c0 (aC Tryz.call142 (aF (slices_Equal_string_c x0.Vars x1.Vars y0 h0) aN))) (by kernel_rfl)
 ·obtain rfl:=sI H1
  exact p_ret mo 5 [r0 [.m,.m,.v],r0 [.v,.v,.v,.v,.e (.bool false),.v,.s,.s,.s,.s,.s,.v,.v]] [] [] (aB c1 aN) (by kernel_rfl)
/-- slices.EqualFunc[framewise/api.Poly,framewise/api.Poly,framewise/api.Monomial,framewise/api.Monomial] -/
def slices_EqualFunc_api_Monomial (x0:(List Monomial)) (x1:(List Monomial)):Option Bool :=
 bif (((x0.length:Nat):Int)==((x1.length:Nat):Int)) then (
  (cnt (σ:=Unit) (ε:=Unit) (ρ:=Bool) (fun i0 s0 =>
   grd (i0<x1.length) <|
   (poly_Equal_1 (Monomial.mk ((x0.getD i0 ⟨0,[]⟩).Coef) ((x0.getD i0 ⟨0,[]⟩).Vars)) (Monomial.mk ((x1.getD i0 ⟨0,[]⟩).Coef) ((x1.getD i0 ⟨0,[]⟩).Vars))).bind fun y0 =>
   bif y0 then (
    some (.go ())
   ) else (
    some (.ret false)
   )
  ) (fun i0 s0=>()) (x0.length-0) 0 ()).bind <| aft fun u0 =>
  some true
 ) else (
  some false
 )
def slices_EqualFunc_api_Monomial_S1 (x0:(List Monomial)) (x1:(List Monomial)) (i0:Nat) (s0:Unit):AS:=⟨32,[(1,dS cMonomial x1),(2,.fn 141 []),(6,.bool false),(15,dS cMonomial x0),(16,nI x0.length),(17,nI i0)],[]⟩
def slices_EqualFunc_api_Monomial_S2 (u1:Unit):AS:=⟨32,[(6,.bool false)],[]⟩
theorem slices_EqualFunc_api_Monomial_c (x0:(List Monomial)) (x1:(List Monomial)) (r:Bool) (H:slices_EqualFunc_api_Monomial x0 x1=some r):AFn Tryz.prog 140 [dS cMonomial x0,dS cMonomial x1,.fn 141 []] (.bool r):=by
 unfold slices_EqualFunc_api_Monomial at H
 refine acallX Tryz.func140 32 [.tmp 6] (by kernel_rfl) (by kernel_rfl) ?_
 refine bsp H (fun c0 H0 => ?_) (fun c1 H1 => ?_)
 ·refine p_at mo 12 [.rg 0 [] [.v],.rg 0 [] [.v,.e (.int .i64 ((x0.length:Nat):Int)),.v,.e (.int .i64 ((x1.length:Nat):Int)),.v],.eqT 14 (.bool false),.rg 0 [] [.v,.e (.int .i64 ((x0.length:Nat):Int)),.v]] [.only [1,2,6,15,16,17] []] 11 [false] (slices_EqualFunc_api_Monomial_S1 x0 x1 0 ()) (aT (aC (lenm cMonomial x0) (aT (aC (lenm cMonomial x1) (aM c0 (aT (aC (lenm cMonomial x0) aN))))))) (by kernel_rfl) ?_
  refine bnd H0 fun R0 h0 H2 => ?_
  refine p_joinO 1 (slices_EqualFunc_api_Monomial_S2) R0 (by kernel_rfl) ?_ (fun u0 e0 => ?_)
  ·refine p_cnt (slices_EqualFunc_api_Monomial_S1 x0 x1) (by kernel_rfl) h0 (fun i0 s0 h1 e1 => ?_) (fun i0 s0 h2 q0 h3 h4 => ?_)
   ·have c2:=lF i0 x0.length (by omega)
    subst e1
    exact p_bar mo 5 [r0 [.e (.bool false)]] [.only [6] []] (slices_EqualFunc_api_Monomial_S2 ()) (aB c2 aN) (by kernel_rfl)
   ·have c3:=lT i0 x0.length (by omega)
    refine grd_e h3 fun g0 H3 => ?_
    refine bnd H3 fun y0 h5 H4 => ?_
    refine p_at mo 13 [r0 [.e (.bool true)],r0 [.v,.e (.dptr [iI ((x0.getD i0 ⟨0,[]⟩).Coef),.dslice (((x0.getD i0 ⟨0,[]⟩).Vars).map cStr)]),.v,.m,.v,.m],r0 [.v,.v,.e (.dptr [iI ((x1.getD i0 ⟨0,[]⟩).Coef),.dslice (((x1.getD i0 ⟨0,[]⟩).Vars).map cStr)]),.v,.m,.m],r0 [.v,.v,.v,.c true (.bool y0),.v]] [.only [1,2,6,15,16,17,30] []] 13 [true] ⟨32,[(1,dS cMonomial x1),(2,.fn 141 []),(6,.bool false),(15,dS cMonomial x0),(16,nI x0.length),(17,nI i0),(30,.bool (!y0))],[]⟩ (aB c3 (all_app (ix (f:=cMonomial) (l:=x0) (n:=i0) ⟨0,[]⟩ cMonomial_len (by decide) (by omega)) (all_app (ix (f:=cMonomial) (l:=x1) (n:=i0) ⟨0,[]⟩ cMonomial_len (by decide) (by omega)) (aC Tryz.call141 (aF (poly_Equal_1_c (Monomial.mk ((x0.getD i0 ⟨0,[]⟩).Coef) ((x0.getD i0 ⟨0,[]⟩).Vars)) (Monomial.mk ((x1.getD i0 ⟨0,[]⟩).Coef) ((x1.getD i0 ⟨0,[]⟩).Vars)) y0 h5) (aT aN)))))) (by kernel_rfl) ?_
    refine bsp H4 (fun c4 H5 => ?_) (fun c5 H6 => ?_)
    ·refine t_lens 15 (ps:=[(x0.map cMonomial).length≤9223372036854775807]) (by kernel_rfl) (fun l0 => ?_)
     have l1:x0.length≤9223372036854775807:=by simpa only [All,List.length_map] using l0
     clear l0
     obtain rfl:=sI H5
     exact p_bar mo 4 [.eqT 30 (.bool false),r0 [.v,.v]] [.only [1,2,6,15,16,17] []] (slices_EqualFunc_api_Monomial_S1 x0 x1 (i0+1) ()) (aM c4 (aC (pI i0 (by omega)) aN)) (by kernel_rfl)
    ·obtain rfl:=sI H6
     obtain rfl:=out_ret h4
     obtain rfl:=sI (aft_ret H2)
     exact p_ret mo 5 [.eqT 30 (.bool true),r0 [.v]] [] [] (aM c5 aN) (by kernel_rfl)
  ·subst e0
   have H7:=aft_brk H2
   obtain rfl:=sI H7
   exact p_ret mo 3 [r0 [.v]] [] [] aN (by kernel_rfl)
 ·obtain rfl:=sI H1
  exact p_ret mo 10 [r0 [.v],r0 [.v,.e (nI x0.length),.v,.e (nI x1.length),.v],.eqT 14 (.bool true),r0 [.v]] [] [] (aT (aC (lenm cMonomial x0) (aT (aC (lenm cMonomial x1) (aM c1 aN))))) (by kernel_rfl)
/-- framewise/poly.Equal -/
def poly_Equal (x0:(List Monomial)) (x1:(List Monomial)):Option Bool :=
 (slices_EqualFunc_api_Monomial x0 x1).bind fun y0 =>
 some y0
theorem poly_Equal_c (x0:(List Monomial)) (x1:(List Monomial)) (r:Bool) (H:poly_Equal x0 x1=some r):AFn Tryz.prog 75 [dS cMonomial x0,dS cMonomial x1] (.bool r):=by
 unfold poly_Equal at H
 refine acallX Tryz.func75 8 [.tmp 4] (by kernel_rfl) (by kernel_rfl) ?_
 refine bnd H fun y0 h0 H0 => ?_
 refine some_e H0 fun e0 => ?_
 subst e0
 exact p_ret mo 5 [r0 [.v],r0 [.v,.v,.c true (.bool y0),.v]] [] [] (aC Tryz.call140 (aF (slices_EqualFunc_api_Monomial_c x0 x1 y0 h0) aN)) (by kernel_rfl)
/-- framewise/framewiseref05.Equal -/
def ref05_Equal (x0:(List Monomial)) (x1:(List Monomial)):Option Bool :=
 bif (((x0.length:Nat):Int)==((x1.length:Nat):Int)) then (
  (cnt (σ:=Unit) (ε:=Unit) (ρ:=Bool) (fun i0 s0 =>
   grd (i0<x1.length) <|
   bif (((x0.getD i0 ⟨0,[]⟩).Coef)==((x1.getD i0 ⟨0,[]⟩).Coef)) then (
    (ref01_SameTexts ((x0.getD i0 ⟨0,[]⟩).Vars) ((x1.getD i0 ⟨0,[]⟩).Vars)).bind fun y0 =>
    bif y0 then (
     some (.go ())
    ) else (
     some (.ret false)
    )
   ) else (
    some (.ret false)
   )
  ) (fun i0 s0=>()) (x0.length-0) 0 ()).bind <| aft fun u0 =>
  some true
 ) else (
  some false
 )
def ref05_Equal_S1 (x0:(List Monomial)) (x1:(List Monomial)) (i0:Nat) (s0:Unit):AS:=⟨42,[(0,dS cMonomial x0),(1,dS cMonomial x1),(4,.bool false),(5,nI i0)],[]⟩
def ref05_Equal_S2 (u1:Unit):AS:=⟨42,[(4,.bool false)],[]⟩
theorem ref05_Equal_c (x0:(List Monomial)) (x1:(List Monomial)) (r:Bool) (H:ref05_Equal x0 x1=some r):AFn Tryz.prog 53 [dS cMonomial x0,dS cMonomial x1] (.bool r):=by
 unfold ref05_Equal at H
 refine acallX Tryz.func53 42 [.tmp 4] (by kernel_rfl) (by kernel_rfl) ?_
 refine bsp H (fun c0 H0 => ?_) (fun c1 H1 => ?_)
 ·refine p_at mo 12 [.rg 0 [] [.v],.rg 0 [] [.v,.e (.int .i64 ((x0.length:Nat):Int)),.v,.e (.int .i64 ((x1.length:Nat):Int)),.v],.eqT 10 (.bool false),.rg 0 [] [.v]] [.only [0,1,4,5] []] 11 [false] (ref05_Equal_S1 x0 x1 0 ()) (aT (aC (lenm cMonomial x0) (aT (aC (lenm cMonomial x1) (aM c0 aN))))) (by kernel_rfl) ?_
  refine bnd H0 fun R0 h0 H2 => ?_
  refine p_joinO 1 (ref05_Equal_S2) R0 (by kernel_rfl) ?_ (fun u0 e0 => ?_)
  ·refine p_cnt (ref05_Equal_S1 x0 x1) (by kernel_rfl) h0 (fun i0 s0 h1 e1 => ?_) (fun i0 s0 h2 q0 h3 h4 => ?_)
   ·have c2:=lF i0 x0.length (by omega)
    subst e1
    exact p_bar mo 5 [r0 [.v,.v,.e (nI x0.length),.e (.bool false)]] [.only [4] []] (ref05_Equal_S2 ()) (aT (aC (lenm cMonomial x0) (aB c2 aN))) (by kernel_rfl)
   ·have c3:=lT i0 x0.length (by omega)
    refine grd_e h3 fun g0 H3 => ?_
    refine bsp H3 (fun c4 H4 => ?_) (fun c5 H5 => ?_)
    ·refine bnd H4 fun y0 h5 H6 => ?_
     refine p_at mo 9 [r0 [.v,.v,.e (nI x0.length),.e (.bool true)],.rg 22 [.v,.v,.e (.dptr [iI ((x0.getD i0 ⟨0,[]⟩).Coef),.dslice (((x0.getD i0 ⟨0,[]⟩).Vars).map cStr)]),.v,.v,.v,.v,.e (.dptr [iI ((x1.getD i0 ⟨0,[]⟩).Coef),.dslice (((x1.getD i0 ⟨0,[]⟩).Vars).map cStr)]),.v,.v,.e (.bool false),.v,.v,.v,.e (.dptr [iI ((x0.getD i0 ⟨0,[]⟩).Coef),.dslice (((x0.getD i0 ⟨0,[]⟩).Vars).map cStr)]),.v,.v,.v,.v,.e (.dptr [iI ((x1.getD i0 ⟨0,[]⟩).Coef),.dslice (((x1.getD i0 ⟨0,[]⟩).Vars).map cStr)]),.v,.v] [.c true (.bool y0),.v,.v]] [.only [0,1,4,5,41] []] 9 [true] ⟨42,[(0,dS cMonomial x0),(1,dS cMonomial x1),(4,.bool false),(5,nI i0),(41,.bool (!y0))],[]⟩ (aT (aC (lenm cMonomial x0) (aB c3 (all_app (ix (f:=cMonomial) (l:=x0) (n:=i0) ⟨0,[]⟩ cMonomial_len (by decide) (by omega)) (all_app (ix (f:=cMonomial) (l:=x1) (n:=i0) ⟨0,[]⟩ cMonomial_len (by decide) (by omega)) (aM c4 (all_app (ix (f:=cMonomial) (l:=x0) (n:=i0) ⟨0,[]⟩ cMonomial_len (by decide) (by omega)) (all_app (ix (f:=cMonomial) (l:=x1) (n:=i0) ⟨0,[]⟩ cMonomial_len (by decide) (by omega)) (aC Tryz.call71 (aF (ref01_SameTexts_c ((x0.getD i0 ⟨0,[]⟩).Vars) ((x1.getD i0 ⟨0,[]⟩).Vars) y0 h5) (aT aN))))))))))) (by kernel_rfl) ?_
     refine bsp H6 (fun c6 H7 => ?_) (fun c7 H8 => ?_)
     ·refine t_lens 0 (ps:=[(x0.map cMonomial).length≤9223372036854775807]) (by kernel_rfl) (fun l0 => ?_)
      have l1:x0.length≤9223372036854775807:=by simpa only [All,List.length_map] using l0
      clear l0
      obtain rfl:=sI H7
      exact p_bar mo 4 [.eqT 41 (.bool false),r0 [.v,.v,.v]] [.only [0,1,4,5] []] (ref05_Equal_S1 x0 x1 (i0+1) ()) (aM c6 (aC (pI i0 (by omega)) aN)) (by kernel_rfl)
     ·obtain rfl:=sI H8
      obtain rfl:=out_ret h4
      obtain rfl:=sI (aft_ret H2)
      exact p_ret mo 5 [.eqT 41 (.bool true),r0 [.v]] [] [] (aM c7 aN) (by kernel_rfl)
    ·obtain rfl:=sI H5
     obtain rfl:=out_ret h4
     obtain rfl:=sI (aft_ret H2)
     exact p_ret mo 13 [r0 [.v,.v,.e (nI x0.length),.e (.bool true)],.rg 22 [.v,.v,.e (.dptr [iI ((x0.getD i0 ⟨0,[]⟩).Coef),.dslice (((x0.getD i0 ⟨0,[]⟩).Vars).map cStr)]),.v,.v,.v,.v,.e (.dptr [iI ((x1.getD i0 ⟨0,[]⟩).Coef),.dslice (((x1.getD i0 ⟨0,[]⟩).Vars).map cStr)]),.v,.v,.e (.bool true),.v,.s,.s,.s,.s,.s,.s,.s,.s,.s,.s] [.s,.s,.v],r0 [.v]] [] [] (aT (aC (lenm cMonomial x0) (aB c3 (all_app (ix (f:=cMonomial) (l:=x0) (n:=i0) ⟨0,[]⟩ cMonomial_len (by decide) (by omega)) (all_app (ix (f:=cMonomial) (l:=x1) (n:=i0) ⟨0,[]⟩ cMonomial_len (by decide) (by omega)) (aM c5 aN)))))) (by kernel_rfl)
  ·subst e0
   have H9:=aft_brk H2
   obtain rfl:=sI H9
   exact p_ret mo 3 [r0 [.v]] [] [] aN (by kernel_rfl)
 ·obtain rfl:=sI H1
  exact p_ret mo 10 [r0 [.v],r0 [.v,.e (nI x0.length),.v,.e (nI x1.length),.v],.eqT 10 (.bool true),r0 [.v]] [] [] (aT (aC (lenm cMonomial x0) (aT (aC (lenm cMonomial x1) (aM c1 aN))))) (by kernel_rfl)
/-- framewise/framewiselaw05.PolyBasic -/
noncomputable def law05_PolyBasic (x0:(List Monomial)) (x1:(List Monomial)) (x2:Linear):Option Bool :=
 (law05_awake).bind fun y0 =>
 bif y0 then (
  (law05_few x0 x1).bind fun y1 =>
  bif y1 then (
   (ref04_Few x2 14).bind fun y2 =>
   bif y2 then (
    (poly_Of x2).bind fun y3 =>
    (ref05_Of x2).bind fun y4 =>
    (poly_Number x2.Const).bind fun y5 =>
    (ref05_Number x2.Const).bind fun y6 =>
    (poly_Valid x0).bind fun y7 =>
    (ref05_Valid x0).bind fun y8 =>
    bif (y7==y8) then (
     (poly_Vars x0).bind fun y9 =>
     (ref05_Vars x0).bind fun y10 =>
     (ref01_SameTexts y9 y10).bind fun y11 =>
     bif y11 then (
      (poly_Degree x0).bind fun y12 =>
      (ref05_Degree x0).bind fun y13 =>
      bif (y12==y13) then (
       (poly_Equal x0 x1).bind fun y14 =>
       (ref05_Equal x0 x1).bind fun y15 =>
       bif (y14==y15) then (
        (ref05_Equal y3.1 y4.1).bind fun y16 =>
        bif y16 then (
         bif (y3.2==y4.2) then (
          (ref05_Equal y5.1 y6.1).bind fun y17 =>
          bif y17 then (
           some (y5.2==y6.2)
          ) else (
           some false
          )
         ) else (
          some false
         )
        ) else (
         some false
        )
       ) else (
        some false
       )
      ) else (
       some false
      )
     ) else (
      some false
     )
    ) else (
     some false
    )
   ) else (
    some true
   )
  ) else (
   some true
  )
 ) else (
  some false
 )
theorem law05_PolyBasic_c (x0:(List Monomial)) (x1:(List Monomial)) (x2:Linear) (r:Bool) (H:law05_PolyBasic x0 x1 x2=some r):AFn Tryz.prog 13 [dS cMonomial x0,dS cMonomial x1,.agg [iI x2.Const,dS cCoef x2.Terms]] (.bool r):=by
 unfold law05_PolyBasic at H
 refine acallX Tryz.func13 96 [.tmp 6] (by kernel_rfl) (by kernel_rfl) ?_
 refine bnd H fun y0 h0 H0 => ?_
 refine bsp H0 (fun c0 H1 => ?_) (fun c1 H2 => ?_)
 ·refine bnd H1 fun y1 h1 H3 => ?_
  refine bsp H3 (fun c2 H4 => ?_) (fun c3 H5 => ?_)
  ·refine bnd H4 fun y2 h2 H6 => ?_
   refine p_at mo 11 [r0 [.m,.v],r0 [.c true (.bool y0),.v],.eqT 16 (.bool false),r0 [.v,.v,.c true (.bool true),.v,.v,.v,.c true (.bool y2),.v,.v]] [.only [0,1,5,6,25] [5]] 10 [false] ⟨96,[(0,dS cMonomial x0),(1,dS cMonomial x1),(5,.hptr 5 0),(6,.bool false),(25,.bool (!y2))],[(5,.cells 39 [iI x2.Const,dS cCoef x2.Terms])]⟩ (aC Tryz.call45 (aF (law05_awake_c y0 h0) (aT (aM c0 (aC Tryz.call55 (aC (AFn.eq (law05_few_c x0 x1 y1 h1) (cB c2)) (aT (aC Tryz.call66 (aF (ref04_Few_c x2 14 y2 h2) (aT aN)))))))))) (by kernel_rfl) ?_
   refine bsp H6 (fun c4 H7 => ?_) (fun c5 H8 => ?_)
   ·refine bnd H7 fun y3 h3 H9 => ?_
    refine bnd H9 fun y4 h4 H10 => ?_
    refine bnd H10 fun y5 h5 H11 => ?_
    refine bnd H11 fun y6 h6 H12 => ?_
    refine bnd H12 fun y7 h7 H13 => ?_
    refine bnd H13 fun y8 h8 H14 => ?_
    refine p_at mo 12 [.eqT 25 (.bool false),r0 [.v,.c true (.tup [dS cMonomial y3.1,iI y3.2]),.v,.v,.v,.v,.v],r0 [.v,.c true (.tup [dS cMonomial y4.1,iI y4.2]),.v,.v,.v,.v,.v],r0 [.v,.v,.c true (.tup [dS cMonomial y5.1,iI y5.2]),.v,.v,.v,.v,.v],r0 [.v,.v,.c true (.tup [dS cMonomial y6.1,iI y6.2]),.v,.v,.v,.v,.v]] [.only [0,1,6,7,8,9,10,11,12,13,14] []] 11 [false] ⟨96,[(0,dS cMonomial x0),(1,dS cMonomial x1),(6,.bool false),(7,dS cMonomial y3.1),(8,iI y3.2),(9,dS cMonomial y4.1),(10,iI y4.2),(11,dS cMonomial y5.1),(12,iI y5.2),(13,dS cMonomial y6.1),(14,iI y6.2)],[]⟩ (aM c4 (aC Tryz.call67 (aF (poly_Of_c x2 y3 h3) (aC Tryz.call68 (aF (ref05_Of_c x2 y4 h4) (aC Tryz.call65 (aF (poly_Number_c x2.Const y5 h5) (aC Tryz.call69 (aF (ref05_Number_c x2.Const y6 h6) aN))))))))) (by kernel_rfl) ?_
    refine bsp H14 (fun c6 H15 => ?_) (fun c7 H16 => ?_)
    ·refine bnd H15 fun y9 h9 H17 => ?_
     refine bnd H17 fun y10 h10 H18 => ?_
     refine bnd H18 fun y11 h11 H19 => ?_
     refine bsp H19 (fun c8 H20 => ?_) (fun c9 H21 => ?_)
     ·refine bnd H20 fun y12 h12 H22 => ?_
      refine bnd H22 fun y13 h13 H23 => ?_
      refine bsp H23 (fun c10 H24 => ?_) (fun c11 H25 => ?_)
      ·refine bnd H24 fun y14 h14 H26 => ?_
       refine bnd H26 fun y15 h15 H27 => ?_
       refine bsp H27 (fun c12 H28 => ?_) (fun c13 H29 => ?_)
       ·refine bnd H28 fun y16 h16 H30 => ?_
        refine bsp H30 (fun c14 H31 => ?_) (fun c15 H32 => ?_)
        ·refine bsp H31 (fun c16 H33 => ?_) (fun c17 H34 => ?_)
         ·refine bnd H33 fun y17 h17 H35 => ?_
          refine bsp H35 (fun c18 H36 => ?_) (fun c19 H37 => ?_)
          ·obtain rfl:=sI H36
           exact p_ret mo 2 [r0 [.v,.c true (.bool y7),.v,.c true (.bool y8),.e (.bool true),.v,.v,.c true (dS cStr y9),.v,.c true (dS cStr y10),.c true (.bool true),.v,.v,.v,.c true (iI y12),.v,.c true (iI y13),.e (.bool true),.v,.v,.v,.v,.c true (.bool y14),.v,.v,.c true (.bool y15),.e (.bool true),.v,.v,.v,.v,.c true (.bool true),.v,.v,.v,.v,.e (.bool true),.v,.v,.v,.v,.c true (.bool true),.v,.v,.v,.v,.v,.v,.v]] [] [] (aC Tryz.call70 (aF (poly_Valid_c x0 y7 h7) (aC Tryz.call52 (aF (ref05_Valid_c x0 y8 h8) (aB c6 (aC Tryz.call72 (aF (poly_Vars_c x0 y9 h9) (aC Tryz.call73 (aF (ref05_Vars_c x0 y10 h10) (aC Tryz.call71 (aC (AFn.eq (ref01_SameTexts_c y9 y10 y11 h11) (cB c8)) (aC Tryz.call57 (aF (poly_Degree_c x0 y12 h12) (aC Tryz.call74 (aF (ref05_Degree_c x0 y13 h13) (aB c10 (aC Tryz.call75 (aF (poly_Equal_c x0 x1 y14 h14) (aC Tryz.call53 (aF (ref05_Equal_c x0 x1 y15 h15) (aB c12 (aC Tryz.call53 (aC (AFn.eq (ref05_Equal_c y3.1 y4.1 y16 h16) (cB c14)) (aB c16 (aC Tryz.call53 (aC (AFn.eq (ref05_Equal_c y5.1 y6.1 y17 h17) (cB c18)) aN)))))))))))))))))))))))))) (by kernel_rfl)
          ·obtain rfl:=sI H37
           exact p_ret mo 2 [r0 [.v,.c true (.bool y7),.v,.c true (.bool y8),.e (.bool true),.v,.v,.c true (dS cStr y9),.v,.c true (dS cStr y10),.c true (.bool true),.v,.v,.v,.c true (iI y12),.v,.c true (iI y13),.e (.bool true),.v,.v,.v,.v,.c true (.bool y14),.v,.v,.c true (.bool y15),.e (.bool true),.v,.v,.v,.v,.c true (.bool true),.v,.v,.v,.v,.e (.bool true),.v,.v,.v,.v,.c true (.bool false),.v,.v,.s,.s,.s,.v,.v]] [] [] (aC Tryz.call70 (aF (poly_Valid_c x0 y7 h7) (aC Tryz.call52 (aF (ref05_Valid_c x0 y8 h8) (aB c6 (aC Tryz.call72 (aF (poly_Vars_c x0 y9 h9) (aC Tryz.call73 (aF (ref05_Vars_c x0 y10 h10) (aC Tryz.call71 (aC (AFn.eq (ref01_SameTexts_c y9 y10 y11 h11) (cB c8)) (aC Tryz.call57 (aF (poly_Degree_c x0 y12 h12) (aC Tryz.call74 (aF (ref05_Degree_c x0 y13 h13) (aB c10 (aC Tryz.call75 (aF (poly_Equal_c x0 x1 y14 h14) (aC Tryz.call53 (aF (ref05_Equal_c x0 x1 y15 h15) (aB c12 (aC Tryz.call53 (aC (AFn.eq (ref05_Equal_c y3.1 y4.1 y16 h16) (cB c14)) (aB c16 (aC Tryz.call53 (aC (AFn.eq (ref05_Equal_c y5.1 y6.1 y17 h17) (cB c19)) aN)))))))))))))))))))))))))) (by kernel_rfl)
         ·obtain rfl:=sI H34
          exact p_ret mo 2 [r0 [.v,.c true (.bool y7),.v,.c true (.bool y8),.e (.bool true),.v,.v,.c true (dS cStr y9),.v,.c true (dS cStr y10),.c true (.bool true),.v,.v,.v,.c true (iI y12),.v,.c true (iI y13),.e (.bool true),.v,.v,.v,.v,.c true (.bool y14),.v,.v,.c true (.bool y15),.e (.bool true),.v,.v,.v,.v,.c true (.bool true),.v,.v,.v,.v,.e (.bool false),.v,.v,.s,.s,.s,.v,.v,.s,.s,.s,.v,.v]] [] [] (aC Tryz.call70 (aF (poly_Valid_c x0 y7 h7) (aC Tryz.call52 (aF (ref05_Valid_c x0 y8 h8) (aB c6 (aC Tryz.call72 (aF (poly_Vars_c x0 y9 h9) (aC Tryz.call73 (aF (ref05_Vars_c x0 y10 h10) (aC Tryz.call71 (aC (AFn.eq (ref01_SameTexts_c y9 y10 y11 h11) (cB c8)) (aC Tryz.call57 (aF (poly_Degree_c x0 y12 h12) (aC Tryz.call74 (aF (ref05_Degree_c x0 y13 h13) (aB c10 (aC Tryz.call75 (aF (poly_Equal_c x0 x1 y14 h14) (aC Tryz.call53 (aF (ref05_Equal_c x0 x1 y15 h15) (aB c12 (aC Tryz.call53 (aC (AFn.eq (ref05_Equal_c y3.1 y4.1 y16 h16) (cB c14)) (aB c17 aN)))))))))))))))))))))))) (by kernel_rfl)
        ·obtain rfl:=sI H32
         exact p_ret mo 2 [r0 [.v,.c true (.bool y7),.v,.c true (.bool y8),.e (.bool true),.v,.v,.c true (dS cStr y9),.v,.c true (dS cStr y10),.c true (.bool true),.v,.v,.v,.c true (iI y12),.v,.c true (iI y13),.e (.bool true),.v,.v,.v,.v,.c true (.bool y14),.v,.v,.c true (.bool y15),.e (.bool true),.v,.v,.v,.v,.c true (.bool false),.v,.v,.s,.s,.s,.v,.v,.s,.s,.s,.v,.v,.s,.s,.s,.v,.v]] [] [] (aC Tryz.call70 (aF (poly_Valid_c x0 y7 h7) (aC Tryz.call52 (aF (ref05_Valid_c x0 y8 h8) (aB c6 (aC Tryz.call72 (aF (poly_Vars_c x0 y9 h9) (aC Tryz.call73 (aF (ref05_Vars_c x0 y10 h10) (aC Tryz.call71 (aC (AFn.eq (ref01_SameTexts_c y9 y10 y11 h11) (cB c8)) (aC Tryz.call57 (aF (poly_Degree_c x0 y12 h12) (aC Tryz.call74 (aF (ref05_Degree_c x0 y13 h13) (aB c10 (aC Tryz.call75 (aF (poly_Equal_c x0 x1 y14 h14) (aC Tryz.call53 (aF (ref05_Equal_c x0 x1 y15 h15) (aB c12 (aC Tryz.call53 (aC (AFn.eq (ref05_Equal_c y3.1 y4.1 y16 h16) (cB c15)) aN))))))))))))))))))))))) (by kernel_rfl)
       ·obtain rfl:=sI H29
        exact p_ret mo 2 [r0 [.v,.c true (.bool y7),.v,.c true (.bool y8),.e (.bool true),.v,.v,.c true (dS cStr y9),.v,.c true (dS cStr y10),.c true (.bool true),.v,.v,.v,.c true (iI y12),.v,.c true (iI y13),.e (.bool true),.v,.v,.v,.v,.c true (.bool y14),.v,.v,.c true (.bool y15),.e (.bool false),.v,.v,.s,.s,.s,.v,.v,.s,.s,.s,.v,.v,.s,.s,.s,.v,.v,.s,.s,.s,.v,.v]] [] [] (aC Tryz.call70 (aF (poly_Valid_c x0 y7 h7) (aC Tryz.call52 (aF (ref05_Valid_c x0 y8 h8) (aB c6 (aC Tryz.call72 (aF (poly_Vars_c x0 y9 h9) (aC Tryz.call73 (aF (ref05_Vars_c x0 y10 h10) (aC Tryz.call71 (aC (AFn.eq (ref01_SameTexts_c y9 y10 y11 h11) (cB c8)) (aC Tryz.call57 (aF (poly_Degree_c x0 y12 h12) (aC Tryz.call74 (aF (ref05_Degree_c x0 y13 h13) (aB c10 (aC Tryz.call75 (aF (poly_Equal_c x0 x1 y14 h14) (aC Tryz.call53 (aF (ref05_Equal_c x0 x1 y15 h15) (aB c13 aN))))))))))))))))))))) (by kernel_rfl)
      ·obtain rfl:=sI H25
       exact p_ret mo 2 [r0 [.v,.c true (.bool y7),.v,.c true (.bool y8),.e (.bool true),.v,.v,.c true (dS cStr y9),.v,.c true (dS cStr y10),.c true (.bool true),.v,.v,.v,.c true (iI y12),.v,.c true (iI y13),.e (.bool false),.v,.v,.s,.s,.s,.s,.s,.s,.s,.v,.v,.s,.s,.s,.v,.v,.s,.s,.s,.v,.v,.s,.s,.s,.v,.v,.s,.s,.s,.v,.v]] [] [] (aC Tryz.call70 (aF (poly_Valid_c x0 y7 h7) (aC Tryz.call52 (aF (ref05_Valid_c x0 y8 h8) (aB c6 (aC Tryz.call72 (aF (poly_Vars_c x0 y9 h9) (aC Tryz.call73 (aF (ref05_Vars_c x0 y10 h10) (aC Tryz.call71 (aC (AFn.eq (ref01_SameTexts_c y9 y10 y11 h11) (cB c8)) (aC Tryz.call57 (aF (poly_Degree_c x0 y12 h12) (aC Tryz.call74 (aF (ref05_Degree_c x0 y13 h13) (aB c11 aN)))))))))))))))) (by kernel_rfl)
     ·obtain rfl:=sI H21
      exact p_ret mo 2 [r0 [.v,.c true (.bool y7),.v,.c true (.bool y8),.e (.bool true),.v,.v,.c true (dS cStr y9),.v,.c true (dS cStr y10),.c true (.bool false),.v,.v,.s,.s,.s,.s,.s,.v,.v,.s,.s,.s,.s,.s,.s,.s,.v,.v,.s,.s,.s,.v,.v,.s,.s,.s,.v,.v,.s,.s,.s,.v,.v,.s,.s,.s,.v,.v]] [] [] (aC Tryz.call70 (aF (poly_Valid_c x0 y7 h7) (aC Tryz.call52 (aF (ref05_Valid_c x0 y8 h8) (aB c6 (aC Tryz.call72 (aF (poly_Vars_c x0 y9 h9) (aC Tryz.call73 (aF (ref05_Vars_c x0 y10 h10) (aC Tryz.call71 (aC (AFn.eq (ref01_SameTexts_c y9 y10 y11 h11) (cB c9)) aN))))))))))) (by kernel_rfl)
    ·obtain rfl:=sI H16
     exact p_ret mo 2 [r0 [.v,.c true (.bool y7),.v,.c true (.bool y8),.e (.bool false),.v,.s,.s,.s,.s,.s,.v,.v,.s,.s,.s,.s,.s,.v,.v,.s,.s,.s,.s,.s,.s,.s,.v,.v,.s,.s,.s,.v,.v,.s,.s,.s,.v,.v,.s,.s,.s,.v,.v,.s,.s,.s,.v,.v]] [] [] (aC Tryz.call70 (aF (poly_Valid_c x0 y7 h7) (aC Tryz.call52 (aF (ref05_Valid_c x0 y8 h8) (aB c7 aN))))) (by kernel_rfl)
   ·obtain rfl:=sI H8
    exact p_ret mo 5 [.eqT 25 (.bool true),r0 [.v]] [] [] (aM c5 aN) (by kernel_rfl)
  ·obtain rfl:=sI H5
   exact p_ret mo 15 [r0 [.m,.v],r0 [.c true (.bool y0),.v],.eqT 16 (.bool false),r0 [.v,.v,.c true (.bool false),.v,.v,.s,.s,.s,.v],r0 [.v]] [] [] (aC Tryz.call45 (aF (law05_awake_c y0 h0) (aT (aM c0 (aC Tryz.call55 (aC (AFn.eq (law05_few_c x0 x1 y1 h1) (cB c3)) (aT aN))))))) (by kernel_rfl)
 ·obtain rfl:=sI H2
  exact p_ret mo 10 [r0 [.m,.v],r0 [.c true (.bool y0),.v],.eqT 16 (.bool true),r0 [.v]] [] [] (aC Tryz.call45 (aF (law05_awake_c y0 h0) (aT (aM c1 aN)))) (by kernel_rfl)
end Go.Proofs.YtjfpcjnopbfekaaGreatDoor
