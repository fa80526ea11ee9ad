/- What functions of the program compute, walked: each as a plain function, with the theorem that the code computes it wherever that answers. Printed by a program, part 2. -/
import Derived.Test.YtjfpcjnopbfekaaGreatDoorWkaPolySums
set_option linter.unusedSimpArgs false
set_option linter.unusedVariables false
namespace Go.Proofs.YtjfpcjnopbfekaaGreatDoor
open Go.RowKit Go.Ab Go.Sh
/-- framewise/framewiselaw05.awake -/
noncomputable def law05_awake  : Option Bool :=
 (poly_Product [(Linear.mk (-1) [(Coef.mk [110] 1)]),(Linear.mk 1 [(Coef.mk [110] 1)])]).bind fun y0 =>
 (poly_Parse [50,42,109,42,110,94,50]).bind fun y1 =>
 (poly_Eval y1.1 [(Value.mk [109] 3),(Value.mk [110] (-1))]).bind fun y2 =>
 bif (y0.2==0) then (
  bif (y1.2==0) then (
   bif (y2.2==0) then (
    bif (y2.1==6) then (
     (poly_Print y0.1).bind fun y3 =>
     bif (y3==[45,49,43,110,94,50]) then (
      (poly_Valid y1.1).bind fun y4 =>
      bif y4 then (
       (poly_Degree y1.1).bind fun y5 =>
       some (y5==3)
      ) else (
       some false
      )
     ) else (
      some false
     )
    ) else (
     some false
    )
   ) else (
    some false
   )
  ) else (
   some false
  )
 ) else (
  some false
 )
theorem law05_awake_c  (r:Bool) (H:law05_awake  = some r):AFn Tryz.prog 45 [] (.bool r):=by
 unfold law05_awake at H
 refine acallX Tryz.func45 59 [.tmp 0] (by kernel_rfl) (by kernel_rfl) ?_
 refine bnd H fun y0 h0 H0 => ?_
 refine bnd H0 fun y1 h1 H1 => ?_
 refine bnd H1 fun y2 h2 H2 => ?_
 refine p_at mo 11 [r0 [.v],r0 [.b,.b,.v],r0 [.v,.b,.v,.b,.b,.c true (.tup [dS cMonomial y0.1,iI y0.2]),.v,.v,.v,.v,.v],r0 [.c true (.tup [dS cMonomial y1.1,iI y1.2]),.v,.v,.v,.v,.v],r0 [.v,.b,.b,.b,.c true (.tup [iI y2.1,iI y2.2]),.v,.v,.v,.v,.v]] [.only [0,2,3,4,5,6,7] []] 11 [] ⟨59,[(0,.bool false),(2,dS cMonomial y0.1),(3,iI y0.2),(4,dS cMonomial y1.1),(5,iI y1.2),(6,iI y2.1),(7,iI y2.2)],[]⟩ (aC Tryz.call110 (aF (poly_Product_c [(Linear.mk (-1) [(Coef.mk [110] 1)]),(Linear.mk 1 [(Coef.mk [110] 1)])] y0 h0) (aC Tryz.call51 (aF (poly_Parse_c [50,42,109,42,110,94,50] y1 h1) (aC Tryz.call47 (aF (poly_Eval_c y1.1 [(Value.mk [109] 3),(Value.mk [110] (-1))] y2 h2) aN)))))) (by kernel_rfl) ?_
 refine bsp H2 (fun c0 H3 => ?_) (fun c1 H4 => ?_)
 ·refine bsp H3 (fun c2 H5 => ?_) (fun c3 H6 => ?_)
  ·refine bsp H5 (fun c4 H7 => ?_) (fun c5 H8 => ?_)
   ·refine bsp H7 (fun c6 H9 => ?_) (fun c7 H10 => ?_)
    ·refine bnd H9 fun y3 h3 H11 => ?_
     refine bsp H11 (fun c8 H12 => ?_) (fun c9 H13 => ?_)
     ·refine bnd H12 fun y4 h4 H14 => ?_
      refine bsp H14 (fun c10 H15 => ?_) (fun c11 H16 => ?_)
      ·refine bnd H15 fun y5 h5 H17 => ?_
       obtain rfl:=sI H17
       exact p_ret mo 2 [r0 [.v,.e (.bool true),.v,.v,.e (.bool true),.v,.v,.v,.e (.bool true),.v,.v,.v,.e (.bool true),.v,.v,.v,.c true (.str y3),.e (.bool true),.v,.v,.v,.c true (.bool true),.v,.v,.v,.c true (iI y5),.v,.v,.v]] [] [] (aB c0 (aB c2 (aB c4 (aB c6 (aC Tryz.call49 (aF (poly_Print_c y0.1 y3 h3) (aB c8 (aC Tryz.call70 (aC (AFn.eq (poly_Valid_c y1.1 y4 h4) (cB c10)) (aC Tryz.call57 (aF (poly_Degree_c y1.1 y5 h5) aN))))))))))) (by kernel_rfl)
      ·obtain rfl:=sI H16
       exact p_ret mo 2 [r0 [.v,.e (.bool true),.v,.v,.e (.bool true),.v,.v,.v,.e (.bool true),.v,.v,.v,.e (.bool true),.v,.v,.v,.c true (.str y3),.e (.bool true),.v,.v,.v,.c true (.bool false),.v,.v,.s,.s,.s,.v,.v]] [] [] (aB c0 (aB c2 (aB c4 (aB c6 (aC Tryz.call49 (aF (poly_Print_c y0.1 y3 h3) (aB c8 (aC Tryz.call70 (aC (AFn.eq (poly_Valid_c y1.1 y4 h4) (cB c11)) aN))))))))) (by kernel_rfl)
     ·obtain rfl:=sI H13
      exact p_ret mo 2 [r0 [.v,.e (.bool true),.v,.v,.e (.bool true),.v,.v,.v,.e (.bool true),.v,.v,.v,.e (.bool true),.v,.v,.v,.c true (.str y3),.e (.bool false),.v,.v,.s,.s,.v,.v,.s,.s,.s,.v,.v]] [] [] (aB c0 (aB c2 (aB c4 (aB c6 (aC Tryz.call49 (aF (poly_Print_c y0.1 y3 h3) (aB c9 aN))))))) (by kernel_rfl)
    ·obtain rfl:=sI H10
     exact p_ret mo 2 [r0 [.v,.e (.bool true),.v,.v,.e (.bool true),.v,.v,.v,.e (.bool true),.v,.v,.v,.e (.bool false),.v,.v,.s,.s,.s,.v,.v,.s,.s,.v,.v,.s,.s,.s,.v,.v]] [] [] (aB c0 (aB c2 (aB c4 (aB c7 aN)))) (by kernel_rfl)
   ·obtain rfl:=sI H8
    exact p_ret mo 2 [r0 [.v,.e (.bool true),.v,.v,.e (.bool true),.v,.v,.v,.e (.bool false),.v,.v,.s,.s,.v,.v,.s,.s,.s,.v,.v,.s,.s,.v,.v,.s,.s,.s,.v,.v]] [] [] (aB c0 (aB c2 (aB c5 aN))) (by kernel_rfl)
  ·obtain rfl:=sI H6
   exact p_ret mo 2 [r0 [.v,.e (.bool true),.v,.v,.e (.bool false),.v,.v,.s,.s,.v,.v,.s,.s,.v,.v,.s,.s,.s,.v,.v,.s,.s,.v,.v,.s,.s,.s,.v,.v]] [] [] (aB c0 (aB c3 aN)) (by kernel_rfl)
 ·obtain rfl:=sI H4
  exact p_ret mo 2 [r0 [.v,.e (.bool false),.v,.s,.s,.v,.v,.s,.s,.v,.v,.s,.s,.v,.v,.s,.s,.s,.v,.v,.s,.s,.v,.v,.s,.s,.s,.v,.v]] [] [] (aB c1 aN) (by kernel_rfl)
/-- framewise/framewiseref05.Few -/
def ref05_Few (x0:(List Monomial)) (x1:Int):Option Bool :=
 (cnt (σ:=Unit) (ε:=Unit) (ρ:=Bool) (fun i0 s0 =>
  bif decide (((((x0.getD i0 ⟨0,[]⟩).Vars).length:Nat):Int)>10) then (
   some (.ret false)
  ) else (
   (whl (σ:=Int) (ε:=Unit) (ρ:=(Stp Unit Unit Bool)) (fun s1 =>
    bif decide (s1<((((x0.getD i0 ⟨0,[]⟩).Vars).length:Nat):Int)) then (
     grd (0≤s1∧s1<(((x0.getD i0 ⟨0,[]⟩).Vars).length:Int)) <|
     bif decide ((((((x0.getD i0 ⟨0,[]⟩).Vars).getD s1.toNat []).length:Nat):Int)>40) then (
      some (.ret (.ret false))
     ) else (
      some (.go (w64 (s1+1)))
     )
    ) else (
     some (.brk ())
    )
   ) 4294967296 0).bind <| aft fun u0 =>
   some (.go ())
  )
 ) (fun i0 s0=>()) (x0.length-0) 0 ()).bind <| aft fun u1 =>
 some (decide (((x0.length:Nat):Int)≤x1))
def ref05_Few_S1 (x0:(List Monomial)) (x1:Int) (i0:Nat) (s0:Unit):AS:=⟨44,[(0,dS cMonomial x0),(1,iI x1),(4,.bool false),(5,nI i0)],[]⟩
def ref05_Few_S2 (x0:(List Monomial)) (x1:Int) (u2:Unit):AS:=⟨44,[(0,dS cMonomial x0),(1,iI x1),(4,.bool false)],[]⟩
def ref05_Few_S3 (x0:(List Monomial)) (x1:Int) (i0:Nat) (s1:Int):AS:=⟨44,[(0,dS cMonomial x0),(1,iI x1),(4,.bool false),(5,nI i0),(6,iI s1)],[]⟩
def ref05_Few_S4 (x0:(List Monomial)) (x1:Int) (i0:Nat) (u3:Unit):AS:=⟨44,[(0,dS cMonomial x0),(1,iI x1),(4,.bool false),(5,nI i0)],[]⟩
theorem ref05_Few_c (x0:(List Monomial)) (x1:Int) (r:Bool) (H:ref05_Few x0 x1=some r):AFn Tryz.prog 46 [dS cMonomial x0,iI x1] (.bool r):=by
 unfold ref05_Few at H
 refine acallX Tryz.func46 44 [.tmp 4] (by kernel_rfl) (by kernel_rfl) ?_
 refine p_at mo 6 [r0 [.v],r0 [.v]] [.only [0,1,4,5] []] 6 [] (ref05_Few_S1 x0 x1 0 ()) aN (by kernel_rfl) ?_
 refine bnd H fun R0 h0 H0 => ?_
 refine p_joinO 1 (ref05_Few_S2 x0 x1) R0 (by kernel_rfl) ?_ (fun u1 e0 => ?_)
 ·refine p_cnt (ref05_Few_S1 x0 x1) (by kernel_rfl) h0 (fun i0 s0 h1 e1 => ?_) (fun i0 s0 h2 q0 h3 h4 => ?_)
  ·have c0:=lF i0 x0.length (by omega)
   subst e1
   exact p_bar mo 5 [r0 [.v,.v,.e (nI x0.length),.e (.bool false)]] [.only [0,1,4] []] (ref05_Few_S2 x0 x1 ()) (aT (aC (lenm cMonomial x0) (aB c0 aN))) (by kernel_rfl)
  ·have c1:=lT i0 x0.length (by omega)
   refine p_at mo 10 [r0 [.v,.v,.e (nI x0.length),.e (.bool true)],r0 [.v,.v,.e (.dptr [iI ((x0.getD i0 ⟨0,[]⟩).Coef),.dslice (((x0.getD i0 ⟨0,[]⟩).Vars).map cStr)]),.v,.v,.e (iI ((((x0.getD i0 ⟨0,[]⟩).Vars).length:Nat):Int)),.v]] [.only [0,1,4,5,19] []] 10 [true] ⟨44,[(0,dS cMonomial x0),(1,iI x1),(4,.bool false),(5,nI i0),(19,.bool (decide (((((x0.getD i0 ⟨0,[]⟩).Vars).length:Nat):Int)>10)))],[]⟩ (aT (aC (lenm cMonomial x0) (aB c1 (all_app (ix (f:=cMonomial) (l:=x0) (n:=i0) ⟨0,[]⟩ cMonomial_len (by decide) (by omega)) (aT (aC (lenm cStr ((x0.getD i0 ⟨0,[]⟩).Vars)) aN)))))) (by kernel_rfl) ?_
   refine bsp h3 (fun c2 H1 => ?_) (fun c3 H2 => ?_)
   ·obtain rfl:=sI H1
    obtain rfl:=out_ret h4
    obtain rfl:=sI (aft_ret H0)
    exact p_ret mo 5 [.eqT 19 (.bool true),r0 [.v]] [] [] (aB c2 aN) (by kernel_rfl)
   ·have c3p:=of_decide_eq_false c3
    refine p_at mo 6 [.eqT 19 (.bool false),r0 [.v]] [.only [0,1,4,5,6] []] 5 [false] (ref05_Few_S3 x0 x1 i0 0) (aB c3 aN) (by kernel_rfl) ?_
    refine bnd H2 fun R1 h5 H3 => ?_
    refine p_joinO 2 (ref05_Few_S4 x0 x1 i0) R1 (by kernel_rfl) ?_ (fun u0 e2 => ?_)
    ·refine p_whl (ref05_Few_S3 x0 x1 i0) (by kernel_rfl) h5 (fun s1 q1 h6 h7 => ?_)
     ·refine bsp h6 (fun c4 H4 => ?_) (fun c5 H5 => ?_)
      ·have c4p:=of_decide_eq_true c4
       refine grd_e H4 fun g0 H6 => ?_
       refine p_at mo 10 [r0 [.v,.v,.v,.e (.dptr [iI ((x0.getD i0 ⟨0,[]⟩).Coef),.dslice (((x0.getD i0 ⟨0,[]⟩).Vars).map cStr)]),.v,.v,.e (iI ((((x0.getD i0 ⟨0,[]⟩).Vars).length:Nat):Int)),.v],.eqT 27 (.bool true),r0 [.v,.v,.e (.dptr [iI ((x0.getD i0 ⟨0,[]⟩).Coef),.dslice (((x0.getD i0 ⟨0,[]⟩).Vars).map cStr)]),.v,.v,.v,.e (.dptr [.str (((x0.getD i0 ⟨0,[]⟩).Vars).getD s1.toNat [])]),.v,.v,.v]] [.only [0,1,4,5,6,39] []] 9 [true] ⟨44,[(0,dS cMonomial x0),(1,iI x1),(4,.bool false),(5,nI i0),(6,iI s1),(39,.bool (decide ((((((x0.getD i0 ⟨0,[]⟩).Vars).getD s1.toNat []).length:Nat):Int)>40)))],[]⟩ (all_app (ix (f:=cMonomial) (l:=x0) (n:=i0) ⟨0,[]⟩ cMonomial_len (by decide) (by omega)) (aT (aC (lenm cStr ((x0.getD i0 ⟨0,[]⟩).Vars)) (aB c4 (all_app (ix (f:=cMonomial) (l:=x0) (n:=i0) ⟨0,[]⟩ cMonomial_len (by decide) (by omega)) (all_app (ixz (f:=cStr) (l:=((x0.getD i0 ⟨0,[]⟩).Vars)) (n:=s1) [] cStr_len (by decide) (by exact g0)) (aT aN))))))) (by kernel_rfl) ?_
       refine bsp H6 (fun c6 H7 => ?_) (fun c7 H8 => ?_)
       ·obtain rfl:=sI H7
        obtain rfl:=out_ret h7
        obtain rfl:=sI (aft_ret H3)
        obtain rfl:=out_ret h4
        obtain rfl:=sI (aft_ret H0)
        exact p_ret mo 5 [.eqT 39 (.bool true),r0 [.v]] [] [] (aB c6 aN) (by kernel_rfl)
       ·obtain rfl:=sI H8
        exact p_bar mo 4 [.eqT 39 (.bool false),r0 [.v,.w,.v]] [.only [0,1,4,5,6] []] (ref05_Few_S3 x0 x1 i0 (w64 (s1+1))) (aB c7 aN) (by kernel_rfl)
      ·have c5p:=of_decide_eq_false c5
       obtain rfl:=sI H5
       obtain rfl:=out_brk h7
       exact p_bar mo 6 [r0 [.v,.v,.v,.e (.dptr [iI ((x0.getD i0 ⟨0,[]⟩).Coef),.dslice (((x0.getD i0 ⟨0,[]⟩).Vars).map cStr)]),.v,.v,.e (iI ((((x0.getD i0 ⟨0,[]⟩).Vars).length:Nat):Int)),.v],.eqT 27 (.bool false)] [.only [0,1,4,5] []] (ref05_Few_S4 x0 x1 i0 ()) (all_app (ix (f:=cMonomial) (l:=x0) (n:=i0) ⟨0,[]⟩ cMonomial_len (by decide) (by omega)) (aT (aC (lenm cStr ((x0.getD i0 ⟨0,[]⟩).Vars)) (aB c5 aN)))) (by kernel_rfl)
    ·subst e2
     have H9:=aft_brk H3
     refine t_lens 0 (ps:=[(x0.map cMonomial).length≤9223372036854775807]) (by kernel_rfl) (fun l0 => ?_)
     have l1:x0.length≤9223372036854775807:=by simpa only [All,List.length_map] using l0
     clear l0
     obtain rfl:=sI H9
     exact p_bar mo 1 [r0 [.v,.v,.v]] [.only [0,1,4,5] []] (ref05_Few_S1 x0 x1 (i0+1) ()) (aC (pI i0 (by omega)) aN) (by kernel_rfl)
 ·subst e0
  have H10:=aft_brk H0
  obtain rfl:=sI H10
  exact p_ret mo 3 [r0 [.v,.e (nI x0.length),.v,.v,.v]] [] [] (aT (aC (lenm cMonomial x0) aN)) (by kernel_rfl)
/-- framewise/framewiselaw05.few -/
def law05_few (x0:(List Monomial)) (x1:(List Monomial)):Option Bool :=
 (ref05_Few x0 8).bind fun y0 =>
 bif y0 then (
  (ref05_Few x1 8).bind fun y1 =>
  some y1
 ) else (
  some false
 )
theorem law05_few_c (x0:(List Monomial)) (x1:(List Monomial)) (r:Bool) (H:law05_few x0 x1=some r):AFn Tryz.prog 55 [dS cMonomial x0,dS cMonomial x1] (.bool r):=by
 unfold law05_few at H
 refine acallX Tryz.func55 11 [.tmp 4] (by kernel_rfl) (by kernel_rfl) ?_
 refine bnd H fun y0 h0 H0 => ?_
 refine bsp H0 (fun c0 H1 => ?_) (fun c1 H2 => ?_)
 ·refine bnd H1 fun y1 h1 H3 => ?_
  refine some_e H3 fun e0 => ?_
  subst e0
  exact p_ret mo 5 [r0 [.v],r0 [.v,.c true (.bool true),.v,.v,.c true (.bool y1),.v,.v]] [] [] (aC Tryz.call46 (aC (AFn.eq (ref05_Few_c x0 8 y0 h0) (cB c0)) (aC Tryz.call46 (aF (ref05_Few_c x1 8 y1 h1) aN)))) (by kernel_rfl)
 ·obtain rfl:=sI H2
  exact p_ret mo 5 [r0 [.v],r0 [.v,.c true (.bool false),.v,.s,.s,.v,.v]] [] [] (aC Tryz.call46 (aC (AFn.eq (ref05_Few_c x0 8 y0 h0) (cB c1)) aN)) (by kernel_rfl)
/-- framewise/poly.combine$1 -/
def poly_combine_1 (x0:Monomial) (x1:Int) (x2:(List (Str×(List Str)))) (x3:(List (Str×(List Int)))) (x4:(List (Str×(List Int)))):Option ((List (Str×(List Str)))×(List (Str×(List Int)))×(List (Str×(List Int)))) :=
 (poly_sum_add x0.Vars x0.Coef x1 x2 x3 x4).bind fun y0 =>
 some (y0.1,y0.2.1,y0.2.2)
theorem poly_combine_1_c (x0:Monomial) (x1:Int) (x2:(List (Str×(List Str)))) (x3:(List (Str×(List Int)))) (x4:(List (Str×(List Int)))) (r:((List (Str×(List Str)))×(List (Str×(List Int)))×(List (Str×(List Int))))) (H:poly_combine_1 x0 x1 x2 x3 x4=some r):ACall Tryz.prog 202 [.agg [iI x0.Coef,dS cStr x0.Vars],iI x1,.hptr 1000 0] [(1000,.cells 144 [.amap 1001,.amap 1002,.amap 1003]),(1001,.smap 9 90 (x2.map (mapV cL_cStr))),(1002,.rmap 3 1 (rcm cInt_i64 x3)),(1003,.rmap 3 1 (rcm cInt_i64 x4))] (fun r2 h0=>r2=(.tup [])∧h0=[(1000,.cells 144 [.amap 1001,.amap 1002,.amap 1003]),(1001,.smap 9 90 (r.1.map (mapV cL_cStr))),(1002,.rmap 3 1 (rcm cInt_i64 r.2.1)),(1003,.rmap 3 1 (rcm cInt_i64 r.2.2))]):=by
 unfold poly_combine_1 at H
 refine acallX Tryz.func202 12 [] (by kernel_rfl) (by kernel_rfl) ?_
 refine bnd H fun y0 h1 H0 => ?_
 obtain rfl:=sI H0
 exact p_ret mo 3 [r0 [.m],r0 [.v,.v,.v,.v,.v,.v,.hR [(1001,1000),(1002,1001),(1003,1002)] 11 (.tup []) [(1000,.smap 9 90 (y0.1.map (mapV cL_cStr))),(1001,.rmap 3 1 (rcm cInt_i64 y0.2.1)),(1002,.rmap 3 1 (rcm cInt_i64 y0.2.2))]]] [] [1000,1001,1002,1003] (aC Tryz.call132 (aC (poly_sum_add_c x0.Vars x0.Coef x1 x2 x3 x4 y0 h1) aN)) (by kernel_rfl)
/-- framewise/poly.pairs[framewise/api.Monomial,int] -/
def poly_pairs_int (x0:(List Monomial)) (x1:(List Int)) (x2:(List (Str×(List Str)))) (x3:(List (Str×(List Int)))) (x4:(List (Str×(List Int)))):Option ((List (Str×(List Str)))×(List (Str×(List Int)))×(List (Str×(List Int)))) :=
 (cnt (σ:=((List (Str×(List Str)))×(List (Str×(List Int)))×(List (Str×(List Int))))) (ε:=((List (Str×(List Str)))×(List (Str×(List Int)))×(List (Str×(List Int))))) (ρ:=((List (Str×(List Str)))×(List (Str×(List Int)))×(List (Str×(List Int))))) (fun i0 s0 =>
  (cnt (σ:=((List (Str×(List Str)))×(List (Str×(List Int)))×(List (Str×(List Int))))) (ε:=((List (Str×(List Str)))×(List (Str×(List Int)))×(List (Str×(List Int))))) (ρ:=Empty) (fun i1 s1 =>
   (poly_combine_1 (Monomial.mk ((x0.getD i0 ⟨0,[]⟩).Coef) ((x0.getD i0 ⟨0,[]⟩).Vars)) (x1.getD i1 0) s1.1 s1.2.1 s1.2.2).bind fun y0 =>
   some (.go (y0.1,y0.2.1,y0.2.2))
  ) (fun i1 s1=>(s1.1,s1.2.1,s1.2.2)) (x1.length-0) 0 (s0.1,s0.2.1,s0.2.2)).bind <| aftE fun u0 =>
  some (.go (u0.1,u0.2.1,u0.2.2))
 ) (fun i0 s0=>(s0.1,s0.2.1,s0.2.2)) (x0.length-0) 0 (x2,x3,x4)).bind <| aft some
def poly_pairs_int_S1 (x0:(List Monomial)) (x1:(List Int)) (i0:Nat) (s0:((List (Str×(List Str)))×(List (Str×(List Int)))×(List (Str×(List Int))))):AS:=⟨28,[(1,dS cInt_i64 x1),(2,.fn 202 [.hptr 1000 0]),(10,dS cMonomial x0),(11,nI x0.length),(12,nI i0)],[(1000,.cells 144 [.amap 1001,.amap 1002,.amap 1003]),(1001,.smap 9 90 (s0.1.map (mapV cL_cStr))),(1002,.rmap 3 1 (rcm cInt_i64 s0.2.1)),(1003,.rmap 3 1 (rcm cInt_i64 s0.2.2))]⟩
def poly_pairs_int_S2 (x0:(List Monomial)) (x1:(List Int)) (i0:Nat) (i1:Nat) (s1:((List (Str×(List Str)))×(List (Str×(List Int)))×(List (Str×(List Int))))):AS:=⟨28,[(1,dS cInt_i64 x1),(2,.fn 202 [.hptr 1000 0]),(7,.hptr 7 0),(10,dS cMonomial x0),(11,nI x0.length),(12,nI i0),(16,dS cInt_i64 x1),(17,nI x1.length),(18,nI i1)],[(7,.cells 118 [iI ((x0.getD i0 ⟨0,[]⟩).Coef),.dslice (((x0.getD i0 ⟨0,[]⟩).Vars).map cStr)]),(1000,.cells 144 [.amap 1001,.amap 1002,.amap 1003]),(1001,.smap 9 90 (s1.1.map (mapV cL_cStr))),(1002,.rmap 3 1 (rcm cInt_i64 s1.2.1)),(1003,.rmap 3 1 (rcm cInt_i64 s1.2.2))]⟩
def poly_pairs_int_S3 (x0:(List Monomial)) (x1:(List Int)) (i0:Nat) (u1:((List (Str×(List Str)))×(List (Str×(List Int)))×(List (Str×(List Int))))):AS:=⟨28,[(1,dS cInt_i64 x1),(2,.fn 202 [.hptr 1000 0]),(10,dS cMonomial x0),(11,nI x0.length),(12,nI i0)],[(1000,.cells 144 [.amap 1001,.amap 1002,.amap 1003]),(1001,.smap 9 90 (u1.1.map (mapV cL_cStr))),(1002,.rmap 3 1 (rcm cInt_i64 u1.2.1)),(1003,.rmap 3 1 (rcm cInt_i64 u1.2.2))]⟩
theorem poly_pairs_int_c (x0:(List Monomial)) (x1:(List Int)) (x2:(List (Str×(List Str)))) (x3:(List (Str×(List Int)))) (x4:(List (Str×(List Int)))) (r:((List (Str×(List Str)))×(List (Str×(List Int)))×(List (Str×(List Int))))) (H:poly_pairs_int x0 x1 x2 x3 x4=some r):ACall Tryz.prog 201 [dS cMonomial x0,dS cInt_i64 x1,.fn 202 [.hptr 1000 0]] [(1000,.cells 144 [.amap 1001,.amap 1002,.amap 1003]),(1001,.smap 9 90 (x2.map (mapV cL_cStr))),(1002,.rmap 3 1 (rcm cInt_i64 x3)),(1003,.rmap 3 1 (rcm cInt_i64 x4))] (fun r2 h0=>r2=(.tup [])∧h0=[(1000,.cells 144 [.amap 1001,.amap 1002,.amap 1003]),(1001,.smap 9 90 (r.1.map (mapV cL_cStr))),(1002,.rmap 3 1 (rcm cInt_i64 r.2.1)),(1003,.rmap 3 1 (rcm cInt_i64 r.2.2))]):=by
 unfold poly_pairs_int at H
 refine acallX Tryz.func201 28 [] (by kernel_rfl) (by kernel_rfl) ?_
 refine p_at mo 3 [r0 [.v,.e (nI x0.length),.v]] [.only [1,2,10,11,12] [1000,1001,1002,1003]] 3 [] (poly_pairs_int_S1 x0 x1 0 (x2,x3,x4)) (aT (aC (lenm cMonomial x0) aN)) (by kernel_rfl) ?_
 refine bnd H fun R0 h1 H0 => ?_
 refine p_cnt (poly_pairs_int_S1 x0 x1) (by kernel_rfl) h1 (fun i0 s0 h2 e0 => ?_) (fun i0 s0 h3 q0 h4 h5 => ?_)
 ·have c0:=lF i0 x0.length (by omega)
  subst e0
  obtain rfl:=sI (aft_brk H0)
  exact p_ret mo 5 [r0 [.e (.bool false)]] [] [1000,1001,1002,1003] (aB c0 aN) (by kernel_rfl)
 ·have c1:=lT i0 x0.length (by omega)
  refine p_at mo 12 [r0 [.e (.bool true)],r0 [.e (.dptr [iI ((x0.getD i0 ⟨0,[]⟩).Coef),.dslice (((x0.getD i0 ⟨0,[]⟩).Vars).map cStr)]),.v,.m,.m],r0 [.v,.e (nI x1.length),.v]] [.only [1,2,7,10,11,12,16,17,18] [7,1000,1001,1002,1003]] 12 [true] (poly_pairs_int_S2 x0 x1 i0 0 (s0.1,s0.2.1,s0.2.2)) (aB c1 (all_app (ix (f:=cMonomial) (l:=x0) (n:=i0) ⟨0,[]⟩ cMonomial_len (by decide) (by omega)) (aT (aC (lenm cInt_i64 x1) aN)))) (by kernel_rfl) ?_
  refine bnd h4 fun R1 h6 H1 => ?_
  refine p_joinO 2 (poly_pairs_int_S3 x0 x1 i0) R1 (by kernel_rfl) ?_ (fun u0 e1 => ?_)
  ·refine p_cnt (poly_pairs_int_S2 x0 x1 i0) (by kernel_rfl) h6 (fun i1 s1 h7 e2 => ?_) (fun i1 s1 h8 q1 h9 h10 => ?_)
   ·have c2:=lF i1 x1.length (by omega)
    subst e2
    exact p_bar mo 5 [r0 [.e (.bool false)]] [.only [1,2,10,11,12] [1000,1001,1002,1003]] (poly_pairs_int_S3 x0 x1 i0 (s1.1,s1.2.1,s1.2.2)) (aB c2 aN) (by kernel_rfl)
   ·have c3:=lT i1 x1.length (by omega)
    refine bnd h9 fun y0 h11 H2 => ?_
    refine t_lens 1 (ps:=[(x1.map cInt_i64).length≤9223372036854775807]) (by kernel_rfl) (fun l0 => ?_)
    have l1:x1.length≤9223372036854775807:=by simpa only [All,List.length_map] using l0
    clear l0
    obtain rfl:=sI H2
    exact p_bar mo 11 [r0 [.e (.bool true)],r0 [.e (.dptr [iI (x1.getD i1 0)]),.v,.v],r0 [.v,.v,.v,.hR [(1000,1000),(1001,1001),(1002,1002),(1003,1003)] 25 (.tup []) [(1000,.cells 144 [.amap 1001,.amap 1002,.amap 1003]),(1001,.smap 9 90 (y0.1.map (mapV cL_cStr))),(1002,.rmap 3 1 (rcm cInt_i64 y0.2.1)),(1003,.rmap 3 1 (rcm cInt_i64 y0.2.2))]],r0 [.v,.v]] [.only [1,2,7,10,11,12,16,17,18] [7,1000,1001,1002,1003]] (poly_pairs_int_S2 x0 x1 i0 (i1+1) (y0.1,y0.2.1,y0.2.2)) (aB c3 (all_app (ix (f:=cInt_i64) (l:=x1) (n:=i1) 0 cInt_i64_len (by decide) (by omega)) (aC Tryz.call202 (aC (poly_combine_1_c (Monomial.mk ((x0.getD i0 ⟨0,[]⟩).Coef) ((x0.getD i0 ⟨0,[]⟩).Vars)) (x1.getD i1 0) s1.1 s1.2.1 s1.2.2 y0 h11) (aC (pI i1 (by omega)) aN))))) (by kernel_rfl)
  ·subst e1
   have H3:=aftE_brk H1
   refine t_lens 10 (ps:=[(x0.map cMonomial).length≤9223372036854775807]) (by kernel_rfl) (fun l2 => ?_)
   have l3:x0.length≤9223372036854775807:=by simpa only [All,List.length_map] using l2
   clear l2
   obtain rfl:=sI H3
   exact p_bar mo 1 [r0 [.v,.v]] [.only [1,2,10,11,12] [1000,1001,1002,1003]] (poly_pairs_int_S1 x0 x1 (i0+1) (u0.1,u0.2.1,u0.2.2)) (aC (pI i0 (by omega)) aN) (by kernel_rfl)
/-- framewise/poly.combine -/
noncomputable def poly_combine (x0:(List (List Monomial))) (x1:(List Int)):Option ((List Monomial)×Int) :=
 (poly_newSum).bind fun y0 =>
 (cnt (σ:=((List (Str×(List Str)))×(List (Str×(List Int)))×(List (Str×(List Int))))) (ε:=((List (Str×(List Str)))×(List (Str×(List Int)))×(List (Str×(List Int))))) (ρ:=((List Monomial)×Int)) (fun i0 s0 =>
  (poly_Valid (x0.getD i0 [])).bind fun y1 =>
  bif y1 then (
   grd (i0≤(i0+1)∧(i0+1)≤x1.length) <|
   (poly_pairs_int (x0.getD i0 []) ((x1.drop i0).take ((i0+1)-i0)) s0.1 s0.2.1 s0.2.2).bind fun y2 =>
   some (.go (y2.1,y2.2.1,y2.2.2))
  ) else (
   some (.ret ([],1))
  )
 ) (fun i0 s0=>(s0.1,s0.2.1,s0.2.2)) (x0.length-0) 0 (y0.1,y0.2.1,y0.2.2)).bind <| aft fun u0 =>
 (poly_sum_result u0.1 u0.2.1 u0.2.2).bind fun y3 =>
 some (y3.1,y3.2)
def poly_combine_S1 (x0:(List (List Monomial))) (x1:(List Int)) (i0:Nat) (s0:((List (Str×(List Str)))×(List (Str×(List Int)))×(List (Str×(List Int))))):AS:=⟨33,[(1,dS cInt_i64 x1),(4,.eslice),(5,iI 0),(6,.hptr 6 0),(10,dS cL_cMonomial x0),(11,nI x0.length),(12,nI i0)],[(6,.cells 144 [.amap 900,.amap 901,.amap 902]),(900,.smap 9 90 (s0.1.map (mapV cL_cStr))),(901,.rmap 3 1 (rcm cInt_i64 s0.2.1)),(902,.rmap 3 1 (rcm cInt_i64 s0.2.2))]⟩
def poly_combine_S2 (u1:((List (Str×(List Str)))×(List (Str×(List Int)))×(List (Str×(List Int))))):AS:=⟨33,[(4,.eslice),(5,iI 0),(6,.hptr 6 0)],[(6,.cells 144 [.amap 900,.amap 901,.amap 902]),(900,.smap 9 90 (u1.1.map (mapV cL_cStr))),(901,.rmap 3 1 (rcm cInt_i64 u1.2.1)),(902,.rmap 3 1 (rcm cInt_i64 u1.2.2))]⟩
theorem poly_combine_c (x0:(List (List Monomial))) (x1:(List Int)) (r:((List Monomial)×Int)) (H:poly_combine x0 x1=some r):AFn Tryz.prog 125 [dS cL_cMonomial x0,dS cInt_i64 x1] (.tup [dS cMonomial r.1,iI r.2]):=by
 unfold poly_combine at H
 refine acallX Tryz.func125 33 [.tmp 4,.tmp 5] (by kernel_rfl) (by kernel_rfl) ?_
 refine bnd H fun y0 h0 H0 => ?_
 refine p_at mo 8 [r0 [.v,.v],r0 [.hM [] [(1,900),(2,901),(3,902)] (.agg [.amap 1,.amap 2,.amap 3]) [(1,.smap 9 90 (y0.1.map (mapV cL_cStr))),(2,.rmap 3 1 (rcm cInt_i64 y0.2.1)),(3,.rmap 3 1 (rcm cInt_i64 y0.2.2))],.m,.m],r0 [.v,.e (nI x0.length),.v]] [.only [1,4,5,6,10,11,12] [6,900,901,902]] 8 [] (poly_combine_S1 x0 x1 0 (y0.1,y0.2.1,y0.2.2)) (aC Tryz.call131 (aC (poly_newSum_c y0 h0) (aT (aC (lenm cL_cMonomial x0) aN)))) (by kernel_rfl) ?_
 refine bnd H0 fun R0 h1 H1 => ?_
 refine p_joinO 1 (poly_combine_S2) R0 (by kernel_rfl) ?_ (fun u0 e0 => ?_)
 ·refine p_cnt (poly_combine_S1 x0 x1) (by kernel_rfl) h1 (fun i0 s0 h2 e1 => ?_) (fun i0 s0 h3 q0 h4 h5 => ?_)
  ·have c0:=lF i0 x0.length (by omega)
   subst e1
   exact p_bar mo 5 [r0 [.e (.bool false)]] [.only [4,5,6] [6,900,901,902]] (poly_combine_S2 (s0.1,s0.2.1,s0.2.2)) (aB c0 aN) (by kernel_rfl)
  ·have c1:=lT i0 x0.length (by omega)
   refine bnd h4 fun y1 h6 H2 => ?_
   refine bsp H2 (fun c2 H3 => ?_) (fun c3 H4 => ?_)
   ·refine t_lens 10 (ps:=[(x0.map cL_cMonomial).length≤9223372036854775807]) (by kernel_rfl) (fun l0 => ?_)
    have l1:x0.length≤9223372036854775807:=by simpa only [All,List.length_map] using l0
    clear l0
    refine grd_e H3 fun g0 H5 => ?_
    refine bnd H5 fun y2 h7 H6 => ?_
    obtain rfl:=sI H6
    exact p_bar mo 17 [r0 [.e (.bool true)],r0 [.v,.e (.dptr [.dslice ((x0.getD i0 []).map cMonomial)]),.v,.v,.v],r0 [.v,.c true (.bool y1),.v],.eqT 19 (.bool false),r0 [.v,.v,.v,.v,.v,.e (.dslice (((x1.drop i0).take ((i0+1)-i0)).map cInt_i64)),.v,.hR [(6,1000),(900,1001),(901,1002),(902,1003)] 27 (.tup []) [(1000,.cells 144 [.amap 1001,.amap 1002,.amap 1003]),(1001,.smap 9 90 (y2.1.map (mapV cL_cStr))),(1002,.rmap 3 1 (rcm cInt_i64 y2.2.1)),(1003,.rmap 3 1 (rcm cInt_i64 y2.2.2))]],r0 [.v,.v]] [.only [1,4,5,6,10,11,12] [6,900,901,902]] (poly_combine_S1 x0 x1 (i0+1) (y2.1,y2.2.1,y2.2.2)) (aB c1 (all_app (ix (f:=cL_cMonomial) (l:=x0) (n:=i0) [] cL_cMonomial_len (by decide) (by omega)) (aC Tryz.call70 (aF (poly_Valid_c (x0.getD i0 []) y1 h6) (aT (aM c2 (aC (pI i0 (by omega)) (aC (show ((0:Int)≤((i0:Nat):Int)∧((i0:Nat):Int)≤(((i0+1):Nat):Int)∧(((i0+1):Nat):Int)≤((x1.map cInt_i64).length:Int))∧UL 1 (x1.map cInt_i64) from ⟨by first | omega | (simp only [List.length_map];omega),UL.map cInt_i64_len _⟩) (aC (slm_mid cInt_i64 x1 i0 (i0+1)) (aC Tryz.call201 (aC (poly_pairs_int_c (x0.getD i0 []) ((x1.drop i0).take ((i0+1)-i0)) s0.1 s0.2.1 s0.2.2 y2 h7) (aC (pI i0 (by omega)) aN)))))))))))) (by kernel_rfl)
   ·obtain rfl:=sI H4
    obtain rfl:=out_ret h5
    obtain rfl:=sI (aft_ret H1)
    exact p_ret mo 17 [r0 [.e (.bool true)],r0 [.v,.e (.dptr [.dslice ((x0.getD i0 []).map cMonomial)]),.v,.v,.v],r0 [.v,.c true (.bool y1),.v],.eqT 19 (.bool true),r0 [.v,.v]] [.wk 4 []] [] (aB c1 (all_app (ix (f:=cL_cMonomial) (l:=x0) (n:=i0) [] cL_cMonomial_len (by decide) (by omega)) (aC Tryz.call70 (aF (poly_Valid_c (x0.getD i0 []) y1 h6) (aT (aM c3 aN)))))) (by kernel_rfl)
 ·subst e0
  have H7:=aft_brk H1
  refine bnd H7 fun y3 h8 H8 => ?_
  obtain rfl:=sI H8
  exact p_ret mo 3 [r0 [.v,.hR [(900,1000),(901,1001),(902,1002)] 30 (.tup [dS cMonomial y3.1,iI y3.2]) [],.v,.v,.v,.v]] [] [] (aC Tryz.call133 (aC (poly_sum_result_c u0.1 u0.2.1 u0.2.2 y3 h8) aN)) (by kernel_rfl)
/-- framewise/poly.Add -/
noncomputable def poly_Add (x0:(List Monomial)) (x1:(List Monomial)):Option ((List Monomial)×Int) :=
 (poly_combine [x0,x1] [1,1]).bind fun y0 =>
 some (y0.1,y0.2)
theorem poly_Add_c (x0:(List Monomial)) (x1:(List Monomial)) (r:((List Monomial)×Int)) (H:poly_Add x0 x1=some r):AFn Tryz.prog 58 [dS cMonomial x0,dS cMonomial x1] (.tup [dS cMonomial r.1,iI r.2]):=by
 unfold poly_Add at H
 refine acallX Tryz.func58 13 [.tmp 4,.tmp 5] (by kernel_rfl) (by kernel_rfl) ?_
 refine bnd H fun y0 h0 H0 => ?_
 obtain rfl:=sI H0
 exact p_ret mo 5 [r0 [.v,.v],r0 [.v,.v,.b,.b,.c true (.tup [dS cMonomial y0.1,iI y0.2]),.v,.v,.v,.v]] [] [] (aC Tryz.call125 (aF (poly_combine_c [x0,x1] [1,1] y0 h0) aN)) (by kernel_rfl)
/-- framewise/framewiseref04.digit -/
def ref04_digit (x0:UInt8):Option Bool :=
 bif decide (((x0).toNat:Int)≥48) then (
  some (decide (((x0).toNat:Int)≤57))
 ) else (
  some false
 )
theorem ref04_digit_c (x0:UInt8) (r:Bool) (H:ref04_digit x0=some r):AFn Tryz.prog 171 [.int .u8 ((x0).toNat:Int)] (.bool r):=by
 unfold ref04_digit at H
 refine acallX Tryz.func171 9 [.tmp 2] (by kernel_rfl) (by kernel_rfl) ?_
 refine bsp H (fun c0 H0 => ?_) (fun c1 H1 => ?_)
 ·obtain rfl:=sI H0
  exact p_ret mo 5 [r0 [.v],r0 [.v,.e (.bool true),.v,.v,.v,.v,.v]] [] [] (aB c0 aN) (by kernel_rfl)
 ·obtain rfl:=sI H1
  exact p_ret mo 5 [r0 [.v],r0 [.v,.e (.bool false),.v,.s,.s,.v,.v]] [] [] (aB c1 aN) (by kernel_rfl)
/-- framewise/framewiseref04.letter -/
def ref04_letter (x0:UInt8):Option Bool :=
 bif decide (((x0).toNat:Int)≥97) then (
  some (decide (((x0).toNat:Int)≤122))
 ) else (
  some false
 )
theorem ref04_letter_c (x0:UInt8) (r:Bool) (H:ref04_letter x0=some r):AFn Tryz.prog 172 [.int .u8 ((x0).toNat:Int)] (.bool r):=by
 unfold ref04_letter at H
 refine acallX Tryz.func172 9 [.tmp 2] (by kernel_rfl) (by kernel_rfl) ?_
 refine bsp H (fun c0 H0 => ?_) (fun c1 H1 => ?_)
 ·obtain rfl:=sI H0
  exact p_ret mo 5 [r0 [.v],r0 [.v,.e (.bool true),.v,.v,.v,.v,.v]] [] [] (aB c0 aN) (by kernel_rfl)
 ·obtain rfl:=sI H1
  exact p_ret mo 5 [r0 [.v],r0 [.v,.e (.bool false),.v,.s,.s,.v,.v]] [] [] (aB c1 aN) (by kernel_rfl)
/-- framewise/framewiseref04.Name -/
def ref04_Name (x0:Str):Option Bool :=
 bif (((x0.length:Nat):Int)==0) then (
  some false
 ) else (
  bif decide (((x0.length:Nat):Int)>30) then (
   some false
  ) else (
   grd (0<x0.length) <|
   bif (((x0.getD 0 0).toNat:Int)==95) then (
    bif decide (((x0.length:Nat):Int)<2) then (
     some false
    ) else (
     bif decide (((x0.length:Nat):Int)>10) then (
      some false
     ) else (
      grd (1<x0.length) <|
      bif (((x0.getD 1 0).toNat:Int)==48) then (
       some false
      ) else (
       (cnt (σ:=Unit) (ε:=Unit) (ρ:=Bool) (fun i0 s0 =>
        (ref04_digit (x0.getD i0 0)).bind fun y0 =>
        bif y0 then (
         some (.go ())
        ) else (
         some (.ret false)
        )
       ) (fun i0 s0=>()) (x0.length-1) 1 ()).bind <| aft fun u0 =>
       some true
      )
     )
    )
   ) else (
    (cnt (σ:=Unit) (ε:=Unit) (ρ:=Bool) (fun i1 s1 =>
     (ref04_letter (x0.getD i1 0)).bind fun y1 =>
     ((
      bif y1 then (
       some (.brk ())
      ) else (
       bif (((i1:Nat):Int)==0) then (
        some (.ret (.ret false))
       ) else (
        (ref04_digit (x0.getD i1 0)).bind fun y2 =>
        bif y2 then (
         some (.brk ())
        ) else (
         some (.ret (.ret false))
        )
       )
      )
     ):Option (Out Unit (Stp Unit Unit Bool))).bind (aft fun u1 =>
      some (.go ())
     )
    ) (fun i1 s1=>()) (x0.length-0) 0 ()).bind <| aft fun u2 =>
    some true
   )
  )
 )
def ref04_Name_S1 (x0:Str) (i0:Nat) (s0:Unit):AS:=⟨62,[(0,.str x0),(2,.bool false),(3,nI i0)],[]⟩
def ref04_Name_S2 (x0:Str) (u3:Unit):AS:=⟨62,[(0,.str x0),(2,.bool false)],[]⟩
def ref04_Name_S3 (x0:Str) (i1:Nat) (s1:Unit):AS:=⟨62,[(0,.str x0),(2,.bool false),(4,nI i1)],[]⟩
def ref04_Name_S4 (u4:Unit):AS:=⟨62,[(2,.bool false)],[]⟩
def ref04_Name_S5 (x0:Str) (i1:Nat) (u1:Unit):AS:=⟨62,[(0,.str x0),(2,.bool false),(4,nI i1)],[]⟩
theorem ref04_Name_c (x0:Str) (r:Bool) (H:ref04_Name x0=some r):AFn Tryz.prog 100 [.str x0] (.bool r):=by
 unfold ref04_Name at H
 refine acallX Tryz.func100 62 [.tmp 2] (by kernel_rfl) (by kernel_rfl) ?_
 refine bsp H (fun c0 H0 => ?_) (fun c1 H1 => ?_)
 ·obtain rfl:=sI H0
  exact p_ret mo 9 [r0 [.v],r0 [.v,.v,.e (.bool true),.v,.s,.s,.s,.v],r0 [.v]] [] [] (aT (aB c0 aN)) (by kernel_rfl)
 ·refine bsp H1 (fun c2 H2 => ?_) (fun c3 H3 => ?_)
  ·obtain rfl:=sI H2
   exact p_ret mo 10 [r0 [.v],r0 [.v,.v,.e (.bool false),.v,.v,.v,.v,.v],.eqT 12 (.bool true),r0 [.v]] [] [] (aT (aB c1 (aT (aB c2 aN)))) (by kernel_rfl)
  ·have c3p:=of_decide_eq_false c3
   refine grd_e H3 fun g0 H4 => ?_
   refine bsp H4 (fun c4 H5 => ?_) (fun c5 H6 => ?_)
   ·refine bsp H5 (fun c6 H7 => ?_) (fun c7 H8 => ?_)
    ·have c6p:=of_decide_eq_true c6
     obtain rfl:=sI H7
     exact p_ret mo 20 [r0 [.v],r0 [.v,.v,.e (.bool false),.v,.v,.v,.v,.v],.eqT 12 (.bool false),r0 [.v,.v,.v],.eqT 15 (.bool true),r0 [.v,.v,.e (.bool true),.v,.s,.s,.s,.v,.v,.s,.s,.s,.v],r0 [.v]] [] [] (aT (aB c1 (aT (aB c3 (aC (show (0:Int)≤0∧0<(x0.length:Int) from by omega) (aB c4 (aT (aB c6 aN)))))))) (by kernel_rfl)
    ·have c7p:=of_decide_eq_false c7
     refine bsp H8 (fun c8 H9 => ?_) (fun c9 H10 => ?_)
     ·have c8p:=of_decide_eq_true c8
      obtain rfl:=sI H9
      exact p_ret mo 20 [r0 [.v],r0 [.v,.v,.e (.bool false),.v,.v,.v,.v,.v],.eqT 12 (.bool false),r0 [.v,.v,.v],.eqT 15 (.bool true),r0 [.v,.v,.e (.bool false),.v,.v,.v,.e (.bool true),.v,.v,.s,.s,.s,.v],r0 [.v]] [] [] (aT (aB c1 (aT (aB c3 (aC (show (0:Int)≤0∧0<(x0.length:Int) from by omega) (aB c4 (aT (aB c7 (aT (aB c8 aN)))))))))) (by kernel_rfl)
     ·have c9p:=of_decide_eq_false c9
      refine grd_e H10 fun g1 H11 => ?_
      refine p_at mo 16 [r0 [.v],r0 [.v,.v,.e (.bool false),.v,.v,.v,.v,.v],.eqT 12 (.bool false),r0 [.v,.v,.v],.eqT 15 (.bool true),r0 [.v,.v,.e (.bool false),.v,.v,.v,.e (.bool false),.v,.v,.v,.v,.v,.v]] [.only [0,2,28] []] 14 [false,true] ⟨62,[(0,.str x0),(2,.bool false),(28,.bool (((x0.getD 1 0).toNat:Int)==48))],[]⟩ (aT (aB c1 (aT (aB c3 (aC (show (0:Int)≤0∧0<(x0.length:Int) from by omega) (aB c4 (aT (aB c7 (aT (aB c9 (aC (show (0:Int)≤1∧1<(x0.length:Int) from by omega) aN))))))))))) (by kernel_rfl) ?_
      refine bsp H11 (fun c10 H12 => ?_) (fun c11 H13 => ?_)
      ·obtain rfl:=sI H12
       exact p_ret mo 5 [.eqT 28 (.bool true),r0 [.v]] [] [] (aB c10 aN) (by kernel_rfl)
      ·refine p_at mo 7 [.eqT 28 (.bool false),.rg 0 [] [.v]] [.only [0,2,3] []] 6 [false] (ref04_Name_S1 x0 1 ()) (aB c11 aN) (by kernel_rfl) ?_
       refine bnd H13 fun R0 h0 H14 => ?_
       refine p_joinO 1 (ref04_Name_S2 x0) R0 (by kernel_rfl) ?_ (fun u0 e0 => ?_)
       ·refine p_cnt (ref04_Name_S1 x0) (by kernel_rfl) h0 (fun i0 s0 h1 e1 => ?_) (fun i0 s0 h2 q0 h3 h4 => ?_)
        ·have c12:=lF i0 x0.length (by omega)
         subst e1
         exact p_bar mo 5 [r0 [.v,.v,.v,.e (.bool false)]] [.only [0,2] []] (ref04_Name_S2 x0 ()) (aT (aB c12 aN)) (by kernel_rfl)
        ·have c13:=lT i0 x0.length (by omega)
         refine bnd h3 fun y0 h5 H15 => ?_
         refine bsp H15 (fun c14 H16 => ?_) (fun c15 H17 => ?_)
         ·refine t_lens 0 (ps:=[x0.length≤9223372036854775807]) (by kernel_rfl) (fun l0 => ?_)
          have l1:x0.length≤9223372036854775807:=by simpa only [All,List.length_map] using l0
          clear l0
          obtain rfl:=sI H16
          exact p_bar mo 13 [r0 [.v,.v,.v,.e (.bool true)],r0 [.v,.v,.v,.c true (.bool y0),.v],.eqT 39 (.bool false),r0 [.v,.v,.v]] [.only [0,2,3] []] (ref04_Name_S1 x0 (i0+1) ()) (aT (aB c13 (aC (show (0:Int)≤((i0:Nat):Int)∧((i0:Nat):Int)<(x0.length:Int) from by omega) (aC Tryz.call171 (aF (ref04_digit_c (x0.getD i0 0) y0 h5) (aT (aM c14 (aC (pI i0 (by omega)) aN)))))))) (by kernel_rfl)
         ·obtain rfl:=sI H17
          obtain rfl:=out_ret h4
          obtain rfl:=sI (aft_ret H14)
          exact p_ret mo 14 [r0 [.v,.v,.v,.e (.bool true)],r0 [.v,.v,.v,.c true (.bool y0),.v],.eqT 39 (.bool true),r0 [.v]] [] [] (aT (aB c13 (aC (show (0:Int)≤((i0:Nat):Int)∧((i0:Nat):Int)<(x0.length:Int) from by omega) (aC Tryz.call171 (aF (ref04_digit_c (x0.getD i0 0) y0 h5) (aT (aM c15 aN))))))) (by kernel_rfl)
       ·subst e0
        have H18:=aft_brk H14
        obtain rfl:=sI H18
        exact p_ret mo 3 [r0 [.v]] [] [] aN (by kernel_rfl)
   ·refine p_at mo 18 [.rg 0 [] [.v],.rg 0 [] [.v,.v,.e (.bool false),.v,.v,.v,.v,.v],.eqT 12 (.bool false),.rg 0 [] [.v,.v,.v],.eqT 15 (.bool false),.rg 0 [] [.v]] [.only [0,2,4] []] 16 [false,false] (ref04_Name_S3 x0 0 ()) (aT (aB c1 (aT (aB c3 (aC (show (0:Int)≤0∧0<(x0.length:Int) from by omega) (aB c5 aN)))))) (by kernel_rfl) ?_
    refine bnd H6 fun R1 h6 H19 => ?_
    refine p_joinO 1 (ref04_Name_S4) R1 (by kernel_rfl) ?_ (fun u2 e2 => ?_)
    ·refine p_cnt (ref04_Name_S3 x0) (by kernel_rfl) h6 (fun i1 s1 h7 e3 => ?_) (fun i1 s1 h8 q1 h9 h10 => ?_)
     ·have c16:=lF i1 x0.length (by omega)
      subst e3
      exact p_bar mo 5 [r0 [.v,.v,.v,.e (.bool false)]] [.only [2] []] (ref04_Name_S4 ()) (aT (aB c16 aN)) (by kernel_rfl)
     ·have c17:=lT i1 x0.length (by omega)
      refine bnd h9 fun y1 h11 H20 => ?_
      refine p_at mo 8 [r0 [.v,.v,.v,.e (.bool true)]] [.only [0,2,4] []] 8 [true] ⟨62,[(0,.str x0),(2,.bool false),(4,nI i1)],[]⟩ (aT (aB c17 aN)) (by kernel_rfl) ?_
      refine bnd H20 fun v0 h12 H21 => ?_
      refine p_joinO 2 (ref04_Name_S5 x0 i1) v0 (by kernel_rfl) ?_ (fun u1 e4 => ?_)
      ·refine bsp h12 (fun c18 H22 => ?_) (fun c19 H23 => ?_)
       ·obtain rfl:=sI H22
        exact p_bar mo 3 [r0 [.v,.v,.v,.c true (.bool true),.v,.v,.s,.s,.s,.s,.s,.s,.s,.s,.s,.v]] [.only [0,2,4] []] (ref04_Name_S5 x0 i1 ()) (aC (show (0:Int)≤((i1:Nat):Int)∧((i1:Nat):Int)<(x0.length:Int) from by omega) (aC Tryz.call172 (aC (AFn.eq (ref04_letter_c (x0.getD i1 0) y1 h11) (cB c18)) (aT aN)))) (by kernel_rfl)
       ·refine bsp H23 (fun c20 H24 => ?_) (fun c21 H25 => ?_)
        ·obtain rfl:=sI H24
         obtain rfl:=sI (aft_ret H21)
         obtain rfl:=out_ret h10
         obtain rfl:=sI (aft_ret H19)
         exact p_ret mo 5 [r0 [.v,.v,.v,.c true (.bool false),.v,.v,.v,.e (.bool true),.v,.s,.s,.s,.s,.s,.v,.v],r0 [.v]] [] [] (aC (show (0:Int)≤((i1:Nat):Int)∧((i1:Nat):Int)<(x0.length:Int) from by omega) (aC Tryz.call172 (aC (AFn.eq (ref04_letter_c (x0.getD i1 0) y1 h11) (cB c19)) (aT (aB c20 aN))))) (by kernel_rfl)
        ·refine bnd H25 fun y2 h13 H26 => ?_
         refine p_at mo 1 [r0 [.v,.v,.v,.c true (.bool false),.v,.v,.v,.e (.bool false),.v,.v,.v,.v,.c true (.bool y2),.v,.v,.v]] [.only [0,2,4,61] []] 1 [] ⟨62,[(0,.str x0),(2,.bool false),(4,nI i1),(61,.bool (!y2))],[]⟩ (aC (show (0:Int)≤((i1:Nat):Int)∧((i1:Nat):Int)<(x0.length:Int) from by omega) (aC Tryz.call172 (aC (AFn.eq (ref04_letter_c (x0.getD i1 0) y1 h11) (cB c19)) (aT (aB c21 (aC (show (0:Int)≤((i1:Nat):Int)∧((i1:Nat):Int)<(x0.length:Int) from by omega) (aC Tryz.call171 (aF (ref04_digit_c (x0.getD i1 0) y2 h13) (aT aN))))))))) (by kernel_rfl) ?_
         refine bsp H26 (fun c22 H27 => ?_) (fun c23 H28 => ?_)
         ·obtain rfl:=sI H27
          exact p_bar mo 3 [.eqT 61 (.bool false)] [.only [0,2,4] []] (ref04_Name_S5 x0 i1 ()) (aM c22 aN) (by kernel_rfl)
         ·obtain rfl:=sI H28
          obtain rfl:=sI (aft_ret H21)
          obtain rfl:=out_ret h10
          obtain rfl:=sI (aft_ret H19)
          exact p_ret mo 5 [.eqT 61 (.bool true),r0 [.v]] [] [] (aM c23 aN) (by kernel_rfl)
      ·subst e4
       have H29:=aft_brk H21
       refine t_lens 0 (ps:=[x0.length≤9223372036854775807]) (by kernel_rfl) (fun l2 => ?_)
       have l3:x0.length≤9223372036854775807:=by simpa only [All,List.length_map] using l2
       clear l2
       obtain rfl:=sI H29
       exact p_bar mo 1 [r0 [.v,.v,.v]] [.only [0,2,4] []] (ref04_Name_S3 x0 (i1+1) ()) (aC (pI i1 (by omega)) aN) (by kernel_rfl)
    ·subst e2
     have H30:=aft_brk H19
     obtain rfl:=sI H30
     exact p_ret mo 3 [r0 [.v]] [] [] aN (by kernel_rfl)
/-- framewise/framewiseref05.order -/
def ref05_order (x0:(List Str)) (x1:(List Str)):Option Int :=
 (cnt (σ:=Unit) (ε:=Unit) (ρ:=Int) (fun i0 s0 =>
  bif decide (((i0:Nat):Int)<((x1.length:Nat):Int)) then (
   bif (Op.bytesLess (x0.getD i0 []) (x1.getD i0 [])) then (
    some (.ret (-1))
   ) else (
    bif (Op.bytesLess (x0.getD i0 []) (x1.getD i0 [])||(x0.getD i0 [])==(x1.getD i0 [])) then (
     some (.go ())
    ) else (
     some (.ret 1)
    )
   )
  ) else (
   some (.brk ())
  )
 ) (fun i0 s0=>()) (x0.length-0) 0 ()).bind <| aft fun u0 =>
 some (w64 (((x0.length:Nat):Int)-((x1.length:Nat):Int)))
def ref05_order_S1 (x0:(List Str)) (x1:(List Str)) (i0:Nat) (s0:Unit):AS:=⟨41,[(0,dS cStr x0),(1,dS cStr x1),(4,iI 0),(5,nI i0)],[]⟩
def ref05_order_S2 (x0:(List Str)) (x1:(List Str)) (u1:Unit):AS:=⟨41,[(0,dS cStr x0),(1,dS cStr x1),(4,iI 0)],[]⟩
theorem ref05_order_c (x0:(List Str)) (x1:(List Str)) (r:Int) (H:ref05_order x0 x1=some r):AFn Tryz.prog 122 [dS cStr x0,dS cStr x1] (iI r):=by
 unfold ref05_order at H
 refine acallX Tryz.func122 41 [.tmp 4] (by kernel_rfl) (by kernel_rfl) ?_
 refine p_at mo 6 [r0 [.v],r0 [.v]] [.only [0,1,4,5] []] 6 [] (ref05_order_S1 x0 x1 0 ()) aN (by kernel_rfl) ?_
 refine bnd H fun R0 h0 H0 => ?_
 refine p_joinO 1 (ref05_order_S2 x0 x1) R0 (by kernel_rfl) ?_ (fun u0 e0 => ?_)
 ·refine p_cnt (ref05_order_S1 x0 x1) (by kernel_rfl) h0 (fun i0 s0 h1 e1 => ?_) (fun i0 s0 h2 q0 h3 h4 => ?_)
  ·have c0:=lF i0 x0.length (by omega)
   subst e1
   exact p_bar mo 5 [r0 [.v,.v,.e (nI x0.length),.e (.bool false),.v,.s,.s,.s,.s,.v]] [.only [0,1,4] []] (ref05_order_S2 x0 x1 ()) (aT (aC (lenm cStr x0) (aB c0 aN))) (by kernel_rfl)
  ·have c1:=lT i0 x0.length (by omega)
   refine bsp h3 (fun c2 H1 => ?_) (fun c3 H2 => ?_)
   ·have c2p:=of_decide_eq_true c2
    refine p_at mo 11 [r0 [.v,.v,.e (nI x0.length),.e (.bool true),.v,.v,.v,.e (nI x1.length),.v,.v],.eqT 15 (.bool true),.rg 8 [.v,.v,.e (.dptr [.str (x0.getD i0 [])]),.v,.v,.v,.e (.dptr [.str (x1.getD i0 [])]),.v] [.v]] [.only [0,1,4,5,26] []] 10 [true] ⟨41,[(0,dS cStr x0),(1,dS cStr x1),(4,iI 0),(5,nI i0),(26,.bool (Op.bytesLess (x0.getD i0 []) (x1.getD i0 [])))],[]⟩ (aT (aC (lenm cStr x0) (aB c1 (aT (aC (lenm cStr x1) (aB c2 (all_app (ix (f:=cStr) (l:=x0) (n:=i0) [] cStr_len (by decide) (by omega)) (all_app (ix (f:=cStr) (l:=x1) (n:=i0) [] cStr_len (by decide) (by omega)) aN)))))))) (by kernel_rfl) ?_
    refine bsp H1 (fun c4 H3 => ?_) (fun c5 H4 => ?_)
    ·obtain rfl:=sI H3
     obtain rfl:=out_ret h4
     obtain rfl:=sI (aft_ret H0)
     exact p_ret mo 5 [.eqT 26 (.bool true),r0 [.v]] [] [] (aB c4 aN) (by kernel_rfl)
    ·refine bsp H4 (fun c6 H5 => ?_) (fun c7 H6 => ?_)
     ·refine t_lens 0 (ps:=[(x0.map cStr).length≤9223372036854775807]) (by kernel_rfl) (fun l0 => ?_)
      have l1:x0.length≤9223372036854775807:=by simpa only [All,List.length_map] using l0
      clear l0
      obtain rfl:=sI H5
      exact p_bar mo 9 [.eqT 26 (.bool false),.rg 8 [.v,.v,.e (.dptr [.str (x0.getD i0 [])]),.v,.v,.v,.e (.dptr [.str (x1.getD i0 [])]),.v] [.v],.eqT 35 (.bool false),r0 [.v,.v,.v]] [.only [0,1,4,5] []] (ref05_order_S1 x0 x1 (i0+1) ()) (aB c5 (all_app (ix (f:=cStr) (l:=x0) (n:=i0) [] cStr_len (by decide) (by omega)) (all_app (ix (f:=cStr) (l:=x1) (n:=i0) [] cStr_len (by decide) (by omega)) (aM c6 (aC (pI i0 (by omega)) aN))))) (by kernel_rfl)
     ·obtain rfl:=sI H6
      obtain rfl:=out_ret h4
      obtain rfl:=sI (aft_ret H0)
      exact p_ret mo 10 [.eqT 26 (.bool false),.rg 8 [.v,.v,.e (.dptr [.str (x0.getD i0 [])]),.v,.v,.v,.e (.dptr [.str (x1.getD i0 [])]),.v] [.v],.eqT 35 (.bool true),r0 [.v]] [] [] (aB c5 (all_app (ix (f:=cStr) (l:=x0) (n:=i0) [] cStr_len (by decide) (by omega)) (all_app (ix (f:=cStr) (l:=x1) (n:=i0) [] cStr_len (by decide) (by omega)) (aM c7 aN)))) (by kernel_rfl)
   ·obtain rfl:=sI H2
    obtain rfl:=out_brk h4
    exact p_bar mo 6 [r0 [.v,.v,.e (nI x0.length),.e (.bool true),.v,.v,.v,.e (nI x1.length),.v,.v],.eqT 15 (.bool false)] [.only [0,1,4] []] (ref05_order_S2 x0 x1 ()) (aT (aC (lenm cStr x0) (aB c1 (aT (aC (lenm cStr x1) (aB c3 aN)))))) (by kernel_rfl)
 ·subst e0
  have H7:=aft_brk H0
  obtain rfl:=sI H7
  exact p_ret mo 3 [r0 [.v,.e (nI x0.length),.v,.e (nI x1.length),.w,.v]] [] [] (aT (aC (lenm cStr x0) (aT (aC (lenm cStr x1) aN)))) (by kernel_rfl)
/-- framewise/framewiseref05.Valid -/
def ref05_Valid (x0:(List Monomial)):Option Bool :=
 bif decide (((x0.length:Nat):Int)>60) then (
  some false
 ) else (
  (cnt (σ:=Unit) (ε:=Unit) (ρ:=Bool) (fun i0 s0 =>
   ((
    bif (((x0.getD i0 ⟨0,[]⟩).Coef)==0) then (
     some (.ret (.ret false))
    ) else (
     bif decide (((x0.getD i0 ⟨0,[]⟩).Coef)<(-1099511627776)) then (
      some (.ret (.ret false))
     ) else (
      bif decide (((x0.getD i0 ⟨0,[]⟩).Coef)>1099511627776) then (
       some (.ret (.ret false))
      ) else (
       bif decide (((((x0.getD i0 ⟨0,[]⟩).Vars).length:Nat):Int)>8) then (
        some (.ret (.ret false))
       ) else (
        bif decide (((i0:Nat):Int)>0) then (
         grd (0≤(w64 (((i0:Nat):Int)-1))∧(w64 (((i0:Nat):Int)-1))<(x0.length:Int)) <|
         (ref05_order ((x0.getD (w64 (((i0:Nat):Int)-1)).toNat ⟨0,[]⟩).Vars) ((x0.getD i0 ⟨0,[]⟩).Vars)).bind fun y0 =>
         bif decide (y0≥0) then (
          some (.ret (.ret false))
         ) else (
          some (.brk ())
         )
        ) else (
         some (.brk ())
        )
       )
      )
     )
    )
   ):Option (Out Unit (Stp Unit Unit Bool))).bind (aft fun u0 =>
    (cnt (σ:=Unit) (ε:=Unit) (ρ:=(Stp Unit Unit Bool)) (fun i1 s1 =>
     (ref04_Name (((x0.getD i0 ⟨0,[]⟩).Vars).getD i1 [])).bind fun y1 =>
     ((
      bif y1 then (
       bif decide (((i1:Nat):Int)>0) then (
        grd (0≤(w64 (((i1:Nat):Int)-1))∧(w64 (((i1:Nat):Int)-1))<(((x0.getD i0 ⟨0,[]⟩).Vars).length:Int)) <|
        bif (Op.bytesLess (((x0.getD i0 ⟨0,[]⟩).Vars).getD (w64 (((i1:Nat):Int)-1)).toNat []) (((x0.getD i0 ⟨0,[]⟩).Vars).getD i1 [])||(((x0.getD i0 ⟨0,[]⟩).Vars).getD (w64 (((i1:Nat):Int)-1)).toNat [])==(((x0.getD i0 ⟨0,[]⟩).Vars).getD i1 [])) then (
         some (.brk ())
        ) else (
         some (.ret (.ret (.ret false)))
        )
       ) else (
        some (.brk ())
       )
      ) else (
       some (.ret (.ret (.ret false)))
      )
     ):Option (Out Unit (Stp Unit Unit (Stp Unit Unit Bool)))).bind (aft fun u1 =>
      some (.go ())
     )
    ) (fun i1 s1=>()) (((x0.getD i0 ⟨0,[]⟩).Vars).length-0) 0 ()).bind <| aft fun u2 =>
    some (.go ())
   )
  ) (fun i0 s0=>()) (x0.length-0) 0 ()).bind <| aft fun u3 =>
  some true
 )
def ref05_Valid_S1 (x0:(List Monomial)) (i0:Nat) (s0:Unit):AS:=⟨86,[(0,dS cMonomial x0),(2,.bool false),(3,nI i0)],[]⟩
def ref05_Valid_S2 (u4:Unit):AS:=⟨86,[(2,.bool false)],[]⟩
def ref05_Valid_S3 (x0:(List Monomial)) (i0:Nat) (u0:Unit):AS:=⟨86,[(0,dS cMonomial x0),(2,.bool false),(3,nI i0),(4,.hptr 4 0)],[(4,.cells 118 [iI ((x0.getD i0 ⟨0,[]⟩).Coef),.dslice (((x0.getD i0 ⟨0,[]⟩).Vars).map cStr)])]⟩
def ref05_Valid_S4 (x0:(List Monomial)) (i0:Nat) (i1:Nat) (s1:Unit):AS:=⟨86,[(0,dS cMonomial x0),(2,.bool false),(3,nI i0),(4,.hptr 4 0),(5,nI i1)],[(4,.cells 118 [iI ((x0.getD i0 ⟨0,[]⟩).Coef),.dslice (((x0.getD i0 ⟨0,[]⟩).Vars).map cStr)])]⟩
def ref05_Valid_S5 (x0:(List Monomial)) (i0:Nat) (u5:Unit):AS:=⟨86,[(0,dS cMonomial x0),(2,.bool false),(3,nI i0)],[]⟩
def ref05_Valid_S6 (x0:(List Monomial)) (i0:Nat) (i1:Nat) (u1:Unit):AS:=⟨86,[(0,dS cMonomial x0),(2,.bool false),(3,nI i0),(4,.hptr 4 0),(5,nI i1)],[(4,.cells 118 [iI ((x0.getD i0 ⟨0,[]⟩).Coef),.dslice (((x0.getD i0 ⟨0,[]⟩).Vars).map cStr)])]⟩
theorem ref05_Valid_c (x0:(List Monomial)) (r:Bool) (H:ref05_Valid x0=some r):AFn Tryz.prog 52 [dS cMonomial x0] (.bool r):=by
 unfold ref05_Valid at H
 refine acallX Tryz.func52 86 [.tmp 2] (by kernel_rfl) (by kernel_rfl) ?_
 refine bsp H (fun c0 H0 => ?_) (fun c1 H1 => ?_)
 ·obtain rfl:=sI H0
  exact p_ret mo 10 [r0 [.v],r0 [.v,.e (nI x0.length),.v],.eqT 8 (.bool true),r0 [.v]] [] [] (aT (aC (lenm cMonomial x0) (aB c0 aN))) (by kernel_rfl)
 ·have c1p:=of_decide_eq_false c1
  refine p_at mo 12 [r0 [.v],r0 [.v,.e (nI x0.length),.v],.eqT 8 (.bool false),r0 [.v]] [.only [0,2,3] []] 11 [false] (ref05_Valid_S1 x0 0 ()) (aT (aC (lenm cMonomial x0) (aB c1 aN))) (by kernel_rfl) ?_
  refine bnd H1 fun R0 h0 H2 => ?_
  refine p_joinO 1 (ref05_Valid_S2) R0 (by kernel_rfl) ?_ (fun u3 e0 => ?_)
  ·refine p_cnt (ref05_Valid_S1 x0) (by kernel_rfl) h0 (fun i0 s0 h1 e1 => ?_) (fun i0 s0 h2 q0 h3 h4 => ?_)
   ·have c2:=lF i0 x0.length (by omega)
    subst e1
    exact p_bar mo 5 [r0 [.v,.v,.e (nI x0.length),.e (.bool false)]] [.only [2] []] (ref05_Valid_S2 ()) (aT (aC (lenm cMonomial x0) (aB c2 aN))) (by kernel_rfl)
   ·have c3:=lT i0 x0.length (by omega)
    refine p_at mo 11 [r0 [.v,.v,.e (nI x0.length),.e (.bool true)],r0 [.v,.v,.e (.dptr [iI ((x0.getD i0 ⟨0,[]⟩).Coef),.dslice (((x0.getD i0 ⟨0,[]⟩).Vars).map cStr)]),.v,.m,.m]] [.only [0,2,3,4] [4]] 11 [true] ⟨86,[(0,dS cMonomial x0),(2,.bool false),(3,nI i0),(4,.hptr 4 0)],[(4,.cells 118 [iI ((x0.getD i0 ⟨0,[]⟩).Coef),.dslice (((x0.getD i0 ⟨0,[]⟩).Vars).map cStr)])]⟩ (aT (aC (lenm cMonomial x0) (aB c3 (all_app (ix (f:=cMonomial) (l:=x0) (n:=i0) ⟨0,[]⟩ cMonomial_len (by decide) (by omega)) aN)))) (by kernel_rfl) ?_
    refine bnd h3 fun v0 h5 H3 => ?_
    refine p_joinO 1 (ref05_Valid_S3 x0 i0) v0 (by kernel_rfl) ?_ (fun u0 e2 => ?_)
    ·refine bsp h5 (fun c4 H4 => ?_) (fun c5 H5 => ?_)
     ·obtain rfl:=sI H4
      obtain rfl:=sI (aft_ret H3)
      obtain rfl:=out_ret h4
      obtain rfl:=sI (aft_ret H2)
      exact p_ret mo 5 [.rg 31 [.v,.v,.e (.bool true),.v,.s,.s,.s,.v,.v,.s,.s,.s,.v,.v,.s,.s,.s,.s,.v,.v,.s,.s,.s,.s,.s,.s,.s,.s,.s,.s,.s] [.s,.s,.s,.v],r0 [.v]] [] [] (aB c4 aN) (by kernel_rfl)
     ·refine bsp H5 (fun c6 H6 => ?_) (fun c7 H7 => ?_)
      ·obtain rfl:=sI H6
       obtain rfl:=sI (aft_ret H3)
       obtain rfl:=out_ret h4
       obtain rfl:=sI (aft_ret H2)
       exact p_ret mo 5 [.rg 31 [.v,.v,.e (.bool false),.v,.v,.v,.e (.bool true),.v,.v,.s,.s,.s,.v,.v,.s,.s,.s,.s,.v,.v,.s,.s,.s,.s,.s,.s,.s,.s,.s,.s,.s] [.s,.s,.s,.v],r0 [.v]] [] [] (aB c5 (aB c6 aN)) (by kernel_rfl)
      ·refine bsp H7 (fun c8 H8 => ?_) (fun c9 H9 => ?_)
       ·obtain rfl:=sI H8
        obtain rfl:=sI (aft_ret H3)
        obtain rfl:=out_ret h4
        obtain rfl:=sI (aft_ret H2)
        exact p_ret mo 5 [.rg 31 [.v,.v,.e (.bool false),.v,.v,.v,.e (.bool false),.v,.v,.v,.v,.e (.bool true),.v,.v,.s,.s,.s,.s,.v,.v,.s,.s,.s,.s,.s,.s,.s,.s,.s,.s,.s] [.s,.s,.s,.v],r0 [.v]] [] [] (aB c5 (aB c7 (aB c8 aN))) (by kernel_rfl)
       ·refine bsp H9 (fun c10 H10 => ?_) (fun c11 H11 => ?_)
        ·obtain rfl:=sI H10
         obtain rfl:=sI (aft_ret H3)
         obtain rfl:=out_ret h4
         obtain rfl:=sI (aft_ret H2)
         exact p_ret mo 5 [.rg 31 [.v,.v,.e (.bool false),.v,.v,.v,.e (.bool false),.v,.v,.v,.v,.e (.bool false),.v,.v,.v,.v,.e (iI ((((x0.getD i0 ⟨0,[]⟩).Vars).length:Nat):Int)),.e (.bool true),.v,.v,.s,.s,.s,.s,.s,.s,.s,.s,.s,.s,.s] [.s,.s,.s,.v],r0 [.v]] [] [] (aB c5 (aB c7 (aB c9 (aT (aC (lenm cStr ((x0.getD i0 ⟨0,[]⟩).Vars)) (aB c10 aN)))))) (by kernel_rfl)
        ·refine bsp H11 (fun c12 H12 => ?_) (fun c13 H13 => ?_)
         ·refine grd_e H12 fun g0 H14 => ?_
          refine bnd H14 fun y0 h6 H15 => ?_
          refine p_at mo 1 [.rg 31 [.v,.v,.e (.bool false),.v,.v,.v,.e (.bool false),.v,.v,.v,.v,.e (.bool false),.v,.v,.v,.v,.e (iI ((((x0.getD i0 ⟨0,[]⟩).Vars).length:Nat):Int)),.e (.bool false),.v,.v,.v,.e (.bool true),.v,.v,.v,.w,.e (.dptr [iI ((x0.getD (w64 (((i0:Nat):Int)-1)).toNat ⟨0,[]⟩).Coef),.dslice (((x0.getD (w64 (((i0:Nat):Int)-1)).toNat ⟨0,[]⟩).Vars).map cStr)]),.v,.v,.v,.v] [.c true (iI y0),.v,.v,.v]] [.only [0,2,3,4,53] [4]] 1 [] ⟨86,[(0,dS cMonomial x0),(2,.bool false),(3,nI i0),(4,.hptr 4 0),(53,.bool (decide (y0≥0)))],[(4,.cells 118 [iI ((x0.getD i0 ⟨0,[]⟩).Coef),.dslice (((x0.getD i0 ⟨0,[]⟩).Vars).map cStr)])]⟩ (aB c5 (aB c7 (aB c9 (aT (aC (lenm cStr ((x0.getD i0 ⟨0,[]⟩).Vars)) (aB c11 (aB c12 (all_app (ixz (f:=cMonomial) (l:=x0) (n:=(w64 (((i0:Nat):Int)-1))) ⟨0,[]⟩ cMonomial_len (by decide) (by exact g0)) (aC Tryz.call122 (aF (ref05_order_c ((x0.getD (w64 (((i0:Nat):Int)-1)).toNat ⟨0,[]⟩).Vars) ((x0.getD i0 ⟨0,[]⟩).Vars) y0 h6) aN)))))))))) (by kernel_rfl) ?_
          refine bsp H15 (fun c14 H16 => ?_) (fun c15 H17 => ?_)
          ·obtain rfl:=sI H16
           obtain rfl:=sI (aft_ret H3)
           obtain rfl:=out_ret h4
           obtain rfl:=sI (aft_ret H2)
           exact p_ret mo 5 [.eqT 53 (.bool true),r0 [.v]] [] [] (aB c14 aN) (by kernel_rfl)
          ·obtain rfl:=sI H17
           exact p_bar mo 3 [.eqT 53 (.bool false)] [.only [0,2,3,4] [4]] (ref05_Valid_S3 x0 i0 ()) (aB c15 aN) (by kernel_rfl)
         ·obtain rfl:=sI H13
          exact p_bar mo 3 [.rg 31 [.v,.v,.e (.bool false),.v,.v,.v,.e (.bool false),.v,.v,.v,.v,.e (.bool false),.v,.v,.v,.v,.e (iI ((((x0.getD i0 ⟨0,[]⟩).Vars).length:Nat):Int)),.e (.bool false),.v,.v,.v,.e (.bool false),.v,.s,.s,.s,.s,.s,.s,.s,.s] [.s,.s,.v,.v]] [.only [0,2,3,4] [4]] (ref05_Valid_S3 x0 i0 ()) (aB c5 (aB c7 (aB c9 (aT (aC (lenm cStr ((x0.getD i0 ⟨0,[]⟩).Vars)) (aB c11 (aB c13 aN))))))) (by kernel_rfl)
    ·subst e2
     have H18:=aft_brk H3
     refine p_at mo 3 [r0 [.v]] [.only [0,2,3,4,5] [4]] 3 [] (ref05_Valid_S4 x0 i0 0 ()) aN (by kernel_rfl) ?_
     refine bnd H18 fun R1 h7 H19 => ?_
     refine p_joinO 2 (ref05_Valid_S5 x0 i0) R1 (by kernel_rfl) ?_ (fun u2 e3 => ?_)
     ·refine p_cnt (ref05_Valid_S4 x0 i0) (by kernel_rfl) h7 (fun i1 s1 h8 e4 => ?_) (fun i1 s1 h9 q1 h10 h11 => ?_)
      ·have c16:=lF i1 (((x0.getD i0 ⟨0,[]⟩).Vars).length) (by omega)
       subst e4
       exact p_bar mo 5 [r0 [.v,.v,.v,.e (iI ((((x0.getD i0 ⟨0,[]⟩).Vars).length:Nat):Int)),.e (.bool false)]] [.only [0,2,3] []] (ref05_Valid_S5 x0 i0 ()) (aT (aC (lenm cStr ((x0.getD i0 ⟨0,[]⟩).Vars)) (aB c16 aN))) (by kernel_rfl)
      ·have c17:=lT i1 (((x0.getD i0 ⟨0,[]⟩).Vars).length) (by omega)
       refine bnd h10 fun y1 h12 H20 => ?_
       refine p_at mo 8 [r0 [.v,.v,.v,.e (iI ((((x0.getD i0 ⟨0,[]⟩).Vars).length:Nat):Int)),.e (.bool true)]] [.only [0,2,3,4,5] [4]] 8 [true] ⟨86,[(0,dS cMonomial x0),(2,.bool false),(3,nI i0),(4,.hptr 4 0),(5,nI i1)],[(4,.cells 118 [iI ((x0.getD i0 ⟨0,[]⟩).Coef),.dslice (((x0.getD i0 ⟨0,[]⟩).Vars).map cStr)])]⟩ (aT (aC (lenm cStr ((x0.getD i0 ⟨0,[]⟩).Vars)) (aB c17 aN))) (by kernel_rfl) ?_
       refine bnd H20 fun v1 h13 H21 => ?_
       refine p_joinO 2 (ref05_Valid_S6 x0 i0 i1) v1 (by kernel_rfl) ?_ (fun u1 e5 => ?_)
       ·refine bsp h13 (fun c18 H22 => ?_) (fun c19 H23 => ?_)
        ·refine bsp H22 (fun c20 H24 => ?_) (fun c21 H25 => ?_)
         ·have c20p:=of_decide_eq_true c20
          refine grd_e H24 fun g1 H26 => ?_
          refine p_at mo 1 [.rg 22 [.v,.v,.v,.e (.dptr [.str (((x0.getD i0 ⟨0,[]⟩).Vars).getD i1 [])]),.v,.c true (.bool true),.v,.v,.v,.e (.bool true),.v,.v,.v,.v,.w,.e (.dptr [.str (((x0.getD i0 ⟨0,[]⟩).Vars).getD (w64 (((i1:Nat):Int)-1)).toNat [])]),.v,.v,.v,.v,.e (.dptr [.str (((x0.getD i0 ⟨0,[]⟩).Vars).getD i1 [])]),.v] [.v,.v,.v]] [.only [0,2,3,4,5,85] [4]] 1 [] ⟨86,[(0,dS cMonomial x0),(2,.bool false),(3,nI i0),(4,.hptr 4 0),(5,nI i1),(85,.bool (!(Op.bytesLess (((x0.getD i0 ⟨0,[]⟩).Vars).getD (w64 (((i1:Nat):Int)-1)).toNat []) (((x0.getD i0 ⟨0,[]⟩).Vars).getD i1 [])||(((x0.getD i0 ⟨0,[]⟩).Vars).getD (w64 (((i1:Nat):Int)-1)).toNat [])==(((x0.getD i0 ⟨0,[]⟩).Vars).getD i1 []))))],[(4,.cells 118 [iI ((x0.getD i0 ⟨0,[]⟩).Coef),.dslice (((x0.getD i0 ⟨0,[]⟩).Vars).map cStr)])]⟩ (all_app (ix (f:=cStr) (l:=((x0.getD i0 ⟨0,[]⟩).Vars)) (n:=i1) [] cStr_len (by decide) (by omega)) (aC Tryz.call100 (aC (AFn.eq (ref04_Name_c (((x0.getD i0 ⟨0,[]⟩).Vars).getD i1 []) y1 h12) (cB c18)) (aT (aB c20 (all_app (ixz (f:=cStr) (l:=((x0.getD i0 ⟨0,[]⟩).Vars)) (n:=(w64 (((i1:Nat):Int)-1))) [] cStr_len (by decide) (by exact g1)) (all_app (ix (f:=cStr) (l:=((x0.getD i0 ⟨0,[]⟩).Vars)) (n:=i1) [] cStr_len (by decide) (by omega)) aN))))))) (by kernel_rfl) ?_
          refine bsp H26 (fun c22 H27 => ?_) (fun c23 H28 => ?_)
          ·obtain rfl:=sI H27
           exact p_bar mo 3 [.eqT 85 (.bool false)] [.only [0,2,3,4,5] [4]] (ref05_Valid_S6 x0 i0 i1 ()) (aM c22 aN) (by kernel_rfl)
          ·obtain rfl:=sI H28
           obtain rfl:=sI (aft_ret H21)
           obtain rfl:=out_ret h11
           obtain rfl:=sI (aft_ret H19)
           obtain rfl:=out_ret h4
           obtain rfl:=sI (aft_ret H2)
           exact p_ret mo 5 [.eqT 85 (.bool true),r0 [.v]] [] [] (aM c23 aN) (by kernel_rfl)
         ·have c21p:=of_decide_eq_false c21
          obtain rfl:=sI H25
          exact p_bar mo 3 [.rg 22 [.v,.v,.v,.e (.dptr [.str (((x0.getD i0 ⟨0,[]⟩).Vars).getD i1 [])]),.v,.c true (.bool true),.v,.v,.v,.e (.bool false),.v,.s,.s,.s,.s,.s,.s,.s,.s,.s,.s,.s] [.s,.v,.v]] [.only [0,2,3,4,5] [4]] (ref05_Valid_S6 x0 i0 i1 ()) (all_app (ix (f:=cStr) (l:=((x0.getD i0 ⟨0,[]⟩).Vars)) (n:=i1) [] cStr_len (by decide) (by omega)) (aC Tryz.call100 (aC (AFn.eq (ref04_Name_c (((x0.getD i0 ⟨0,[]⟩).Vars).getD i1 []) y1 h12) (cB c18)) (aT (aB c21 aN))))) (by kernel_rfl)
        ·obtain rfl:=sI H23
         obtain rfl:=sI (aft_ret H21)
         obtain rfl:=out_ret h11
         obtain rfl:=sI (aft_ret H19)
         obtain rfl:=out_ret h4
         obtain rfl:=sI (aft_ret H2)
         exact p_ret mo 5 [.rg 22 [.v,.v,.v,.e (.dptr [.str (((x0.getD i0 ⟨0,[]⟩).Vars).getD i1 [])]),.v,.c true (.bool false),.v,.v,.s,.s,.s,.s,.s,.s,.s,.s,.s,.s,.s,.s,.s,.s] [.s,.s,.v],r0 [.v]] [] [] (all_app (ix (f:=cStr) (l:=((x0.getD i0 ⟨0,[]⟩).Vars)) (n:=i1) [] cStr_len (by decide) (by omega)) (aC Tryz.call100 (aC (AFn.eq (ref04_Name_c (((x0.getD i0 ⟨0,[]⟩).Vars).getD i1 []) y1 h12) (cB c19)) (aT aN)))) (by kernel_rfl)
       ·subst e5
        have H29:=aft_brk H21
        refine t_lensH 4 1 (ps:=[(((x0.getD i0 ⟨0,[]⟩).Vars).map cStr).length≤9223372036854775807]) (by kernel_rfl) (fun l0 => ?_)
        have l1:((x0.getD i0 ⟨0,[]⟩).Vars).length≤9223372036854775807:=by simpa only [All,List.length_map] using l0
        clear l0
        obtain rfl:=sI H29
        exact p_bar mo 1 [r0 [.v,.v,.v]] [.only [0,2,3,4,5] [4]] (ref05_Valid_S4 x0 i0 (i1+1) ()) (aC (pI i1 (by omega)) aN) (by kernel_rfl)
     ·subst e3
      have H30:=aft_brk H19
      refine t_lens 0 (ps:=[(x0.map cMonomial).length≤9223372036854775807]) (by kernel_rfl) (fun l2 => ?_)
      have l3:x0.length≤9223372036854775807:=by simpa only [All,List.length_map] using l2
      clear l2
      obtain rfl:=sI H30
      exact p_bar mo 1 [r0 [.v,.v,.v]] [.only [0,2,3] []] (ref05_Valid_S1 x0 (i0+1) ()) (aC (pI i0 (by omega)) aN) (by kernel_rfl)
  ·subst e0
   have H31:=aft_brk H2
   obtain rfl:=sI H31
   exact p_ret mo 3 [r0 [.v]] [] [] aN (by kernel_rfl)
/-- framewise/framewiseref05.plus -/
def ref05_plus (x0:(List Monomial)) (x1:Monomial):Option (List Monomial) :=
 (cnt (σ:=((List Monomial)×Bool)) (ε:=((List Monomial)×Bool)) (ρ:=Empty) (fun i0 s0 =>
  (ref05_order ((x0.getD i0 ⟨0,[]⟩).Vars) x1.Vars).bind fun y0 =>
  ((
   bif s0.2 then (
    some (true,false)
   ) else (
    some (false,decide (y0>0))
   )
  ):Option (Bool×Bool)).bind fun v0 =>
  ((
   bif v0.2 then (
    grd ((s0.1.length+1)*32≤140737488355328) <|
    some ((s0.1++[x1]),true)
   ) else (
    some (s0.1,v0.1)
   )
  ):Option ((List Monomial)×Bool)).bind fun v1 =>
  ((
   bif v1.2 then (
    some (true,false)
   ) else (
    some (false,(y0==0))
   )
  ):Option (Bool×Bool)).bind fun v2 =>
  ((
   bif v2.2 then (
    some (true,(w64 (((x0.getD i0 ⟨0,[]⟩).Coef)+x1.Coef)))
   ) else (
    some (v2.1,((x0.getD i0 ⟨0,[]⟩).Coef))
   )
  ):Option (Bool×Int)).bind fun v3 =>
  ((
   bif (v3.2==0) then (
    some v1.1
   ) else (
    grd ((v1.1.length+1)*32≤140737488355328) <|
    some (v1.1++[(Monomial.mk v3.2 ((x0.getD i0 ⟨0,[]⟩).Vars))])
   )
  ):Option (List Monomial)).bind fun v4 =>
  some (.go (v4,v3.1))
 ) (fun i0 s0=>(s0.1,s0.2)) (x0.length-0) 0 ([],(x1.Coef==0))).bind <| aftE fun u0 =>
 bif u0.2 then (
  some u0.1
 ) else (
  grd ((u0.1.length+1)*32≤140737488355328) <|
  some (u0.1++[x1])
 )
def ref05_plus_S1 (x0:(List Monomial)) (x1:Monomial) (i0:Nat) (s0:((List Monomial)×Bool)):AS:=⟨67,[(0,dS cMonomial x0),(3,.hptr 3 0),(4,.eslice),(5,.rslice 59),(6,.bool s0.2),(7,nI i0)],[(3,.cells 118 [iI x1.Coef,dS cStr x1.Vars]),(59,.row 118 2 (s0.1.map cMonomial))]⟩
def ref05_plus_S2 (x1:Monomial) (u1:((List Monomial)×Bool)):AS:=⟨67,[(3,.hptr 3 0),(4,.eslice),(5,.rslice 59),(6,.bool u1.2)],[(3,.cells 118 [iI x1.Coef,dS cStr x1.Vars]),(59,.row 118 2 (u1.1.map cMonomial))]⟩
def ref05_plus_S3 (x0:(List Monomial)) (x1:Monomial) (i0:Nat) (s0:((List Monomial)×Bool)) (y0:Int) (v0:(Bool×Bool)):AS:=⟨67,[(0,dS cMonomial x0),(3,.hptr 3 0),(4,.eslice),(5,.rslice 59),(6,.bool v0.1),(7,nI i0),(8,iI y0),(32,.bool v0.2)],[(3,.cells 118 [iI x1.Coef,dS cStr x1.Vars]),(59,.row 118 2 (s0.1.map cMonomial))]⟩
def ref05_plus_S4 (x0:(List Monomial)) (x1:Monomial) (i0:Nat) (y0:Int) (v1:((List Monomial)×Bool)):AS:=⟨67,[(0,dS cMonomial x0),(3,.hptr 3 0),(4,.eslice),(5,.rslice 59),(6,.bool v1.2),(7,nI i0),(8,iI y0)],[(3,.cells 118 [iI x1.Coef,dS cStr x1.Vars]),(59,.row 118 2 (v1.1.map cMonomial))]⟩
def ref05_plus_S5 (x0:(List Monomial)) (x1:Monomial) (i0:Nat) (v1:((List Monomial)×Bool)) (v2:(Bool×Bool)):AS:=⟨67,[(0,dS cMonomial x0),(3,.hptr 3 0),(4,.eslice),(5,.rslice 59),(6,.bool v2.1),(7,nI i0),(9,.hptr 9 0),(46,.bool v2.2)],[(3,.cells 118 [iI x1.Coef,dS cStr x1.Vars]),(9,.cells 118 [iI ((x0.getD i0 ⟨0,[]⟩).Coef),.dslice (((x0.getD i0 ⟨0,[]⟩).Vars).map cStr)]),(59,.row 118 2 (v1.1.map cMonomial))]⟩
def ref05_plus_S6 (x0:(List Monomial)) (x1:Monomial) (i0:Nat) (v1:((List Monomial)×Bool)) (v3:(Bool×Int)):AS:=⟨67,[(0,dS cMonomial x0),(3,.hptr 3 0),(4,.eslice),(5,.rslice 59),(6,.bool v3.1),(7,nI i0),(9,.hptr 9 0)],[(3,.cells 118 [iI x1.Coef,dS cStr x1.Vars]),(9,.cells 118 [iI v3.2,.dslice (((x0.getD i0 ⟨0,[]⟩).Vars).map cStr)]),(59,.row 118 2 (v1.1.map cMonomial))]⟩
def ref05_plus_S7 (x0:(List Monomial)) (x1:Monomial) (i0:Nat) (v3:(Bool×Int)) (v4:(List Monomial)):AS:=⟨67,[(0,dS cMonomial x0),(3,.hptr 3 0),(4,.eslice),(5,.rslice 59),(6,.bool v3.1),(7,nI i0)],[(3,.cells 118 [iI x1.Coef,dS cStr x1.Vars]),(59,.row 118 2 (v4.map cMonomial))]⟩
theorem ref05_plus_c (x0:(List Monomial)) (x1:Monomial) (r:(List Monomial)) (H:ref05_plus x0 x1=some r):AFn Tryz.prog 128 [dS cMonomial x0,.agg [iI x1.Coef,dS cStr x1.Vars]] (dS cMonomial r):=by
 unfold ref05_plus at H
 refine acallX Tryz.func128 67 [.tmp 4] (by kernel_rfl) (by kernel_rfl) ?_
 refine p_at mo 10 [r0 [.m,.v],r0 [.v],r0 [.v,.v,.v,.v],r0 [.v]] [.er 5 59 118 2,.only [0,3,4,5,6,7] [3,59]] 10 [] (ref05_plus_S1 x0 x1 0 ([],(x1.Coef==0))) aN (by kernel_rfl) ?_
 refine bnd H fun R0 h0 H0 => ?_
 refine p_joinO 1 (ref05_plus_S2 x1) R0 (by kernel_rfl) ?_ (fun u0 e0 => ?_)
 ·refine p_cnt (ref05_plus_S1 x0 x1) (by kernel_rfl) h0 (fun i0 s0 h1 e1 => ?_) (fun i0 s0 h2 q0 h3 h4 => ?_)
  ·have c0:=lF i0 x0.length (by omega)
   subst e1
   exact p_bar mo 5 [r0 [.v,.v,.e (nI x0.length),.e (.bool false)]] [.only [3,4,5,6] [3,59]] (ref05_plus_S2 x1 (s0.1,s0.2)) (aT (aC (lenm cMonomial x0) (aB c0 aN))) (by kernel_rfl)
  ·have c1:=lT i0 x0.length (by omega)
   refine bnd h3 fun y0 h5 H1 => ?_
   refine p_at mo 11 [r0 [.v,.v,.e (nI x0.length),.e (.bool true)],.rg 7 [.v,.v,.e (.dptr [iI ((x0.getD i0 ⟨0,[]⟩).Coef),.dslice (((x0.getD i0 ⟨0,[]⟩).Vars).map cStr)]),.v,.v,.v,.v] [.c true (iI y0),.v]] [.only [0,3,4,5,6,7,8] [3,59]] 11 [true] ⟨67,[(0,dS cMonomial x0),(3,.hptr 3 0),(4,.eslice),(5,.rslice 59),(6,.bool s0.2),(7,nI i0),(8,iI y0)],[(3,.cells 118 [iI x1.Coef,dS cStr x1.Vars]),(59,.row 118 2 (s0.1.map cMonomial))]⟩ (aT (aC (lenm cMonomial x0) (aB c1 (all_app (ix (f:=cMonomial) (l:=x0) (n:=i0) ⟨0,[]⟩ cMonomial_len (by decide) (by omega)) (aC Tryz.call122 (aF (ref05_order_c ((x0.getD i0 ⟨0,[]⟩).Vars) x1.Vars y0 h5) aN)))))) (by kernel_rfl) ?_
   refine bnd H1 fun v0 h6 H2 => ?_
   refine p_join 0 (ref05_plus_S3 x0 x1 i0 s0 y0 v0) (by kernel_rfl) ?_ ?_
   ·refine bsp h6 (fun c2 H3 => ?_) (fun c3 H4 => ?_)
    ·obtain rfl:=sI H3
     exact p_bar mo 2 [.eqT 6 (.bool true),r0 [.v,.v,.v,.s,.s,.v]] [.only [0,3,4,5,6,7,8,32] [3,59]] (ref05_plus_S3 x0 x1 i0 s0 y0 (true,false)) (aB c2 (aT aN)) (by kernel_rfl)
    ·obtain rfl:=sI H4
     exact p_bar mo 2 [.eqT 6 (.bool false),r0 [.v,.v,.v,.v,.v,.v]] [.only [0,3,4,5,6,7,8,32] [3,59]] (ref05_plus_S3 x0 x1 i0 s0 y0 (false,decide (y0>0))) (aB c3 (aT aN)) (by kernel_rfl)
   ·refine bnd H2 fun v1 h7 H5 => ?_
    refine p_join 0 (ref05_plus_S4 x0 x1 i0 y0 v1) (by kernel_rfl) ?_ ?_
    ·refine bsp h7 (fun c4 H6 => ?_) (fun c5 H7 => ?_)
     ·refine grd_e H6 fun g0 H8 => ?_
      obtain rfl:=sI H8
      exact p_bar mo 5 [.eqT 32 (.bool true),r0 [.v,.v,.b,.ap,.rwH 36 (.row 118 2 ((s0.1++[x1]).map cMonomial)),.v],r0 [.v]] [.ren [(3,3),(36,59)],.only [0,3,4,5,6,7,8] [3,59]] (ref05_plus_S4 x0 x1 i0 y0 ((s0.1++[x1]),true)) (aB c4 (all_app (apR (c:=cMonomial) cMonomial_ok s0.1 [x1] 32 (by decide) (by simpa using g0)) (aC (apQ 118 2 cMonomial s0.1 [x1]) aN))) (by kernel_rfl)
     ·obtain rfl:=sI H7
      exact p_bar mo 3 [.eqT 32 (.bool false)] [.only [0,3,4,5,6,7,8] [3,59]] (ref05_plus_S4 x0 x1 i0 y0 (s0.1,v0.1)) (aB c5 aN) (by kernel_rfl)
    ·refine p_at mo 4 [.rg 0 [] [.v,.v,.e (.dptr [.int .i64 ((x0.getD i0 ⟨0,[]⟩).Coef),.dslice (((x0.getD i0 ⟨0,[]⟩).Vars).map cStr)]),.v,.m,.m]] [.only [0,3,4,5,6,7,8,9] [3,9,59]] 4 [] ⟨67,[(0,.dslice (x0.map cMonomial)),(3,.hptr 3 0),(4,.eslice),(5,.rslice 59),(6,.bool v1.2),(7,.int .i64 ((i0:Nat):Int)),(8,.int .i64 y0),(9,.hptr 9 0)],[(3,.cells 118 [.int .i64 x1.Coef,.dslice (x1.Vars.map cStr)]),(9,.cells 118 [.int .i64 ((x0.getD i0 ⟨0,[]⟩).Coef),.dslice (((x0.getD i0 ⟨0,[]⟩).Vars).map cStr)]),(59,.row 118 2 (v1.1.map cMonomial))]⟩ (all_app (ix (f:=cMonomial) (l:=x0) (n:=i0) ⟨0,[]⟩ cMonomial_len (by decide) (by omega)) aN) (by kernel_rfl) ?_
     refine bnd H5 fun v2 h8 H9 => ?_
     refine p_join 0 (ref05_plus_S5 x0 x1 i0 v1 v2) (by kernel_rfl) ?_ ?_
     ·refine bsp h8 (fun c6 H10 => ?_) (fun c7 H11 => ?_)
      ·obtain rfl:=sI H10
       exact p_bar mo 2 [.eqT 6 (.bool true),r0 [.v,.v,.v,.s,.s,.v]] [.only [0,3,4,5,6,7,9,46] [3,9,59]] (ref05_plus_S5 x0 x1 i0 v1 (true,false)) (aB c6 (aT aN)) (by kernel_rfl)
      ·obtain rfl:=sI H11
       exact p_bar mo 2 [.eqT 6 (.bool false),r0 [.v,.v,.v,.v,.v,.v]] [.only [0,3,4,5,6,7,9,46] [3,9,59]] (ref05_plus_S5 x0 x1 i0 v1 (false,(y0==0))) (aB c7 (aT aN)) (by kernel_rfl)
     ·refine bnd H9 fun v3 h9 H12 => ?_
      refine p_join 0 (ref05_plus_S6 x0 x1 i0 v1 v3) (by kernel_rfl) ?_ ?_
      ·refine bsp h9 (fun c8 H13 => ?_) (fun c9 H14 => ?_)
       ·obtain rfl:=sI H13
        exact p_bar mo 5 [.eqT 46 (.bool true),r0 [.v,.v,.v,.v,.w,.v,.m],r0 [.v]] [.only [0,3,4,5,6,7,9] [3,9,59]] (ref05_plus_S6 x0 x1 i0 v1 (true,(w64 (((x0.getD i0 ⟨0,[]⟩).Coef)+x1.Coef)))) (aB c8 aN) (by kernel_rfl)
       ·obtain rfl:=sI H14
        exact p_bar mo 3 [.eqT 46 (.bool false)] [.only [0,3,4,5,6,7,9] [3,9,59]] (ref05_plus_S6 x0 x1 i0 v1 (v2.1,((x0.getD i0 ⟨0,[]⟩).Coef))) (aB c9 aN) (by kernel_rfl)
      ·refine p_at mo 2 [.rg 0 [] [.v,.v,.v]] [.only [0,3,4,5,6,7,9,55] [3,9,59]] 2 [] ⟨67,[(0,.dslice (x0.map cMonomial)),(3,.hptr 3 0),(4,.eslice),(5,.rslice 59),(6,.bool v3.1),(7,.int .i64 ((i0:Nat):Int)),(9,.hptr 9 0),(55,.bool (v3.2 != 0))],[(3,.cells 118 [.int .i64 x1.Coef,.dslice (x1.Vars.map cStr)]),(9,.cells 118 [.int .i64 v3.2,.dslice (((x0.getD i0 ⟨0,[]⟩).Vars).map cStr)]),(59,.row 118 2 (v1.1.map cMonomial))]⟩ aN (by kernel_rfl) ?_
       refine bnd H12 fun v4 h10 H15 => ?_
       refine p_join 1 (ref05_plus_S7 x0 x1 i0 v3 v4) (by kernel_rfl) ?_ ?_
       ·refine bsp h10 (fun c10 H16 => ?_) (fun c11 H17 => ?_)
        ·obtain rfl:=sI H16
         exact p_bar mo 3 [.eqT 55 (.bool false)] [.only [0,3,4,5,6,7] [3,59]] (ref05_plus_S7 x0 x1 i0 v3 v1.1) (aM c10 aN) (by kernel_rfl)
        ·refine grd_e H17 fun g1 H18 => ?_
         obtain rfl:=sI H18
         exact p_bar mo 3 [.eqT 55 (.bool true),r0 [.v,.v,.b,.ap,.rwH 59 (.row 118 2 ((v1.1++[(Monomial.mk v3.2 ((x0.getD i0 ⟨0,[]⟩).Vars))]).map cMonomial)),.v]] [.only [0,3,4,5,6,7] [3,59]] (ref05_plus_S7 x0 x1 i0 v3 (v1.1++[(Monomial.mk v3.2 ((x0.getD i0 ⟨0,[]⟩).Vars))])) (aM c11 (all_app (apR (c:=cMonomial) cMonomial_ok v1.1 [(Monomial.mk v3.2 ((x0.getD i0 ⟨0,[]⟩).Vars))] 32 (by decide) (by simpa using g1)) (aC (apQ 118 2 cMonomial v1.1 [(Monomial.mk v3.2 ((x0.getD i0 ⟨0,[]⟩).Vars))]) aN))) (by kernel_rfl)
       ·refine t_lens 0 (ps:=[(x0.map cMonomial).length≤9223372036854775807]) (by kernel_rfl) (fun l0 => ?_)
        have l1:x0.length≤9223372036854775807:=by simpa only [All,List.length_map] using l0
        clear l0
        obtain rfl:=sI H15
        exact p_bar mo 1 [r0 [.v,.v,.v]] [.only [0,3,4,5,6,7] [3,59]] (ref05_plus_S1 x0 x1 (i0+1) (v4,v3.1)) (aC (pI i0 (by omega)) aN) (by kernel_rfl)
 ·subst e0
  have H19:=aftE_brk H0
  refine bsp H19 (fun c12 H20 => ?_) (fun c13 H21 => ?_)
  ·obtain rfl:=sI H20
   exact p_ret mo 9 [r0 [.v,.v],.eqT 61 (.bool false),r0 [.v,.v]] [.fz 59] [] (aT (aM c12 aN)) (by kernel_rfl)
  ·refine grd_e H21 fun g2 H22 => ?_
   obtain rfl:=sI H22
   exact p_ret mo 9 [r0 [.v,.v],.eqT 61 (.bool true),r0 [.v,.v,.b,.ap,.rwH 65 (.row 118 2 ((u0.1++[x1]).map cMonomial)),.v],r0 [.v,.v]] [.fz 65] [] (aT (aM c13 (all_app (apR (c:=cMonomial) cMonomial_ok u0.1 [x1] 32 (by decide) (by simpa using g2)) (aC (apQ 118 2 cMonomial u0.1 [x1]) aN)))) (by kernel_rfl)
/-- framewise/framewiseref05.times -/
def ref05_times (x0:(List Monomial)) (x1:(List Monomial)) (x2:Int):Option (List Monomial) :=
 grd (x0.length*32≤140737488355328) <|
 (cnt (σ:=(List Monomial)) (ε:=(List Monomial)) (ρ:=Empty) (fun i0 s0 =>
  (ref05_plus s0 (Monomial.mk (w64 (x2*((x1.getD i0 ⟨0,[]⟩).Coef))) ((x1.getD i0 ⟨0,[]⟩).Vars))).bind fun y0 =>
  some (.go y0)
 ) (fun i0 s0=>s0) (x1.length-0) 0 x0).bind <| aftE fun u0 =>
 some u0
def ref05_times_S1 (x1:(List Monomial)) (x2:Int) (i0:Nat) (s0:(List Monomial)):AS:=⟨34,[(1,dS cMonomial x1),(2,iI x2),(6,.eslice),(7,dS cMonomial s0),(8,nI i0)],[]⟩
def ref05_times_S2 (u1:(List Monomial)):AS:=⟨34,[(6,.eslice),(7,dS cMonomial u1)],[]⟩
theorem ref05_times_c (x0:(List Monomial)) (x1:(List Monomial)) (x2:Int) (r:(List Monomial)) (H:ref05_times x0 x1 x2=some r):AFn Tryz.prog 127 [dS cMonomial x0,dS cMonomial x1,iI x2] (dS cMonomial r):=by
 unfold ref05_times at H
 refine acallX Tryz.func127 34 [.tmp 6] (by kernel_rfl) (by kernel_rfl) ?_
 refine grd_e H fun g0 H0 => ?_
 refine p_at mo 8 [r0 [.v],r0 [.b,.v,.er 9 11 118 2,.ap,.rwH 11 (.row 118 2 (x0.map cMonomial)),.v],r0 [.v]] [.fz 11,.only [1,2,6,7,8] []] 8 [] (ref05_times_S1 x1 x2 0 x0) (all_app (apR (c:=cMonomial) cMonomial_ok [] x0 32 (by decide) (by simpa using g0)) (aC (apQ0 118 2 cMonomial x0) aN)) (by kernel_rfl) ?_
 refine bnd H0 fun R0 h0 H1 => ?_
 refine p_joinO 1 (ref05_times_S2) R0 (by kernel_rfl) ?_ (fun u0 e0 => ?_)
 ·refine p_cnt (ref05_times_S1 x1 x2) (by kernel_rfl) h0 (fun i0 s0 h1 e1 => ?_) (fun i0 s0 h2 q0 h3 h4 => ?_)
  ·have c0:=lF i0 x1.length (by omega)
   subst e1
   exact p_bar mo 5 [r0 [.v,.v,.e (nI x1.length),.e (.bool false)]] [.only [6,7] []] (ref05_times_S2 s0) (aT (aC (lenm cMonomial x1) (aB c0 aN))) (by kernel_rfl)
  ·have c1:=lT i0 x1.length (by omega)
   refine bnd h3 fun y0 h5 H2 => ?_
   refine t_lens 1 (ps:=[(x1.map cMonomial).length≤9223372036854775807]) (by kernel_rfl) (fun l0 => ?_)
   have l1:x1.length≤9223372036854775807:=by simpa only [All,List.length_map] using l0
   clear l0
   obtain rfl:=sI H2
   exact p_bar mo 9 [r0 [.v,.v,.e (nI x1.length),.e (.bool true)],.rg 14 [.v,.v,.v,.v,.e (.dptr [iI ((x1.getD i0 ⟨0,[]⟩).Coef),.dslice (((x1.getD i0 ⟨0,[]⟩).Vars).map cStr)]),.v,.v,.w,.v,.v,.e (.dptr [iI ((x1.getD i0 ⟨0,[]⟩).Coef),.dslice (((x1.getD i0 ⟨0,[]⟩).Vars).map cStr)]),.v,.v,.b] [.c true (dS cMonomial y0),.v],r0 [.v,.v,.v]] [.only [1,2,6,7,8] []] (ref05_times_S1 x1 x2 (i0+1) y0) (aT (aC (lenm cMonomial x1) (aB c1 (all_app (ix (f:=cMonomial) (l:=x1) (n:=i0) ⟨0,[]⟩ cMonomial_len (by decide) (by omega)) (all_app (ix (f:=cMonomial) (l:=x1) (n:=i0) ⟨0,[]⟩ cMonomial_len (by decide) (by omega)) (aC Tryz.call128 (aF (ref05_plus_c s0 (Monomial.mk (w64 (x2*((x1.getD i0 ⟨0,[]⟩).Coef))) ((x1.getD i0 ⟨0,[]⟩).Vars)) y0 h5) (aC (pI i0 (by omega)) aN)))))))) (by kernel_rfl)
 ·subst e0
  have H3:=aftE_brk H1
  refine some_e H3 fun e2 => ?_
  subst e2
  exact p_ret mo 3 [r0 [.v,.v]] [] [] aN (by kernel_rfl)
/-- framewise/framewiseref05.limited -/
def ref05_limited (x0:(List Monomial)):Option ((List Monomial)×Int) :=
 (ref05_Valid x0).bind fun y0 =>
 bif y0 then (
  some (x0,0)
 ) else (
  some ([],3)
 )
theorem ref05_limited_c (x0:(List Monomial)) (r:((List Monomial)×Int)) (H:ref05_limited x0=some r):AFn Tryz.prog 126 [dS cMonomial x0] (.tup [dS cMonomial r.1,iI r.2]):=by
 unfold ref05_limited at H
 refine acallX Tryz.func126 8 [.tmp 2,.tmp 3] (by kernel_rfl) (by kernel_rfl) ?_
 refine bnd H fun y0 h0 H0 => ?_
 refine bsp H0 (fun c0 H1 => ?_) (fun c1 H2 => ?_)
 ·obtain rfl:=sI H1
  exact p_ret mo 11 [r0 [.v,.v],r0 [.v,.c true (.bool y0),.v],.eqT 6 (.bool false),r0 [.v,.v,.v]] [] [] (aC Tryz.call52 (aF (ref05_Valid_c x0 y0 h0) (aT (aM c0 aN)))) (by kernel_rfl)
 ·obtain rfl:=sI H2
  exact p_ret mo 10 [r0 [.v,.v],r0 [.v,.c true (.bool y0),.v],.eqT 6 (.bool true),r0 [.v,.v]] [.wk 2 []] [] (aC Tryz.call52 (aF (ref05_Valid_c x0 y0 h0) (aT (aM c1 aN)))) (by kernel_rfl)
/-- framewise/framewiseref05.Add -/
def ref05_Add (x0:(List Monomial)) (x1:(List Monomial)):Option ((List Monomial)×Int) :=
 (ref05_Valid x0).bind fun y0 =>
 bif y0 then (
  (ref05_Valid x1).bind fun y1 =>
  bif y1 then (
   (ref05_times x0 x1 1).bind fun y2 =>
   (ref05_limited y2).bind fun y3 =>
   some (y3.1,y3.2)
  ) else (
   some ([],1)
  )
 ) else (
  some ([],1)
 )
theorem ref05_Add_c (x0:(List Monomial)) (x1:(List Monomial)) (r:((List Monomial)×Int)) (H:ref05_Add x0 x1=some r):AFn Tryz.prog 59 [dS cMonomial x0,dS cMonomial x1] (.tup [dS cMonomial r.1,iI r.2]):=by
 unfold ref05_Add at H
 refine acallX Tryz.func59 20 [.tmp 4,.tmp 5] (by kernel_rfl) (by kernel_rfl) ?_
 refine bnd H fun y0 h0 H0 => ?_
 refine bsp H0 (fun c0 H1 => ?_) (fun c1 H2 => ?_)
 ·refine bnd H1 fun y1 h1 H3 => ?_
  refine bsp H3 (fun c2 H4 => ?_) (fun c3 H5 => ?_)
  ·refine bnd H4 fun y2 h2 H6 => ?_
   refine bnd H6 fun y3 h3 H7 => ?_
   obtain rfl:=sI H7
   exact p_ret mo 11 [r0 [.v,.v],r0 [.v,.c true (.bool true),.v,.v,.v,.c true (.bool y1),.v,.v],.eqT 13 (.bool false),r0 [.v,.v,.c true (dS cMonomial y2),.c true (.tup [dS cMonomial y3.1,iI y3.2]),.v,.v,.v,.v]] [] [] (aC Tryz.call52 (aC (AFn.eq (ref05_Valid_c x0 y0 h0) (cB c0)) (aT (aC Tryz.call52 (aF (ref05_Valid_c x1 y1 h1) (aT (aM c2 (aC Tryz.call127 (aF (ref05_times_c x0 x1 1 y2 h2) (aC Tryz.call126 (aF (ref05_limited_c y2 y3 h3) aN))))))))))) (by kernel_rfl)
  ·obtain rfl:=sI H5
   exact p_ret mo 10 [r0 [.v,.v],r0 [.v,.c true (.bool true),.v,.v,.v,.c true (.bool y1),.v,.v],.eqT 13 (.bool true),r0 [.v,.v]] [.wk 4 []] [] (aC Tryz.call52 (aC (AFn.eq (ref05_Valid_c x0 y0 h0) (cB c0)) (aT (aC Tryz.call52 (aF (ref05_Valid_c x1 y1 h1) (aT (aM c3 aN))))))) (by kernel_rfl)
 ·obtain rfl:=sI H2
  exact p_ret mo 9 [r0 [.v,.v],r0 [.v,.c true (.bool false),.v,.v,.s,.s,.s,.v],r0 [.v,.v]] [.wk 4 []] [] (aC Tryz.call52 (aC (AFn.eq (ref05_Valid_c x0 y0 h0) (cB c1)) (aT aN))) (by kernel_rfl)
/-- framewise/framewiseref01.SameTexts -/
def ref01_SameTexts (x0:(List Str)) (x1:(List Str)):Option Bool :=
 bif (((x0.length:Nat):Int)==((x1.length:Nat):Int)) then (
  (cnt (σ:=Unit) (ε:=Unit) (ρ:=Bool) (fun i0 s0 =>
   grd (i0<x1.length) <|
   bif ((x0.getD i0 [])==(x1.getD i0 [])) then (
    some (.go ())
   ) else (
    some (.ret false)
   )
  ) (fun i0 s0=>()) (x0.length-0) 0 ()).bind <| aft fun u0 =>
  some true
 ) else (
  some false
 )
def ref01_SameTexts_S1 (x0:(List Str)) (x1:(List Str)) (i0:Nat) (s0:Unit):AS:=⟨26,[(0,dS cStr x0),(1,dS cStr x1),(4,.bool false),(5,nI i0)],[]⟩
def ref01_SameTexts_S2 (u1:Unit):AS:=⟨26,[(4,.bool false)],[]⟩
theorem ref01_SameTexts_c (x0:(List Str)) (x1:(List Str)) (r:Bool) (H:ref01_SameTexts x0 x1=some r):AFn Tryz.prog 71 [dS cStr x0,dS cStr x1] (.bool r):=by
 unfold ref01_SameTexts at H
 refine acallX Tryz.func71 26 [.tmp 4] (by kernel_rfl) (by kernel_rfl) ?_
 refine bsp H (fun c0 H0 => ?_) (fun c1 H1 => ?_)
 ·refine p_at mo 12 [.rg 0 [] [.v],.rg 0 [] [.v,.e (.int .i64 ((x0.length:Nat):Int)),.v,.e (.int .i64 ((x1.length:Nat):Int)),.v],.eqT 10 (.bool false),.rg 0 [] [.v]] [.only [0,1,4,5] []] 11 [false] (ref01_SameTexts_S1 x0 x1 0 ()) (aT (aC (lenm cStr x0) (aT (aC (lenm cStr x1) (aM c0 aN))))) (by kernel_rfl) ?_
  refine bnd H0 fun R0 h0 H2 => ?_
  refine p_joinO 1 (ref01_SameTexts_S2) R0 (by kernel_rfl) ?_ (fun u0 e0 => ?_)
  ·refine p_cnt (ref01_SameTexts_S1 x0 x1) (by kernel_rfl) h0 (fun i0 s0 h1 e1 => ?_) (fun i0 s0 h2 q0 h3 h4 => ?_)
   ·have c2:=lF i0 x0.length (by omega)
    subst e1
    exact p_bar mo 5 [r0 [.v,.v,.e (nI x0.length),.e (.bool false)]] [.only [4] []] (ref01_SameTexts_S2 ()) (aT (aC (lenm cStr x0) (aB c2 aN))) (by kernel_rfl)
   ·have c3:=lT i0 x0.length (by omega)
    refine grd_e h3 fun g0 H3 => ?_
    refine p_at mo 9 [r0 [.v,.v,.e (nI x0.length),.e (.bool true)],.rg 8 [.v,.v,.e (.dptr [.str (x0.getD i0 [])]),.v,.v,.v,.e (.dptr [.str (x1.getD i0 [])]),.v] [.v]] [.only [0,1,4,5,25] []] 9 [true] ⟨26,[(0,dS cStr x0),(1,dS cStr x1),(4,.bool false),(5,nI i0),(25,.bool (!((x0.getD i0 [])==(x1.getD i0 []))))],[]⟩ (aT (aC (lenm cStr x0) (aB c3 (all_app (ix (f:=cStr) (l:=x0) (n:=i0) [] cStr_len (by decide) (by omega)) (all_app (ix (f:=cStr) (l:=x1) (n:=i0) [] cStr_len (by decide) (by omega)) aN))))) (by kernel_rfl) ?_
    refine bsp H3 (fun c4 H4 => ?_) (fun c5 H5 => ?_)
    ·refine t_lens 0 (ps:=[(x0.map cStr).length≤9223372036854775807]) (by kernel_rfl) (fun l0 => ?_)
     have l1:x0.length≤9223372036854775807:=by simpa only [All,List.length_map] using l0
     clear l0
     obtain rfl:=sI H4
     exact p_bar mo 4 [.eqT 25 (.bool false),r0 [.v,.v,.v]] [.only [0,1,4,5] []] (ref01_SameTexts_S1 x0 x1 (i0+1) ()) (aM c4 (aC (pI i0 (by omega)) aN)) (by kernel_rfl)
    ·obtain rfl:=sI H5
     obtain rfl:=out_ret h4
     obtain rfl:=sI (aft_ret H2)
     exact p_ret mo 5 [.eqT 25 (.bool true),r0 [.v]] [] [] (aM c5 aN) (by kernel_rfl)
  ·subst e0
   have H6:=aft_brk H2
   obtain rfl:=sI H6
   exact p_ret mo 3 [r0 [.v]] [] [] aN (by kernel_rfl)
 ·obtain rfl:=sI H1
  exact p_ret mo 10 [r0 [.v],r0 [.v,.e (nI x0.length),.v,.e (nI x1.length),.v],.eqT 10 (.bool true),r0 [.v]] [] [] (aT (aC (lenm cStr x0) (aT (aC (lenm cStr x1) (aM c1 aN))))) (by kernel_rfl)
/-- framewise/framewiseref05.Equal -/
def ref05_Equal (x0:(List Monomial)) (x1:(List Monomial)):Option Bool :=
 bif (((x0.length:Nat):Int)==((x1.length:Nat):Int)) then (
  (cnt (σ:=Unit) (ε:=Unit) (ρ:=Bool) (fun i0 s0 =>
   grd (i0<x1.length) <|
   bif (((x0.getD i0 ⟨0,[]⟩).Coef)==((x1.getD i0 ⟨0,[]⟩).Coef)) then (
    (ref01_SameTexts ((x0.getD i0 ⟨0,[]⟩).Vars) ((x1.getD i0 ⟨0,[]⟩).Vars)).bind fun y0 =>
    bif y0 then (
     some (.go ())
    ) else (
     some (.ret false)
    )
   ) else (
    some (.ret false)
   )
  ) (fun i0 s0=>()) (x0.length-0) 0 ()).bind <| aft fun u0 =>
  some true
 ) else (
  some false
 )
def ref05_Equal_S1 (x0:(List Monomial)) (x1:(List Monomial)) (i0:Nat) (s0:Unit):AS:=⟨42,[(0,dS cMonomial x0),(1,dS cMonomial x1),(4,.bool false),(5,nI i0)],[]⟩
def ref05_Equal_S2 (u1:Unit):AS:=⟨42,[(4,.bool false)],[]⟩
theorem ref05_Equal_c (x0:(List Monomial)) (x1:(List Monomial)) (r:Bool) (H:ref05_Equal x0 x1=some r):AFn Tryz.prog 53 [dS cMonomial x0,dS cMonomial x1] (.bool r):=by
 unfold ref05_Equal at H
 refine acallX Tryz.func53 42 [.tmp 4] (by kernel_rfl) (by kernel_rfl) ?_
 refine bsp H (fun c0 H0 => ?_) (fun c1 H1 => ?_)
 ·refine p_at mo 12 [.rg 0 [] [.v],.rg 0 [] [.v,.e (.int .i64 ((x0.length:Nat):Int)),.v,.e (.int .i64 ((x1.length:Nat):Int)),.v],.eqT 10 (.bool false),.rg 0 [] [.v]] [.only [0,1,4,5] []] 11 [false] (ref05_Equal_S1 x0 x1 0 ()) (aT (aC (lenm cMonomial x0) (aT (aC (lenm cMonomial x1) (aM c0 aN))))) (by kernel_rfl) ?_
  refine bnd H0 fun R0 h0 H2 => ?_
  refine p_joinO 1 (ref05_Equal_S2) R0 (by kernel_rfl) ?_ (fun u0 e0 => ?_)
  ·refine p_cnt (ref05_Equal_S1 x0 x1) (by kernel_rfl) h0 (fun i0 s0 h1 e1 => ?_) (fun i0 s0 h2 q0 h3 h4 => ?_)
   ·have c2:=lF i0 x0.length (by omega)
    subst e1
    exact p_bar mo 5 [r0 [.v,.v,.e (nI x0.length),.e (.bool false)]] [.only [4] []] (ref05_Equal_S2 ()) (aT (aC (lenm cMonomial x0) (aB c2 aN))) (by kernel_rfl)
   ·have c3:=lT i0 x0.length (by omega)
    refine grd_e h3 fun g0 H3 => ?_
    refine bsp H3 (fun c4 H4 => ?_) (fun c5 H5 => ?_)
    ·refine bnd H4 fun y0 h5 H6 => ?_
     refine p_at mo 9 [r0 [.v,.v,.e (nI x0.length),.e (.bool true)],.rg 22 [.v,.v,.e (.dptr [iI ((x0.getD i0 ⟨0,[]⟩).Coef),.dslice (((x0.getD i0 ⟨0,[]⟩).Vars).map cStr)]),.v,.v,.v,.v,.e (.dptr [iI ((x1.getD i0 ⟨0,[]⟩).Coef),.dslice (((x1.getD i0 ⟨0,[]⟩).Vars).map cStr)]),.v,.v,.e (.bool false),.v,.v,.v,.e (.dptr [iI ((x0.getD i0 ⟨0,[]⟩).Coef),.dslice (((x0.getD i0 ⟨0,[]⟩).Vars).map cStr)]),.v,.v,.v,.v,.e (.dptr [iI ((x1.getD i0 ⟨0,[]⟩).Coef),.dslice (((x1.getD i0 ⟨0,[]⟩).Vars).map cStr)]),.v,.v] [.c true (.bool y0),.v,.v]] [.only [0,1,4,5,41] []] 9 [true] ⟨42,[(0,dS cMonomial x0),(1,dS cMonomial x1),(4,.bool false),(5,nI i0),(41,.bool (!y0))],[]⟩ (aT (aC (lenm cMonomial x0) (aB c3 (all_app (ix (f:=cMonomial) (l:=x0) (n:=i0) ⟨0,[]⟩ cMonomial_len (by decide) (by omega)) (all_app (ix (f:=cMonomial) (l:=x1) (n:=i0) ⟨0,[]⟩ cMonomial_len (by decide) (by omega)) (aM c4 (all_app (ix (f:=cMonomial) (l:=x0) (n:=i0) ⟨0,[]⟩ cMonomial_len (by decide) (by omega)) (all_app (ix (f:=cMonomial) (l:=x1) (n:=i0) ⟨0,[]⟩ cMonomial_len (by decide) (by omega)) (aC Tryz.call71 (aF (ref01_SameTexts_c ((x0.getD i0 ⟨0,[]⟩).Vars) ((x1.getD i0 ⟨0,[]⟩).Vars) y0 h5) (aT aN))))))))))) (by kernel_rfl) ?_
     refine bsp H6 (fun c6 H7 => ?_) (fun c7 H8 => ?_)
     ·refine t_lens 0 (ps:=[(x0.map cMonomial).length≤9223372036854775807]) (by kernel_rfl) (fun l0 => ?_)
      have l1:x0.length≤9223372036854775807:=by simpa only [All,List.length_map] using l0
      clear l0
      obtain rfl:=sI H7
      exact p_bar mo 4 [.eqT 41 (.bool false),r0 [.v,.v,.v]] [.only [0,1,4,5] []] (ref05_Equal_S1 x0 x1 (i0+1) ()) (aM c6 (aC (pI i0 (by omega)) aN)) (by kernel_rfl)
     ·obtain rfl:=sI H8
      obtain rfl:=out_ret h4
      obtain rfl:=sI (aft_ret H2)
      exact p_ret mo 5 [.eqT 41 (.bool true),r0 [.v]] [] [] (aM c7 aN) (by kernel_rfl)
    ·obtain rfl:=sI H5
     obtain rfl:=out_ret h4
     obtain rfl:=sI (aft_ret H2)
     exact p_ret mo 13 [r0 [.v,.v,.e (nI x0.length),.e (.bool true)],.rg 22 [.v,.v,.e (.dptr [iI ((x0.getD i0 ⟨0,[]⟩).Coef),.dslice (((x0.getD i0 ⟨0,[]⟩).Vars).map cStr)]),.v,.v,.v,.v,.e (.dptr [iI ((x1.getD i0 ⟨0,[]⟩).Coef),.dslice (((x1.getD i0 ⟨0,[]⟩).Vars).map cStr)]),.v,.v,.e (.bool true),.v,.s,.s,.s,.s,.s,.s,.s,.s,.s,.s] [.s,.s,.v],r0 [.v]] [] [] (aT (aC (lenm cMonomial x0) (aB c3 (all_app (ix (f:=cMonomial) (l:=x0) (n:=i0) ⟨0,[]⟩ cMonomial_len (by decide) (by omega)) (all_app (ix (f:=cMonomial) (l:=x1) (n:=i0) ⟨0,[]⟩ cMonomial_len (by decide) (by omega)) (aM c5 aN)))))) (by kernel_rfl)
  ·subst e0
   have H9:=aft_brk H2
   obtain rfl:=sI H9
   exact p_ret mo 3 [r0 [.v]] [] [] aN (by kernel_rfl)
 ·obtain rfl:=sI H1
  exact p_ret mo 10 [r0 [.v],r0 [.v,.e (nI x0.length),.v,.e (nI x1.length),.v],.eqT 10 (.bool true),r0 [.v]] [] [] (aT (aC (lenm cMonomial x0) (aT (aC (lenm cMonomial x1) (aM c1 aN))))) (by kernel_rfl)
/-- framewise/poly.Sub -/
noncomputable def poly_Sub (x0:(List Monomial)) (x1:(List Monomial)):Option ((List Monomial)×Int) :=
 (poly_combine [x0,x1] [1,(-1)]).bind fun y0 =>
 some (y0.1,y0.2)
theorem poly_Sub_c (x0:(List Monomial)) (x1:(List Monomial)) (r:((List Monomial)×Int)) (H:poly_Sub x0 x1=some r):AFn Tryz.prog 60 [dS cMonomial x0,dS cMonomial x1] (.tup [dS cMonomial r.1,iI r.2]):=by
 unfold poly_Sub at H
 refine acallX Tryz.func60 13 [.tmp 4,.tmp 5] (by kernel_rfl) (by kernel_rfl) ?_
 refine bnd H fun y0 h0 H0 => ?_
 obtain rfl:=sI H0
 exact p_ret mo 5 [r0 [.v,.v],r0 [.v,.v,.b,.b,.c true (.tup [dS cMonomial y0.1,iI y0.2]),.v,.v,.v,.v]] [] [] (aC Tryz.call125 (aF (poly_combine_c [x0,x1] [1,(-1)] y0 h0) aN)) (by kernel_rfl)
/-- framewise/framewiseref05.Sub -/
def ref05_Sub (x0:(List Monomial)) (x1:(List Monomial)):Option ((List Monomial)×Int) :=
 (ref05_Valid x0).bind fun y0 =>
 bif y0 then (
  (ref05_Valid x1).bind fun y1 =>
  bif y1 then (
   (ref05_times x0 x1 (-1)).bind fun y2 =>
   (ref05_limited y2).bind fun y3 =>
   some (y3.1,y3.2)
  ) else (
   some ([],1)
  )
 ) else (
  some ([],1)
 )
theorem ref05_Sub_c (x0:(List Monomial)) (x1:(List Monomial)) (r:((List Monomial)×Int)) (H:ref05_Sub x0 x1=some r):AFn Tryz.prog 61 [dS cMonomial x0,dS cMonomial x1] (.tup [dS cMonomial r.1,iI r.2]):=by
 unfold ref05_Sub at H
 refine acallX Tryz.func61 20 [.tmp 4,.tmp 5] (by kernel_rfl) (by kernel_rfl) ?_
 refine bnd H fun y0 h0 H0 => ?_
 refine bsp H0 (fun c0 H1 => ?_) (fun c1 H2 => ?_)
 ·refine bnd H1 fun y1 h1 H3 => ?_
  refine bsp H3 (fun c2 H4 => ?_) (fun c3 H5 => ?_)
  ·refine bnd H4 fun y2 h2 H6 => ?_
   refine bnd H6 fun y3 h3 H7 => ?_
   obtain rfl:=sI H7
   exact p_ret mo 11 [r0 [.v,.v],r0 [.v,.c true (.bool true),.v,.v,.v,.c true (.bool y1),.v,.v],.eqT 13 (.bool false),r0 [.v,.v,.c true (dS cMonomial y2),.c true (.tup [dS cMonomial y3.1,iI y3.2]),.v,.v,.v,.v]] [] [] (aC Tryz.call52 (aC (AFn.eq (ref05_Valid_c x0 y0 h0) (cB c0)) (aT (aC Tryz.call52 (aF (ref05_Valid_c x1 y1 h1) (aT (aM c2 (aC Tryz.call127 (aF (ref05_times_c x0 x1 (-1) y2 h2) (aC Tryz.call126 (aF (ref05_limited_c y2 y3 h3) aN))))))))))) (by kernel_rfl)
  ·obtain rfl:=sI H5
   exact p_ret mo 10 [r0 [.v,.v],r0 [.v,.c true (.bool true),.v,.v,.v,.c true (.bool y1),.v,.v],.eqT 13 (.bool true),r0 [.v,.v]] [.wk 4 []] [] (aC Tryz.call52 (aC (AFn.eq (ref05_Valid_c x0 y0 h0) (cB c0)) (aT (aC Tryz.call52 (aF (ref05_Valid_c x1 y1 h1) (aT (aM c3 aN))))))) (by kernel_rfl)
 ·obtain rfl:=sI H2
  exact p_ret mo 9 [r0 [.v,.v],r0 [.v,.c true (.bool false),.v,.v,.s,.s,.s,.v],r0 [.v,.v]] [.wk 4 []] [] (aC Tryz.call52 (aC (AFn.eq (ref05_Valid_c x0 y0 h0) (cB c1)) (aT aN))) (by kernel_rfl)
/-- framewise/poly.Scale -/
noncomputable def poly_Scale (x0:(List Monomial)) (x1:Int):Option ((List Monomial)×Int) :=
 (poly_combine [x0] [(if (if 1099511627777<x1 then 1099511627777 else x1)>(-1099511627777) then (if 1099511627777<x1 then 1099511627777 else x1) else (-1099511627777))]).bind fun y0 =>
 some (y0.1,y0.2)
theorem poly_Scale_c (x0:(List Monomial)) (x1:Int) (r:((List Monomial)×Int)) (H:poly_Scale x0 x1=some r):AFn Tryz.prog 62 [dS cMonomial x0,iI x1] (.tup [dS cMonomial r.1,iI r.2]):=by
 unfold poly_Scale at H
 refine acallX Tryz.func62 15 [.tmp 4,.tmp 5] (by kernel_rfl) (by kernel_rfl) ?_
 refine bnd H fun y0 h0 H0 => ?_
 obtain rfl:=sI H0
 exact p_ret mo 5 [r0 [.v,.v],r0 [.v,.b,.v,.v,.v,.b,.c true (.tup [dS cMonomial y0.1,iI y0.2]),.v,.v,.v,.v]] [] [] (aT (aT (aC Tryz.call125 (aF (poly_combine_c [x0] [(if (if 1099511627777<x1 then 1099511627777 else x1)>(-1099511627777) then (if 1099511627777<x1 then 1099511627777 else x1) else (-1099511627777))] y0 h0) aN)))) (by kernel_rfl)
/-- framewise/framewiseref03.In -/
def ref03_In (x0:Int):Option Bool :=
 bif decide (x0≥(-4611686018427387904)) then (
  some (decide (x0≤4611686018427387904))
 ) else (
  some false
 )
theorem ref03_In_c (x0:Int) (r:Bool) (H:ref03_In x0=some r):AFn Tryz.prog 115 [iI x0] (.bool r):=by
 unfold ref03_In at H
 refine acallX Tryz.func115 9 [.tmp 2] (by kernel_rfl) (by kernel_rfl) ?_
 refine bsp H (fun c0 H0 => ?_) (fun c1 H1 => ?_)
 ·obtain rfl:=sI H0
  exact p_ret mo 5 [r0 [.v],r0 [.v,.e (.bool true),.v,.v,.v,.v,.v]] [] [] (aB c0 aN) (by kernel_rfl)
 ·obtain rfl:=sI H1
  exact p_ret mo 5 [r0 [.v],r0 [.v,.e (.bool false),.v,.s,.s,.v,.v]] [] [] (aB c1 aN) (by kernel_rfl)
/-- framewise/framewiseref03.abs -/
def ref03_abs (x0:Int):Option Int :=
 bif decide (x0<0) then (
  some (w64 (0-x0))
 ) else (
  some x0
 )
theorem ref03_abs_c (x0:Int) (r:Int) (H:ref03_abs x0=some r):AFn Tryz.prog 192 [iI x0] (iI r):=by
 unfold ref03_abs at H
 refine acallX Tryz.func192 8 [.tmp 2] (by kernel_rfl) (by kernel_rfl) ?_
 refine bsp H (fun c0 H0 => ?_) (fun c1 H1 => ?_)
 ·obtain rfl:=sI H0
  exact p_ret mo 10 [r0 [.v],r0 [.v,.v],.eqT 4 (.bool true),r0 [.v,.w,.v]] [] [] (aB c0 aN) (by kernel_rfl)
 ·refine some_e H1 fun e0 => ?_
  subst e0
  exact p_ret mo 11 [r0 [.v],r0 [.v,.v],.eqT 4 (.bool false),r0 [.v,.v]] [] [] (aB c1 aN) (by kernel_rfl)
/-- framewise/framewiseref03.Mul -/
def ref03_Mul (x0:Int) (x1:Int):Option (Int×Int) :=
 (ref03_In x0).bind fun y0 =>
 bif y0 then (
  (ref03_In x1).bind fun y1 =>
  bif y1 then (
   bif (x0==0) then (
    some (0,0)
   ) else (
    bif (x1==0) then (
     some (0,0)
    ) else (
     (ref03_abs x0).bind fun y2 =>
     (ref03_abs x1).bind fun y3 =>
     grd ((y3:Int)≠0) <|
     bif decide (y2>(w64 ((4611686018427387904:Int).tdiv y3))) then (
      some (0,2)
     ) else (
      some ((w64 (x0*x1)),0)
     )
    )
   )
  ) else (
   some (0,2)
  )
 ) else (
  some (0,2)
 )
theorem ref03_Mul_c (x0:Int) (x1:Int) (r:(Int×Int)) (H:ref03_Mul x0 x1=some r):AFn Tryz.prog 116 [iI x0,iI x1] (.tup [iI r.1,iI r.2]):=by
 unfold ref03_Mul at H
 refine acallX Tryz.func116 29 [.tmp 4,.tmp 5] (by kernel_rfl) (by kernel_rfl) ?_
 refine bnd H fun y0 h0 H0 => ?_
 refine bsp H0 (fun c0 H1 => ?_) (fun c1 H2 => ?_)
 ·refine bnd H1 fun y1 h1 H3 => ?_
  refine bsp H3 (fun c2 H4 => ?_) (fun c3 H5 => ?_)
  ·refine bsp H4 (fun c4 H6 => ?_) (fun c5 H7 => ?_)
   ·obtain rfl:=sI H6
    exact p_ret mo 15 [r0 [.v,.v],r0 [.v,.c true (.bool true),.v,.v,.v,.c true (.bool y1),.v,.v],.eqT 13 (.bool false),r0 [.v,.e (.bool true),.v,.s,.s,.v],r0 [.v,.v]] [] [] (aC Tryz.call115 (aC (AFn.eq (ref03_In_c x0 y0 h0) (cB c0)) (aT (aC Tryz.call115 (aF (ref03_In_c x1 y1 h1) (aT (aM c2 (aB c4 aN)))))))) (by kernel_rfl)
   ·refine p_at mo 11 [.rg 0 [] [.v,.v],.rg 0 [] [.v,.c true (.bool true),.v,.v,.v,.c true (.bool y1),.v,.v],.eqT 13 (.bool false),.rg 0 [] [.v,.e (.bool false),.v,.v,.v,.v]] [.only [0,1,4,5,19] []] 10 [false] ⟨29,[(0,.int .i64 x0),(1,.int .i64 x1),(4,.int .i64 0),(5,.int .i64 0),(19,.bool (x1==0))],[]⟩ (aC Tryz.call115 (aC (AFn.eq (ref03_In_c x0 y0 h0) (cB c0)) (aT (aC Tryz.call115 (aF (ref03_In_c x1 y1 h1) (aT (aM c2 (aB c5 aN)))))))) (by kernel_rfl) ?_
    refine bsp H7 (fun c6 H8 => ?_) (fun c7 H9 => ?_)
    ·obtain rfl:=sI H8
     exact p_ret mo 5 [.eqT 19 (.bool true),r0 [.v,.v]] [] [] (aB c6 aN) (by kernel_rfl)
    ·refine bnd H9 fun y2 h2 H10 => ?_
     refine bnd H10 fun y3 h3 H11 => ?_
     refine grd_e H11 fun g0 H12 => ?_
     refine bsp H12 (fun c8 H13 => ?_) (fun c9 H14 => ?_)
     ·obtain rfl:=sI H13
      exact p_ret mo 11 [.eqT 19 (.bool false),r0 [.v,.c true (iI y2),.v,.c true (iI y3),.w,.v],.eqT 25 (.bool true),r0 [.v,.v]] [] [] (aB c7 (aC Tryz.call192 (aF (ref03_abs_c x0 y2 h2) (aC Tryz.call192 (aF (ref03_abs_c x1 y3 h3) (aC (show (y3:Int)≠0 from g0) (aB c8 aN))))))) (by kernel_rfl)
     ·obtain rfl:=sI H14
      exact p_ret mo 12 [.eqT 19 (.bool false),r0 [.v,.c true (iI y2),.v,.c true (iI y3),.w,.v],.eqT 25 (.bool false),r0 [.v,.v,.w,.v,.v]] [] [] (aB c7 (aC Tryz.call192 (aF (ref03_abs_c x0 y2 h2) (aC Tryz.call192 (aF (ref03_abs_c x1 y3 h3) (aC (show (y3:Int)≠0 from g0) (aB c9 aN))))))) (by kernel_rfl)
  ·obtain rfl:=sI H5
   exact p_ret mo 10 [r0 [.v,.v],r0 [.v,.c true (.bool true),.v,.v,.v,.c true (.bool y1),.v,.v],.eqT 13 (.bool true),r0 [.v,.v]] [] [] (aC Tryz.call115 (aC (AFn.eq (ref03_In_c x0 y0 h0) (cB c0)) (aT (aC Tryz.call115 (aF (ref03_In_c x1 y1 h1) (aT (aM c3 aN))))))) (by kernel_rfl)
 ·obtain rfl:=sI H2
  exact p_ret mo 9 [r0 [.v,.v],r0 [.v,.c true (.bool false),.v,.v,.s,.s,.s,.v],r0 [.v,.v]] [] [] (aC Tryz.call115 (aC (AFn.eq (ref03_In_c x0 y0 h0) (cB c1)) (aT aN))) (by kernel_rfl)
/-- framewise/framewiseref05.Scale -/
def ref05_Scale (x0:(List Monomial)) (x1:Int):Option ((List Monomial)×Int) :=
 (ref05_Valid x0).bind fun y0 =>
 bif y0 then (
  bif (((x0.length:Nat):Int)==0) then (
   some ([],0)
  ) else (
   (cnt (σ:=(List Monomial)) (ε:=(List Monomial)) (ρ:=((List Monomial)×Int)) (fun i0 s0 =>
    (ref03_Mul ((x0.getD i0 ⟨0,[]⟩).Coef) x1).bind fun y1 =>
    bif (y1.2==0) then (
     (ref05_plus s0 (Monomial.mk y1.1 ((x0.getD i0 ⟨0,[]⟩).Vars))).bind fun y2 =>
     some (.go y2)
    ) else (
     some (.ret ([],3))
    )
   ) (fun i0 s0=>s0) (x0.length-0) 0 []).bind <| aft fun u0 =>
   (ref05_limited u0).bind fun y3 =>
   some (y3.1,y3.2)
  )
 ) else (
  some ([],1)
 )
def ref05_Scale_S1 (x0:(List Monomial)) (x1:Int) (i0:Nat) (s0:(List Monomial)):AS:=⟨47,[(0,dS cMonomial x0),(1,iI x1),(4,.eslice),(5,iI 0),(6,dS cMonomial s0),(7,nI i0)],[]⟩
def ref05_Scale_S2 (u1:(List Monomial)):AS:=⟨47,[(4,.eslice),(5,iI 0),(6,dS cMonomial u1)],[]⟩
theorem ref05_Scale_c (x0:(List Monomial)) (x1:Int) (r:((List Monomial)×Int)) (H:ref05_Scale x0 x1=some r):AFn Tryz.prog 63 [dS cMonomial x0,iI x1] (.tup [dS cMonomial r.1,iI r.2]):=by
 unfold ref05_Scale at H
 refine acallX Tryz.func63 47 [.tmp 4,.tmp 5] (by kernel_rfl) (by kernel_rfl) ?_
 refine bnd H fun y0 h0 H0 => ?_
 refine bsp H0 (fun c0 H1 => ?_) (fun c1 H2 => ?_)
 ·refine bsp H1 (fun c2 H3 => ?_) (fun c3 H4 => ?_)
  ·obtain rfl:=sI H3
   exact p_ret mo 16 [r0 [.v,.v],r0 [.v,.c true (.bool y0),.v],.eqT 12 (.bool false),r0 [.v,.e (nI x0.length),.v],.eqT 15 (.bool true),r0 [.v,.v]] [.wk 4 []] [] (aC Tryz.call52 (aF (ref05_Valid_c x0 y0 h0) (aT (aM c0 (aT (aC (lenm cMonomial x0) (aB c2 aN))))))) (by kernel_rfl)
  ·refine p_at mo 20 [.rg 0 [] [.v,.v],.rg 0 [] [.v,.c true (.bool y0),.v],.eqT 12 (.bool false),.rg 0 [] [.v,.e (.int .i64 ((x0.length:Nat):Int)),.v],.eqT 15 (.bool false),.rg 0 [] [.v],.rg 0 [] [.v]] [.wk 6 [],.only [0,1,4,5,6,7] []] 18 [false,false] (ref05_Scale_S1 x0 x1 0 []) (aC Tryz.call52 (aF (ref05_Valid_c x0 y0 h0) (aT (aM c0 (aT (aC (lenm cMonomial x0) (aB c3 aN))))))) (by kernel_rfl) ?_
   refine bnd H4 fun R0 h1 H5 => ?_
   refine p_joinO 1 (ref05_Scale_S2) R0 (by kernel_rfl) ?_ (fun u0 e0 => ?_)
   ·refine p_cnt (ref05_Scale_S1 x0 x1) (by kernel_rfl) h1 (fun i0 s0 h2 e1 => ?_) (fun i0 s0 h3 q0 h4 h5 => ?_)
    ·have c4:=lF i0 x0.length (by omega)
     subst e1
     exact p_bar mo 5 [r0 [.v,.v,.e (nI x0.length),.e (.bool false)]] [.only [4,5,6] []] (ref05_Scale_S2 s0) (aT (aC (lenm cMonomial x0) (aB c4 aN))) (by kernel_rfl)
    ·have c5:=lT i0 x0.length (by omega)
     refine bnd h4 fun y1 h6 H6 => ?_
     refine p_at mo 12 [r0 [.v,.v,.e (nI x0.length),.e (.bool true)],r0 [.v,.v,.e (.dptr [iI ((x0.getD i0 ⟨0,[]⟩).Coef),.dslice (((x0.getD i0 ⟨0,[]⟩).Vars).map cStr)]),.v,.v,.v,.c true (.tup [iI y1.1,iI y1.2]),.v,.v,.v,.v,.v],r0 [.v,.v]] [.only [0,1,4,5,6,7,8,33] []] 12 [true] ⟨47,[(0,dS cMonomial x0),(1,iI x1),(4,.eslice),(5,iI 0),(6,dS cMonomial s0),(7,nI i0),(8,iI y1.1),(33,.bool (y1.2 != 0))],[]⟩ (aT (aC (lenm cMonomial x0) (aB c5 (all_app (ix (f:=cMonomial) (l:=x0) (n:=i0) ⟨0,[]⟩ cMonomial_len (by decide) (by omega)) (aC Tryz.call116 (aF (ref03_Mul_c ((x0.getD i0 ⟨0,[]⟩).Coef) x1 y1 h6) aN)))))) (by kernel_rfl) ?_
     refine bsp H6 (fun c6 H7 => ?_) (fun c7 H8 => ?_)
     ·refine bnd H7 fun y2 h7 H9 => ?_
      refine t_lens 0 (ps:=[(x0.map cMonomial).length≤9223372036854775807]) (by kernel_rfl) (fun l0 => ?_)
      have l1:x0.length≤9223372036854775807:=by simpa only [All,List.length_map] using l0
      clear l0
      obtain rfl:=sI H9
      exact p_bar mo 5 [.eqT 33 (.bool false),r0 [.v,.v,.v,.v,.e (.dptr [iI ((x0.getD i0 ⟨0,[]⟩).Coef),.dslice (((x0.getD i0 ⟨0,[]⟩).Vars).map cStr)]),.v,.v,.b,.c true (dS cMonomial y2),.v],r0 [.v,.v,.v]] [.only [0,1,4,5,6,7] []] (ref05_Scale_S1 x0 x1 (i0+1) y2) (aM c6 (all_app (ix (f:=cMonomial) (l:=x0) (n:=i0) ⟨0,[]⟩ cMonomial_len (by decide) (by omega)) (aC Tryz.call128 (aF (ref05_plus_c s0 (Monomial.mk y1.1 ((x0.getD i0 ⟨0,[]⟩).Vars)) y2 h7) (aC (pI i0 (by omega)) aN))))) (by kernel_rfl)
     ·obtain rfl:=sI H8
      obtain rfl:=out_ret h5
      obtain rfl:=sI (aft_ret H5)
      exact p_ret mo 5 [.eqT 33 (.bool true),r0 [.v,.v]] [.wk 4 []] [] (aM c7 aN) (by kernel_rfl)
   ·subst e0
    have H10:=aft_brk H5
    refine bnd H10 fun y3 h8 H11 => ?_
    obtain rfl:=sI H11
    exact p_ret mo 3 [r0 [.v,.c true (.tup [dS cMonomial y3.1,iI y3.2]),.v,.v,.v,.v]] [] [] (aC Tryz.call126 (aF (ref05_limited_c u0 y3 h8) aN)) (by kernel_rfl)
 ·obtain rfl:=sI H2
  exact p_ret mo 10 [r0 [.v,.v],r0 [.v,.c true (.bool y0),.v],.eqT 12 (.bool true),r0 [.v,.v]] [.wk 4 []] [] (aC Tryz.call52 (aF (ref05_Valid_c x0 y0 h0) (aT (aM c1 aN)))) (by kernel_rfl)
/-- framewise/poly.Mul -/
noncomputable def poly_Mul (x0:(List Monomial)) (x1:(List Monomial)):Option ((List Monomial)×Int) :=
 (poly_Valid x0).bind fun y0 =>
 bif y0 then (
  (poly_Valid x1).bind fun y1 =>
  bif y1 then (
   (poly_mul x0 x1).bind fun y2 =>
   some (y2.1,y2.2)
  ) else (
   some ([],1)
  )
 ) else (
  some ([],1)
 )
theorem poly_Mul_c (x0:(List Monomial)) (x1:(List Monomial)) (r:((List Monomial)×Int)) (H:poly_Mul x0 x1=some r):AFn Tryz.prog 56 [dS cMonomial x0,dS cMonomial x1] (.tup [dS cMonomial r.1,iI r.2]):=by
 unfold poly_Mul at H
 refine acallX Tryz.func56 19 [.tmp 4,.tmp 5] (by kernel_rfl) (by kernel_rfl) ?_
 refine bnd H fun y0 h0 H0 => ?_
 refine bsp H0 (fun c0 H1 => ?_) (fun c1 H2 => ?_)
 ·refine bnd H1 fun y1 h1 H3 => ?_
  refine bsp H3 (fun c2 H4 => ?_) (fun c3 H5 => ?_)
  ·refine bnd H4 fun y2 h2 H6 => ?_
   obtain rfl:=sI H6
   exact p_ret mo 11 [r0 [.v,.v],r0 [.v,.c true (.bool true),.v,.v,.v,.c true (.bool y1),.v,.v],.eqT 13 (.bool false),r0 [.v,.v,.c true (.tup [dS cMonomial y2.1,iI y2.2]),.v,.v,.v,.v]] [] [] (aC Tryz.call70 (aC (AFn.eq (poly_Valid_c x0 y0 h0) (cB c0)) (aT (aC Tryz.call70 (aF (poly_Valid_c x1 y1 h1) (aT (aM c2 (aC Tryz.call124 (aF (poly_mul_c x0 x1 y2 h2) aN))))))))) (by kernel_rfl)
  ·obtain rfl:=sI H5
   exact p_ret mo 10 [r0 [.v,.v],r0 [.v,.c true (.bool true),.v,.v,.v,.c true (.bool y1),.v,.v],.eqT 13 (.bool true),r0 [.v,.v]] [.wk 4 []] [] (aC Tryz.call70 (aC (AFn.eq (poly_Valid_c x0 y0 h0) (cB c0)) (aT (aC Tryz.call70 (aF (poly_Valid_c x1 y1 h1) (aT (aM c3 aN))))))) (by kernel_rfl)
 ·obtain rfl:=sI H2
  exact p_ret mo 9 [r0 [.v,.v],r0 [.v,.c true (.bool false),.v,.v,.s,.s,.s,.v],r0 [.v,.v]] [.wk 4 []] [] (aC Tryz.call70 (aC (AFn.eq (poly_Valid_c x0 y0 h0) (cB c1)) (aT aN))) (by kernel_rfl)
/-- framewise/framewiseref05.join -/
def ref05_join (x0:(List Str)) (x1:(List Str)):Option (List Str) :=
 (whl (σ:=((List Str)×Int×Int)) (ε:=(List Str)) (ρ:=Empty) (fun s0 =>
  ((
   bif decide (s0.2.1<((x0.length:Nat):Int)) then (
    some (.brk ())
   ) else (
    bif decide (s0.2.2<((x1.length:Nat):Int)) then (
     some (.brk ())
    ) else (
     some (.ret (.brk s0.1))
    )
   )
  ):Option (Out Unit (Stp ((List Str)×Int×Int) (List Str) Empty))).bind (aft fun u0 =>
   ((
    bif (s0.2.2==((x1.length:Nat):Int)) then (
     some true
    ) else (
     bif decide (s0.2.1<((x0.length:Nat):Int)) then (
      grd (0≤s0.2.1∧s0.2.1<(x0.length:Int)) <|
      grd (0≤s0.2.2∧s0.2.2<(x1.length:Int)) <|
      some (Op.bytesLess (x0.getD s0.2.1.toNat []) (x1.getD s0.2.2.toNat [])||(x0.getD s0.2.1.toNat [])==(x1.getD s0.2.2.toNat []))
     ) else (
      some false
     )
    )
   ):Option Bool).bind fun v0 =>
   bif v0 then (
    grd (0≤s0.2.1∧s0.2.1<(x0.length:Int)) <|
    grd ((s0.1.length+1)*16≤140737488355328) <|
    some (.go ((s0.1++[(x0.getD s0.2.1.toNat [])]),(w64 (s0.2.1+1)),s0.2.2))
   ) else (
    grd (0≤s0.2.2∧s0.2.2<(x1.length:Int)) <|
    grd ((s0.1.length+1)*16≤140737488355328) <|
    some (.go ((s0.1++[(x1.getD s0.2.2.toNat [])]),s0.2.1,(w64 (s0.2.2+1))))
   )
  )
 ) 4294967296 ([],0,0)).bind <| aftE fun u1 =>
 some u1
def ref05_join_S1 (x0:(List Str)) (x1:(List Str)) (s0:((List Str)×Int×Int)):AS:=⟨58,[(0,dS cStr x0),(1,dS cStr x1),(4,.eslice),(5,.rslice 54),(6,iI s0.2.1),(7,iI s0.2.2)],[(54,.row 9 1 (s0.1.map cStr))]⟩
def ref05_join_S2 (u2:(List Str)):AS:=⟨58,[(4,.eslice),(5,.rslice 54)],[(54,.row 9 1 (u2.map cStr))]⟩
def ref05_join_S3 (x0:(List Str)) (x1:(List Str)) (s0:((List Str)×Int×Int)) (u0:Unit):AS:=⟨58,[(0,dS cStr x0),(1,dS cStr x1),(4,.eslice),(5,.rslice 54),(6,iI s0.2.1),(7,iI s0.2.2)],[(54,.row 9 1 (s0.1.map cStr))]⟩
def ref05_join_S4 (x0:(List Str)) (x1:(List Str)) (s0:((List Str)×Int×Int)) (v0:Bool):AS:=⟨58,[(0,dS cStr x0),(1,dS cStr x1),(4,.eslice),(5,.rslice 54),(6,iI s0.2.1),(7,iI s0.2.2),(38,.bool v0)],[(54,.row 9 1 (s0.1.map cStr))]⟩
theorem ref05_join_c (x0:(List Str)) (x1:(List Str)) (r:(List Str)) (H:ref05_join x0 x1=some r):AFn Tryz.prog 129 [dS cStr x0,dS cStr x1] (dS cStr r):=by
 unfold ref05_join at H
 refine acallX Tryz.func129 58 [.tmp 4] (by kernel_rfl) (by kernel_rfl) ?_
 refine p_at mo 8 [r0 [.v],r0 [.v],r0 [.v,.v]] [.er 5 54 9 1,.only [0,1,4,5,6,7] [54]] 8 [] (ref05_join_S1 x0 x1 ([],0,0)) aN (by kernel_rfl) ?_
 refine bnd H fun R0 h0 H0 => ?_
 refine p_joinO 1 (ref05_join_S2) R0 (by kernel_rfl) ?_ (fun u1 e0 => ?_)
 ·refine p_whl (ref05_join_S1 x0 x1) (by kernel_rfl) h0 (fun s0 q0 h1 h2 => ?_)
  ·refine p_at mo 2 [] [.only [0,1,4,5,6,7] [54]] 2 [] ⟨58,[(0,.dslice (x0.map cStr)),(1,.dslice (x1.map cStr)),(4,.eslice),(5,.rslice 54),(6,.int .i64 s0.2.1),(7,.int .i64 s0.2.2)],[(54,.row 9 1 (s0.1.map cStr))]⟩ aN (by kernel_rfl) ?_
   refine bnd h1 fun v1 h3 H1 => ?_
   refine p_joinO 1 (ref05_join_S3 x0 x1 s0) v1 (by kernel_rfl) ?_ (fun u0 e1 => ?_)
   ·refine bsp h3 (fun c0 H2 => ?_) (fun c1 H3 => ?_)
    ·obtain rfl:=sI H2
     exact p_bar mo 3 [r0 [.v,.v,.e (nI x0.length),.e (.bool true),.v,.s,.s,.s,.s,.v]] [.only [0,1,4,5,6,7] [54]] (ref05_join_S3 x0 x1 s0 ()) (aT (aC (lenm cStr x0) (aB c0 aN))) (by kernel_rfl)
    ·refine bsp H3 (fun c2 H4 => ?_) (fun c3 H5 => ?_)
     ·obtain rfl:=sI H4
      exact p_bar mo 4 [r0 [.v,.v,.e (nI x0.length),.e (.bool false),.v,.v,.v,.e (nI x1.length),.v,.v],.eqT 17 (.bool true)] [.only [0,1,4,5,6,7] [54]] (ref05_join_S3 x0 x1 s0 ()) (aT (aC (lenm cStr x0) (aB c1 (aT (aC (lenm cStr x1) (aB c2 aN)))))) (by kernel_rfl)
     ·obtain rfl:=sI H5
      obtain rfl:=sI (aft_ret H1)
      obtain rfl:=out_brk h2
      exact p_bar mo 4 [r0 [.v,.v,.e (nI x0.length),.e (.bool false),.v,.v,.v,.e (nI x1.length),.v,.v],.eqT 17 (.bool false)] [.only [4,5] [54]] (ref05_join_S2 s0.1) (aT (aC (lenm cStr x0) (aB c1 (aT (aC (lenm cStr x1) (aB c3 aN)))))) (by kernel_rfl)
   ·subst e1
    have H6:=aft_brk H1
    refine p_at mo 2 [] [.only [0,1,4,5,6,7] [54]] 2 [] ⟨58,[(0,dS cStr x0),(1,dS cStr x1),(4,.eslice),(5,.rslice 54),(6,iI s0.2.1),(7,iI s0.2.2)],[(54,.row 9 1 (s0.1.map cStr))]⟩ aN (by kernel_rfl) ?_
    refine bnd H6 fun v0 h4 H7 => ?_
    refine p_join 0 (ref05_join_S4 x0 x1 s0 v0) (by kernel_rfl) ?_ ?_
    ·refine bsp h4 (fun c4 H8 => ?_) (fun c5 H9 => ?_)
     ·obtain rfl:=sI H8
      exact p_bar mo 1 [.rg 18 [.v,.v,.e (nI x1.length),.e (.bool true),.v,.s,.s,.s,.s,.s,.s,.s,.s,.s,.s,.s,.s,.s] [.s,.s,.v]] [.only [0,1,4,5,6,7,38] [54]] (ref05_join_S4 x0 x1 s0 true) (aT (aC (lenm cStr x1) (aB c4 aN))) (by kernel_rfl)
     ·refine bsp H9 (fun c6 H10 => ?_) (fun c7 H11 => ?_)
      ·refine grd_e H10 fun g0 H12 => ?_
       refine grd_e H12 fun g1 H13 => ?_
       obtain rfl:=sI H13
       exact p_bar mo 1 [.rg 18 [.v,.v,.e (nI x1.length),.e (.bool false),.v,.v,.v,.e (nI x0.length),.e (.bool true),.v,.v,.v,.e (.dptr [.str (x0.getD s0.2.1.toNat [])]),.v,.v,.v,.e (.dptr [.str (x1.getD s0.2.2.toNat [])]),.v] [.v,.v,.v]] [.only [0,1,4,5,6,7,38] [54]] (ref05_join_S4 x0 x1 s0 (Op.bytesLess (x0.getD s0.2.1.toNat []) (x1.getD s0.2.2.toNat [])||(x0.getD s0.2.1.toNat [])==(x1.getD s0.2.2.toNat []))) (aT (aC (lenm cStr x1) (aB c5 (aT (aC (lenm cStr x0) (aB c6 (all_app (ixz (f:=cStr) (l:=x0) (n:=s0.2.1) [] cStr_len (by decide) (by exact g0)) (all_app (ixz (f:=cStr) (l:=x1) (n:=s0.2.2) [] cStr_len (by decide) (by exact g1)) aN)))))))) (by kernel_rfl)
      ·obtain rfl:=sI H11
       exact p_bar mo 1 [.rg 18 [.v,.v,.e (nI x1.length),.e (.bool false),.v,.v,.v,.e (nI x0.length),.e (.bool false),.v,.s,.s,.s,.s,.s,.s,.s,.s] [.s,.v,.v]] [.only [0,1,4,5,6,7,38] [54]] (ref05_join_S4 x0 x1 s0 false) (aT (aC (lenm cStr x1) (aB c5 (aT (aC (lenm cStr x0) (aB c7 aN)))))) (by kernel_rfl)
    ·refine bsp H7 (fun c8 H14 => ?_) (fun c9 H15 => ?_)
     ·refine grd_e H14 fun g2 H16 => ?_
      refine grd_e H16 fun g3 H17 => ?_
      obtain rfl:=sI H17
      exact p_bar mo 5 [.eqT 38 (.bool true),r0 [.v,.v,.v,.e (.dptr [.str (x0.getD s0.2.1.toNat [])]),.v,.b,.ap,.rwH 45 (.row 9 1 ((s0.1++[(x0.getD s0.2.1.toNat [])]).map cStr)),.v],r0 [.v,.w,.v]] [.ren [(45,54)],.only [0,1,4,5,6,7] [54]] (ref05_join_S1 x0 x1 ((s0.1++[(x0.getD s0.2.1.toNat [])]),(w64 (s0.2.1+1)),s0.2.2)) (aB c8 (all_app (ixz (f:=cStr) (l:=x0) (n:=s0.2.1) [] cStr_len (by decide) (by exact g2)) (all_app (apR (c:=cStr) cStr_ok s0.1 [(x0.getD s0.2.1.toNat [])] 16 (by decide) (by simpa using g3)) (aC (apQ 9 1 cStr s0.1 [(x0.getD s0.2.1.toNat [])]) aN)))) (by kernel_rfl)
     ·refine grd_e H15 fun g4 H18 => ?_
      refine grd_e H18 fun g5 H19 => ?_
      obtain rfl:=sI H19
      exact p_bar mo 5 [.eqT 38 (.bool false),r0 [.v,.v,.v,.e (.dptr [.str (x1.getD s0.2.2.toNat [])]),.v,.b,.ap,.rwH 54 (.row 9 1 ((s0.1++[(x1.getD s0.2.2.toNat [])]).map cStr)),.v],r0 [.v,.w,.v]] [.only [0,1,4,5,6,7] [54]] (ref05_join_S1 x0 x1 ((s0.1++[(x1.getD s0.2.2.toNat [])]),s0.2.1,(w64 (s0.2.2+1)))) (aB c9 (all_app (ixz (f:=cStr) (l:=x1) (n:=s0.2.2) [] cStr_len (by decide) (by exact g4)) (all_app (apR (c:=cStr) cStr_ok s0.1 [(x1.getD s0.2.2.toNat [])] 16 (by decide) (by simpa using g5)) (aC (apQ 9 1 cStr s0.1 [(x1.getD s0.2.2.toNat [])]) aN)))) (by kernel_rfl)
 ·subst e0
  have H20:=aftE_brk H0
  refine some_e H20 fun e2 => ?_
  subst e2
  exact p_ret mo 3 [r0 [.v,.v]] [.fz 54] [] aN (by kernel_rfl)
/-- framewise/framewiseref03.digits -/
def ref03_digits (x0:Int):Option (Int×Int×Int) :=
 some ((x0.tmod 2097152),((w64 (x0.tdiv 2097152)).tmod 2097152),(w64 ((w64 (x0.tdiv 2097152)).tdiv 2097152)))
theorem ref03_digits_c (x0:Int) (r:(Int×Int×Int)) (H:ref03_digits x0=some r):AFn Tryz.prog 203 [iI x0] (.agg [iI r.1,iI r.2.1,iI r.2.2]):=by
 unfold ref03_digits at H
 refine acallX Tryz.func203 12 [.cell 2 217] (by kernel_rfl) (by kernel_rfl) ?_
 obtain rfl:=sI H
 exact p_ret mo 5 [r0 [.m],r0 [.v,.v,.v,.w,.v,.v,.w,.w,.b,.m]] [] [] (aC (show (2097152:Int)≠0 from (by decide)) (aC (show (2097152:Int)≠0 from (by decide)) (aC (show (2097152:Int)≠0 from (by decide)) (aC (show (2097152:Int)≠0 from (by decide)) (aC (show (2097152:Int)≠0 from (by decide)) aN))))) (by kernel_rfl)
/-- framewise/framewiseref03.Div -/
def ref03_Div (x0:Int) (x1:Int):Option (Int×Int) :=
 (ref03_In x0).bind fun y0 =>
 bif y0 then (
  (ref03_In x1).bind fun y1 =>
  bif y1 then (
   bif (x1==0) then (
    some (0,1)
   ) else (
    grd ((x1:Int)≠0) <|
    ((
     bif ((x0.tmod x1)==0) then (
      some false
     ) else (
      some (!(decide (x0<0)==decide (x1<0)))
     )
    ):Option Bool).bind fun v0 =>
    bif v0 then (
     some ((w64 ((w64 (x0.tdiv x1))-1)),0)
    ) else (
     some ((w64 (x0.tdiv x1)),0)
    )
   )
  ) else (
   some (0,2)
  )
 ) else (
  some (0,2)
 )
def ref03_Div_S1 (x0:Int) (x1:Int) (v0:Bool):AS:=⟨34,[(4,iI 0),(5,iI 0),(6,iI (w64 (x0.tdiv x1))),(30,.bool v0)],[]⟩
theorem ref03_Div_c (x0:Int) (x1:Int) (r:(Int×Int)) (H:ref03_Div x0 x1=some r):AFn Tryz.prog 204 [iI x0,iI x1] (.tup [iI r.1,iI r.2]):=by
 unfold ref03_Div at H
 refine acallX Tryz.func204 34 [.tmp 4,.tmp 5] (by kernel_rfl) (by kernel_rfl) ?_
 refine bnd H fun y0 h0 H0 => ?_
 refine bsp H0 (fun c0 H1 => ?_) (fun c1 H2 => ?_)
 ·refine bnd H1 fun y1 h1 H3 => ?_
  refine bsp H3 (fun c2 H4 => ?_) (fun c3 H5 => ?_)
  ·refine bsp H4 (fun c4 H6 => ?_) (fun c5 H7 => ?_)
   ·obtain rfl:=sI H6
    exact p_ret mo 16 [r0 [.v,.v],r0 [.v,.c true (.bool true),.v,.v,.v,.c true (.bool y1),.v,.v],.eqT 14 (.bool false),r0 [.v,.v],.eqT 16 (.bool true),r0 [.v,.v]] [] [] (aC Tryz.call115 (aC (AFn.eq (ref03_In_c x0 y0 h0) (cB c0)) (aT (aC Tryz.call115 (aF (ref03_In_c x1 y1 h1) (aT (aM c2 (aB c4 aN)))))))) (by kernel_rfl)
   ·refine grd_e H7 fun g0 H8 => ?_
    refine p_at mo 18 [r0 [.v,.v],r0 [.v,.c true (.bool true),.v,.v,.v,.c true (.bool y1),.v,.v],.eqT 14 (.bool false),r0 [.v,.v],.eqT 16 (.bool false),r0 [.v,.v,.w,.v]] [.only [0,1,4,5,6] []] 16 [false,false] ⟨34,[(0,iI x0),(1,iI x1),(4,iI 0),(5,iI 0),(6,iI (w64 (x0.tdiv x1)))],[]⟩ (aC Tryz.call115 (aC (AFn.eq (ref03_In_c x0 y0 h0) (cB c0)) (aT (aC Tryz.call115 (aF (ref03_In_c x1 y1 h1) (aT (aM c2 (aB c5 (aC (show (x1:Int)≠0 from g0) aN))))))))) (by kernel_rfl) ?_
    refine bnd H8 fun v0 h2 H9 => ?_
    refine p_join 0 (ref03_Div_S1 x0 x1 v0) (by kernel_rfl) ?_ ?_
    ·refine bsp h2 (fun c6 H10 => ?_) (fun c7 H11 => ?_)
     ·obtain rfl:=sI H10
      exact p_bar mo 1 [r0 [.v,.v,.v,.e (.bool false),.v,.s,.s,.s,.s,.s,.v]] [.only [4,5,6,30] []] (ref03_Div_S1 x0 x1 false) (aC (show (x1:Int)≠0 from g0) (aM c6 aN)) (by kernel_rfl)
     ·obtain rfl:=sI H11
      exact p_bar mo 1 [r0 [.v,.v,.v,.e (.bool true),.v,.v,.v,.v,.v,.v,.v]] [.only [4,5,6,30] []] (ref03_Div_S1 x0 x1 (!(decide (x0<0)==decide (x1<0)))) (aC (show (x1:Int)≠0 from g0) (aM c7 aN)) (by kernel_rfl)
    ·refine bsp H9 (fun c8 H12 => ?_) (fun c9 H13 => ?_)
     ·obtain rfl:=sI H12
      exact p_ret mo 6 [.eqT 30 (.bool true),r0 [.v,.w,.v],r0 [.v,.v,.v]] [] [] (aB c8 aN) (by kernel_rfl)
     ·obtain rfl:=sI H13
      exact p_ret mo 6 [.eqT 30 (.bool false),r0 [.v,.v,.v]] [] [] (aB c9 aN) (by kernel_rfl)
  ·obtain rfl:=sI H5
   exact p_ret mo 10 [r0 [.v,.v],r0 [.v,.c true (.bool true),.v,.v,.v,.c true (.bool y1),.v,.v],.eqT 14 (.bool true),r0 [.v,.v]] [] [] (aC Tryz.call115 (aC (AFn.eq (ref03_In_c x0 y0 h0) (cB c0)) (aT (aC Tryz.call115 (aF (ref03_In_c x1 y1 h1) (aT (aM c3 aN))))))) (by kernel_rfl)
 ·obtain rfl:=sI H2
  exact p_ret mo 9 [r0 [.v,.v],r0 [.v,.c true (.bool false),.v,.v,.s,.s,.s,.v],r0 [.v,.v]] [] [] (aC Tryz.call115 (aC (AFn.eq (ref03_In_c x0 y0 h0) (cB c1)) (aT aN))) (by kernel_rfl)
/-- framewise/framewiseref03.Dot -/
def ref03_Dot (x0:(List Int)) (x1:(List Int)):Option (Int×Int) :=
 bif (((x0.length:Nat):Int)==((x1.length:Nat):Int)) then (
  bif decide (((x0.length:Nat):Int)>10000) then (
   some (0,3)
  ) else (
   (cnt (σ:=Unit) (ε:=Unit) (ρ:=(Int×Int)) (fun i0 s0 =>
    (ref03_In (x0.getD i0 0)).bind fun y0 =>
    bif y0 then (
     grd (i0<x1.length) <|
     (ref03_In (x1.getD i0 0)).bind fun y1 =>
     bif y1 then (
      some (.go ())
     ) else (
      some (.ret (0,2))
     )
    ) else (
     some (.ret (0,2))
    )
   ) (fun i0 s0=>()) (x0.length-0) 0 ()).bind <| aft fun u0 =>
   (cnt (σ:=(Int×Int×Int×Int×Int)) (ε:=(Int×Int×Int×Int×Int)) (ρ:=Empty) (fun i1 s1 =>
    (ref03_digits (x0.getD i1 0)).bind fun y2 =>
    grd (i1<x1.length) <|
    (ref03_digits (x1.getD i1 0)).bind fun y3 =>
    some (.go ((w64 (s1.1+(w64 (y2.1*y3.1)))),(w64 ((w64 (s1.2.1+(w64 (y2.1*y3.2.1))))+(w64 (y2.2.1*y3.1)))),(w64 ((w64 ((w64 (s1.2.2.1+(w64 (y2.1*y3.2.2))))+(w64 (y2.2.1*y3.2.1))))+(w64 (y2.2.2*y3.1)))),(w64 ((w64 (s1.2.2.2.1+(w64 (y2.2.1*y3.2.2))))+(w64 (y2.2.2*y3.2.1)))),(w64 (s1.2.2.2.2+(w64 (y2.2.2*y3.2.2))))))
   ) (fun i1 s1=>(s1.1,s1.2.1,s1.2.2.1,s1.2.2.2.1,s1.2.2.2.2)) (x0.length-0) 0 (0,0,0,0,0)).bind <| aftE fun u1 =>
   (ref03_Div u1.1 2097152).bind fun y4 =>
   (some (w64 (u1.1-(w64 (y4.1*2097152))))).bind fun y5 =>
   (ref03_Div (w64 (u1.2.1+y4.1)) 2097152).bind fun y6 =>
   (some (w64 ((w64 (u1.2.1+y4.1))-(w64 (y6.1*2097152))))).bind fun y7 =>
   (ref03_Div (w64 (u1.2.2.1+y6.1)) 2097152).bind fun y8 =>
   (some (w64 ((w64 (u1.2.2.1+y6.1))-(w64 (y8.1*2097152))))).bind fun y9 =>
   (ref03_Div (w64 (u1.2.2.2.1+y8.1)) 2097152).bind fun y10 =>
   (some (w64 ((w64 (u1.2.2.2.1+y8.1))-(w64 (y10.1*2097152))))).bind fun y11 =>
   (ref03_Div (w64 (u1.2.2.2.2+y10.1)) 2097152).bind fun y12 =>
   (some (w64 ((w64 (u1.2.2.2.2+y10.1))-(w64 (y12.1*2097152))))).bind fun y13 =>
   (ref03_Div (w64 (0+y12.1)) 2097152).bind fun y14 =>
   (some (w64 ((w64 (0+y12.1))-(w64 (y14.1*2097152))))).bind fun y15 =>
   (ref03_Div (w64 (0+y14.1)) 2097152).bind fun y16 =>
   (some (w64 ((w64 (0+y14.1))-(w64 (y16.1*2097152))))).bind fun y17 =>
   bif decide ((w64 (0+(w64 (0+y16.1))))>2199023255552) then (
    some (0,2)
   ) else (
    bif decide ((w64 (0+(w64 (0+y16.1))))<(-2199023255552)) then (
     some (0,2)
    ) else (
     (some (w64 ((w64 (0+(w64 (0+y16.1))))*2097152))).bind fun y18 =>
     bif decide ((w64 (y18+y17))>2199023255552) then (
      some (0,2)
     ) else (
      bif decide ((w64 (y18+y17))<(-2199023255552)) then (
       some (0,2)
      ) else (
       (some (w64 ((w64 (y18+y17))*2097152))).bind fun y19 =>
       bif decide ((w64 (y19+y15))>2199023255552) then (
        some (0,2)
       ) else (
        bif decide ((w64 (y19+y15))<(-2199023255552)) then (
         some (0,2)
        ) else (
         (some (w64 ((w64 (y19+y15))*2097152))).bind fun y20 =>
         bif decide ((w64 (y20+y13))>2199023255552) then (
          some (0,2)
         ) else (
          bif decide ((w64 (y20+y13))<(-2199023255552)) then (
           some (0,2)
          ) else (
           (some (w64 ((w64 (y20+y13))*2097152))).bind fun y21 =>
           bif decide ((w64 (y21+y11))>2199023255552) then (
            some (0,2)
           ) else (
            bif decide ((w64 (y21+y11))<(-2199023255552)) then (
             some (0,2)
            ) else (
             (some (w64 ((w64 (y21+y11))*2097152))).bind fun y22 =>
             bif decide ((w64 (y22+y9))>2199023255552) then (
              some (0,2)
             ) else (
              bif decide ((w64 (y22+y9))<(-2199023255552)) then (
               some (0,2)
              ) else (
               (some (w64 ((w64 (y22+y9))*2097152))).bind fun y23 =>
               bif decide ((w64 (y23+y7))>2199023255552) then (
                some (0,2)
               ) else (
                bif decide ((w64 (y23+y7))<(-2199023255552)) then (
                 some (0,2)
                ) else (
                 (some (w64 ((w64 (y23+y7))*2097152))).bind fun y24 =>
                 (ref03_In (w64 (y24+y5))).bind fun y25 =>
                 bif y25 then (
                  some ((w64 (y24+y5)),0)
                 ) else (
                  some (0,2)
                 )
                )
               )
              )
             )
            )
           )
          )
         )
        )
       )
      )
     )
    )
   )
  )
 ) else (
  some (0,1)
 )
def ref03_Dot_S1 (x0:(List Int)) (x1:(List Int)) (i0:Nat) (s0:Unit):AS:=⟨130,[(0,dS cInt_i64 x0),(1,dS cInt_i64 x1),(4,iI 0),(5,iI 0),(6,nI i0)],[]⟩
def ref03_Dot_S2 (x0:(List Int)) (x1:(List Int)) (u2:Unit):AS:=⟨130,[(0,dS cInt_i64 x0),(1,dS cInt_i64 x1),(4,iI 0),(5,iI 0)],[]⟩
def ref03_Dot_S3 (x0:(List Int)) (x1:(List Int)) (i1:Nat) (s1:(Int×Int×Int×Int×Int)):AS:=⟨130,[(0,dS cInt_i64 x0),(1,dS cInt_i64 x1),(4,iI 0),(5,iI 0),(7,.hptr 7 0),(8,nI i1)],[(7,.cells 216 [iI s1.1,iI s1.2.1,iI s1.2.2.1,iI s1.2.2.2.1,iI s1.2.2.2.2,iI 0,iI 0,iI 0])]⟩
def ref03_Dot_S4 (u3:(Int×Int×Int×Int×Int)):AS:=⟨130,[(4,iI 0),(5,iI 0),(7,.hptr 7 0)],[(7,.cells 216 [iI u3.1,iI u3.2.1,iI u3.2.2.1,iI u3.2.2.2.1,iI u3.2.2.2.2,iI 0,iI 0,iI 0])]⟩
theorem ref03_Dot_c (x0:(List Int)) (x1:(List Int)) (r:(Int×Int)) (H:ref03_Dot x0 x1=some r):AFn Tryz.prog 130 [dS cInt_i64 x0,dS cInt_i64 x1] (.tup [iI r.1,iI r.2]):=by
 unfold ref03_Dot at H
 refine acallX Tryz.func130 130 [.tmp 4,.tmp 5] (by kernel_rfl) (by kernel_rfl) ?_
 refine bsp H (fun c0 H0 => ?_) (fun c1 H1 => ?_)
 ·refine p_at mo 11 [.rg 0 [] [.v,.v],.rg 0 [] [.v,.e (.int .i64 ((x0.length:Nat):Int)),.v,.e (.int .i64 ((x1.length:Nat):Int)),.v],.eqT 22 (.bool false),.rg 0 [] [.v,.e (.int .i64 ((x0.length:Nat):Int)),.v]] [.only [0,1,4,5,25] []] 10 [false] ⟨130,[(0,.dslice (x0.map cInt_i64)),(1,.dslice (x1.map cInt_i64)),(4,.int .i64 0),(5,.int .i64 0),(25,.bool (decide (((x0.length:Nat):Int)>10000)))],[]⟩ (aT (aC (lenm cInt_i64 x0) (aT (aC (lenm cInt_i64 x1) (aM c0 (aT (aC (lenm cInt_i64 x0) aN))))))) (by kernel_rfl) ?_
  refine bsp H0 (fun c2 H2 => ?_) (fun c3 H3 => ?_)
  ·obtain rfl:=sI H2
   exact p_ret mo 5 [.eqT 25 (.bool true),r0 [.v,.v]] [] [] (aB c2 aN) (by kernel_rfl)
  ·have c3p:=of_decide_eq_false c3
   refine p_at mo 7 [.eqT 25 (.bool false),r0 [.v]] [.only [0,1,4,5,6] []] 6 [false] (ref03_Dot_S1 x0 x1 0 ()) (aB c3 aN) (by kernel_rfl) ?_
   refine bnd H3 fun R0 h0 H4 => ?_
   refine p_joinO 1 (ref03_Dot_S2 x0 x1) R0 (by kernel_rfl) ?_ (fun u0 e0 => ?_)
   ·refine p_cnt (ref03_Dot_S1 x0 x1) (by kernel_rfl) h0 (fun i0 s0 h1 e1 => ?_) (fun i0 s0 h2 q0 h3 h4 => ?_)
    ·have c4:=lF i0 x0.length (by omega)
     subst e1
     exact p_bar mo 5 [r0 [.v,.v,.e (nI x0.length),.e (.bool false)]] [.only [0,1,4,5] []] (ref03_Dot_S2 x0 x1 ()) (aT (aC (lenm cInt_i64 x0) (aB c4 aN))) (by kernel_rfl)
    ·have c5:=lT i0 x0.length (by omega)
     refine bnd h3 fun y0 h5 H5 => ?_
     refine bsp H5 (fun c6 H6 => ?_) (fun c7 H7 => ?_)
     ·refine grd_e H6 fun g0 H8 => ?_
      refine bnd H8 fun y1 h6 H9 => ?_
      refine p_at mo 9 [r0 [.v,.v,.e (nI x0.length),.e (.bool true)],r0 [.v,.v,.e (.dptr [iI (x0.getD i0 0)]),.v,.c true (.bool true),.v,.v,.v,.v,.e (.dptr [iI (x1.getD i0 0)]),.v,.c true (.bool y1),.v,.v]] [.only [0,1,4,5,6,45] []] 9 [true] ⟨130,[(0,dS cInt_i64 x0),(1,dS cInt_i64 x1),(4,iI 0),(5,iI 0),(6,nI i0),(45,.bool (!y1))],[]⟩ (aT (aC (lenm cInt_i64 x0) (aB c5 (all_app (ix (f:=cInt_i64) (l:=x0) (n:=i0) 0 cInt_i64_len (by decide) (by omega)) (aC Tryz.call115 (aC (AFn.eq (ref03_In_c (x0.getD i0 0) y0 h5) (cB c6)) (aT (all_app (ix (f:=cInt_i64) (l:=x1) (n:=i0) 0 cInt_i64_len (by decide) (by omega)) (aC Tryz.call115 (aF (ref03_In_c (x1.getD i0 0) y1 h6) (aT aN))))))))))) (by kernel_rfl) ?_
      refine bsp H9 (fun c8 H10 => ?_) (fun c9 H11 => ?_)
      ·refine t_lens 0 (ps:=[(x0.map cInt_i64).length≤9223372036854775807]) (by kernel_rfl) (fun l0 => ?_)
       have l1:x0.length≤9223372036854775807:=by simpa only [All,List.length_map] using l0
       clear l0
       obtain rfl:=sI H10
       exact p_bar mo 4 [.eqT 45 (.bool false),r0 [.v,.v,.v]] [.only [0,1,4,5,6] []] (ref03_Dot_S1 x0 x1 (i0+1) ()) (aM c8 (aC (pI i0 (by omega)) aN)) (by kernel_rfl)
      ·obtain rfl:=sI H11
       obtain rfl:=out_ret h4
       obtain rfl:=sI (aft_ret H4)
       exact p_ret mo 5 [.eqT 45 (.bool true),r0 [.v,.v]] [] [] (aM c9 aN) (by kernel_rfl)
     ·obtain rfl:=sI H7
      obtain rfl:=out_ret h4
      obtain rfl:=sI (aft_ret H4)
      exact p_ret mo 13 [r0 [.v,.v,.e (nI x0.length),.e (.bool true)],r0 [.v,.v,.e (.dptr [iI (x0.getD i0 0)]),.v,.c true (.bool false),.v,.v,.s,.s,.s,.s,.s,.s,.v],r0 [.v,.v]] [] [] (aT (aC (lenm cInt_i64 x0) (aB c5 (all_app (ix (f:=cInt_i64) (l:=x0) (n:=i0) 0 cInt_i64_len (by decide) (by omega)) (aC Tryz.call115 (aC (AFn.eq (ref03_In_c (x0.getD i0 0) y0 h5) (cB c7)) (aT aN))))))) (by kernel_rfl)
   ·subst e0
    have H12:=aft_brk H4
    refine p_at mo 6 [r0 [.m],r0 [.v]] [.only [0,1,4,5,7,8] [7]] 6 [] (ref03_Dot_S3 x0 x1 0 (0,0,0,0,0)) aN (by kernel_rfl) ?_
    refine bnd H12 fun R1 h7 H13 => ?_
    refine p_joinO 1 (ref03_Dot_S4) R1 (by kernel_rfl) ?_ (fun u1 e2 => ?_)
    ·refine p_cnt (ref03_Dot_S3 x0 x1) (by kernel_rfl) h7 (fun i1 s1 h8 e3 => ?_) (fun i1 s1 h9 q1 h10 h11 => ?_)
     ·have c10:=lF i1 x0.length (by omega)
      subst e3
      exact p_bar mo 5 [r0 [.v,.v,.e (nI x0.length),.e (.bool false)]] [.only [4,5,7] [7]] (ref03_Dot_S4 (s1.1,s1.2.1,s1.2.2.1,s1.2.2.2.1,s1.2.2.2.2)) (aT (aC (lenm cInt_i64 x0) (aB c10 aN))) (by kernel_rfl)
     ·have c11:=lT i1 x0.length (by omega)
      refine bnd h10 fun y2 h12 H14 => ?_
      refine grd_e H14 fun g1 H15 => ?_
      refine bnd H15 fun y3 h13 H16 => ?_
      refine t_lens 0 (ps:=[(x0.map cInt_i64).length≤9223372036854775807]) (by kernel_rfl) (fun l2 => ?_)
      have l3:x0.length≤9223372036854775807:=by simpa only [All,List.length_map] using l2
      clear l2
      obtain rfl:=sI H16
      exact p_bar mo 163 [r0 [.v,.v,.e (nI x0.length),.e (.bool true)],.rg 12 [.v,.v,.e (.dptr [iI (x0.getD i1 0)]),.v,.c true (.agg [iI y2.1,iI y2.2.1,iI y2.2.2]),.v,.v,.e (.dptr [iI (x1.getD i1 0)]),.v,.c true (.agg [iI y3.1,iI y3.2.1,iI y3.2.2]),.m,.m] [.m,.m],r0 [.v],.un,r0 [.v,.v],r0 [.v],.un,r0 [.v,.v],.rg 12 [.v,.v,.v,.v,.v,.v,.v,.v,.v,.v,.v,.w] [.w,.v,.m],r0 [.v,.v,.v],.cv [.only [0,1,4,5,7,8,9,10,11,12] [7,9,10]],r0 [.v,.v],.rg 12 [.v,.v,.v,.v,.v,.v,.v,.v,.v,.v,.v,.w] [.w,.v,.m],r0 [.v,.v,.v],.cv [.only [0,1,4,5,7,8,9,10,11,12] [7,9,10]],r0 [.v,.v],.rg 12 [.v,.v,.v,.v,.v,.v,.v,.v,.v,.v,.v,.w] [.w,.v,.m],r0 [.v,.v,.v],.cv [.only [0,1,4,5,7,8,9,10,11,12] [7,9,10]],r0 [.v,.v],r0 [.v,.v,.v],.cv [.only [0,1,4,5,7,8,9,10,11] [7,9,10]],r0 [.v,.v],r0 [.v],.un,r0 [.v,.v],.rg 12 [.v,.v,.v,.v,.v,.v,.v,.v,.v,.v,.v,.w] [.w,.v,.m],r0 [.v,.v,.v],.cv [.only [0,1,4,5,7,8,9,10,11,12] [7,9,10]],r0 [.v,.v],.rg 12 [.v,.v,.v,.v,.v,.v,.v,.v,.v,.v,.v,.w] [.w,.v,.m],r0 [.v,.v,.v],.cv [.only [0,1,4,5,7,8,9,10,11,12] [7,9,10]],r0 [.v,.v],.rg 12 [.v,.v,.v,.v,.v,.v,.v,.v,.v,.v,.v,.w] [.w,.v,.m],r0 [.v,.v,.v],.cv [.only [0,1,4,5,7,8,9,10,11,12] [7,9,10]],r0 [.v,.v],r0 [.v,.v,.v],.cv [.only [0,1,4,5,7,8,9,10,11] [7,9,10]],r0 [.v,.v],r0 [.v],.un,r0 [.v,.v],.rg 12 [.v,.v,.v,.v,.v,.v,.v,.v,.v,.v,.v,.w] [.w,.v,.m],r0 [.v,.v,.v],.cv [.only [0,1,4,5,7,8,9,10,11,12] [7,9,10]],r0 [.v,.v],.rg 12 [.v,.v,.v,.v,.v,.v,.v,.v,.v,.v,.v,.w] [.w,.v,.m],r0 [.v,.v,.v],.cv [.only [0,1,4,5,7,8,9,10,11,12] [7,9,10]],r0 [.v,.v],.rg 12 [.v,.v,.v,.v,.v,.v,.v,.v,.v,.v,.v,.w] [.w,.v,.m],r0 [.v,.v,.v],.cv [.only [0,1,4,5,7,8,9,10,11,12] [7,9,10]],r0 [.v,.v],r0 [.v,.v,.v],.cv [.only [0,1,4,5,7,8,9,10,11] [7,9,10]],r0 [.v,.v],r0 [.v,.v,.v]] [.only [0,1,4,5,7,8] [7]] (ref03_Dot_S3 x0 x1 (i1+1) ((w64 (s1.1+(w64 (y2.1*y3.1)))),(w64 ((w64 (s1.2.1+(w64 (y2.1*y3.2.1))))+(w64 (y2.2.1*y3.1)))),(w64 ((w64 ((w64 (s1.2.2.1+(w64 (y2.1*y3.2.2))))+(w64 (y2.2.1*y3.2.1))))+(w64 (y2.2.2*y3.1)))),(w64 ((w64 (s1.2.2.2.1+(w64 (y2.2.1*y3.2.2))))+(w64 (y2.2.2*y3.2.1)))),(w64 (s1.2.2.2.2+(w64 (y2.2.2*y3.2.2)))))) (aT (aC (lenm cInt_i64 x0) (aB c11 (all_app (ix (f:=cInt_i64) (l:=x0) (n:=i1) 0 cInt_i64_len (by decide) (by omega)) (aC Tryz.call203 (aF (ref03_digits_c (x0.getD i1 0) y2 h12) (all_app (ix (f:=cInt_i64) (l:=x1) (n:=i1) 0 cInt_i64_len (by decide) (by omega)) (aC Tryz.call203 (aF (ref03_digits_c (x1.getD i1 0) y3 h13) (aC (show I64 (0+0) from by unfold I64;omega) (aT (aT (aT (aT (aC (show I64 (0+1) from by unfold I64;omega) (aC (show I64 (0+1) from by unfold I64;omega) (aT (aT (aT (aT (aC (show I64 (1+1) from by unfold I64;omega) (aC (show I64 (0+2) from by unfold I64;omega) (aT (aT (aT (aT (aC (show I64 (2+1) from by unfold I64;omega) (aC (show I64 (0+1) from by unfold I64;omega) (aC (show I64 (1+0) from by unfold I64;omega) (aT (aT (aT (aT (aC (show I64 (0+1) from by unfold I64;omega) (aC (show I64 (1+1) from by unfold I64;omega) (aT (aT (aT (aT (aC (show I64 (1+1) from by unfold I64;omega) (aC (show I64 (1+2) from by unfold I64;omega) (aT (aT (aT (aT (aC (show I64 (2+1) from by unfold I64;omega) (aC (show I64 (1+1) from by unfold I64;omega) (aC (show I64 (2+0) from by unfold I64;omega) (aT (aT (aT (aT (aC (show I64 (0+1) from by unfold I64;omega) (aC (show I64 (2+1) from by unfold I64;omega) (aT (aT (aT (aT (aC (show I64 (1+1) from by unfold I64;omega) (aC (show I64 (2+2) from by unfold I64;omega) (aT (aT (aT (aT (aC (show I64 (2+1) from by unfold I64;omega) (aC (show I64 (2+1) from by unfold I64;omega) (aC (pI i1 (by omega)) aN))))))))))))))))))))))))))))))))))))))))))))))))))))))))))))))))))) (by kernel_rfl)
    ·subst e2
     have H17:=aftE_brk H13
     refine bnd H17 fun y4 h14 H18 => ?_
     refine bnd H18 fun y5 h15 H19 => ?_
     refine bnd H19 fun y6 h16 H20 => ?_
     refine bnd H20 fun y7 h17 H21 => ?_
     refine bnd H21 fun y8 h18 H22 => ?_
     refine bnd H22 fun y9 h19 H23 => ?_
     refine bnd H23 fun y10 h20 H24 => ?_
     refine bnd H24 fun y11 h21 H25 => ?_
     refine bnd H25 fun y12 h22 H26 => ?_
     refine bnd H26 fun y13 h23 H27 => ?_
     refine bnd H27 fun y14 h24 H28 => ?_
     refine bnd H28 fun y15 h25 H29 => ?_
     refine bnd H29 fun y16 h26 H30 => ?_
     refine bnd H30 fun y17 h27 H31 => ?_
     refine p_at mo 139 [r0 [.v],.un,r0 [.v,.v,.v],r0 [.v,.v,.v,.c true (.tup [iI y4.1,iI y4.2]),.v,.v,.v,.v,.v],r0 [.v,.v,.v,.v,.w,.we (iI y5),.v,.m],r0 [.v,.v,.v,.v,.v,.w,.v,.m],r0 [.v,.v,.v],.cv [.only [4,5,7,13] [7]],r0 [.v,.v,.v],r0 [.v,.v,.v,.c true (.tup [iI y6.1,iI y6.2]),.v,.v,.v,.v,.v],r0 [.v,.v,.v,.v,.w,.we (iI y7),.v,.m],r0 [.v,.v,.v,.v,.v,.w,.v,.m],r0 [.v,.v,.v],.cv [.only [4,5,7,13] [7]],r0 [.v,.v,.v],r0 [.v,.v,.v,.c true (.tup [iI y8.1,iI y8.2]),.v,.v,.v,.v,.v],r0 [.v,.v,.v,.v,.w,.we (iI y9),.v,.m],r0 [.v,.v,.v,.v,.v,.w,.v,.m],r0 [.v,.v,.v],.cv [.only [4,5,7,13] [7]],r0 [.v,.v,.v],r0 [.v,.v,.v,.c true (.tup [iI y10.1,iI y10.2]),.v,.v,.v,.v,.v],r0 [.v,.v,.v,.v,.w,.we (iI y11),.v,.m],r0 [.v,.v,.v,.v,.v,.w,.v,.m],r0 [.v,.v,.v],.cv [.only [4,5,7,13] [7]],r0 [.v,.v,.v],r0 [.v,.v,.v,.c true (.tup [iI y12.1,iI y12.2]),.v,.v,.v,.v,.v],r0 [.v,.v,.v,.v,.w,.we (iI y13),.v,.m],r0 [.v,.v,.v,.v,.v,.w,.v,.m],r0 [.v,.v,.v],.cv [.only [4,5,7,13] [7]],r0 [.v,.v,.v],r0 [.v,.v,.v,.c true (.tup [iI y14.1,iI y14.2]),.v,.v,.v,.v,.v],r0 [.v,.v,.v,.v,.w,.we (iI y15),.v,.m],r0 [.v,.v,.v,.v,.v,.w,.v,.m],r0 [.v,.v,.v],.cv [.only [4,5,7,13] [7]],r0 [.v,.v,.v],r0 [.v,.v,.v,.c true (.tup [iI y16.1,iI y16.2]),.v,.v,.v,.v,.v],r0 [.v,.v,.v,.v,.w,.we (iI y17),.v,.m],r0 [.v,.v,.v,.v,.v,.w,.v,.m],r0 [.v,.v,.v],.cv [.only [4,5,7,13] [7]],r0 [.v,.v,.v],r0 [.v],r0 [.v],.un,r0 [.v,.v],r0 [.v,.v,.v,.v,.v,.v],r0 [.v,.v,.v,.v,.v,.w,.v],r0 [.v,.v,.v],.cv [.only [4,5,7,16,17] [7]],r0 [.v,.v]] [.only [4,5,7,16,17] [7]] 131 [true,true,true,true,true,true,true,false,true,false,true] ⟨130,[(4,iI 0),(5,iI 0),(7,.hptr 7 0),(16,iI (w64 (0+(w64 (0+y16.1))))),(17,iI 6)],[(7,.cells 216 [iI y5,iI y7,iI y9,iI y11,iI y13,iI y15,iI y17,iI (w64 (0+y16.1))])]⟩ (aC (show I64 (0+1) from by unfold I64;omega) (aT (aC Tryz.call204 (aF (ref03_Div_c u1.1 2097152 y4 h14) (aT (aC (congrArg (AV.int .i64) (Option.some.inj h15)) (aT (aC (show I64 (0+1) from by unfold I64;omega) (aT (aT (aC (show I64 (0+1) from by unfold I64;omega) (aC (show I64 (1+1) from by unfold I64;omega) (aT (aC Tryz.call204 (aF (ref03_Div_c (w64 (u1.2.1+y4.1)) 2097152 y6 h16) (aT (aC (congrArg (AV.int .i64) (Option.some.inj h17)) (aT (aC (show I64 (1+1) from by unfold I64;omega) (aT (aT (aC (show I64 (1+1) from by unfold I64;omega) (aC (show I64 (2+1) from by unfold I64;omega) (aT (aC Tryz.call204 (aF (ref03_Div_c (w64 (u1.2.2.1+y6.1)) 2097152 y8 h18) (aT (aC (congrArg (AV.int .i64) (Option.some.inj h19)) (aT (aC (show I64 (2+1) from by unfold I64;omega) (aT (aT (aC (show I64 (2+1) from by unfold I64;omega) (aC (show I64 (3+1) from by unfold I64;omega) (aT (aC Tryz.call204 (aF (ref03_Div_c (w64 (u1.2.2.2.1+y8.1)) 2097152 y10 h20) (aT (aC (congrArg (AV.int .i64) (Option.some.inj h21)) (aT (aC (show I64 (3+1) from by unfold I64;omega) (aT (aT (aC (show I64 (3+1) from by unfold I64;omega) (aC (show I64 (4+1) from by unfold I64;omega) (aT (aC Tryz.call204 (aF (ref03_Div_c (w64 (u1.2.2.2.2+y10.1)) 2097152 y12 h22) (aT (aC (congrArg (AV.int .i64) (Option.some.inj h23)) (aT (aC (show I64 (4+1) from by unfold I64;omega) (aT (aT (aC (show I64 (4+1) from by unfold I64;omega) (aC (show I64 (5+1) from by unfold I64;omega) (aT (aC Tryz.call204 (aF (ref03_Div_c (w64 (0+y12.1)) 2097152 y14 h24) (aT (aC (congrArg (AV.int .i64) (Option.some.inj h25)) (aT (aC (show I64 (5+1) from by unfold I64;omega) (aT (aT (aC (show I64 (5+1) from by unfold I64;omega) (aC (show I64 (6+1) from by unfold I64;omega) (aT (aC Tryz.call204 (aF (ref03_Div_c (w64 (0+y14.1)) 2097152 y16 h26) (aT (aC (congrArg (AV.int .i64) (Option.some.inj h27)) (aT (aC (show I64 (6+1) from by unfold I64;omega) (aT (aT (aC (show I64 (6+1) from by unfold I64;omega) (aC (show I64 (7+1) from by unfold I64;omega) (aC (show I64 (0*2097152) from by unfold I64;omega) (aT (aC (show I64 (7-1) from by unfold I64;omega) aN))))))))))))))))))))))))))))))))))))))))))))))))))))))))))))))))))))))))))))))))) (by kernel_rfl) ?_
     refine bsp H31 (fun c12 H32 => ?_) (fun c13 H33 => ?_)
     ·obtain rfl:=sI H32
      exact p_ret mo 5 [r0 [.v,.e (.bool true),.v,.s,.s,.v],r0 [.v,.v]] [] [] (aB c12 aN) (by kernel_rfl)
     ·have c13p:=of_decide_eq_false c13
      refine bsp H33 (fun c14 H34 => ?_) (fun c15 H35 => ?_)
      ·obtain rfl:=sI H34
       exact p_ret mo 6 [r0 [.v,.e (.bool false),.v,.v,.v,.v],.eqT 119 (.bool true),r0 [.v,.v]] [] [] (aB c13 (aB c14 aN)) (by kernel_rfl)
      ·have c15p:=of_decide_eq_false c15
       refine bnd H35 fun y18 h28 H36 => ?_
       refine p_at mo 16 [r0 [.v,.e (.bool false),.v,.v,.v,.v],.eqT 119 (.bool false),r0 [.v,.we (iI y18),.v,.v,.v,.w,.v],r0 [.v,.v,.v],.cv [.only [4,5,7,16,17] [7]],r0 [.v,.v]] [.only [4,5,7,16,17] [7]] 14 [false,true] ⟨130,[(4,iI 0),(5,iI 0),(7,.hptr 7 0),(16,iI (w64 (y18+y17))),(17,iI 5)],[(7,.cells 216 [iI y5,iI y7,iI y9,iI y11,iI y13,iI y15,iI y17,iI (w64 (0+y16.1))])]⟩ (aB c13 (aB c15 (aC (congrArg (AV.int .i64) (Option.some.inj h28)) (aT (aC (show I64 (6-1) from by unfold I64;omega) aN))))) (by kernel_rfl) ?_
       refine bsp H36 (fun c16 H37 => ?_) (fun c17 H38 => ?_)
       ·obtain rfl:=sI H37
        exact p_ret mo 5 [r0 [.v,.e (.bool true),.v,.s,.s,.v],r0 [.v,.v]] [] [] (aB c16 aN) (by kernel_rfl)
       ·have c17p:=of_decide_eq_false c17
        refine bsp H38 (fun c18 H39 => ?_) (fun c19 H40 => ?_)
        ·obtain rfl:=sI H39
         exact p_ret mo 6 [r0 [.v,.e (.bool false),.v,.v,.v,.v],.eqT 119 (.bool true),r0 [.v,.v]] [] [] (aB c17 (aB c18 aN)) (by kernel_rfl)
        ·have c19p:=of_decide_eq_false c19
         refine bnd H40 fun y19 h29 H41 => ?_
         refine p_at mo 16 [r0 [.v,.e (.bool false),.v,.v,.v,.v],.eqT 119 (.bool false),r0 [.v,.we (iI y19),.v,.v,.v,.w,.v],r0 [.v,.v,.v],.cv [.only [4,5,7,16,17] [7]],r0 [.v,.v]] [.only [4,5,7,16,17] [7]] 14 [false,true] ⟨130,[(4,iI 0),(5,iI 0),(7,.hptr 7 0),(16,iI (w64 (y19+y15))),(17,iI 4)],[(7,.cells 216 [iI y5,iI y7,iI y9,iI y11,iI y13,iI y15,iI y17,iI (w64 (0+y16.1))])]⟩ (aB c17 (aB c19 (aC (congrArg (AV.int .i64) (Option.some.inj h29)) (aT (aC (show I64 (5-1) from by unfold I64;omega) aN))))) (by kernel_rfl) ?_
         refine bsp H41 (fun c20 H42 => ?_) (fun c21 H43 => ?_)
         ·obtain rfl:=sI H42
          exact p_ret mo 5 [r0 [.v,.e (.bool true),.v,.s,.s,.v],r0 [.v,.v]] [] [] (aB c20 aN) (by kernel_rfl)
         ·have c21p:=of_decide_eq_false c21
          refine bsp H43 (fun c22 H44 => ?_) (fun c23 H45 => ?_)
          ·obtain rfl:=sI H44
           exact p_ret mo 6 [r0 [.v,.e (.bool false),.v,.v,.v,.v],.eqT 119 (.bool true),r0 [.v,.v]] [] [] (aB c21 (aB c22 aN)) (by kernel_rfl)
          ·have c23p:=of_decide_eq_false c23
           refine bnd H45 fun y20 h30 H46 => ?_
           refine p_at mo 16 [r0 [.v,.e (.bool false),.v,.v,.v,.v],.eqT 119 (.bool false),r0 [.v,.we (iI y20),.v,.v,.v,.w,.v],r0 [.v,.v,.v],.cv [.only [4,5,7,16,17] [7]],r0 [.v,.v]] [.only [4,5,7,16,17] [7]] 14 [false,true] ⟨130,[(4,iI 0),(5,iI 0),(7,.hptr 7 0),(16,iI (w64 (y20+y13))),(17,iI 3)],[(7,.cells 216 [iI y5,iI y7,iI y9,iI y11,iI y13,iI y15,iI y17,iI (w64 (0+y16.1))])]⟩ (aB c21 (aB c23 (aC (congrArg (AV.int .i64) (Option.some.inj h30)) (aT (aC (show I64 (4-1) from by unfold I64;omega) aN))))) (by kernel_rfl) ?_
           refine bsp H46 (fun c24 H47 => ?_) (fun c25 H48 => ?_)
           ·obtain rfl:=sI H47
            exact p_ret mo 5 [r0 [.v,.e (.bool true),.v,.s,.s,.v],r0 [.v,.v]] [] [] (aB c24 aN) (by kernel_rfl)
           ·have c25p:=of_decide_eq_false c25
            refine bsp H48 (fun c26 H49 => ?_) (fun c27 H50 => ?_)
            ·obtain rfl:=sI H49
             exact p_ret mo 6 [r0 [.v,.e (.bool false),.v,.v,.v,.v],.eqT 119 (.bool true),r0 [.v,.v]] [] [] (aB c25 (aB c26 aN)) (by kernel_rfl)
            ·have c27p:=of_decide_eq_false c27
             refine bnd H50 fun y21 h31 H51 => ?_
             refine p_at mo 16 [r0 [.v,.e (.bool false),.v,.v,.v,.v],.eqT 119 (.bool false),r0 [.v,.we (iI y21),.v,.v,.v,.w,.v],r0 [.v,.v,.v],.cv [.only [4,5,7,16,17] [7]],r0 [.v,.v]] [.only [4,5,7,16,17] [7]] 14 [false,true] ⟨130,[(4,iI 0),(5,iI 0),(7,.hptr 7 0),(16,iI (w64 (y21+y11))),(17,iI 2)],[(7,.cells 216 [iI y5,iI y7,iI y9,iI y11,iI y13,iI y15,iI y17,iI (w64 (0+y16.1))])]⟩ (aB c25 (aB c27 (aC (congrArg (AV.int .i64) (Option.some.inj h31)) (aT (aC (show I64 (3-1) from by unfold I64;omega) aN))))) (by kernel_rfl) ?_
             refine bsp H51 (fun c28 H52 => ?_) (fun c29 H53 => ?_)
             ·obtain rfl:=sI H52
              exact p_ret mo 5 [r0 [.v,.e (.bool true),.v,.s,.s,.v],r0 [.v,.v]] [] [] (aB c28 aN) (by kernel_rfl)
             ·have c29p:=of_decide_eq_false c29
              refine bsp H53 (fun c30 H54 => ?_) (fun c31 H55 => ?_)
              ·obtain rfl:=sI H54
               exact p_ret mo 6 [r0 [.v,.e (.bool false),.v,.v,.v,.v],.eqT 119 (.bool true),r0 [.v,.v]] [] [] (aB c29 (aB c30 aN)) (by kernel_rfl)
              ·have c31p:=of_decide_eq_false c31
               refine bnd H55 fun y22 h32 H56 => ?_
               refine p_at mo 16 [r0 [.v,.e (.bool false),.v,.v,.v,.v],.eqT 119 (.bool false),r0 [.v,.we (iI y22),.v,.v,.v,.w,.v],r0 [.v,.v,.v],.cv [.only [4,5,7,16,17] [7]],r0 [.v,.v]] [.only [4,5,7,16,17] [7]] 14 [false,true] ⟨130,[(4,iI 0),(5,iI 0),(7,.hptr 7 0),(16,iI (w64 (y22+y9))),(17,iI 1)],[(7,.cells 216 [iI y5,iI y7,iI y9,iI y11,iI y13,iI y15,iI y17,iI (w64 (0+y16.1))])]⟩ (aB c29 (aB c31 (aC (congrArg (AV.int .i64) (Option.some.inj h32)) (aT (aC (show I64 (2-1) from by unfold I64;omega) aN))))) (by kernel_rfl) ?_
               refine bsp H56 (fun c32 H57 => ?_) (fun c33 H58 => ?_)
               ·obtain rfl:=sI H57
                exact p_ret mo 5 [r0 [.v,.e (.bool true),.v,.s,.s,.v],r0 [.v,.v]] [] [] (aB c32 aN) (by kernel_rfl)
               ·have c33p:=of_decide_eq_false c33
                refine bsp H58 (fun c34 H59 => ?_) (fun c35 H60 => ?_)
                ·obtain rfl:=sI H59
                 exact p_ret mo 6 [r0 [.v,.e (.bool false),.v,.v,.v,.v],.eqT 119 (.bool true),r0 [.v,.v]] [] [] (aB c33 (aB c34 aN)) (by kernel_rfl)
                ·have c35p:=of_decide_eq_false c35
                 refine bnd H60 fun y23 h33 H61 => ?_
                 refine p_at mo 16 [r0 [.v,.e (.bool false),.v,.v,.v,.v],.eqT 119 (.bool false),r0 [.v,.we (iI y23),.v,.v,.v,.w,.v],r0 [.v,.v,.v],.cv [.only [4,5,7,16,17] [7]],r0 [.v,.v]] [.only [4,5,7,16,17] [7]] 14 [false,true] ⟨130,[(4,iI 0),(5,iI 0),(7,.hptr 7 0),(16,iI (w64 (y23+y7))),(17,iI 0)],[(7,.cells 216 [iI y5,iI y7,iI y9,iI y11,iI y13,iI y15,iI y17,iI (w64 (0+y16.1))])]⟩ (aB c33 (aB c35 (aC (congrArg (AV.int .i64) (Option.some.inj h33)) (aT (aC (show I64 (1-1) from by unfold I64;omega) aN))))) (by kernel_rfl) ?_
                 refine bsp H61 (fun c36 H62 => ?_) (fun c37 H63 => ?_)
                 ·obtain rfl:=sI H62
                  exact p_ret mo 5 [r0 [.v,.e (.bool true),.v,.s,.s,.v],r0 [.v,.v]] [] [] (aB c36 aN) (by kernel_rfl)
                 ·have c37p:=of_decide_eq_false c37
                  refine bsp H63 (fun c38 H64 => ?_) (fun c39 H65 => ?_)
                  ·obtain rfl:=sI H64
                   exact p_ret mo 6 [r0 [.v,.e (.bool false),.v,.v,.v,.v],.eqT 119 (.bool true),r0 [.v,.v]] [] [] (aB c37 (aB c38 aN)) (by kernel_rfl)
                  ·have c39p:=of_decide_eq_false c39
                   refine bnd H65 fun y24 h34 H66 => ?_
                   refine bnd H66 fun y25 h35 H67 => ?_
                   refine p_at mo 15 [r0 [.v,.e (.bool false),.v,.v,.v,.v],.eqT 119 (.bool false),r0 [.v,.we (iI y24),.v,.v,.v,.w,.v],r0 [.v,.v,.v],.cv [.only [4,5,7,16,17] [7]],r0 [.v,.v],r0 [.v,.c true (.bool y25),.v]] [.only [4,5,16,128] []] 13 [false,false] ⟨130,[(4,iI 0),(5,iI 0),(16,iI (w64 (y24+y5))),(128,.bool (!y25))],[]⟩ (aB c37 (aB c39 (aC (congrArg (AV.int .i64) (Option.some.inj h34)) (aT (aC (show I64 (0-1) from by unfold I64;omega) (aC Tryz.call115 (aF (ref03_In_c (w64 (y24+y5)) y25 h35) (aT aN)))))))) (by kernel_rfl) ?_
                   refine bsp H67 (fun c40 H68 => ?_) (fun c41 H69 => ?_)
                   ·obtain rfl:=sI H68
                    exact p_ret mo 6 [.eqT 128 (.bool false),r0 [.v,.v,.v]] [] [] (aM c40 aN) (by kernel_rfl)
                   ·obtain rfl:=sI H69
                    exact p_ret mo 5 [.eqT 128 (.bool true),r0 [.v,.v]] [] [] (aM c41 aN) (by kernel_rfl)
 ·obtain rfl:=sI H1
  exact p_ret mo 10 [r0 [.v,.v],r0 [.v,.e (nI x0.length),.v,.e (nI x1.length),.v],.eqT 22 (.bool true),r0 [.v,.v]] [] [] (aT (aC (lenm cInt_i64 x0) (aT (aC (lenm cInt_i64 x1) (aM c1 aN))))) (by kernel_rfl)
/-- framewise/framewiseref05.Mul -/
def ref05_Mul (x0:(List Monomial)) (x1:(List Monomial)):Option ((List Monomial)×Int) :=
 (ref05_Valid x0).bind fun y0 =>
 bif y0 then (
  (ref05_Valid x1).bind fun y1 =>
  bif y1 then (
   (cnt (σ:=((List (List Str))×(List (List Int))×(List (List Int)))) (ε:=((List (List Str))×(List (List Int))×(List (List Int)))) (ρ:=Empty) (fun i0 s0 =>
    (cnt (σ:=((List (List Str))×(List (List Int))×(List (List Int)))) (ε:=((List (List Str))×(List (List Int))×(List (List Int)))) (ρ:=Empty) (fun i1 s1 =>
     (ref05_join ((x0.getD i0 ⟨0,[]⟩).Vars) ((x1.getD i1 ⟨0,[]⟩).Vars)).bind fun y2 =>
     (cnt (σ:=Unit) (ε:=Nat) (ρ:=Empty) (fun i2 s2 =>
      (ref05_order (s1.1.getD i2 []) y2).bind fun y3 =>
      bif (y3==0) then (
       some (.brk i2)
      ) else (
       some (.go ())
      )
     ) (fun i2 s2=>i2) (s1.1.length-0) 0 ()).bind <| aftE fun u0 =>
     ((
      bif (((u0:Nat):Int)==((s1.1.length:Nat):Int)) then (
       grd ((s1.1.length+1)*24≤140737488355328) <|
       grd ((s1.2.2.length+1)*24≤140737488355328∧s1.2.2.length<1000000) <|
       grd ((s1.2.1.length+1)*24≤140737488355328∧s1.2.1.length<1000000) <|
       some ((s1.1++[y2]),(s1.2.1++[[]]),(s1.2.2++[[]]))
      ) else (
       some (s1.1,s1.2.1,s1.2.2)
      )
     ):Option ((List (List Str))×(List (List Int))×(List (List Int)))).bind fun v0 =>
     grd (u0<v0.2.2.length) <|
     grd (((v0.2.2.getD u0 []).length+[((x0.getD i0 ⟨0,[]⟩).Coef)].length)*8≤140737488355328) <|
     grd (u0<v0.2.1.length) <|
     grd (((v0.2.1.getD u0 []).length+[((x1.getD i1 ⟨0,[]⟩).Coef)].length)*8≤140737488355328) <|
     some (.go (v0.1,(v0.2.1.set u0 ((v0.2.1.getD u0 [])++[((x1.getD i1 ⟨0,[]⟩).Coef)])),(v0.2.2.set u0 ((v0.2.2.getD u0 [])++[((x0.getD i0 ⟨0,[]⟩).Coef)]))))
    ) (fun i1 s1=>(s1.1,s1.2.1,s1.2.2)) (x1.length-0) 0 (s0.1,s0.2.1,s0.2.2)).bind <| aftE fun u1 =>
    some (.go (u1.1,u1.2.1,u1.2.2))
   ) (fun i0 s0=>(s0.1,s0.2.1,s0.2.2)) (x0.length-0) 0 ([],[],[])).bind <| aftE fun u2 =>
   (cnt (σ:=(List Monomial)) (ε:=(List Monomial)) (ρ:=((List Monomial)×Int)) (fun i3 s3 =>
    grd (i3<u2.2.2.length) <|
    grd (i3<u2.2.1.length) <|
    (ref03_Dot (u2.2.2.getD i3 []) (u2.2.1.getD i3 [])).bind fun y4 =>
    bif (y4.2==0) then (
     (ref05_plus s3 (Monomial.mk y4.1 (u2.1.getD i3 []))).bind fun y5 =>
     some (.go y5)
    ) else (
     some (.ret ([],3))
    )
   ) (fun i3 s3=>s3) (u2.1.length-0) 0 []).bind <| aft fun u3 =>
   (ref05_limited u3).bind fun y6 =>
   some (y6.1,y6.2)
  ) else (
   some ([],1)
  )
 ) else (
  some ([],1)
 )
def ref05_Mul_S1 (x0:(List Monomial)) (x1:(List Monomial)) (i0:Nat) (s0:((List (List Str))×(List (List Int))×(List (List Int)))):AS:=⟨137,[(0,dS cMonomial x0),(1,dS cMonomial x1),(4,.eslice),(5,iI 0),(6,.rslice 70),(7,.rslice 7),(8,.rslice 8),(9,nI i0)],[(7,.rrow 33 3 1 (rrc cInt_i64 s0.2.2)),(8,.rrow 33 3 1 (rrc cInt_i64 s0.2.1)),(70,.row 90 1 (s0.1.map cL_cStr))]⟩
def ref05_Mul_S2 (u4:((List (List Str))×(List (List Int))×(List (List Int)))):AS:=⟨137,[(4,.eslice),(5,iI 0),(6,.rslice 70),(7,.rslice 7),(8,.rslice 8)],[(7,.rrow 33 3 1 (rrc cInt_i64 u4.2.2)),(8,.rrow 33 3 1 (rrc cInt_i64 u4.2.1)),(70,.row 90 1 (u4.1.map cL_cStr))]⟩
def ref05_Mul_S3 (x0:(List Monomial)) (x1:(List Monomial)) (i0:Nat) (i1:Nat) (s1:((List (List Str))×(List (List Int))×(List (List Int)))):AS:=⟨137,[(0,dS cMonomial x0),(1,dS cMonomial x1),(4,.eslice),(5,iI 0),(6,.rslice 70),(7,.rslice 7),(8,.rslice 8),(9,nI i0),(10,nI i1)],[(7,.rrow 33 3 1 (rrc cInt_i64 s1.2.2)),(8,.rrow 33 3 1 (rrc cInt_i64 s1.2.1)),(70,.row 90 1 (s1.1.map cL_cStr))]⟩
def ref05_Mul_S4 (x0:(List Monomial)) (x1:(List Monomial)) (i0:Nat) (u5:((List (List Str))×(List (List Int))×(List (List Int)))):AS:=⟨137,[(0,dS cMonomial x0),(1,dS cMonomial x1),(4,.eslice),(5,iI 0),(6,.rslice 70),(7,.rslice 7),(8,.rslice 8),(9,nI i0)],[(7,.rrow 33 3 1 (rrc cInt_i64 u5.2.2)),(8,.rrow 33 3 1 (rrc cInt_i64 u5.2.1)),(70,.row 90 1 (u5.1.map cL_cStr))]⟩
def ref05_Mul_S5 (x0:(List Monomial)) (x1:(List Monomial)) (i0:Nat) (i1:Nat) (s1:((List (List Str))×(List (List Int))×(List (List Int)))) (y2:(List Str)) (i2:Nat) (s2:Unit):AS:=⟨137,[(0,dS cMonomial x0),(1,dS cMonomial x1),(4,.eslice),(5,iI 0),(6,.rslice 70),(7,.rslice 7),(8,.rslice 8),(9,nI i0),(10,nI i1),(11,dS cStr y2),(12,nI i2)],[(7,.rrow 33 3 1 (rrc cInt_i64 s1.2.2)),(8,.rrow 33 3 1 (rrc cInt_i64 s1.2.1)),(70,.row 90 1 (s1.1.map cL_cStr))]⟩
def ref05_Mul_S6 (x0:(List Monomial)) (x1:(List Monomial)) (i0:Nat) (i1:Nat) (s1:((List (List Str))×(List (List Int))×(List (List Int)))) (y2:(List Str)) (u6:Nat):AS:=⟨137,[(0,dS cMonomial x0),(1,dS cMonomial x1),(4,.eslice),(5,iI 0),(6,.rslice 70),(7,.rslice 7),(8,.rslice 8),(9,nI i0),(10,nI i1),(11,dS cStr y2),(12,nI u6)],[(7,.rrow 33 3 1 (rrc cInt_i64 s1.2.2)),(8,.rrow 33 3 1 (rrc cInt_i64 s1.2.1)),(70,.row 90 1 (s1.1.map cL_cStr))]⟩
def ref05_Mul_S7 (x0:(List Monomial)) (x1:(List Monomial)) (i0:Nat) (i1:Nat) (u0:Nat) (v0:((List (List Str))×(List (List Int))×(List (List Int)))):AS:=⟨137,[(0,dS cMonomial x0),(1,dS cMonomial x1),(4,.eslice),(5,iI 0),(6,.rslice 70),(7,.rslice 7),(8,.rslice 8),(9,nI i0),(10,nI i1),(12,nI u0)],[(7,.rrow 33 3 1 (rrc cInt_i64 v0.2.2)),(8,.rrow 33 3 1 (rrc cInt_i64 v0.2.1)),(70,.row 90 1 (v0.1.map cL_cStr))]⟩
def ref05_Mul_S8 (u2:((List (List Str))×(List (List Int))×(List (List Int)))) (i3:Nat) (s3:(List Monomial)):AS:=⟨137,[(4,.eslice),(5,iI 0),(6,.rslice 70),(7,dS cL_cInt_i64 u2.2.2),(8,dS cL_cInt_i64 u2.2.1),(13,dS cMonomial s3),(14,nI i3)],[(70,.row 90 1 (u2.1.map cL_cStr))]⟩
def ref05_Mul_S9 (u7:(List Monomial)):AS:=⟨137,[(4,.eslice),(5,iI 0),(13,dS cMonomial u7)],[]⟩
theorem ref05_Mul_c (x0:(List Monomial)) (x1:(List Monomial)) (r:((List Monomial)×Int)) (H:ref05_Mul x0 x1=some r):AFn Tryz.prog 64 [dS cMonomial x0,dS cMonomial x1] (.tup [dS cMonomial r.1,iI r.2]):=by
 unfold ref05_Mul at H
 refine acallX Tryz.func64 137 [.tmp 4,.tmp 5] (by kernel_rfl) (by kernel_rfl) ?_
 refine bnd H fun y0 h0 H0 => ?_
 refine bsp H0 (fun c0 H1 => ?_) (fun c1 H2 => ?_)
 ·refine bnd H1 fun y1 h1 H3 => ?_
  refine bsp H3 (fun c2 H4 => ?_) (fun c3 H5 => ?_)
  ·refine p_at mo 16 [.rg 0 [] [.v,.v],.rg 0 [] [.v,.c true (.bool true),.v,.v,.v,.c true (.bool y1),.v,.v],.eqT 24 (.bool false),.rg 0 [] [.v],.rg 0 [] [.v,.ew 7 7 33 3 1,.v,.ew 8 8 33 3 1],.rg 0 [] [.v]] [.er 6 70 90 1,.only [0,1,4,5,6,7,8,9] [7,8,70]] 15 [false] (ref05_Mul_S1 x0 x1 0 ([],[],[])) (aC Tryz.call52 (aC (AFn.eq (ref05_Valid_c x0 y0 h0) (cB c0)) (aT (aC Tryz.call52 (aF (ref05_Valid_c x1 y1 h1) (aT (aM c2 aN))))))) (by kernel_rfl) ?_
   refine bnd H4 fun R0 h2 H6 => ?_
   refine p_joinO 1 (ref05_Mul_S2) R0 (by kernel_rfl) ?_ (fun u2 e0 => ?_)
   ·refine p_cnt (ref05_Mul_S1 x0 x1) (by kernel_rfl) h2 (fun i0 s0 h3 e1 => ?_) (fun i0 s0 h4 q0 h5 h6 => ?_)
    ·have c4:=lF i0 x0.length (by omega)
     subst e1
     exact p_bar mo 5 [r0 [.v,.v,.e (nI x0.length),.e (.bool false)]] [.only [4,5,6,7,8] [7,8,70]] (ref05_Mul_S2 (s0.1,s0.2.1,s0.2.2)) (aT (aC (lenm cMonomial x0) (aB c4 aN))) (by kernel_rfl)
    ·have c5:=lT i0 x0.length (by omega)
     refine p_at mo 10 [r0 [.v,.v,.e (nI x0.length),.e (.bool true)],r0 [.v]] [.only [0,1,4,5,6,7,8,9,10] [7,8,70]] 10 [true] (ref05_Mul_S3 x0 x1 i0 0 (s0.1,s0.2.1,s0.2.2)) (aT (aC (lenm cMonomial x0) (aB c5 aN))) (by kernel_rfl) ?_
     refine bnd h5 fun R1 h7 H7 => ?_
     refine p_joinO 2 (ref05_Mul_S4 x0 x1 i0) R1 (by kernel_rfl) ?_ (fun u1 e2 => ?_)
     ·refine p_cnt (ref05_Mul_S3 x0 x1 i0) (by kernel_rfl) h7 (fun i1 s1 h8 e3 => ?_) (fun i1 s1 h9 q1 h10 h11 => ?_)
      ·have c6:=lF i1 x1.length (by omega)
       subst e3
       exact p_bar mo 5 [r0 [.v,.v,.e (nI x1.length),.e (.bool false)]] [.only [0,1,4,5,6,7,8,9] [7,8,70]] (ref05_Mul_S4 x0 x1 i0 (s1.1,s1.2.1,s1.2.2)) (aT (aC (lenm cMonomial x1) (aB c6 aN))) (by kernel_rfl)
      ·have c7:=lT i1 x1.length (by omega)
       refine bnd h10 fun y2 h12 H8 => ?_
       refine p_at mo 13 [r0 [.v,.v,.e (nI x1.length),.e (.bool true)],.rg 10 [.v,.v,.e (.dptr [iI ((x0.getD i0 ⟨0,[]⟩).Coef),.dslice (((x0.getD i0 ⟨0,[]⟩).Vars).map cStr)]),.v,.v,.v,.v,.e (.dptr [iI ((x1.getD i1 ⟨0,[]⟩).Coef),.dslice (((x1.getD i1 ⟨0,[]⟩).Vars).map cStr)]),.v,.v] [.c true (dS cStr y2),.v],r0 [.v]] [.only [0,1,4,5,6,7,8,9,10,11,12] [7,8,70]] 13 [true] (ref05_Mul_S5 x0 x1 i0 i1 s1 y2 0 ()) (aT (aC (lenm cMonomial x1) (aB c7 (all_app (ix (f:=cMonomial) (l:=x0) (n:=i0) ⟨0,[]⟩ cMonomial_len (by decide) (by omega)) (all_app (ix (f:=cMonomial) (l:=x1) (n:=i1) ⟨0,[]⟩ cMonomial_len (by decide) (by omega)) (aC Tryz.call129 (aF (ref05_join_c ((x0.getD i0 ⟨0,[]⟩).Vars) ((x1.getD i1 ⟨0,[]⟩).Vars) y2 h12) aN))))))) (by kernel_rfl) ?_
       refine bnd H8 fun R2 h13 H9 => ?_
       refine p_joinO 1 (ref05_Mul_S6 x0 x1 i0 i1 s1 y2) R2 (by kernel_rfl) ?_ (fun u0 e4 => ?_)
       ·refine p_cnt (ref05_Mul_S5 x0 x1 i0 i1 s1 y2) (by kernel_rfl) h13 (fun i2 s2 h14 e5 => ?_) (fun i2 s2 h15 q2 h16 h17 => ?_)
        ·have c8:=lF i2 s1.1.length (by omega)
         subst e5
         exact p_bar mo 5 [r0 [.v,.v,.e (nI s1.1.length),.e (.bool false),.v,.s,.s,.s,.s,.s,.s,.s,.v]] [.only [0,1,4,5,6,7,8,9,10,11,12] [7,8,70]] (ref05_Mul_S6 x0 x1 i0 i1 s1 y2 i2) (aT (aC (lenm cL_cStr s1.1) (aB c8 aN))) (by kernel_rfl)
        ·have c9:=lT i2 s1.1.length (by omega)
         refine bnd h16 fun y3 h18 H10 => ?_
         refine p_at mo 3 [r0 [.v,.v,.e (nI s1.1.length),.e (.bool true),.v,.v,.v,.v,.rl i2 0 (.dslice ((s1.1.getD i2 []).map cStr)),.v,.c true (iI y3),.v,.v]] [.only [0,1,4,5,6,7,8,9,10,11,12,60] [7,8,70]] 3 [] ⟨137,[(0,dS cMonomial x0),(1,dS cMonomial x1),(4,.eslice),(5,iI 0),(6,.rslice 70),(7,.rslice 7),(8,.rslice 8),(9,nI i0),(10,nI i1),(11,dS cStr y2),(12,nI i2),(60,.bool (y3 != 0))],[(7,.rrow 33 3 1 (rrc cInt_i64 s1.2.2)),(8,.rrow 33 3 1 (rrc cInt_i64 s1.2.1)),(70,.row 90 1 (s1.1.map cL_cStr))]⟩ (aT (aC (lenm cL_cStr s1.1) (aB c9 (aC (show (0:Int)≤((i2:Nat):Int)∧((i2:Nat):Int)<((s1.1.map cL_cStr).length:Int) from by rw [List.length_map];omega) (aC (rlP (f:=cL_cStr) (l:=s1.1) (n:=i2) 1 0 1 (by omega) (by decide)) (aC (rl1 (f:=cL_cStr) (l:=s1.1) (n:=i2) [] 0 (by omega)) (aC Tryz.call122 (aF (ref05_order_c (s1.1.getD i2 []) y2 y3 h18) aN)))))))) (by kernel_rfl) ?_
         refine bsp H10 (fun c10 H11 => ?_) (fun c11 H12 => ?_)
         ·obtain rfl:=sI H11
          obtain rfl:=out_brk h17
          exact p_bar mo 3 [.eqT 60 (.bool false)] [.only [0,1,4,5,6,7,8,9,10,11,12] [7,8,70]] (ref05_Mul_S6 x0 x1 i0 i1 s1 y2 i2) (aM c10 aN) (by kernel_rfl)
         ·refine t_lensR 70 (n:=(s1.1.map cL_cStr).length) (by kernel_rfl) (fun l0 => ?_)
          have l1:s1.1.length≤9223372036854775807:=by simpa only [List.length_map] using l0
          clear l0
          obtain rfl:=sI H12
          exact p_bar mo 5 [.eqT 60 (.bool true),r0 [.v,.v,.v]] [.only [0,1,4,5,6,7,8,9,10,11,12] [7,8,70]] (ref05_Mul_S5 x0 x1 i0 i1 s1 y2 (i2+1) ()) (aM c11 (aC (pI i2 (by omega)) aN)) (by kernel_rfl)
       ·subst e4
        have H13:=aftE_brk H9
        refine p_at mo 3 [r0 [.v,.v,.e (nI s1.1.length),.v]] [.only [0,1,4,5,6,7,8,9,10,11,12,66] [7,8,70]] 3 [] ⟨137,[(0,dS cMonomial x0),(1,dS cMonomial x1),(4,.eslice),(5,iI 0),(6,.rslice 70),(7,.rslice 7),(8,.rslice 8),(9,nI i0),(10,nI i1),(11,dS cStr y2),(12,nI u0),(66,.bool (((u0:Nat):Int)==((s1.1.length:Nat):Int)))],[(7,.rrow 33 3 1 (rrc cInt_i64 s1.2.2)),(8,.rrow 33 3 1 (rrc cInt_i64 s1.2.1)),(70,.row 90 1 (s1.1.map cL_cStr))]⟩ (aT (aC (lenm cL_cStr s1.1) aN)) (by kernel_rfl) ?_
        refine bnd H13 fun v0 h19 H14 => ?_
        refine p_join 0 (ref05_Mul_S7 x0 x1 i0 i1 u0 v0) (by kernel_rfl) ?_ ?_
        ·refine bsp h19 (fun c12 H15 => ?_) (fun c13 H16 => ?_)
         ·refine grd_e H15 fun g0 H17 => ?_
          refine grd_e H17 fun g1 H18 => ?_
          refine grd_e H18 fun g2 H19 => ?_
          obtain rfl:=sI H19
          exact p_bar mo 3 [.eqT 66 (.bool true),r0 [.v,.v,.b,.ap,.rwH 70 (.row 90 1 ((s1.1++[y2]).map cL_cStr)),.v,.b,.qo (.apr (rrc cInt_i64 (s1.2.2++[[]]))),.v,.b,.qo (.apr (rrc cInt_i64 (s1.2.1++[[]]))),.v,.v,.v]] [.only [0,1,4,5,6,7,8,9,10,12] [7,8,70]] (ref05_Mul_S7 x0 x1 i0 i1 u0 ((s1.1++[y2]),(s1.2.1++[[]]),(s1.2.2++[[]]))) (aB c12 (all_app (apR (c:=cL_cStr) cL_cStr_ok s1.1 [y2] 24 (by decide) (by simpa using g0)) (aC (apQ 90 1 cL_cStr s1.1 [y2]) (aC (rrc_cap cInt_i64 s1.2.2 g1) (aC (rrc_app cInt_i64 s1.2.2) (aC (rrc_cap cInt_i64 s1.2.1 g2) (aC (rrc_app cInt_i64 s1.2.1) aN))))))) (by kernel_rfl)
         ·obtain rfl:=sI H16
          exact p_bar mo 3 [.eqT 66 (.bool false)] [.only [0,1,4,5,6,7,8,9,10,12] [7,8,70]] (ref05_Mul_S7 x0 x1 i0 i1 u0 (s1.1,s1.2.1,s1.2.2)) (aB c13 aN) (by kernel_rfl)
        ·refine grd_e H14 fun g3 H20 => ?_
         refine grd_e H20 fun g4 H21 => ?_
         refine grd_e H21 fun g5 H22 => ?_
         refine grd_e H22 fun g6 H23 => ?_
         refine t_lens 1 (ps:=[(x1.map cMonomial).length≤9223372036854775807]) (by kernel_rfl) (fun l2 => ?_)
         have l3:x1.length≤9223372036854775807:=by simpa only [All,List.length_map] using l2
         clear l2
         obtain rfl:=sI H23
         exact p_bar mo 2 [.rg 28 [.rr,.v,.v,.v,.v,.v,.v,.v,.qo (.tk ((v0.2.2.getD u0 []).map cInt_i64) ((rrc cInt_i64 v0.2.2).set u0 none)),.v,.v,.e (.dptr [iI ((x0.getD i0 ⟨0,[]⟩).Coef),.dslice (((x0.getD i0 ⟨0,[]⟩).Vars).map cStr)]),.v,.v,.b,.apx (((v0.2.2.getD u0 [])++[((x0.getD i0 ⟨0,[]⟩).Coef)]).map cInt_i64),.v,.v,.v,.qo (.tk ((v0.2.1.getD u0 []).map cInt_i64) ((rrc cInt_i64 v0.2.1).set u0 none)),.v,.v,.e (.dptr [iI ((x1.getD i1 ⟨0,[]⟩).Coef),.dslice (((x1.getD i1 ⟨0,[]⟩).Vars).map cStr)]),.v,.v,.b,.apx (((v0.2.1.getD u0 [])++[((x1.getD i1 ⟨0,[]⟩).Coef)]).map cInt_i64),.v,.qo (.st (rrc cInt_i64 (v0.2.2.set u0 ((v0.2.2.getD u0 [])++[((x0.getD i0 ⟨0,[]⟩).Coef)]))))] [.v,.qo (.st (rrc cInt_i64 (v0.2.1.set u0 ((v0.2.1.getD u0 [])++[((x1.getD i1 ⟨0,[]⟩).Coef)]))))],r0 [.v,.v,.v]] [.only [0,1,4,5,6,7,8,9,10] [7,8,70]] (ref05_Mul_S3 x0 x1 i0 (i1+1) (v0.1,(v0.2.1.set u0 ((v0.2.1.getD u0 [])++[((x1.getD i1 ⟨0,[]⟩).Coef)])),(v0.2.2.set u0 ((v0.2.2.getD u0 [])++[((x0.getD i0 ⟨0,[]⟩).Coef)])))) (aC (show (0:Int)≤((u0:Nat):Int)∧((u0:Nat):Int)<(((rrc cInt_i64 v0.2.2)).length:Int) from by rw [rrc_len];omega) (aC (rrc_lt cInt_i64 v0.2.2 g3) (aC (rrc_get cInt_i64 v0.2.2 g3) (aC (Eq.refl ((rrc cInt_i64 v0.2.2).set u0 none)) (all_app (ix (f:=cMonomial) (l:=x0) (n:=i0) ⟨0,[]⟩ cMonomial_len (by decide) (by omega)) (all_app (apXP (c:=cInt_i64) cInt_i64_ok (v0.2.2.getD u0 []) [((x0.getD i0 ⟨0,[]⟩).Coef)] 8 (by decide) (by simpa using g4) List.map_append.symm) (aC (show (0:Int)≤((u0:Nat):Int)∧((u0:Nat):Int)<(((rrc cInt_i64 v0.2.1)).length:Int) from by rw [rrc_len];omega) (aC (rrc_lt cInt_i64 v0.2.1 g5) (aC (rrc_get cInt_i64 v0.2.1 g5) (aC (Eq.refl ((rrc cInt_i64 v0.2.1).set u0 none)) (all_app (ix (f:=cMonomial) (l:=x1) (n:=i1) ⟨0,[]⟩ cMonomial_len (by decide) (by omega)) (all_app (apXP (c:=cInt_i64) cInt_i64_ok (v0.2.1.getD u0 []) [((x1.getD i1 ⟨0,[]⟩).Coef)] 8 (by decide) (by simpa using g6) List.map_append.symm) (aC (show (0:Int)≤((u0:Nat):Int)∧((u0:Nat):Int)<((((rrc cInt_i64 v0.2.2).set u0 none)).length:Int) from by rw [List.length_set,rrc_len];omega) (aC (rrc_lth cInt_i64 v0.2.2 (i:=u0) g3) (aC (rrc_put cInt_i64 v0.2.2 u0 ((v0.2.2.getD u0 [])++[((x0.getD i0 ⟨0,[]⟩).Coef)])) (aC (show (0:Int)≤((u0:Nat):Int)∧((u0:Nat):Int)<((((rrc cInt_i64 v0.2.1).set u0 none)).length:Int) from by rw [List.length_set,rrc_len];omega) (aC (rrc_lth cInt_i64 v0.2.1 (i:=u0) g5) (aC (rrc_put cInt_i64 v0.2.1 u0 ((v0.2.1.getD u0 [])++[((x1.getD i1 ⟨0,[]⟩).Coef)])) (aC (pI i1 (by omega)) aN))))))))))))))))))) (by kernel_rfl)
     ·subst e2
      have H24:=aftE_brk H7
      refine t_lens 0 (ps:=[(x0.map cMonomial).length≤9223372036854775807]) (by kernel_rfl) (fun l4 => ?_)
      have l5:x0.length≤9223372036854775807:=by simpa only [All,List.length_map] using l4
      clear l4
      obtain rfl:=sI H24
      exact p_bar mo 1 [r0 [.v,.v,.v]] [.only [0,1,4,5,6,7,8,9] [7,8,70]] (ref05_Mul_S1 x0 x1 (i0+1) (u1.1,u1.2.1,u1.2.2)) (aC (pI i0 (by omega)) aN) (by kernel_rfl)
   ·subst e0
    have H25:=aftE_brk H6
    refine p_at mo 6 [r0 [.fw 7,.rwT 7 (dS cL_cInt_i64 u2.2.2),.fw 8,.rwT 8 (dS cL_cInt_i64 u2.2.1),.v],r0 [.v]] [.wk 13 [],.only [4,5,6,7,8,13,14] [70]] 6 [] (ref05_Mul_S8 u2 0 []) (aC (rrc_all cInt_i64 u2.2.2) (aC (congrArg AV.dslice (rdr_rrc cInt_i64 u2.2.2)) (aC (rrc_all cInt_i64 u2.2.1) (aC (congrArg AV.dslice (rdr_rrc cInt_i64 u2.2.1)) aN)))) (by kernel_rfl) ?_
    refine bnd H25 fun R3 h20 H26 => ?_
    refine p_joinO 1 (ref05_Mul_S9) R3 (by kernel_rfl) ?_ (fun u3 e6 => ?_)
    ·refine p_cnt (ref05_Mul_S8 u2) (by kernel_rfl) h20 (fun i3 s3 h21 e7 => ?_) (fun i3 s3 h22 q3 h23 h24 => ?_)
     ·have c14:=lF i3 u2.1.length (by omega)
      subst e7
      exact p_bar mo 5 [r0 [.v,.v,.e (nI u2.1.length),.e (.bool false)]] [.only [4,5,13] []] (ref05_Mul_S9 s3) (aT (aC (lenm cL_cStr u2.1) (aB c14 aN))) (by kernel_rfl)
     ·have c15:=lT i3 u2.1.length (by omega)
      refine grd_e h23 fun g7 H27 => ?_
      refine grd_e H27 fun g8 H28 => ?_
      refine bnd H28 fun y4 h25 H29 => ?_
      refine p_at mo 12 [r0 [.v,.v,.e (nI u2.1.length),.e (.bool true)],.rg 13 [.v,.v,.e (.dptr [.dslice ((u2.2.2.getD i3 []).map cInt_i64)]),.v,.v,.v,.e (.dptr [.dslice ((u2.2.1.getD i3 []).map cInt_i64)]),.v,.c true (.tup [iI y4.1,iI y4.2]),.v,.v,.v,.v] [.v],r0 [.v,.v]] [.only [4,5,6,7,8,13,14,15,124] [70]] 12 [true] ⟨137,[(4,.eslice),(5,iI 0),(6,.rslice 70),(7,dS cL_cInt_i64 u2.2.2),(8,dS cL_cInt_i64 u2.2.1),(13,dS cMonomial s3),(14,nI i3),(15,iI y4.1),(124,.bool (y4.2 != 0))],[(70,.row 90 1 (u2.1.map cL_cStr))]⟩ (aT (aC (lenm cL_cStr u2.1) (aB c15 (all_app (ix (f:=cL_cInt_i64) (l:=u2.2.2) (n:=i3) [] cL_cInt_i64_len (by decide) (by omega)) (all_app (ix (f:=cL_cInt_i64) (l:=u2.2.1) (n:=i3) [] cL_cInt_i64_len (by decide) (by omega)) (aC Tryz.call130 (aF (ref03_Dot_c (u2.2.2.getD i3 []) (u2.2.1.getD i3 []) y4 h25) aN))))))) (by kernel_rfl) ?_
      refine bsp H29 (fun c16 H30 => ?_) (fun c17 H31 => ?_)
      ·refine bnd H30 fun y5 h26 H32 => ?_
       refine t_lensR 70 (n:=(u2.1.map cL_cStr).length) (by kernel_rfl) (fun l6 => ?_)
       have l7:u2.1.length≤9223372036854775807:=by simpa only [List.length_map] using l6
       clear l6
       obtain rfl:=sI H32
       exact p_bar mo 5 [.eqT 124 (.bool false),r0 [.v,.v,.v,.v,.v,.rl i3 0 (.dslice ((u2.1.getD i3 []).map cStr)),.b,.c true (dS cMonomial y5),.v],r0 [.v,.v,.v]] [.only [4,5,6,7,8,13,14] [70]] (ref05_Mul_S8 u2 (i3+1) y5) (aM c16 (aC (show (0:Int)≤((i3:Nat):Int)∧((i3:Nat):Int)<((u2.1.map cL_cStr).length:Int) from by rw [List.length_map];omega) (aC (rlP (f:=cL_cStr) (l:=u2.1) (n:=i3) 1 0 1 (by omega) (by decide)) (aC (rl1 (f:=cL_cStr) (l:=u2.1) (n:=i3) [] 0 (by omega)) (aC Tryz.call128 (aF (ref05_plus_c s3 (Monomial.mk y4.1 (u2.1.getD i3 [])) y5 h26) (aC (pI i3 (by omega)) aN))))))) (by kernel_rfl)
      ·obtain rfl:=sI H31
       obtain rfl:=out_ret h24
       obtain rfl:=sI (aft_ret H26)
       exact p_ret mo 5 [.eqT 124 (.bool true),r0 [.v,.v]] [.wk 4 []] [] (aM c17 aN) (by kernel_rfl)
    ·subst e6
     have H33:=aft_brk H26
     refine bnd H33 fun y6 h27 H34 => ?_
     obtain rfl:=sI H34
     exact p_ret mo 3 [r0 [.v,.c true (.tup [dS cMonomial y6.1,iI y6.2]),.v,.v,.v,.v]] [] [] (aC Tryz.call126 (aF (ref05_limited_c u3 y6 h27) aN)) (by kernel_rfl)
  ·obtain rfl:=sI H5
   exact p_ret mo 10 [r0 [.v,.v],r0 [.v,.c true (.bool true),.v,.v,.v,.c true (.bool y1),.v,.v],.eqT 24 (.bool true),r0 [.v,.v]] [.wk 4 []] [] (aC Tryz.call52 (aC (AFn.eq (ref05_Valid_c x0 y0 h0) (cB c0)) (aT (aC Tryz.call52 (aF (ref05_Valid_c x1 y1 h1) (aT (aM c3 aN))))))) (by kernel_rfl)
 ·obtain rfl:=sI H2
  exact p_ret mo 9 [r0 [.v,.v],r0 [.v,.c true (.bool false),.v,.v,.s,.s,.s,.v],r0 [.v,.v]] [.wk 4 []] [] (aC Tryz.call52 (aC (AFn.eq (ref05_Valid_c x0 y0 h0) (cB c1)) (aT aN))) (by kernel_rfl)
/-- framewise/framewiselaw05.PolySums -/
noncomputable def law05_PolySums (x0:(List Monomial)) (x1:(List Monomial)) (x2:Int):Option Bool :=
 (law05_awake).bind fun y0 =>
 bif y0 then (
  (law05_few x0 x1).bind fun y1 =>
  bif y1 then (
   (poly_Add x0 x1).bind fun y2 =>
   (ref05_Add x0 x1).bind fun y3 =>
   (ref05_Equal y2.1 y3.1).bind fun y4 =>
   bif y4 then (
    bif (y2.2==y3.2) then (
     (poly_Sub x0 x1).bind fun y5 =>
     (ref05_Sub x0 x1).bind fun y6 =>
     (ref05_Equal y5.1 y6.1).bind fun y7 =>
     bif y7 then (
      bif (y5.2==y6.2) then (
       (poly_Scale x0 x2).bind fun y8 =>
       (ref05_Scale x0 x2).bind fun y9 =>
       (ref05_Equal y8.1 y9.1).bind fun y10 =>
       bif y10 then (
        bif (y8.2==y9.2) then (
         (poly_Mul x0 x1).bind fun y11 =>
         (ref05_Mul x0 x1).bind fun y12 =>
         (ref05_Equal y11.1 y12.1).bind fun y13 =>
         bif y13 then (
          some (y11.2==y12.2)
         ) else (
          some false
         )
        ) else (
         some false
        )
       ) else (
        some false
       )
      ) else (
       some false
      )
     ) else (
      some false
     )
    ) else (
     some false
    )
   ) else (
    some false
   )
  ) else (
   some true
  )
 ) else (
  some false
 )
theorem law05_PolySums_c (x0:(List Monomial)) (x1:(List Monomial)) (x2:Int) (r:Bool) (H:law05_PolySums x0 x1 x2=some r):AFn Tryz.prog 11 [dS cMonomial x0,dS cMonomial x1,iI x2] (.bool r):=by
 unfold law05_PolySums at H
 refine acallX Tryz.func11 100 [.tmp 6] (by kernel_rfl) (by kernel_rfl) ?_
 refine bnd H fun y0 h0 H0 => ?_
 refine bsp H0 (fun c0 H1 => ?_) (fun c1 H2 => ?_)
 ·refine bnd H1 fun y1 h1 H3 => ?_
  refine bsp H3 (fun c2 H4 => ?_) (fun c3 H5 => ?_)
  ·refine bnd H4 fun y2 h2 H6 => ?_
   refine bnd H6 fun y3 h3 H7 => ?_
   refine bnd H7 fun y4 h4 H8 => ?_
   refine p_at mo 20 [r0 [.v],r0 [.c true (.bool y0),.v],.eqT 12 (.bool false),r0 [.v,.v,.c true (.bool y1),.v],.eqT 16 (.bool false),r0 [.v,.v,.c true (.tup [dS cMonomial y2.1,iI y2.2]),.v,.v,.v,.v,.v],r0 [.v,.v,.c true (.tup [dS cMonomial y3.1,iI y3.2]),.v,.v,.v,.v,.v]] [.only [0,1,2,6,7,8,9,10] []] 18 [false,false] ⟨100,[(0,dS cMonomial x0),(1,dS cMonomial x1),(2,iI x2),(6,.bool false),(7,dS cMonomial y2.1),(8,iI y2.2),(9,dS cMonomial y3.1),(10,iI y3.2)],[]⟩ (aC Tryz.call45 (aF (law05_awake_c y0 h0) (aT (aM c0 (aC Tryz.call55 (aF (law05_few_c x0 x1 y1 h1) (aT (aM c2 (aC Tryz.call58 (aF (poly_Add_c x0 x1 y2 h2) (aC Tryz.call59 (aF (ref05_Add_c x0 x1 y3 h3) aN)))))))))))) (by kernel_rfl) ?_
   refine bsp H8 (fun c4 H9 => ?_) (fun c5 H10 => ?_)
   ·refine bsp H9 (fun c6 H11 => ?_) (fun c7 H12 => ?_)
    ·refine bnd H11 fun y5 h5 H13 => ?_
     refine bnd H13 fun y6 h6 H14 => ?_
     refine bnd H14 fun y7 h7 H15 => ?_
     refine p_at mo 10 [r0 [.v,.v,.c true (.bool true),.v,.v,.v,.v,.v,.v],.eqT 37 (.bool false),r0 [.v,.v,.c true (.tup [dS cMonomial y5.1,iI y5.2]),.v,.v,.v,.v,.v],r0 [.v,.v,.c true (.tup [dS cMonomial y6.1,iI y6.2]),.v,.v,.v,.v,.v]] [.only [0,1,2,6,7,8,9,10] []] 9 [false] ⟨100,[(0,dS cMonomial x0),(1,dS cMonomial x1),(2,iI x2),(6,.bool false),(7,dS cMonomial y5.1),(8,iI y5.2),(9,dS cMonomial y6.1),(10,iI y6.2)],[]⟩ (aC Tryz.call53 (aC (AFn.eq (ref05_Equal_c y2.1 y3.1 y4 h4) (cB c4)) (aT (aM c6 (aC Tryz.call60 (aF (poly_Sub_c x0 x1 y5 h5) (aC Tryz.call61 (aF (ref05_Sub_c x0 x1 y6 h6) aN)))))))) (by kernel_rfl) ?_
     refine bsp H15 (fun c8 H16 => ?_) (fun c9 H17 => ?_)
     ·refine bsp H16 (fun c10 H18 => ?_) (fun c11 H19 => ?_)
      ·refine bnd H18 fun y8 h8 H20 => ?_
       refine bnd H20 fun y9 h9 H21 => ?_
       refine bnd H21 fun y10 h10 H22 => ?_
       refine p_at mo 10 [r0 [.v,.v,.c true (.bool true),.v,.v,.v,.v,.v,.v],.eqT 58 (.bool false),r0 [.v,.v,.c true (.tup [dS cMonomial y8.1,iI y8.2]),.v,.v,.v,.v,.v],r0 [.v,.v,.c true (.tup [dS cMonomial y9.1,iI y9.2]),.v,.v,.v,.v,.v]] [.only [0,1,6,7,8,9,10] []] 9 [false] ⟨100,[(0,dS cMonomial x0),(1,dS cMonomial x1),(6,.bool false),(7,dS cMonomial y8.1),(8,iI y8.2),(9,dS cMonomial y9.1),(10,iI y9.2)],[]⟩ (aC Tryz.call53 (aC (AFn.eq (ref05_Equal_c y5.1 y6.1 y7 h7) (cB c8)) (aT (aM c10 (aC Tryz.call62 (aF (poly_Scale_c x0 x2 y8 h8) (aC Tryz.call63 (aF (ref05_Scale_c x0 x2 y9 h9) aN)))))))) (by kernel_rfl) ?_
       refine bsp H22 (fun c12 H23 => ?_) (fun c13 H24 => ?_)
       ·refine bsp H23 (fun c14 H25 => ?_) (fun c15 H26 => ?_)
        ·refine bnd H25 fun y11 h11 H27 => ?_
         refine bnd H27 fun y12 h12 H28 => ?_
         refine bnd H28 fun y13 h13 H29 => ?_
         refine p_at mo 9 [r0 [.v,.v,.c true (.bool true),.v,.v,.v,.v,.v,.v],.eqT 79 (.bool false),r0 [.v,.v,.c true (.tup [dS cMonomial y11.1,iI y11.2]),.v,.v,.v,.v,.v],r0 [.v,.v,.c true (.tup [dS cMonomial y12.1,iI y12.2]),.v,.v,.v,.v,.v]] [.only [6,7,8,9,10] []] 8 [false] ⟨100,[(6,.bool false),(7,dS cMonomial y11.1),(8,iI y11.2),(9,dS cMonomial y12.1),(10,iI y12.2)],[]⟩ (aC Tryz.call53 (aC (AFn.eq (ref05_Equal_c y8.1 y9.1 y10 h10) (cB c12)) (aT (aM c14 (aC Tryz.call56 (aF (poly_Mul_c x0 x1 y11 h11) (aC Tryz.call64 (aF (ref05_Mul_c x0 x1 y12 h12) aN)))))))) (by kernel_rfl) ?_
         refine bsp H29 (fun c16 H30 => ?_) (fun c17 H31 => ?_)
         ·obtain rfl:=sI H30
          exact p_ret mo 2 [r0 [.v,.v,.c true (.bool true),.v,.v,.v,.v,.v,.v]] [] [] (aC Tryz.call53 (aC (AFn.eq (ref05_Equal_c y11.1 y12.1 y13 h13) (cB c16)) aN)) (by kernel_rfl)
         ·obtain rfl:=sI H31
          exact p_ret mo 2 [r0 [.v,.v,.c true (.bool false),.v,.s,.s,.s,.v,.v]] [] [] (aC Tryz.call53 (aC (AFn.eq (ref05_Equal_c y11.1 y12.1 y13 h13) (cB c17)) aN)) (by kernel_rfl)
        ·obtain rfl:=sI H26
         exact p_ret mo 6 [r0 [.v,.v,.c true (.bool true),.v,.v,.v,.v,.v,.v],.eqT 79 (.bool true),r0 [.v]] [] [] (aC Tryz.call53 (aC (AFn.eq (ref05_Equal_c y8.1 y9.1 y10 h10) (cB c12)) (aT (aM c15 aN)))) (by kernel_rfl)
       ·obtain rfl:=sI H24
        exact p_ret mo 5 [r0 [.v,.v,.c true (.bool false),.v,.v,.s,.s,.s,.v],r0 [.v]] [] [] (aC Tryz.call53 (aC (AFn.eq (ref05_Equal_c y8.1 y9.1 y10 h10) (cB c13)) (aT aN))) (by kernel_rfl)
      ·obtain rfl:=sI H19
       exact p_ret mo 6 [r0 [.v,.v,.c true (.bool true),.v,.v,.v,.v,.v,.v],.eqT 58 (.bool true),r0 [.v]] [] [] (aC Tryz.call53 (aC (AFn.eq (ref05_Equal_c y5.1 y6.1 y7 h7) (cB c8)) (aT (aM c11 aN)))) (by kernel_rfl)
     ·obtain rfl:=sI H17
      exact p_ret mo 5 [r0 [.v,.v,.c true (.bool false),.v,.v,.s,.s,.s,.v],r0 [.v]] [] [] (aC Tryz.call53 (aC (AFn.eq (ref05_Equal_c y5.1 y6.1 y7 h7) (cB c9)) (aT aN))) (by kernel_rfl)
    ·obtain rfl:=sI H12
     exact p_ret mo 6 [r0 [.v,.v,.c true (.bool true),.v,.v,.v,.v,.v,.v],.eqT 37 (.bool true),r0 [.v]] [] [] (aC Tryz.call53 (aC (AFn.eq (ref05_Equal_c y2.1 y3.1 y4 h4) (cB c4)) (aT (aM c7 aN)))) (by kernel_rfl)
   ·obtain rfl:=sI H10
    exact p_ret mo 5 [r0 [.v,.v,.c true (.bool false),.v,.v,.s,.s,.s,.v],r0 [.v]] [] [] (aC Tryz.call53 (aC (AFn.eq (ref05_Equal_c y2.1 y3.1 y4 h4) (cB c5)) (aT aN))) (by kernel_rfl)
  ·obtain rfl:=sI H5
   exact p_ret mo 16 [r0 [.v],r0 [.c true (.bool y0),.v],.eqT 12 (.bool false),r0 [.v,.v,.c true (.bool y1),.v],.eqT 16 (.bool true),r0 [.v]] [] [] (aC Tryz.call45 (aF (law05_awake_c y0 h0) (aT (aM c0 (aC Tryz.call55 (aF (law05_few_c x0 x1 y1 h1) (aT (aM c3 aN)))))))) (by kernel_rfl)
 ·obtain rfl:=sI H2
  exact p_ret mo 10 [r0 [.v],r0 [.c true (.bool y0),.v],.eqT 12 (.bool true),r0 [.v]] [] [] (aC Tryz.call45 (aF (law05_awake_c y0 h0) (aT (aM c1 aN)))) (by kernel_rfl)
end Go.Proofs.YtjfpcjnopbfekaaGreatDoor
