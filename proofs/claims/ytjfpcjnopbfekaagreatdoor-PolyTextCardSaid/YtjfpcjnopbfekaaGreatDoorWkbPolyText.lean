/- What functions of the program compute, walked: each as a plain function, with the theorem that the code computes it wherever that answers. Printed by a program, part 2. -/
import Derived.Test.YtjfpcjnopbfekaaGreatDoorWkaPolyText
set_option linter.unusedSimpArgs false
set_option linter.unusedVariables false
namespace Go.Proofs.YtjfpcjnopbfekaaGreatDoor
open Go.RowKit Go.Ab Go.Sh
/-- framewise/framewiselaw05.awake -/
noncomputable def law05_awake  : Option Bool :=
 (poly_Product [(Linear.mk (-1) [(Coef.mk [110] 1)]),(Linear.mk 1 [(Coef.mk [110] 1)])]).bind fun y0 =>
 (poly_Parse [50,42,109,42,110,94,50]).bind fun y1 =>
 (poly_Eval y1.1 [(Value.mk [109] 3),(Value.mk [110] (-1))]).bind fun y2 =>
 bif (y0.2==0) then (
  bif (y1.2==0) then (
   bif (y2.2==0) then (
    bif (y2.1==6) then (
     (poly_Print y0.1).bind fun y3 =>
     bif (y3==[45,49,43,110,94,50]) then (
      (poly_Valid y1.1).bind fun y4 =>
      bif y4 then (
       (poly_Degree y1.1).bind fun y5 =>
       some (y5==3)
      ) else (
       some false
      )
     ) else (
      some false
     )
    ) else (
     some false
    )
   ) else (
    some false
   )
  ) else (
   some false
  )
 ) else (
  some false
 )
theorem law05_awake_c  (r:Bool) (H:law05_awake  = some r):AFn Tryz.prog 45 [] (.bool r):=by
 unfold law05_awake at H
 refine acallX Tryz.func45 59 [.tmp 0] (by kernel_rfl) (by kernel_rfl) ?_
 refine bnd H fun y0 h0 H0 => ?_
 refine bnd H0 fun y1 h1 H1 => ?_
 refine bnd H1 fun y2 h2 H2 => ?_
 refine p_at mo 11 [r0 [.v],r0 [.b,.b,.v],r0 [.v,.b,.v,.b,.b,.c true (.tup [dS cMonomial y0.1,iI y0.2]),.v,.v,.v,.v,.v],r0 [.c true (.tup [dS cMonomial y1.1,iI y1.2]),.v,.v,.v,.v,.v],r0 [.v,.b,.b,.b,.c true (.tup [iI y2.1,iI y2.2]),.v,.v,.v,.v,.v]] [.only [0,2,3,4,5,6,7] []] 11 [] ⟨59,[(0,.bool false),(2,dS cMonomial y0.1),(3,iI y0.2),(4,dS cMonomial y1.1),(5,iI y1.2),(6,iI y2.1),(7,iI y2.2)],[]⟩ (aC Tryz.call110 (aF (poly_Product_c [(Linear.mk (-1) [(Coef.mk [110] 1)]),(Linear.mk 1 [(Coef.mk [110] 1)])] y0 h0) (aC Tryz.call51 (aF (poly_Parse_c [50,42,109,42,110,94,50] y1 h1) (aC Tryz.call47 (aF (poly_Eval_c y1.1 [(Value.mk [109] 3),(Value.mk [110] (-1))] y2 h2) aN)))))) (by kernel_rfl) ?_
 refine bsp H2 (fun c0 H3 => ?_) (fun c1 H4 => ?_)
 ·refine bsp H3 (fun c2 H5 => ?_) (fun c3 H6 => ?_)
  ·refine bsp H5 (fun c4 H7 => ?_) (fun c5 H8 => ?_)
   ·refine bsp H7 (fun c6 H9 => ?_) (fun c7 H10 => ?_)
    ·refine bnd H9 fun y3 h3 H11 => ?_
     refine bsp H11 (fun c8 H12 => ?_) (fun c9 H13 => ?_)
     ·refine bnd H12 fun y4 h4 H14 => ?_
      refine bsp H14 (fun c10 H15 => ?_) (fun c11 H16 => ?_)
      ·refine bnd H15 fun y5 h5 H17 => ?_
       obtain rfl:=sI H17
       exact p_ret mo 2 [r0 [.v,.e (.bool true),.v,.v,.e (.bool true),.v,.v,.v,.e (.bool true),.v,.v,.v,.e (.bool true),.v,.v,.v,.c true (.str y3),.e (.bool true),.v,.v,.v,.c true (.bool true),.v,.v,.v,.c true (iI y5),.v,.v,.v]] [] [] (aB c0 (aB c2 (aB c4 (aB c6 (aC Tryz.call49 (aF (poly_Print_c y0.1 y3 h3) (aB c8 (aC Tryz.call70 (aC (AFn.eq (poly_Valid_c y1.1 y4 h4) (cB c10)) (aC Tryz.call57 (aF (poly_Degree_c y1.1 y5 h5) aN))))))))))) (by kernel_rfl)
      ·obtain rfl:=sI H16
       exact p_ret mo 2 [r0 [.v,.e (.bool true),.v,.v,.e (.bool true),.v,.v,.v,.e (.bool true),.v,.v,.v,.e (.bool true),.v,.v,.v,.c true (.str y3),.e (.bool true),.v,.v,.v,.c true (.bool false),.v,.v,.s,.s,.s,.v,.v]] [] [] (aB c0 (aB c2 (aB c4 (aB c6 (aC Tryz.call49 (aF (poly_Print_c y0.1 y3 h3) (aB c8 (aC Tryz.call70 (aC (AFn.eq (poly_Valid_c y1.1 y4 h4) (cB c11)) aN))))))))) (by kernel_rfl)
     ·obtain rfl:=sI H13
      exact p_ret mo 2 [r0 [.v,.e (.bool true),.v,.v,.e (.bool true),.v,.v,.v,.e (.bool true),.v,.v,.v,.e (.bool true),.v,.v,.v,.c true (.str y3),.e (.bool false),.v,.v,.s,.s,.v,.v,.s,.s,.s,.v,.v]] [] [] (aB c0 (aB c2 (aB c4 (aB c6 (aC Tryz.call49 (aF (poly_Print_c y0.1 y3 h3) (aB c9 aN))))))) (by kernel_rfl)
    ·obtain rfl:=sI H10
     exact p_ret mo 2 [r0 [.v,.e (.bool true),.v,.v,.e (.bool true),.v,.v,.v,.e (.bool true),.v,.v,.v,.e (.bool false),.v,.v,.s,.s,.s,.v,.v,.s,.s,.v,.v,.s,.s,.s,.v,.v]] [] [] (aB c0 (aB c2 (aB c4 (aB c7 aN)))) (by kernel_rfl)
   ·obtain rfl:=sI H8
    exact p_ret mo 2 [r0 [.v,.e (.bool true),.v,.v,.e (.bool true),.v,.v,.v,.e (.bool false),.v,.v,.s,.s,.v,.v,.s,.s,.s,.v,.v,.s,.s,.v,.v,.s,.s,.s,.v,.v]] [] [] (aB c0 (aB c2 (aB c5 aN))) (by kernel_rfl)
  ·obtain rfl:=sI H6
   exact p_ret mo 2 [r0 [.v,.e (.bool true),.v,.v,.e (.bool false),.v,.v,.s,.s,.v,.v,.s,.s,.v,.v,.s,.s,.s,.v,.v,.s,.s,.v,.v,.s,.s,.s,.v,.v]] [] [] (aB c0 (aB c3 aN)) (by kernel_rfl)
 ·obtain rfl:=sI H4
  exact p_ret mo 2 [r0 [.v,.e (.bool false),.v,.s,.s,.v,.v,.s,.s,.v,.v,.s,.s,.v,.v,.s,.s,.s,.v,.v,.s,.s,.v,.v,.s,.s,.s,.v,.v]] [] [] (aB c1 aN) (by kernel_rfl)
/-- framewise/framewiseref05.Few -/
def ref05_Few (x0:(List Monomial)) (x1:Int):Option Bool :=
 (cnt (σ:=Unit) (ε:=Unit) (ρ:=Bool) (fun i0 s0 =>
  bif decide (((((x0.getD i0 ⟨0,[]⟩).Vars).length:Nat):Int)>10) then (
   some (.ret false)
  ) else (
   (whl (σ:=Int) (ε:=Unit) (ρ:=(Stp Unit Unit Bool)) (fun s1 =>
    bif decide (s1<((((x0.getD i0 ⟨0,[]⟩).Vars).length:Nat):Int)) then (
     grd (0≤s1∧s1<(((x0.getD i0 ⟨0,[]⟩).Vars).length:Int)) <|
     bif decide ((((((x0.getD i0 ⟨0,[]⟩).Vars).getD s1.toNat []).length:Nat):Int)>40) then (
      some (.ret (.ret false))
     ) else (
      some (.go (w64 (s1+1)))
     )
    ) else (
     some (.brk ())
    )
   ) 4294967296 0).bind <| aft fun u0 =>
   some (.go ())
  )
 ) (fun i0 s0=>()) (x0.length-0) 0 ()).bind <| aft fun u1 =>
 some (decide (((x0.length:Nat):Int)≤x1))
def ref05_Few_S1 (x0:(List Monomial)) (x1:Int) (i0:Nat) (s0:Unit):AS:=⟨44,[(0,dS cMonomial x0),(1,iI x1),(4,.bool false),(5,nI i0)],[]⟩
def ref05_Few_S2 (x0:(List Monomial)) (x1:Int) (u2:Unit):AS:=⟨44,[(0,dS cMonomial x0),(1,iI x1),(4,.bool false)],[]⟩
def ref05_Few_S3 (x0:(List Monomial)) (x1:Int) (i0:Nat) (s1:Int):AS:=⟨44,[(0,dS cMonomial x0),(1,iI x1),(4,.bool false),(5,nI i0),(6,iI s1)],[]⟩
def ref05_Few_S4 (x0:(List Monomial)) (x1:Int) (i0:Nat) (u3:Unit):AS:=⟨44,[(0,dS cMonomial x0),(1,iI x1),(4,.bool false),(5,nI i0)],[]⟩
theorem ref05_Few_c (x0:(List Monomial)) (x1:Int) (r:Bool) (H:ref05_Few x0 x1=some r):AFn Tryz.prog 46 [dS cMonomial x0,iI x1] (.bool r):=by
 unfold ref05_Few at H
 refine acallX Tryz.func46 44 [.tmp 4] (by kernel_rfl) (by kernel_rfl) ?_
 refine p_at mo 6 [r0 [.v],r0 [.v]] [.only [0,1,4,5] []] 6 [] (ref05_Few_S1 x0 x1 0 ()) aN (by kernel_rfl) ?_
 refine bnd H fun R0 h0 H0 => ?_
 refine p_joinO 1 (ref05_Few_S2 x0 x1) R0 (by kernel_rfl) ?_ (fun u1 e0 => ?_)
 ·refine p_cnt (ref05_Few_S1 x0 x1) (by kernel_rfl) h0 (fun i0 s0 h1 e1 => ?_) (fun i0 s0 h2 q0 h3 h4 => ?_)
  ·have c0:=lF i0 x0.length (by omega)
   subst e1
   exact p_bar mo 5 [r0 [.v,.v,.e (nI x0.length),.e (.bool false)]] [.only [0,1,4] []] (ref05_Few_S2 x0 x1 ()) (aT (aC (lenm cMonomial x0) (aB c0 aN))) (by kernel_rfl)
  ·have c1:=lT i0 x0.length (by omega)
   refine p_at mo 10 [r0 [.v,.v,.e (nI x0.length),.e (.bool true)],r0 [.v,.v,.e (.dptr [iI ((x0.getD i0 ⟨0,[]⟩).Coef),.dslice (((x0.getD i0 ⟨0,[]⟩).Vars).map cStr)]),.v,.v,.e (iI ((((x0.getD i0 ⟨0,[]⟩).Vars).length:Nat):Int)),.v]] [.only [0,1,4,5,19] []] 10 [true] ⟨44,[(0,dS cMonomial x0),(1,iI x1),(4,.bool false),(5,nI i0),(19,.bool (decide (((((x0.getD i0 ⟨0,[]⟩).Vars).length:Nat):Int)>10)))],[]⟩ (aT (aC (lenm cMonomial x0) (aB c1 (all_app (ix (f:=cMonomial) (l:=x0) (n:=i0) ⟨0,[]⟩ cMonomial_len (by decide) (by omega)) (aT (aC (lenm cStr ((x0.getD i0 ⟨0,[]⟩).Vars)) aN)))))) (by kernel_rfl) ?_
   refine bsp h3 (fun c2 H1 => ?_) (fun c3 H2 => ?_)
   ·obtain rfl:=sI H1
    obtain rfl:=out_ret h4
    obtain rfl:=sI (aft_ret H0)
    exact p_ret mo 5 [.eqT 19 (.bool true),r0 [.v]] [] [] (aB c2 aN) (by kernel_rfl)
   ·have c3p:=of_decide_eq_false c3
    refine p_at mo 6 [.eqT 19 (.bool false),r0 [.v]] [.only [0,1,4,5,6] []] 5 [false] (ref05_Few_S3 x0 x1 i0 0) (aB c3 aN) (by kernel_rfl) ?_
    refine bnd H2 fun R1 h5 H3 => ?_
    refine p_joinO 2 (ref05_Few_S4 x0 x1 i0) R1 (by kernel_rfl) ?_ (fun u0 e2 => ?_)
    ·refine p_whl (ref05_Few_S3 x0 x1 i0) (by kernel_rfl) h5 (fun s1 q1 h6 h7 => ?_)
     ·refine bsp h6 (fun c4 H4 => ?_) (fun c5 H5 => ?_)
      ·have c4p:=of_decide_eq_true c4
       refine grd_e H4 fun g0 H6 => ?_
       refine p_at mo 10 [r0 [.v,.v,.v,.e (.dptr [iI ((x0.getD i0 ⟨0,[]⟩).Coef),.dslice (((x0.getD i0 ⟨0,[]⟩).Vars).map cStr)]),.v,.v,.e (iI ((((x0.getD i0 ⟨0,[]⟩).Vars).length:Nat):Int)),.v],.eqT 27 (.bool true),r0 [.v,.v,.e (.dptr [iI ((x0.getD i0 ⟨0,[]⟩).Coef),.dslice (((x0.getD i0 ⟨0,[]⟩).Vars).map cStr)]),.v,.v,.v,.e (.dptr [.str (((x0.getD i0 ⟨0,[]⟩).Vars).getD s1.toNat [])]),.v,.v,.v]] [.only [0,1,4,5,6,39] []] 9 [true] ⟨44,[(0,dS cMonomial x0),(1,iI x1),(4,.bool false),(5,nI i0),(6,iI s1),(39,.bool (decide ((((((x0.getD i0 ⟨0,[]⟩).Vars).getD s1.toNat []).length:Nat):Int)>40)))],[]⟩ (all_app (ix (f:=cMonomial) (l:=x0) (n:=i0) ⟨0,[]⟩ cMonomial_len (by decide) (by omega)) (aT (aC (lenm cStr ((x0.getD i0 ⟨0,[]⟩).Vars)) (aB c4 (all_app (ix (f:=cMonomial) (l:=x0) (n:=i0) ⟨0,[]⟩ cMonomial_len (by decide) (by omega)) (all_app (ixz (f:=cStr) (l:=((x0.getD i0 ⟨0,[]⟩).Vars)) (n:=s1) [] cStr_len (by decide) (by exact g0)) (aT aN))))))) (by kernel_rfl) ?_
       refine bsp H6 (fun c6 H7 => ?_) (fun c7 H8 => ?_)
       ·obtain rfl:=sI H7
        obtain rfl:=out_ret h7
        obtain rfl:=sI (aft_ret H3)
        obtain rfl:=out_ret h4
        obtain rfl:=sI (aft_ret H0)
        exact p_ret mo 5 [.eqT 39 (.bool true),r0 [.v]] [] [] (aB c6 aN) (by kernel_rfl)
       ·obtain rfl:=sI H8
        exact p_bar mo 4 [.eqT 39 (.bool false),r0 [.v,.w,.v]] [.only [0,1,4,5,6] []] (ref05_Few_S3 x0 x1 i0 (w64 (s1+1))) (aB c7 aN) (by kernel_rfl)
      ·have c5p:=of_decide_eq_false c5
       obtain rfl:=sI H5
       obtain rfl:=out_brk h7
       exact p_bar mo 6 [r0 [.v,.v,.v,.e (.dptr [iI ((x0.getD i0 ⟨0,[]⟩).Coef),.dslice (((x0.getD i0 ⟨0,[]⟩).Vars).map cStr)]),.v,.v,.e (iI ((((x0.getD i0 ⟨0,[]⟩).Vars).length:Nat):Int)),.v],.eqT 27 (.bool false)] [.only [0,1,4,5] []] (ref05_Few_S4 x0 x1 i0 ()) (all_app (ix (f:=cMonomial) (l:=x0) (n:=i0) ⟨0,[]⟩ cMonomial_len (by decide) (by omega)) (aT (aC (lenm cStr ((x0.getD i0 ⟨0,[]⟩).Vars)) (aB c5 aN)))) (by kernel_rfl)
    ·subst e2
     have H9:=aft_brk H3
     refine t_lens 0 (ps:=[(x0.map cMonomial).length≤9223372036854775807]) (by kernel_rfl) (fun l0 => ?_)
     have l1:x0.length≤9223372036854775807:=by simpa only [All,List.length_map] using l0
     clear l0
     obtain rfl:=sI H9
     exact p_bar mo 1 [r0 [.v,.v,.v]] [.only [0,1,4,5] []] (ref05_Few_S1 x0 x1 (i0+1) ()) (aC (pI i0 (by omega)) aN) (by kernel_rfl)
 ·subst e0
  have H10:=aft_brk H0
  obtain rfl:=sI H10
  exact p_ret mo 3 [r0 [.v,.e (nI x0.length),.v,.v,.v]] [] [] (aT (aC (lenm cMonomial x0) aN)) (by kernel_rfl)
/-- framewise/framewiseref04.digit -/
def ref04_digit (x0:UInt8):Option Bool :=
 bif decide (((x0).toNat:Int)≥48) then (
  some (decide (((x0).toNat:Int)≤57))
 ) else (
  some false
 )
theorem ref04_digit_c (x0:UInt8) (r:Bool) (H:ref04_digit x0=some r):AFn Tryz.prog 171 [.int .u8 ((x0).toNat:Int)] (.bool r):=by
 unfold ref04_digit at H
 refine acallX Tryz.func171 9 [.tmp 2] (by kernel_rfl) (by kernel_rfl) ?_
 refine bsp H (fun c0 H0 => ?_) (fun c1 H1 => ?_)
 ·obtain rfl:=sI H0
  exact p_ret mo 5 [r0 [.v],r0 [.v,.e (.bool true),.v,.v,.v,.v,.v]] [] [] (aB c0 aN) (by kernel_rfl)
 ·obtain rfl:=sI H1
  exact p_ret mo 5 [r0 [.v],r0 [.v,.e (.bool false),.v,.s,.s,.v,.v]] [] [] (aB c1 aN) (by kernel_rfl)
/-- framewise/framewiseref04.letter -/
def ref04_letter (x0:UInt8):Option Bool :=
 bif decide (((x0).toNat:Int)≥97) then (
  some (decide (((x0).toNat:Int)≤122))
 ) else (
  some false
 )
theorem ref04_letter_c (x0:UInt8) (r:Bool) (H:ref04_letter x0=some r):AFn Tryz.prog 172 [.int .u8 ((x0).toNat:Int)] (.bool r):=by
 unfold ref04_letter at H
 refine acallX Tryz.func172 9 [.tmp 2] (by kernel_rfl) (by kernel_rfl) ?_
 refine bsp H (fun c0 H0 => ?_) (fun c1 H1 => ?_)
 ·obtain rfl:=sI H0
  exact p_ret mo 5 [r0 [.v],r0 [.v,.e (.bool true),.v,.v,.v,.v,.v]] [] [] (aB c0 aN) (by kernel_rfl)
 ·obtain rfl:=sI H1
  exact p_ret mo 5 [r0 [.v],r0 [.v,.e (.bool false),.v,.s,.s,.v,.v]] [] [] (aB c1 aN) (by kernel_rfl)
/-- framewise/framewiseref04.Name -/
def ref04_Name (x0:Str):Option Bool :=
 bif (((x0.length:Nat):Int)==0) then (
  some false
 ) else (
  bif decide (((x0.length:Nat):Int)>30) then (
   some false
  ) else (
   grd (0<x0.length) <|
   bif (((x0.getD 0 0).toNat:Int)==95) then (
    bif decide (((x0.length:Nat):Int)<2) then (
     some false
    ) else (
     bif decide (((x0.length:Nat):Int)>10) then (
      some false
     ) else (
      grd (1<x0.length) <|
      bif (((x0.getD 1 0).toNat:Int)==48) then (
       some false
      ) else (
       (cnt (σ:=Unit) (ε:=Unit) (ρ:=Bool) (fun i0 s0 =>
        (ref04_digit (x0.getD i0 0)).bind fun y0 =>
        bif y0 then (
         some (.go ())
        ) else (
         some (.ret false)
        )
       ) (fun i0 s0=>()) (x0.length-1) 1 ()).bind <| aft fun u0 =>
       some true
      )
     )
    )
   ) else (
    (cnt (σ:=Unit) (ε:=Unit) (ρ:=Bool) (fun i1 s1 =>
     (ref04_letter (x0.getD i1 0)).bind fun y1 =>
     ((
      bif y1 then (
       some (.brk ())
      ) else (
       bif (((i1:Nat):Int)==0) then (
        some (.ret (.ret false))
       ) else (
        (ref04_digit (x0.getD i1 0)).bind fun y2 =>
        bif y2 then (
         some (.brk ())
        ) else (
         some (.ret (.ret false))
        )
       )
      )
     ):Option (Out Unit (Stp Unit Unit Bool))).bind (aft fun u1 =>
      some (.go ())
     )
    ) (fun i1 s1=>()) (x0.length-0) 0 ()).bind <| aft fun u2 =>
    some true
   )
  )
 )
def ref04_Name_S1 (x0:Str) (i0:Nat) (s0:Unit):AS:=⟨62,[(0,.str x0),(2,.bool false),(3,nI i0)],[]⟩
def ref04_Name_S2 (x0:Str) (u3:Unit):AS:=⟨62,[(0,.str x0),(2,.bool false)],[]⟩
def ref04_Name_S3 (x0:Str) (i1:Nat) (s1:Unit):AS:=⟨62,[(0,.str x0),(2,.bool false),(4,nI i1)],[]⟩
def ref04_Name_S4 (u4:Unit):AS:=⟨62,[(2,.bool false)],[]⟩
def ref04_Name_S5 (x0:Str) (i1:Nat) (u1:Unit):AS:=⟨62,[(0,.str x0),(2,.bool false),(4,nI i1)],[]⟩
theorem ref04_Name_c (x0:Str) (r:Bool) (H:ref04_Name x0=some r):AFn Tryz.prog 100 [.str x0] (.bool r):=by
 unfold ref04_Name at H
 refine acallX Tryz.func100 62 [.tmp 2] (by kernel_rfl) (by kernel_rfl) ?_
 refine bsp H (fun c0 H0 => ?_) (fun c1 H1 => ?_)
 ·obtain rfl:=sI H0
  exact p_ret mo 9 [r0 [.v],r0 [.v,.v,.e (.bool true),.v,.s,.s,.s,.v],r0 [.v]] [] [] (aT (aB c0 aN)) (by kernel_rfl)
 ·refine bsp H1 (fun c2 H2 => ?_) (fun c3 H3 => ?_)
  ·obtain rfl:=sI H2
   exact p_ret mo 10 [r0 [.v],r0 [.v,.v,.e (.bool false),.v,.v,.v,.v,.v],.eqT 12 (.bool true),r0 [.v]] [] [] (aT (aB c1 (aT (aB c2 aN)))) (by kernel_rfl)
  ·have c3p:=of_decide_eq_false c3
   refine grd_e H3 fun g0 H4 => ?_
   refine bsp H4 (fun c4 H5 => ?_) (fun c5 H6 => ?_)
   ·refine bsp H5 (fun c6 H7 => ?_) (fun c7 H8 => ?_)
    ·have c6p:=of_decide_eq_true c6
     obtain rfl:=sI H7
     exact p_ret mo 20 [r0 [.v],r0 [.v,.v,.e (.bool false),.v,.v,.v,.v,.v],.eqT 12 (.bool false),r0 [.v,.v,.v],.eqT 15 (.bool true),r0 [.v,.v,.e (.bool true),.v,.s,.s,.s,.v,.v,.s,.s,.s,.v],r0 [.v]] [] [] (aT (aB c1 (aT (aB c3 (aC (show (0:Int)≤0∧0<(x0.length:Int) from by omega) (aB c4 (aT (aB c6 aN)))))))) (by kernel_rfl)
    ·have c7p:=of_decide_eq_false c7
     refine bsp H8 (fun c8 H9 => ?_) (fun c9 H10 => ?_)
     ·have c8p:=of_decide_eq_true c8
      obtain rfl:=sI H9
      exact p_ret mo 20 [r0 [.v],r0 [.v,.v,.e (.bool false),.v,.v,.v,.v,.v],.eqT 12 (.bool false),r0 [.v,.v,.v],.eqT 15 (.bool true),r0 [.v,.v,.e (.bool false),.v,.v,.v,.e (.bool true),.v,.v,.s,.s,.s,.v],r0 [.v]] [] [] (aT (aB c1 (aT (aB c3 (aC (show (0:Int)≤0∧0<(x0.length:Int) from by omega) (aB c4 (aT (aB c7 (aT (aB c8 aN)))))))))) (by kernel_rfl)
     ·have c9p:=of_decide_eq_false c9
      refine grd_e H10 fun g1 H11 => ?_
      refine p_at mo 16 [r0 [.v],r0 [.v,.v,.e (.bool false),.v,.v,.v,.v,.v],.eqT 12 (.bool false),r0 [.v,.v,.v],.eqT 15 (.bool true),r0 [.v,.v,.e (.bool false),.v,.v,.v,.e (.bool false),.v,.v,.v,.v,.v,.v]] [.only [0,2,28] []] 14 [false,true] ⟨62,[(0,.str x0),(2,.bool false),(28,.bool (((x0.getD 1 0).toNat:Int)==48))],[]⟩ (aT (aB c1 (aT (aB c3 (aC (show (0:Int)≤0∧0<(x0.length:Int) from by omega) (aB c4 (aT (aB c7 (aT (aB c9 (aC (show (0:Int)≤1∧1<(x0.length:Int) from by omega) aN))))))))))) (by kernel_rfl) ?_
      refine bsp H11 (fun c10 H12 => ?_) (fun c11 H13 => ?_)
      ·obtain rfl:=sI H12
       exact p_ret mo 5 [.eqT 28 (.bool true),r0 [.v]] [] [] (aB c10 aN) (by kernel_rfl)
      ·refine p_at mo 7 [.eqT 28 (.bool false),.rg 0 [] [.v]] [.only [0,2,3] []] 6 [false] (ref04_Name_S1 x0 1 ()) (aB c11 aN) (by kernel_rfl) ?_
       refine bnd H13 fun R0 h0 H14 => ?_
       refine p_joinO 1 (ref04_Name_S2 x0) R0 (by kernel_rfl) ?_ (fun u0 e0 => ?_)
       ·refine p_cnt (ref04_Name_S1 x0) (by kernel_rfl) h0 (fun i0 s0 h1 e1 => ?_) (fun i0 s0 h2 q0 h3 h4 => ?_)
        ·have c12:=lF i0 x0.length (by omega)
         subst e1
         exact p_bar mo 5 [r0 [.v,.v,.v,.e (.bool false)]] [.only [0,2] []] (ref04_Name_S2 x0 ()) (aT (aB c12 aN)) (by kernel_rfl)
        ·have c13:=lT i0 x0.length (by omega)
         refine bnd h3 fun y0 h5 H15 => ?_
         refine bsp H15 (fun c14 H16 => ?_) (fun c15 H17 => ?_)
         ·refine t_lens 0 (ps:=[x0.length≤9223372036854775807]) (by kernel_rfl) (fun l0 => ?_)
          have l1:x0.length≤9223372036854775807:=by simpa only [All,List.length_map] using l0
          clear l0
          obtain rfl:=sI H16
          exact p_bar mo 13 [r0 [.v,.v,.v,.e (.bool true)],r0 [.v,.v,.v,.c true (.bool y0),.v],.eqT 39 (.bool false),r0 [.v,.v,.v]] [.only [0,2,3] []] (ref04_Name_S1 x0 (i0+1) ()) (aT (aB c13 (aC (show (0:Int)≤((i0:Nat):Int)∧((i0:Nat):Int)<(x0.length:Int) from by omega) (aC Tryz.call171 (aF (ref04_digit_c (x0.getD i0 0) y0 h5) (aT (aM c14 (aC (pI i0 (by omega)) aN)))))))) (by kernel_rfl)
         ·obtain rfl:=sI H17
          obtain rfl:=out_ret h4
          obtain rfl:=sI (aft_ret H14)
          exact p_ret mo 14 [r0 [.v,.v,.v,.e (.bool true)],r0 [.v,.v,.v,.c true (.bool y0),.v],.eqT 39 (.bool true),r0 [.v]] [] [] (aT (aB c13 (aC (show (0:Int)≤((i0:Nat):Int)∧((i0:Nat):Int)<(x0.length:Int) from by omega) (aC Tryz.call171 (aF (ref04_digit_c (x0.getD i0 0) y0 h5) (aT (aM c15 aN))))))) (by kernel_rfl)
       ·subst e0
        have H18:=aft_brk H14
        obtain rfl:=sI H18
        exact p_ret mo 3 [r0 [.v]] [] [] aN (by kernel_rfl)
   ·refine p_at mo 18 [.rg 0 [] [.v],.rg 0 [] [.v,.v,.e (.bool false),.v,.v,.v,.v,.v],.eqT 12 (.bool false),.rg 0 [] [.v,.v,.v],.eqT 15 (.bool false),.rg 0 [] [.v]] [.only [0,2,4] []] 16 [false,false] (ref04_Name_S3 x0 0 ()) (aT (aB c1 (aT (aB c3 (aC (show (0:Int)≤0∧0<(x0.length:Int) from by omega) (aB c5 aN)))))) (by kernel_rfl) ?_
    refine bnd H6 fun R1 h6 H19 => ?_
    refine p_joinO 1 (ref04_Name_S4) R1 (by kernel_rfl) ?_ (fun u2 e2 => ?_)
    ·refine p_cnt (ref04_Name_S3 x0) (by kernel_rfl) h6 (fun i1 s1 h7 e3 => ?_) (fun i1 s1 h8 q1 h9 h10 => ?_)
     ·have c16:=lF i1 x0.length (by omega)
      subst e3
      exact p_bar mo 5 [r0 [.v,.v,.v,.e (.bool false)]] [.only [2] []] (ref04_Name_S4 ()) (aT (aB c16 aN)) (by kernel_rfl)
     ·have c17:=lT i1 x0.length (by omega)
      refine bnd h9 fun y1 h11 H20 => ?_
      refine p_at mo 8 [r0 [.v,.v,.v,.e (.bool true)]] [.only [0,2,4] []] 8 [true] ⟨62,[(0,.str x0),(2,.bool false),(4,nI i1)],[]⟩ (aT (aB c17 aN)) (by kernel_rfl) ?_
      refine bnd H20 fun v0 h12 H21 => ?_
      refine p_joinO 2 (ref04_Name_S5 x0 i1) v0 (by kernel_rfl) ?_ (fun u1 e4 => ?_)
      ·refine bsp h12 (fun c18 H22 => ?_) (fun c19 H23 => ?_)
       ·obtain rfl:=sI H22
        exact p_bar mo 3 [r0 [.v,.v,.v,.c true (.bool true),.v,.v,.s,.s,.s,.s,.s,.s,.s,.s,.s,.v]] [.only [0,2,4] []] (ref04_Name_S5 x0 i1 ()) (aC (show (0:Int)≤((i1:Nat):Int)∧((i1:Nat):Int)<(x0.length:Int) from by omega) (aC Tryz.call172 (aC (AFn.eq (ref04_letter_c (x0.getD i1 0) y1 h11) (cB c18)) (aT aN)))) (by kernel_rfl)
       ·refine bsp H23 (fun c20 H24 => ?_) (fun c21 H25 => ?_)
        ·obtain rfl:=sI H24
         obtain rfl:=sI (aft_ret H21)
         obtain rfl:=out_ret h10
         obtain rfl:=sI (aft_ret H19)
         exact p_ret mo 5 [r0 [.v,.v,.v,.c true (.bool false),.v,.v,.v,.e (.bool true),.v,.s,.s,.s,.s,.s,.v,.v],r0 [.v]] [] [] (aC (show (0:Int)≤((i1:Nat):Int)∧((i1:Nat):Int)<(x0.length:Int) from by omega) (aC Tryz.call172 (aC (AFn.eq (ref04_letter_c (x0.getD i1 0) y1 h11) (cB c19)) (aT (aB c20 aN))))) (by kernel_rfl)
        ·refine bnd H25 fun y2 h13 H26 => ?_
         refine p_at mo 1 [r0 [.v,.v,.v,.c true (.bool false),.v,.v,.v,.e (.bool false),.v,.v,.v,.v,.c true (.bool y2),.v,.v,.v]] [.only [0,2,4,61] []] 1 [] ⟨62,[(0,.str x0),(2,.bool false),(4,nI i1),(61,.bool (!y2))],[]⟩ (aC (show (0:Int)≤((i1:Nat):Int)∧((i1:Nat):Int)<(x0.length:Int) from by omega) (aC Tryz.call172 (aC (AFn.eq (ref04_letter_c (x0.getD i1 0) y1 h11) (cB c19)) (aT (aB c21 (aC (show (0:Int)≤((i1:Nat):Int)∧((i1:Nat):Int)<(x0.length:Int) from by omega) (aC Tryz.call171 (aF (ref04_digit_c (x0.getD i1 0) y2 h13) (aT aN))))))))) (by kernel_rfl) ?_
         refine bsp H26 (fun c22 H27 => ?_) (fun c23 H28 => ?_)
         ·obtain rfl:=sI H27
          exact p_bar mo 3 [.eqT 61 (.bool false)] [.only [0,2,4] []] (ref04_Name_S5 x0 i1 ()) (aM c22 aN) (by kernel_rfl)
         ·obtain rfl:=sI H28
          obtain rfl:=sI (aft_ret H21)
          obtain rfl:=out_ret h10
          obtain rfl:=sI (aft_ret H19)
          exact p_ret mo 5 [.eqT 61 (.bool true),r0 [.v]] [] [] (aM c23 aN) (by kernel_rfl)
      ·subst e4
       have H29:=aft_brk H21
       refine t_lens 0 (ps:=[x0.length≤9223372036854775807]) (by kernel_rfl) (fun l2 => ?_)
       have l3:x0.length≤9223372036854775807:=by simpa only [All,List.length_map] using l2
       clear l2
       obtain rfl:=sI H29
       exact p_bar mo 1 [r0 [.v,.v,.v]] [.only [0,2,4] []] (ref04_Name_S3 x0 (i1+1) ()) (aC (pI i1 (by omega)) aN) (by kernel_rfl)
    ·subst e2
     have H30:=aft_brk H19
     obtain rfl:=sI H30
     exact p_ret mo 3 [r0 [.v]] [] [] aN (by kernel_rfl)
/-- framewise/framewiseref05.order -/
def ref05_order (x0:(List Str)) (x1:(List Str)):Option Int :=
 (cnt (σ:=Unit) (ε:=Unit) (ρ:=Int) (fun i0 s0 =>
  bif decide (((i0:Nat):Int)<((x1.length:Nat):Int)) then (
   bif (Op.bytesLess (x0.getD i0 []) (x1.getD i0 [])) then (
    some (.ret (-1))
   ) else (
    bif (Op.bytesLess (x0.getD i0 []) (x1.getD i0 [])||(x0.getD i0 [])==(x1.getD i0 [])) then (
     some (.go ())
    ) else (
     some (.ret 1)
    )
   )
  ) else (
   some (.brk ())
  )
 ) (fun i0 s0=>()) (x0.length-0) 0 ()).bind <| aft fun u0 =>
 some (w64 (((x0.length:Nat):Int)-((x1.length:Nat):Int)))
def ref05_order_S1 (x0:(List Str)) (x1:(List Str)) (i0:Nat) (s0:Unit):AS:=⟨41,[(0,dS cStr x0),(1,dS cStr x1),(4,iI 0),(5,nI i0)],[]⟩
def ref05_order_S2 (x0:(List Str)) (x1:(List Str)) (u1:Unit):AS:=⟨41,[(0,dS cStr x0),(1,dS cStr x1),(4,iI 0)],[]⟩
theorem ref05_order_c (x0:(List Str)) (x1:(List Str)) (r:Int) (H:ref05_order x0 x1=some r):AFn Tryz.prog 122 [dS cStr x0,dS cStr x1] (iI r):=by
 unfold ref05_order at H
 refine acallX Tryz.func122 41 [.tmp 4] (by kernel_rfl) (by kernel_rfl) ?_
 refine p_at mo 6 [r0 [.v],r0 [.v]] [.only [0,1,4,5] []] 6 [] (ref05_order_S1 x0 x1 0 ()) aN (by kernel_rfl) ?_
 refine bnd H fun R0 h0 H0 => ?_
 refine p_joinO 1 (ref05_order_S2 x0 x1) R0 (by kernel_rfl) ?_ (fun u0 e0 => ?_)
 ·refine p_cnt (ref05_order_S1 x0 x1) (by kernel_rfl) h0 (fun i0 s0 h1 e1 => ?_) (fun i0 s0 h2 q0 h3 h4 => ?_)
  ·have c0:=lF i0 x0.length (by omega)
   subst e1
   exact p_bar mo 5 [r0 [.v,.v,.e (nI x0.length),.e (.bool false),.v,.s,.s,.s,.s,.v]] [.only [0,1,4] []] (ref05_order_S2 x0 x1 ()) (aT (aC (lenm cStr x0) (aB c0 aN))) (by kernel_rfl)
  ·have c1:=lT i0 x0.length (by omega)
   refine bsp h3 (fun c2 H1 => ?_) (fun c3 H2 => ?_)
   ·have c2p:=of_decide_eq_true c2
    refine p_at mo 11 [r0 [.v,.v,.e (nI x0.length),.e (.bool true),.v,.v,.v,.e (nI x1.length),.v,.v],.eqT 15 (.bool true),.rg 8 [.v,.v,.e (.dptr [.str (x0.getD i0 [])]),.v,.v,.v,.e (.dptr [.str (x1.getD i0 [])]),.v] [.v]] [.only [0,1,4,5,26] []] 10 [true] ⟨41,[(0,dS cStr x0),(1,dS cStr x1),(4,iI 0),(5,nI i0),(26,.bool (Op.bytesLess (x0.getD i0 []) (x1.getD i0 [])))],[]⟩ (aT (aC (lenm cStr x0) (aB c1 (aT (aC (lenm cStr x1) (aB c2 (all_app (ix (f:=cStr) (l:=x0) (n:=i0) [] cStr_len (by decide) (by omega)) (all_app (ix (f:=cStr) (l:=x1) (n:=i0) [] cStr_len (by decide) (by omega)) aN)))))))) (by kernel_rfl) ?_
    refine bsp H1 (fun c4 H3 => ?_) (fun c5 H4 => ?_)
    ·obtain rfl:=sI H3
     obtain rfl:=out_ret h4
     obtain rfl:=sI (aft_ret H0)
     exact p_ret mo 5 [.eqT 26 (.bool true),r0 [.v]] [] [] (aB c4 aN) (by kernel_rfl)
    ·refine bsp H4 (fun c6 H5 => ?_) (fun c7 H6 => ?_)
     ·refine t_lens 0 (ps:=[(x0.map cStr).length≤9223372036854775807]) (by kernel_rfl) (fun l0 => ?_)
      have l1:x0.length≤9223372036854775807:=by simpa only [All,List.length_map] using l0
      clear l0
      obtain rfl:=sI H5
      exact p_bar mo 9 [.eqT 26 (.bool false),.rg 8 [.v,.v,.e (.dptr [.str (x0.getD i0 [])]),.v,.v,.v,.e (.dptr [.str (x1.getD i0 [])]),.v] [.v],.eqT 35 (.bool false),r0 [.v,.v,.v]] [.only [0,1,4,5] []] (ref05_order_S1 x0 x1 (i0+1) ()) (aB c5 (all_app (ix (f:=cStr) (l:=x0) (n:=i0) [] cStr_len (by decide) (by omega)) (all_app (ix (f:=cStr) (l:=x1) (n:=i0) [] cStr_len (by decide) (by omega)) (aM c6 (aC (pI i0 (by omega)) aN))))) (by kernel_rfl)
     ·obtain rfl:=sI H6
      obtain rfl:=out_ret h4
      obtain rfl:=sI (aft_ret H0)
      exact p_ret mo 10 [.eqT 26 (.bool false),.rg 8 [.v,.v,.e (.dptr [.str (x0.getD i0 [])]),.v,.v,.v,.e (.dptr [.str (x1.getD i0 [])]),.v] [.v],.eqT 35 (.bool true),r0 [.v]] [] [] (aB c5 (all_app (ix (f:=cStr) (l:=x0) (n:=i0) [] cStr_len (by decide) (by omega)) (all_app (ix (f:=cStr) (l:=x1) (n:=i0) [] cStr_len (by decide) (by omega)) (aM c7 aN)))) (by kernel_rfl)
   ·obtain rfl:=sI H2
    obtain rfl:=out_brk h4
    exact p_bar mo 6 [r0 [.v,.v,.e (nI x0.length),.e (.bool true),.v,.v,.v,.e (nI x1.length),.v,.v],.eqT 15 (.bool false)] [.only [0,1,4] []] (ref05_order_S2 x0 x1 ()) (aT (aC (lenm cStr x0) (aB c1 (aT (aC (lenm cStr x1) (aB c3 aN)))))) (by kernel_rfl)
 ·subst e0
  have H7:=aft_brk H0
  obtain rfl:=sI H7
  exact p_ret mo 3 [r0 [.v,.e (nI x0.length),.v,.e (nI x1.length),.w,.v]] [] [] (aT (aC (lenm cStr x0) (aT (aC (lenm cStr x1) aN)))) (by kernel_rfl)
/-- framewise/framewiseref05.Valid -/
def ref05_Valid (x0:(List Monomial)):Option Bool :=
 bif decide (((x0.length:Nat):Int)>60) then (
  some false
 ) else (
  (cnt (σ:=Unit) (ε:=Unit) (ρ:=Bool) (fun i0 s0 =>
   ((
    bif (((x0.getD i0 ⟨0,[]⟩).Coef)==0) then (
     some (.ret (.ret false))
    ) else (
     bif decide (((x0.getD i0 ⟨0,[]⟩).Coef)<(-1099511627776)) then (
      some (.ret (.ret false))
     ) else (
      bif decide (((x0.getD i0 ⟨0,[]⟩).Coef)>1099511627776) then (
       some (.ret (.ret false))
      ) else (
       bif decide (((((x0.getD i0 ⟨0,[]⟩).Vars).length:Nat):Int)>8) then (
        some (.ret (.ret false))
       ) else (
        bif decide (((i0:Nat):Int)>0) then (
         grd (0≤(w64 (((i0:Nat):Int)-1))∧(w64 (((i0:Nat):Int)-1))<(x0.length:Int)) <|
         (ref05_order ((x0.getD (w64 (((i0:Nat):Int)-1)).toNat ⟨0,[]⟩).Vars) ((x0.getD i0 ⟨0,[]⟩).Vars)).bind fun y0 =>
         bif decide (y0≥0) then (
          some (.ret (.ret false))
         ) else (
          some (.brk ())
         )
        ) else (
         some (.brk ())
        )
       )
      )
     )
    )
   ):Option (Out Unit (Stp Unit Unit Bool))).bind (aft fun u0 =>
    (cnt (σ:=Unit) (ε:=Unit) (ρ:=(Stp Unit Unit Bool)) (fun i1 s1 =>
     (ref04_Name (((x0.getD i0 ⟨0,[]⟩).Vars).getD i1 [])).bind fun y1 =>
     ((
      bif y1 then (
       bif decide (((i1:Nat):Int)>0) then (
        grd (0≤(w64 (((i1:Nat):Int)-1))∧(w64 (((i1:Nat):Int)-1))<(((x0.getD i0 ⟨0,[]⟩).Vars).length:Int)) <|
        bif (Op.bytesLess (((x0.getD i0 ⟨0,[]⟩).Vars).getD (w64 (((i1:Nat):Int)-1)).toNat []) (((x0.getD i0 ⟨0,[]⟩).Vars).getD i1 [])||(((x0.getD i0 ⟨0,[]⟩).Vars).getD (w64 (((i1:Nat):Int)-1)).toNat [])==(((x0.getD i0 ⟨0,[]⟩).Vars).getD i1 [])) then (
         some (.brk ())
        ) else (
         some (.ret (.ret (.ret false)))
        )
       ) else (
        some (.brk ())
       )
      ) else (
       some (.ret (.ret (.ret false)))
      )
     ):Option (Out Unit (Stp Unit Unit (Stp Unit Unit Bool)))).bind (aft fun u1 =>
      some (.go ())
     )
    ) (fun i1 s1=>()) (((x0.getD i0 ⟨0,[]⟩).Vars).length-0) 0 ()).bind <| aft fun u2 =>
    some (.go ())
   )
  ) (fun i0 s0=>()) (x0.length-0) 0 ()).bind <| aft fun u3 =>
  some true
 )
def ref05_Valid_S1 (x0:(List Monomial)) (i0:Nat) (s0:Unit):AS:=⟨86,[(0,dS cMonomial x0),(2,.bool false),(3,nI i0)],[]⟩
def ref05_Valid_S2 (u4:Unit):AS:=⟨86,[(2,.bool false)],[]⟩
def ref05_Valid_S3 (x0:(List Monomial)) (i0:Nat) (u0:Unit):AS:=⟨86,[(0,dS cMonomial x0),(2,.bool false),(3,nI i0),(4,.hptr 4 0)],[(4,.cells 118 [iI ((x0.getD i0 ⟨0,[]⟩).Coef),.dslice (((x0.getD i0 ⟨0,[]⟩).Vars).map cStr)])]⟩
def ref05_Valid_S4 (x0:(List Monomial)) (i0:Nat) (i1:Nat) (s1:Unit):AS:=⟨86,[(0,dS cMonomial x0),(2,.bool false),(3,nI i0),(4,.hptr 4 0),(5,nI i1)],[(4,.cells 118 [iI ((x0.getD i0 ⟨0,[]⟩).Coef),.dslice (((x0.getD i0 ⟨0,[]⟩).Vars).map cStr)])]⟩
def ref05_Valid_S5 (x0:(List Monomial)) (i0:Nat) (u5:Unit):AS:=⟨86,[(0,dS cMonomial x0),(2,.bool false),(3,nI i0)],[]⟩
def ref05_Valid_S6 (x0:(List Monomial)) (i0:Nat) (i1:Nat) (u1:Unit):AS:=⟨86,[(0,dS cMonomial x0),(2,.bool false),(3,nI i0),(4,.hptr 4 0),(5,nI i1)],[(4,.cells 118 [iI ((x0.getD i0 ⟨0,[]⟩).Coef),.dslice (((x0.getD i0 ⟨0,[]⟩).Vars).map cStr)])]⟩
theorem ref05_Valid_c (x0:(List Monomial)) (r:Bool) (H:ref05_Valid x0=some r):AFn Tryz.prog 52 [dS cMonomial x0] (.bool r):=by
 unfold ref05_Valid at H
 refine acallX Tryz.func52 86 [.tmp 2] (by kernel_rfl) (by kernel_rfl) ?_
 refine bsp H (fun c0 H0 => ?_) (fun c1 H1 => ?_)
 ·obtain rfl:=sI H0
  exact p_ret mo 10 [r0 [.v],r0 [.v,.e (nI x0.length),.v],.eqT 8 (.bool true),r0 [.v]] [] [] (aT (aC (lenm cMonomial x0) (aB c0 aN))) (by kernel_rfl)
 ·have c1p:=of_decide_eq_false c1
  refine p_at mo 12 [r0 [.v],r0 [.v,.e (nI x0.length),.v],.eqT 8 (.bool false),r0 [.v]] [.only [0,2,3] []] 11 [false] (ref05_Valid_S1 x0 0 ()) (aT (aC (lenm cMonomial x0) (aB c1 aN))) (by kernel_rfl) ?_
  refine bnd H1 fun R0 h0 H2 => ?_
  refine p_joinO 1 (ref05_Valid_S2) R0 (by kernel_rfl) ?_ (fun u3 e0 => ?_)
  ·refine p_cnt (ref05_Valid_S1 x0) (by kernel_rfl) h0 (fun i0 s0 h1 e1 => ?_) (fun i0 s0 h2 q0 h3 h4 => ?_)
   ·have c2:=lF i0 x0.length (by omega)
    subst e1
    exact p_bar mo 5 [r0 [.v,.v,.e (nI x0.length),.e (.bool false)]] [.only [2] []] (ref05_Valid_S2 ()) (aT (aC (lenm cMonomial x0) (aB c2 aN))) (by kernel_rfl)
   ·have c3:=lT i0 x0.length (by omega)
    refine p_at mo 11 [r0 [.v,.v,.e (nI x0.length),.e (.bool true)],r0 [.v,.v,.e (.dptr [iI ((x0.getD i0 ⟨0,[]⟩).Coef),.dslice (((x0.getD i0 ⟨0,[]⟩).Vars).map cStr)]),.v,.m,.m]] [.only [0,2,3,4] [4]] 11 [true] ⟨86,[(0,dS cMonomial x0),(2,.bool false),(3,nI i0),(4,.hptr 4 0)],[(4,.cells 118 [iI ((x0.getD i0 ⟨0,[]⟩).Coef),.dslice (((x0.getD i0 ⟨0,[]⟩).Vars).map cStr)])]⟩ (aT (aC (lenm cMonomial x0) (aB c3 (all_app (ix (f:=cMonomial) (l:=x0) (n:=i0) ⟨0,[]⟩ cMonomial_len (by decide) (by omega)) aN)))) (by kernel_rfl) ?_
    refine bnd h3 fun v0 h5 H3 => ?_
    refine p_joinO 1 (ref05_Valid_S3 x0 i0) v0 (by kernel_rfl) ?_ (fun u0 e2 => ?_)
    ·refine bsp h5 (fun c4 H4 => ?_) (fun c5 H5 => ?_)
     ·obtain rfl:=sI H4
      obtain rfl:=sI (aft_ret H3)
      obtain rfl:=out_ret h4
      obtain rfl:=sI (aft_ret H2)
      exact p_ret mo 5 [.rg 31 [.v,.v,.e (.bool true),.v,.s,.s,.s,.v,.v,.s,.s,.s,.v,.v,.s,.s,.s,.s,.v,.v,.s,.s,.s,.s,.s,.s,.s,.s,.s,.s,.s] [.s,.s,.s,.v],r0 [.v]] [] [] (aB c4 aN) (by kernel_rfl)
     ·refine bsp H5 (fun c6 H6 => ?_) (fun c7 H7 => ?_)
      ·obtain rfl:=sI H6
       obtain rfl:=sI (aft_ret H3)
       obtain rfl:=out_ret h4
       obtain rfl:=sI (aft_ret H2)
       exact p_ret mo 5 [.rg 31 [.v,.v,.e (.bool false),.v,.v,.v,.e (.bool true),.v,.v,.s,.s,.s,.v,.v,.s,.s,.s,.s,.v,.v,.s,.s,.s,.s,.s,.s,.s,.s,.s,.s,.s] [.s,.s,.s,.v],r0 [.v]] [] [] (aB c5 (aB c6 aN)) (by kernel_rfl)
      ·refine bsp H7 (fun c8 H8 => ?_) (fun c9 H9 => ?_)
       ·obtain rfl:=sI H8
        obtain rfl:=sI (aft_ret H3)
        obtain rfl:=out_ret h4
        obtain rfl:=sI (aft_ret H2)
        exact p_ret mo 5 [.rg 31 [.v,.v,.e (.bool false),.v,.v,.v,.e (.bool false),.v,.v,.v,.v,.e (.bool true),.v,.v,.s,.s,.s,.s,.v,.v,.s,.s,.s,.s,.s,.s,.s,.s,.s,.s,.s] [.s,.s,.s,.v],r0 [.v]] [] [] (aB c5 (aB c7 (aB c8 aN))) (by kernel_rfl)
       ·refine bsp H9 (fun c10 H10 => ?_) (fun c11 H11 => ?_)
        ·obtain rfl:=sI H10
         obtain rfl:=sI (aft_ret H3)
         obtain rfl:=out_ret h4
         obtain rfl:=sI (aft_ret H2)
         exact p_ret mo 5 [.rg 31 [.v,.v,.e (.bool false),.v,.v,.v,.e (.bool false),.v,.v,.v,.v,.e (.bool false),.v,.v,.v,.v,.e (iI ((((x0.getD i0 ⟨0,[]⟩).Vars).length:Nat):Int)),.e (.bool true),.v,.v,.s,.s,.s,.s,.s,.s,.s,.s,.s,.s,.s] [.s,.s,.s,.v],r0 [.v]] [] [] (aB c5 (aB c7 (aB c9 (aT (aC (lenm cStr ((x0.getD i0 ⟨0,[]⟩).Vars)) (aB c10 aN)))))) (by kernel_rfl)
        ·refine bsp H11 (fun c12 H12 => ?_) (fun c13 H13 => ?_)
         ·refine grd_e H12 fun g0 H14 => ?_
          refine bnd H14 fun y0 h6 H15 => ?_
          refine p_at mo 1 [.rg 31 [.v,.v,.e (.bool false),.v,.v,.v,.e (.bool false),.v,.v,.v,.v,.e (.bool false),.v,.v,.v,.v,.e (iI ((((x0.getD i0 ⟨0,[]⟩).Vars).length:Nat):Int)),.e (.bool false),.v,.v,.v,.e (.bool true),.v,.v,.v,.w,.e (.dptr [iI ((x0.getD (w64 (((i0:Nat):Int)-1)).toNat ⟨0,[]⟩).Coef),.dslice (((x0.getD (w64 (((i0:Nat):Int)-1)).toNat ⟨0,[]⟩).Vars).map cStr)]),.v,.v,.v,.v] [.c true (iI y0),.v,.v,.v]] [.only [0,2,3,4,53] [4]] 1 [] ⟨86,[(0,dS cMonomial x0),(2,.bool false),(3,nI i0),(4,.hptr 4 0),(53,.bool (decide (y0≥0)))],[(4,.cells 118 [iI ((x0.getD i0 ⟨0,[]⟩).Coef),.dslice (((x0.getD i0 ⟨0,[]⟩).Vars).map cStr)])]⟩ (aB c5 (aB c7 (aB c9 (aT (aC (lenm cStr ((x0.getD i0 ⟨0,[]⟩).Vars)) (aB c11 (aB c12 (all_app (ixz (f:=cMonomial) (l:=x0) (n:=(w64 (((i0:Nat):Int)-1))) ⟨0,[]⟩ cMonomial_len (by decide) (by exact g0)) (aC Tryz.call122 (aF (ref05_order_c ((x0.getD (w64 (((i0:Nat):Int)-1)).toNat ⟨0,[]⟩).Vars) ((x0.getD i0 ⟨0,[]⟩).Vars) y0 h6) aN)))))))))) (by kernel_rfl) ?_
          refine bsp H15 (fun c14 H16 => ?_) (fun c15 H17 => ?_)
          ·obtain rfl:=sI H16
           obtain rfl:=sI (aft_ret H3)
           obtain rfl:=out_ret h4
           obtain rfl:=sI (aft_ret H2)
           exact p_ret mo 5 [.eqT 53 (.bool true),r0 [.v]] [] [] (aB c14 aN) (by kernel_rfl)
          ·obtain rfl:=sI H17
           exact p_bar mo 3 [.eqT 53 (.bool false)] [.only [0,2,3,4] [4]] (ref05_Valid_S3 x0 i0 ()) (aB c15 aN) (by kernel_rfl)
         ·obtain rfl:=sI H13
          exact p_bar mo 3 [.rg 31 [.v,.v,.e (.bool false),.v,.v,.v,.e (.bool false),.v,.v,.v,.v,.e (.bool false),.v,.v,.v,.v,.e (iI ((((x0.getD i0 ⟨0,[]⟩).Vars).length:Nat):Int)),.e (.bool false),.v,.v,.v,.e (.bool false),.v,.s,.s,.s,.s,.s,.s,.s,.s] [.s,.s,.v,.v]] [.only [0,2,3,4] [4]] (ref05_Valid_S3 x0 i0 ()) (aB c5 (aB c7 (aB c9 (aT (aC (lenm cStr ((x0.getD i0 ⟨0,[]⟩).Vars)) (aB c11 (aB c13 aN))))))) (by kernel_rfl)
    ·subst e2
     have H18:=aft_brk H3
     refine p_at mo 3 [r0 [.v]] [.only [0,2,3,4,5] [4]] 3 [] (ref05_Valid_S4 x0 i0 0 ()) aN (by kernel_rfl) ?_
     refine bnd H18 fun R1 h7 H19 => ?_
     refine p_joinO 2 (ref05_Valid_S5 x0 i0) R1 (by kernel_rfl) ?_ (fun u2 e3 => ?_)
     ·refine p_cnt (ref05_Valid_S4 x0 i0) (by kernel_rfl) h7 (fun i1 s1 h8 e4 => ?_) (fun i1 s1 h9 q1 h10 h11 => ?_)
      ·have c16:=lF i1 (((x0.getD i0 ⟨0,[]⟩).Vars).length) (by omega)
       subst e4
       exact p_bar mo 5 [r0 [.v,.v,.v,.e (iI ((((x0.getD i0 ⟨0,[]⟩).Vars).length:Nat):Int)),.e (.bool false)]] [.only [0,2,3] []] (ref05_Valid_S5 x0 i0 ()) (aT (aC (lenm cStr ((x0.getD i0 ⟨0,[]⟩).Vars)) (aB c16 aN))) (by kernel_rfl)
      ·have c17:=lT i1 (((x0.getD i0 ⟨0,[]⟩).Vars).length) (by omega)
       refine bnd h10 fun y1 h12 H20 => ?_
       refine p_at mo 8 [r0 [.v,.v,.v,.e (iI ((((x0.getD i0 ⟨0,[]⟩).Vars).length:Nat):Int)),.e (.bool true)]] [.only [0,2,3,4,5] [4]] 8 [true] ⟨86,[(0,dS cMonomial x0),(2,.bool false),(3,nI i0),(4,.hptr 4 0),(5,nI i1)],[(4,.cells 118 [iI ((x0.getD i0 ⟨0,[]⟩).Coef),.dslice (((x0.getD i0 ⟨0,[]⟩).Vars).map cStr)])]⟩ (aT (aC (lenm cStr ((x0.getD i0 ⟨0,[]⟩).Vars)) (aB c17 aN))) (by kernel_rfl) ?_
       refine bnd H20 fun v1 h13 H21 => ?_
       refine p_joinO 2 (ref05_Valid_S6 x0 i0 i1) v1 (by kernel_rfl) ?_ (fun u1 e5 => ?_)
       ·refine bsp h13 (fun c18 H22 => ?_) (fun c19 H23 => ?_)
        ·refine bsp H22 (fun c20 H24 => ?_) (fun c21 H25 => ?_)
         ·have c20p:=of_decide_eq_true c20
          refine grd_e H24 fun g1 H26 => ?_
          refine p_at mo 1 [.rg 22 [.v,.v,.v,.e (.dptr [.str (((x0.getD i0 ⟨0,[]⟩).Vars).getD i1 [])]),.v,.c true (.bool true),.v,.v,.v,.e (.bool true),.v,.v,.v,.v,.w,.e (.dptr [.str (((x0.getD i0 ⟨0,[]⟩).Vars).getD (w64 (((i1:Nat):Int)-1)).toNat [])]),.v,.v,.v,.v,.e (.dptr [.str (((x0.getD i0 ⟨0,[]⟩).Vars).getD i1 [])]),.v] [.v,.v,.v]] [.only [0,2,3,4,5,85] [4]] 1 [] ⟨86,[(0,dS cMonomial x0),(2,.bool false),(3,nI i0),(4,.hptr 4 0),(5,nI i1),(85,.bool (!(Op.bytesLess (((x0.getD i0 ⟨0,[]⟩).Vars).getD (w64 (((i1:Nat):Int)-1)).toNat []) (((x0.getD i0 ⟨0,[]⟩).Vars).getD i1 [])||(((x0.getD i0 ⟨0,[]⟩).Vars).getD (w64 (((i1:Nat):Int)-1)).toNat [])==(((x0.getD i0 ⟨0,[]⟩).Vars).getD i1 []))))],[(4,.cells 118 [iI ((x0.getD i0 ⟨0,[]⟩).Coef),.dslice (((x0.getD i0 ⟨0,[]⟩).Vars).map cStr)])]⟩ (all_app (ix (f:=cStr) (l:=((x0.getD i0 ⟨0,[]⟩).Vars)) (n:=i1) [] cStr_len (by decide) (by omega)) (aC Tryz.call100 (aC (AFn.eq (ref04_Name_c (((x0.getD i0 ⟨0,[]⟩).Vars).getD i1 []) y1 h12) (cB c18)) (aT (aB c20 (all_app (ixz (f:=cStr) (l:=((x0.getD i0 ⟨0,[]⟩).Vars)) (n:=(w64 (((i1:Nat):Int)-1))) [] cStr_len (by decide) (by exact g1)) (all_app (ix (f:=cStr) (l:=((x0.getD i0 ⟨0,[]⟩).Vars)) (n:=i1) [] cStr_len (by decide) (by omega)) aN))))))) (by kernel_rfl) ?_
          refine bsp H26 (fun c22 H27 => ?_) (fun c23 H28 => ?_)
          ·obtain rfl:=sI H27
           exact p_bar mo 3 [.eqT 85 (.bool false)] [.only [0,2,3,4,5] [4]] (ref05_Valid_S6 x0 i0 i1 ()) (aM c22 aN) (by kernel_rfl)
          ·obtain rfl:=sI H28
           obtain rfl:=sI (aft_ret H21)
           obtain rfl:=out_ret h11
           obtain rfl:=sI (aft_ret H19)
           obtain rfl:=out_ret h4
           obtain rfl:=sI (aft_ret H2)
           exact p_ret mo 5 [.eqT 85 (.bool true),r0 [.v]] [] [] (aM c23 aN) (by kernel_rfl)
         ·have c21p:=of_decide_eq_false c21
          obtain rfl:=sI H25
          exact p_bar mo 3 [.rg 22 [.v,.v,.v,.e (.dptr [.str (((x0.getD i0 ⟨0,[]⟩).Vars).getD i1 [])]),.v,.c true (.bool true),.v,.v,.v,.e (.bool false),.v,.s,.s,.s,.s,.s,.s,.s,.s,.s,.s,.s] [.s,.v,.v]] [.only [0,2,3,4,5] [4]] (ref05_Valid_S6 x0 i0 i1 ()) (all_app (ix (f:=cStr) (l:=((x0.getD i0 ⟨0,[]⟩).Vars)) (n:=i1) [] cStr_len (by decide) (by omega)) (aC Tryz.call100 (aC (AFn.eq (ref04_Name_c (((x0.getD i0 ⟨0,[]⟩).Vars).getD i1 []) y1 h12) (cB c18)) (aT (aB c21 aN))))) (by kernel_rfl)
        ·obtain rfl:=sI H23
         obtain rfl:=sI (aft_ret H21)
         obtain rfl:=out_ret h11
         obtain rfl:=sI (aft_ret H19)
         obtain rfl:=out_ret h4
         obtain rfl:=sI (aft_ret H2)
         exact p_ret mo 5 [.rg 22 [.v,.v,.v,.e (.dptr [.str (((x0.getD i0 ⟨0,[]⟩).Vars).getD i1 [])]),.v,.c true (.bool false),.v,.v,.s,.s,.s,.s,.s,.s,.s,.s,.s,.s,.s,.s,.s,.s] [.s,.s,.v],r0 [.v]] [] [] (all_app (ix (f:=cStr) (l:=((x0.getD i0 ⟨0,[]⟩).Vars)) (n:=i1) [] cStr_len (by decide) (by omega)) (aC Tryz.call100 (aC (AFn.eq (ref04_Name_c (((x0.getD i0 ⟨0,[]⟩).Vars).getD i1 []) y1 h12) (cB c19)) (aT aN)))) (by kernel_rfl)
       ·subst e5
        have H29:=aft_brk H21
        refine t_lensH 4 1 (ps:=[(((x0.getD i0 ⟨0,[]⟩).Vars).map cStr).length≤9223372036854775807]) (by kernel_rfl) (fun l0 => ?_)
        have l1:((x0.getD i0 ⟨0,[]⟩).Vars).length≤9223372036854775807:=by simpa only [All,List.length_map] using l0
        clear l0
        obtain rfl:=sI H29
        exact p_bar mo 1 [r0 [.v,.v,.v]] [.only [0,2,3,4,5] [4]] (ref05_Valid_S4 x0 i0 (i1+1) ()) (aC (pI i1 (by omega)) aN) (by kernel_rfl)
     ·subst e3
      have H30:=aft_brk H19
      refine t_lens 0 (ps:=[(x0.map cMonomial).length≤9223372036854775807]) (by kernel_rfl) (fun l2 => ?_)
      have l3:x0.length≤9223372036854775807:=by simpa only [All,List.length_map] using l2
      clear l2
      obtain rfl:=sI H30
      exact p_bar mo 1 [r0 [.v,.v,.v]] [.only [0,2,3] []] (ref05_Valid_S1 x0 (i0+1) ()) (aC (pI i0 (by omega)) aN) (by kernel_rfl)
  ·subst e0
   have H31:=aft_brk H2
   obtain rfl:=sI H31
   exact p_ret mo 3 [r0 [.v]] [] [] aN (by kernel_rfl)
/-- framewise/framewiseref04.Itoa -/
def ref04_Itoa_b (self:Int→Option Str) (x0:Int):Option Str :=
 bif decide (x0<0) then (
  (self (w64 (0-x0))).bind fun y0 =>
  grd ([45].length+y0.length≤9223372036854775807) <|
  some ([45]++y0)
 ) else (
  bif decide (x0<10) then (
   grd (0≤x0∧x0≤(w64 (x0+1))∧(w64 (x0+1))≤([48,49,50,51,52,53,54,55,56,57].length:Int)) <|
   some (([48,49,50,51,52,53,54,55,56,57].drop x0.toNat).take ((w64 (x0+1)).toNat-x0.toNat))
  ) else (
   (self (w64 (x0.tdiv 10))).bind fun y1 =>
   (self (x0.tmod 10)).bind fun y2 =>
   grd (y1.length+y2.length≤9223372036854775807) <|
   some (y1++y2)
  )
 )
def ref04_Itoa:Nat→Int→Option Str
 | 0,_=>none
 | fu+1,x0=>ref04_Itoa_b (ref04_Itoa fu) x0
theorem ref04_Itoa_c (fuel:Nat):∀ (x0:Int) (r:Str) (H:ref04_Itoa fuel x0=some r),AFn Tryz.prog 119 [iI x0] (.str r):=by
 induction fuel with
 | zero=>intros;contradiction
 | succ fu ih =>
 intro x0 r H
 have H:ref04_Itoa_b (ref04_Itoa fu) x0=some r:=H
 unfold ref04_Itoa_b at H
 refine acallX Tryz.func119 22 [.tmp 2] (by kernel_rfl) (by kernel_rfl) ?_
 refine bsp H (fun c0 H0 => ?_) (fun c1 H1 => ?_)
 ·refine bnd H0 fun y0 h0 H2 => ?_
  refine grd_e H2 fun g0 H3 => ?_
  obtain rfl:=sI H3
  exact p_ret mo 10 [r0 [.v],r0 [.v,.v],.eqT 4 (.bool true),r0 [.v,.w,.c true (.str y0),.v,.v]] [] [] (aB c0 (aC Tryz.call119 (aF (ih (w64 (0-x0)) y0 h0) (aC (show [45].length+y0.length≤9223372036854775807 from g0) aN)))) (by kernel_rfl)
 ·have c1p:=of_decide_eq_false c1
  refine bsp H1 (fun c2 H4 => ?_) (fun c3 H5 => ?_)
  ·have c2p:=of_decide_eq_true c2
   refine grd_e H4 fun g1 H6 => ?_
   obtain rfl:=sI H6
   exact p_ret mo 16 [r0 [.v],r0 [.v,.v],.eqT 4 (.bool false),r0 [.v,.v],.eqT 10 (.bool true),r0 [.v,.v,.w,.v,.v]] [] [] (aB c1 (aB c2 (aC (show (0:Int)≤x0∧x0≤(w64 (x0+1))∧(w64 (x0+1))≤([48,49,50,51,52,53,54,55,56,57].length:Int) from by omega) aN))) (by kernel_rfl)
  ·refine bnd H5 fun y1 h1 H7 => ?_
   refine bnd H7 fun y2 h2 H8 => ?_
   refine grd_e H8 fun g2 H9 => ?_
   obtain rfl:=sI H9
   exact p_ret mo 17 [r0 [.v],r0 [.v,.v],.eqT 4 (.bool false),r0 [.v,.v],.eqT 10 (.bool false),r0 [.v,.w,.c true (.str y1),.v,.v,.c true (.str y2),.v,.v]] [] [] (aB c1 (aB c3 (aC (show (10:Int)≠0 from (by decide)) (aC Tryz.call119 (aF (ih (w64 (x0.tdiv 10)) y1 h1) (aC (show (10:Int)≠0 from (by decide)) (aC Tryz.call119 (aF (ih (x0.tmod 10) y2 h2) (aC (show y1.length+y2.length≤9223372036854775807 from g2) aN))))))))) (by kernel_rfl)
/-- framewise/framewiseref05.Print -/
def ref05_Print (x0:(List Monomial)):Option Str :=
 (ref05_Valid x0).bind fun y0 =>
 bif y0 then (
  bif (((x0.length:Nat):Int)==0) then (
   some [48]
  ) else (
   (cnt (σ:=Str) (ε:=Str) (ρ:=Empty) (fun i0 s0 =>
    ((
     bif decide (((x0.getD i0 ⟨0,[]⟩).Coef)<0) then (
      grd (s0.length+[45].length≤9223372036854775807) <|
      some ((s0++[45]),(w64 (0-((x0.getD i0 ⟨0,[]⟩).Coef))))
     ) else (
      bif decide (((i0:Nat):Int)>0) then (
       grd (s0.length+[43].length≤9223372036854775807) <|
       some ((s0++[43]),((x0.getD i0 ⟨0,[]⟩).Coef))
      ) else (
       some (s0,((x0.getD i0 ⟨0,[]⟩).Coef))
      )
     )
    ):Option (Str×Int)).bind fun v0 =>
    ((
     bif decide (v0.2>1) then (
      some true
     ) else (
      some (((((x0.getD i0 ⟨0,[]⟩).Vars).length:Nat):Int)==0)
     )
    ):Option Bool).bind fun v1 =>
    ((
     bif v1 then (
      (ref04_Itoa 64 v0.2).bind fun y1 =>
      some y1
     ) else (
      some []
     )
    ):Option Str).bind fun v2 =>
    (whl (σ:=(Str×Int)) (ε:=Str) (ρ:=Empty) (fun s1 =>
     bif decide (s1.2<((((x0.getD i0 ⟨0,[]⟩).Vars).length:Nat):Int)) then (
      (whl (σ:=Int) (ε:=Int) (ρ:=Empty) (fun s2 =>
       bif decide (s2<((((x0.getD i0 ⟨0,[]⟩).Vars).length:Nat):Int)) then (
        grd (0≤s2∧s2<(((x0.getD i0 ⟨0,[]⟩).Vars).length:Int)) <|
        grd (0≤s1.2∧s1.2<(((x0.getD i0 ⟨0,[]⟩).Vars).length:Int)) <|
        bif ((((x0.getD i0 ⟨0,[]⟩).Vars).getD s2.toNat [])==(((x0.getD i0 ⟨0,[]⟩).Vars).getD s1.2.toNat [])) then (
         some (.go (w64 (s2+1)))
        ) else (
         some (.brk s2)
        )
       ) else (
        some (.brk s2)
       )
      ) 4294967296 s1.2).bind <| aftE fun u0 =>
      ((
       bif (s1.1==[]) then (
        some s1.1
       ) else (
        grd (s1.1.length+[42].length≤9223372036854775807) <|
        some (s1.1++[42])
       )
      ):Option Str).bind fun v3 =>
      grd (0≤s1.2∧s1.2<(((x0.getD i0 ⟨0,[]⟩).Vars).length:Int)) <|
      grd (v3.length+(((x0.getD i0 ⟨0,[]⟩).Vars).getD s1.2.toNat []).length≤9223372036854775807) <|
      ((
       bif decide ((w64 (u0-s1.2))>1) then (
        (ref04_Itoa 64 (w64 (u0-s1.2))).bind fun y2 =>
        grd ([94].length+y2.length≤9223372036854775807) <|
        grd ((v3++(((x0.getD i0 ⟨0,[]⟩).Vars).getD s1.2.toNat [])).length+([94]++y2).length≤9223372036854775807) <|
        some ((v3++(((x0.getD i0 ⟨0,[]⟩).Vars).getD s1.2.toNat []))++([94]++y2))
       ) else (
        some (v3++(((x0.getD i0 ⟨0,[]⟩).Vars).getD s1.2.toNat []))
       )
      ):Option Str).bind fun v4 =>
      some (.go (v4,u0))
     ) else (
      some (.brk s1.1)
     )
    ) 4294967296 (v2,0)).bind <| aftE fun u1 =>
    grd (v0.1.length+u1.length≤9223372036854775807) <|
    some (.go (v0.1++u1))
   ) (fun i0 s0=>s0) (x0.length-0) 0 []).bind <| aftE fun u2 =>
   some u2
  )
 ) else (
  some []
 )
def ref05_Print_S1 (x0:(List Monomial)) (i0:Nat) (s0:Str):AS:=⟨117,[(0,dS cMonomial x0),(2,.str []),(3,.str s0),(4,nI i0)],[]⟩
def ref05_Print_S2 (u3:Str):AS:=⟨117,[(2,.str []),(3,.str u3)],[]⟩
def ref05_Print_S3 (x0:(List Monomial)) (i0:Nat) (v0:(Str×Int)):AS:=⟨117,[(0,dS cMonomial x0),(2,.str []),(3,.str v0.1),(4,nI i0),(5,iI v0.2)],[]⟩
def ref05_Print_S4 (x0:(List Monomial)) (i0:Nat) (v0:(Str×Int)) (v1:Bool):AS:=⟨117,[(0,dS cMonomial x0),(2,.str []),(3,.str v0.1),(4,nI i0),(5,iI v0.2),(6,.str []),(46,.bool v1)],[]⟩
def ref05_Print_S5 (x0:(List Monomial)) (i0:Nat) (v0:(Str×Int)) (v2:Str):AS:=⟨117,[(0,dS cMonomial x0),(2,.str []),(3,.str v0.1),(4,nI i0),(6,.str v2)],[]⟩
def ref05_Print_S6 (x0:(List Monomial)) (i0:Nat) (v0:(Str×Int)) (s1:(Str×Int)):AS:=⟨117,[(0,dS cMonomial x0),(2,.str []),(3,.str v0.1),(4,nI i0),(6,.str s1.1),(7,iI s1.2)],[]⟩
def ref05_Print_S7 (x0:(List Monomial)) (i0:Nat) (v0:(Str×Int)) (u4:Str):AS:=⟨117,[(0,dS cMonomial x0),(2,.str []),(3,.str v0.1),(4,nI i0),(6,.str u4)],[]⟩
def ref05_Print_S8 (x0:(List Monomial)) (i0:Nat) (v0:(Str×Int)) (s1:(Str×Int)) (s2:Int):AS:=⟨117,[(0,dS cMonomial x0),(2,.str []),(3,.str v0.1),(4,nI i0),(6,.str s1.1),(7,iI s1.2),(8,iI s2)],[]⟩
def ref05_Print_S9 (x0:(List Monomial)) (i0:Nat) (v0:(Str×Int)) (s1:(Str×Int)) (u5:Int):AS:=⟨117,[(0,dS cMonomial x0),(2,.str []),(3,.str v0.1),(4,nI i0),(6,.str s1.1),(7,iI s1.2),(8,iI u5)],[]⟩
def ref05_Print_S10 (x0:(List Monomial)) (i0:Nat) (v0:(Str×Int)) (s1:(Str×Int)) (u0:Int) (v3:Str):AS:=⟨117,[(0,dS cMonomial x0),(2,.str []),(3,.str v0.1),(4,nI i0),(6,.str v3),(7,iI s1.2),(8,iI u0)],[]⟩
def ref05_Print_S11 (x0:(List Monomial)) (i0:Nat) (v0:(Str×Int)) (s1:(Str×Int)) (u0:Int) (v4:Str):AS:=⟨117,[(0,dS cMonomial x0),(2,.str []),(3,.str v0.1),(4,nI i0),(6,.str v4),(7,iI s1.2),(8,iI u0)],[]⟩
theorem ref05_Print_c (x0:(List Monomial)) (r:Str) (H:ref05_Print x0=some r):AFn Tryz.prog 50 [dS cMonomial x0] (.str r):=by
 unfold ref05_Print at H
 refine acallX Tryz.func50 117 [.tmp 2] (by kernel_rfl) (by kernel_rfl) ?_
 refine bnd H fun y0 h0 H0 => ?_
 refine bsp H0 (fun c0 H1 => ?_) (fun c1 H2 => ?_)
 ·refine bsp H1 (fun c2 H3 => ?_) (fun c3 H4 => ?_)
  ·obtain rfl:=sI H3
   exact p_ret mo 16 [r0 [.v],r0 [.v,.c true (.bool y0),.v],.eqT 11 (.bool false),r0 [.v,.e (nI x0.length),.v],.eqT 14 (.bool true),r0 [.v]] [] [] (aC Tryz.call52 (aF (ref05_Valid_c x0 y0 h0) (aT (aM c0 (aT (aC (lenm cMonomial x0) (aB c2 aN))))))) (by kernel_rfl)
  ·refine p_at mo 20 [.rg 0 [] [.v],.rg 0 [] [.v,.c true (.bool y0),.v],.eqT 11 (.bool false),.rg 0 [] [.v,.e (.int .i64 ((x0.length:Nat):Int)),.v],.eqT 14 (.bool false),.rg 0 [] [.v],.rg 0 [] [.v]] [.only [0,2,3,4] []] 18 [false,false] (ref05_Print_S1 x0 0 []) (aC Tryz.call52 (aF (ref05_Valid_c x0 y0 h0) (aT (aM c0 (aT (aC (lenm cMonomial x0) (aB c3 aN))))))) (by kernel_rfl) ?_
   refine bnd H4 fun R0 h1 H5 => ?_
   refine p_joinO 1 (ref05_Print_S2) R0 (by kernel_rfl) ?_ (fun u2 e0 => ?_)
   ·refine p_cnt (ref05_Print_S1 x0) (by kernel_rfl) h1 (fun i0 s0 h2 e1 => ?_) (fun i0 s0 h3 q0 h4 h5 => ?_)
    ·have c4:=lF i0 x0.length (by omega)
     subst e1
     exact p_bar mo 5 [r0 [.v,.v,.e (nI x0.length),.e (.bool false)]] [.only [2,3] []] (ref05_Print_S2 s0) (aT (aC (lenm cMonomial x0) (aB c4 aN))) (by kernel_rfl)
    ·have c5:=lT i0 x0.length (by omega)
     refine p_at mo 12 [r0 [.v,.v,.e (nI x0.length),.e (.bool true)],r0 [.v,.v,.e (.dptr [iI ((x0.getD i0 ⟨0,[]⟩).Coef),.dslice (((x0.getD i0 ⟨0,[]⟩).Vars).map cStr)]),.v,.v,.v],r0 [.v,.v]] [.only [0,2,3,4,5,27] []] 12 [true] ⟨117,[(0,dS cMonomial x0),(2,.str []),(3,.str s0),(4,nI i0),(5,iI ((x0.getD i0 ⟨0,[]⟩).Coef)),(27,.bool (decide (((x0.getD i0 ⟨0,[]⟩).Coef)<0)))],[]⟩ (aT (aC (lenm cMonomial x0) (aB c5 (all_app (ix (f:=cMonomial) (l:=x0) (n:=i0) ⟨0,[]⟩ cMonomial_len (by decide) (by omega)) aN)))) (by kernel_rfl) ?_
     refine bnd h4 fun v0 h6 H6 => ?_
     refine p_join 0 (ref05_Print_S3 x0 i0 v0) (by kernel_rfl) ?_ ?_
     ·refine bsp h6 (fun c6 H7 => ?_) (fun c7 H8 => ?_)
      ·refine grd_e H7 fun g0 H9 => ?_
       obtain rfl:=sI H9
       exact p_bar mo 5 [.eqT 27 (.bool true),r0 [.v,.v,.v],r0 [.v,.w,.v]] [.only [0,2,3,4,5] []] (ref05_Print_S3 x0 i0 ((s0++[45]),(w64 (0-((x0.getD i0 ⟨0,[]⟩).Coef))))) (aB c6 (aC (show s0.length+[45].length≤9223372036854775807 from g0) aN)) (by kernel_rfl)
      ·refine bsp H8 (fun c8 H10 => ?_) (fun c9 H11 => ?_)
       ·refine grd_e H10 fun g1 H12 => ?_
        obtain rfl:=sI H12
        exact p_bar mo 7 [.eqT 27 (.bool false),r0 [.v,.v],.eqT 33 (.bool true),r0 [.v,.v,.v]] [.only [0,2,3,4,5] []] (ref05_Print_S3 x0 i0 ((s0++[43]),((x0.getD i0 ⟨0,[]⟩).Coef))) (aB c7 (aB c8 (aC (show s0.length+[43].length≤9223372036854775807 from g1) aN))) (by kernel_rfl)
       ·obtain rfl:=sI H11
        exact p_bar mo 7 [.eqT 27 (.bool false),r0 [.v,.v],.eqT 33 (.bool false)] [.only [0,2,3,4,5] []] (ref05_Print_S3 x0 i0 (s0,((x0.getD i0 ⟨0,[]⟩).Coef))) (aB c7 (aB c9 aN)) (by kernel_rfl)
     ·refine p_at mo 4 [.rg 0 [] [.v]] [.only [0,2,3,4,5,6] []] 4 [] ⟨117,[(0,.dslice (x0.map cMonomial)),(2,.str []),(3,.str v0.1),(4,.int .i64 ((i0:Nat):Int)),(5,.int .i64 v0.2),(6,.str [])],[]⟩ aN (by kernel_rfl) ?_
      refine bnd H6 fun v1 h7 H13 => ?_
      refine p_join 0 (ref05_Print_S4 x0 i0 v0 v1) (by kernel_rfl) ?_ ?_
      ·refine bsp h7 (fun c10 H14 => ?_) (fun c11 H15 => ?_)
       ·obtain rfl:=sI H14
        exact p_bar mo 1 [r0 [.v,.e (.bool true),.v,.s,.s,.s,.s,.s,.s,.s,.v]] [.only [0,2,3,4,5,6,46] []] (ref05_Print_S4 x0 i0 v0 true) (aB c10 aN) (by kernel_rfl)
       ·have c11p:=of_decide_eq_false c11
        obtain rfl:=sI H15
        exact p_bar mo 1 [r0 [.v,.e (.bool false),.v,.v,.v,.e (.dptr [iI ((x0.getD i0 ⟨0,[]⟩).Coef),.dslice (((x0.getD i0 ⟨0,[]⟩).Vars).map cStr)]),.v,.v,.e (iI ((((x0.getD i0 ⟨0,[]⟩).Vars).length:Nat):Int)),.v,.v]] [.only [0,2,3,4,5,6,46] []] (ref05_Print_S4 x0 i0 v0 (((((x0.getD i0 ⟨0,[]⟩).Vars).length:Nat):Int)==0)) (aB c11 (all_app (ix (f:=cMonomial) (l:=x0) (n:=i0) ⟨0,[]⟩ cMonomial_len (by decide) (by omega)) (aT (aC (lenm cStr ((x0.getD i0 ⟨0,[]⟩).Vars)) aN)))) (by kernel_rfl)
      ·refine bnd H13 fun v2 h8 H16 => ?_
       refine p_join 0 (ref05_Print_S5 x0 i0 v0 v2) (by kernel_rfl) ?_ ?_
       ·refine bsp h8 (fun c12 H17 => ?_) (fun c13 H18 => ?_)
        ·refine bnd H17 fun y1 h9 H19 => ?_
         refine some_e H19 fun e2 => ?_
         subst e2
         exact p_bar mo 3 [.eqT 46 (.bool true),r0 [.v,.c true (.str y1),.v]] [.only [0,2,3,4,6] []] (ref05_Print_S5 x0 i0 v0 y1) (aB c12 (aC Tryz.call119 (aF (ref04_Itoa_c 64 v0.2 y1 h9) aN))) (by kernel_rfl)
        ·obtain rfl:=sI H18
         exact p_bar mo 3 [.eqT 46 (.bool false)] [.only [0,2,3,4,6] []] (ref05_Print_S5 x0 i0 v0 []) (aB c13 aN) (by kernel_rfl)
       ·refine p_at mo 4 [.rg 0 [] [.v]] [.only [0,2,3,4,6,7] []] 4 [] (ref05_Print_S6 x0 i0 v0 (v2,0)) aN (by kernel_rfl) ?_
        refine bnd H16 fun R1 h10 H20 => ?_
        refine p_joinO 1 (ref05_Print_S7 x0 i0 v0) R1 (by kernel_rfl) ?_ (fun u1 e3 => ?_)
        ·refine p_whl (ref05_Print_S6 x0 i0 v0) (by kernel_rfl) h10 (fun s1 q1 h11 h12 => ?_)
         ·refine bsp h11 (fun c14 H21 => ?_) (fun c15 H22 => ?_)
          ·have c14p:=of_decide_eq_true c14
           refine p_at mo 11 [r0 [.v,.v,.v,.e (.dptr [iI ((x0.getD i0 ⟨0,[]⟩).Coef),.dslice (((x0.getD i0 ⟨0,[]⟩).Vars).map cStr)]),.v,.v,.e (iI ((((x0.getD i0 ⟨0,[]⟩).Vars).length:Nat):Int)),.v],.eqT 56 (.bool true),r0 [.v,.v]] [.only [0,2,3,4,6,7,8] []] 10 [true] (ref05_Print_S8 x0 i0 v0 s1 s1.2) (all_app (ix (f:=cMonomial) (l:=x0) (n:=i0) ⟨0,[]⟩ cMonomial_len (by decide) (by omega)) (aT (aC (lenm cStr ((x0.getD i0 ⟨0,[]⟩).Vars)) (aB c14 aN)))) (by kernel_rfl) ?_
           refine bnd H21 fun R2 h13 H23 => ?_
           refine p_joinO 1 (ref05_Print_S9 x0 i0 v0 s1) R2 (by kernel_rfl) ?_ (fun u0 e4 => ?_)
           ·refine p_whl (ref05_Print_S8 x0 i0 v0 s1) (by kernel_rfl) h13 (fun s2 q2 h14 h15 => ?_)
            ·refine bsp h14 (fun c16 H24 => ?_) (fun c17 H25 => ?_)
             ·have c16p:=of_decide_eq_true c16
              refine grd_e H24 fun g2 H26 => ?_
              refine grd_e H26 fun g3 H27 => ?_
              refine p_at mo 3 [.rg 25 [.v,.v,.v,.e (.dptr [iI ((x0.getD i0 ⟨0,[]⟩).Coef),.dslice (((x0.getD i0 ⟨0,[]⟩).Vars).map cStr)]),.v,.v,.e (iI ((((x0.getD i0 ⟨0,[]⟩).Vars).length:Nat):Int)),.e (.bool true),.v,.v,.v,.e (.dptr [iI ((x0.getD i0 ⟨0,[]⟩).Coef),.dslice (((x0.getD i0 ⟨0,[]⟩).Vars).map cStr)]),.v,.v,.v,.e (.dptr [.str (((x0.getD i0 ⟨0,[]⟩).Vars).getD s2.toNat [])]),.v,.v,.v,.e (.dptr [iI ((x0.getD i0 ⟨0,[]⟩).Coef),.dslice (((x0.getD i0 ⟨0,[]⟩).Vars).map cStr)]),.v,.v,.v,.e (.dptr [.str (((x0.getD i0 ⟨0,[]⟩).Vars).getD s1.2.toNat [])]),.v] [.v,.v]] [.only [0,2,3,4,6,7,8,84] []] 3 [] ⟨117,[(0,dS cMonomial x0),(2,.str []),(3,.str v0.1),(4,nI i0),(6,.str s1.1),(7,iI s1.2),(8,iI s2),(84,.bool ((((x0.getD i0 ⟨0,[]⟩).Vars).getD s2.toNat [])==(((x0.getD i0 ⟨0,[]⟩).Vars).getD s1.2.toNat [])))],[]⟩ (all_app (ix (f:=cMonomial) (l:=x0) (n:=i0) ⟨0,[]⟩ cMonomial_len (by decide) (by omega)) (aT (aC (lenm cStr ((x0.getD i0 ⟨0,[]⟩).Vars)) (aB c16 (all_app (ix (f:=cMonomial) (l:=x0) (n:=i0) ⟨0,[]⟩ cMonomial_len (by decide) (by omega)) (all_app (ixz (f:=cStr) (l:=((x0.getD i0 ⟨0,[]⟩).Vars)) (n:=s2) [] cStr_len (by decide) (by exact g2)) (all_app (ix (f:=cMonomial) (l:=x0) (n:=i0) ⟨0,[]⟩ cMonomial_len (by decide) (by omega)) (all_app (ixz (f:=cStr) (l:=((x0.getD i0 ⟨0,[]⟩).Vars)) (n:=s1.2) [] cStr_len (by decide) (by exact g3)) aN)))))))) (by kernel_rfl) ?_
              refine bsp H27 (fun c18 H28 => ?_) (fun c19 H29 => ?_)
              ·obtain rfl:=sI H28
               exact p_bar mo 5 [.eqT 84 (.bool true),r0 [.v,.w,.v]] [.only [0,2,3,4,6,7,8] []] (ref05_Print_S8 x0 i0 v0 s1 (w64 (s2+1))) (aB c18 aN) (by kernel_rfl)
              ·obtain rfl:=sI H29
               obtain rfl:=out_brk h15
               exact p_bar mo 3 [.eqT 84 (.bool false)] [.only [0,2,3,4,6,7,8] []] (ref05_Print_S9 x0 i0 v0 s1 s2) (aB c19 aN) (by kernel_rfl)
             ·have c17p:=of_decide_eq_false c17
              obtain rfl:=sI H25
              obtain rfl:=out_brk h15
              exact p_bar mo 5 [.rg 25 [.v,.v,.v,.e (.dptr [iI ((x0.getD i0 ⟨0,[]⟩).Coef),.dslice (((x0.getD i0 ⟨0,[]⟩).Vars).map cStr)]),.v,.v,.e (iI ((((x0.getD i0 ⟨0,[]⟩).Vars).length:Nat):Int)),.e (.bool false),.v,.s,.s,.s,.s,.s,.s,.s,.s,.s,.s,.s,.s,.s,.s,.s,.s] [.s,.v]] [.only [0,2,3,4,6,7,8] []] (ref05_Print_S9 x0 i0 v0 s1 s2) (all_app (ix (f:=cMonomial) (l:=x0) (n:=i0) ⟨0,[]⟩ cMonomial_len (by decide) (by omega)) (aT (aC (lenm cStr ((x0.getD i0 ⟨0,[]⟩).Vars)) (aB c17 aN)))) (by kernel_rfl)
           ·subst e4
            have H30:=aftE_brk H23
            refine p_at mo 3 [r0 [.v,.v]] [.only [0,2,3,4,6,7,8,88] []] 3 [] ⟨117,[(0,dS cMonomial x0),(2,.str []),(3,.str v0.1),(4,nI i0),(6,.str s1.1),(7,iI s1.2),(8,iI u0),(88,.bool (!(s1.1==[])))],[]⟩ aN (by kernel_rfl) ?_
            refine bnd H30 fun v3 h16 H31 => ?_
            refine p_join 0 (ref05_Print_S10 x0 i0 v0 s1 u0 v3) (by kernel_rfl) ?_ ?_
            ·refine bsp h16 (fun c20 H32 => ?_) (fun c21 H33 => ?_)
             ·obtain rfl:=sI H32
              exact p_bar mo 3 [.eqT 88 (.bool false)] [.only [0,2,3,4,6,7,8] []] (ref05_Print_S10 x0 i0 v0 s1 u0 s1.1) (aM c20 aN) (by kernel_rfl)
             ·refine grd_e H33 fun g4 H34 => ?_
              obtain rfl:=sI H34
              exact p_bar mo 3 [.eqT 88 (.bool true),r0 [.v,.v,.v]] [.only [0,2,3,4,6,7,8] []] (ref05_Print_S10 x0 i0 v0 s1 u0 (s1.1++[42])) (aM c21 (aC (show s1.1.length+[42].length≤9223372036854775807 from g4) aN)) (by kernel_rfl)
            ·refine grd_e H31 fun g5 H35 => ?_
             refine grd_e H35 fun g6 H36 => ?_
             refine p_at mo 5 [r0 [.v,.v,.v,.e (.dptr [iI ((x0.getD i0 ⟨0,[]⟩).Coef),.dslice (((x0.getD i0 ⟨0,[]⟩).Vars).map cStr)]),.v,.v,.v,.e (.dptr [.str (((x0.getD i0 ⟨0,[]⟩).Vars).getD s1.2.toNat [])]),.v,.v,.v],r0 [.v,.v,.w,.v]] [.only [0,2,3,4,6,7,8,104] []] 5 [] ⟨117,[(0,dS cMonomial x0),(2,.str []),(3,.str v0.1),(4,nI i0),(6,.str (v3++(((x0.getD i0 ⟨0,[]⟩).Vars).getD s1.2.toNat []))),(7,iI s1.2),(8,iI u0),(104,.bool (decide ((w64 (u0-s1.2))>1)))],[]⟩ (all_app (ix (f:=cMonomial) (l:=x0) (n:=i0) ⟨0,[]⟩ cMonomial_len (by decide) (by omega)) (all_app (ixz (f:=cStr) (l:=((x0.getD i0 ⟨0,[]⟩).Vars)) (n:=s1.2) [] cStr_len (by decide) (by exact g5)) (aC (show v3.length+(((x0.getD i0 ⟨0,[]⟩).Vars).getD s1.2.toNat []).length≤9223372036854775807 from g6) aN))) (by kernel_rfl) ?_
             refine bnd H36 fun v4 h17 H37 => ?_
             refine p_join 0 (ref05_Print_S11 x0 i0 v0 s1 u0 v4) (by kernel_rfl) ?_ ?_
             ·refine bsp h17 (fun c22 H38 => ?_) (fun c23 H39 => ?_)
              ·refine bnd H38 fun y2 h18 H40 => ?_
               refine grd_e H40 fun g7 H41 => ?_
               refine grd_e H41 fun g8 H42 => ?_
               obtain rfl:=sI H42
               exact p_bar mo 3 [.eqT 104 (.bool true),r0 [.v,.v,.v,.w,.c true (.str y2),.v,.v,.v]] [.only [0,2,3,4,6,7,8] []] (ref05_Print_S11 x0 i0 v0 s1 u0 ((v3++(((x0.getD i0 ⟨0,[]⟩).Vars).getD s1.2.toNat []))++([94]++y2))) (aB c22 (aC Tryz.call119 (aF (ref04_Itoa_c 64 (w64 (u0-s1.2)) y2 h18) (aC (show [94].length+y2.length≤9223372036854775807 from g7) (aC (show (v3++(((x0.getD i0 ⟨0,[]⟩).Vars).getD s1.2.toNat [])).length+([94]++y2).length≤9223372036854775807 from g8) aN))))) (by kernel_rfl)
              ·obtain rfl:=sI H39
               exact p_bar mo 3 [.eqT 104 (.bool false)] [.only [0,2,3,4,6,7,8] []] (ref05_Print_S11 x0 i0 v0 s1 u0 (v3++(((x0.getD i0 ⟨0,[]⟩).Vars).getD s1.2.toNat []))) (aB c23 aN) (by kernel_rfl)
             ·obtain rfl:=sI H37
              exact p_bar mo 1 [r0 [.v,.v]] [.only [0,2,3,4,6,7] []] (ref05_Print_S6 x0 i0 v0 (v4,u0)) aN (by kernel_rfl)
          ·have c15p:=of_decide_eq_false c15
           obtain rfl:=sI H22
           obtain rfl:=out_brk h12
           exact p_bar mo 6 [r0 [.v,.v,.v,.e (.dptr [iI ((x0.getD i0 ⟨0,[]⟩).Coef),.dslice (((x0.getD i0 ⟨0,[]⟩).Vars).map cStr)]),.v,.v,.e (iI ((((x0.getD i0 ⟨0,[]⟩).Vars).length:Nat):Int)),.v],.eqT 56 (.bool false)] [.only [0,2,3,4,6] []] (ref05_Print_S7 x0 i0 v0 s1.1) (all_app (ix (f:=cMonomial) (l:=x0) (n:=i0) ⟨0,[]⟩ cMonomial_len (by decide) (by omega)) (aT (aC (lenm cStr ((x0.getD i0 ⟨0,[]⟩).Vars)) (aB c15 aN)))) (by kernel_rfl)
        ·subst e3
         have H43:=aftE_brk H20
         refine grd_e H43 fun g9 H44 => ?_
         refine t_lens 0 (ps:=[(x0.map cMonomial).length≤9223372036854775807]) (by kernel_rfl) (fun l0 => ?_)
         have l1:x0.length≤9223372036854775807:=by simpa only [All,List.length_map] using l0
         clear l0
         obtain rfl:=sI H44
         exact p_bar mo 2 [r0 [.v,.v,.v,.v],r0 [.v,.v,.v]] [.only [0,2,3,4] []] (ref05_Print_S1 x0 (i0+1) (v0.1++u1)) (aC (show v0.1.length+u1.length≤9223372036854775807 from g9) (aC (pI i0 (by omega)) aN)) (by kernel_rfl)
   ·subst e0
    have H45:=aftE_brk H5
    refine some_e H45 fun e5 => ?_
    subst e5
    exact p_ret mo 3 [r0 [.v,.v]] [] [] aN (by kernel_rfl)
 ·obtain rfl:=sI H2
  exact p_ret mo 10 [r0 [.v],r0 [.v,.c true (.bool y0),.v],.eqT 11 (.bool true),r0 [.v]] [] [] (aC Tryz.call52 (aF (ref05_Valid_c x0 y0 h0) (aT (aM c1 aN)))) (by kernel_rfl)
/-- framewise/framewiseref01.SameTexts -/
def ref01_SameTexts (x0:(List Str)) (x1:(List Str)):Option Bool :=
 bif (((x0.length:Nat):Int)==((x1.length:Nat):Int)) then (
  (cnt (σ:=Unit) (ε:=Unit) (ρ:=Bool) (fun i0 s0 =>
   grd (i0<x1.length) <|
   bif ((x0.getD i0 [])==(x1.getD i0 [])) then (
    some (.go ())
   ) else (
    some (.ret false)
   )
  ) (fun i0 s0=>()) (x0.length-0) 0 ()).bind <| aft fun u0 =>
  some true
 ) else (
  some false
 )
def ref01_SameTexts_S1 (x0:(List Str)) (x1:(List Str)) (i0:Nat) (s0:Unit):AS:=⟨26,[(0,dS cStr x0),(1,dS cStr x1),(4,.bool false),(5,nI i0)],[]⟩
def ref01_SameTexts_S2 (u1:Unit):AS:=⟨26,[(4,.bool false)],[]⟩
theorem ref01_SameTexts_c (x0:(List Str)) (x1:(List Str)) (r:Bool) (H:ref01_SameTexts x0 x1=some r):AFn Tryz.prog 71 [dS cStr x0,dS cStr x1] (.bool r):=by
 unfold ref01_SameTexts at H
 refine acallX Tryz.func71 26 [.tmp 4] (by kernel_rfl) (by kernel_rfl) ?_
 refine bsp H (fun c0 H0 => ?_) (fun c1 H1 => ?_)
 ·refine p_at mo 12 [.rg 0 [] [.v],.rg 0 [] [.v,.e (.int .i64 ((x0.length:Nat):Int)),.v,.e (.int .i64 ((x1.length:Nat):Int)),.v],.eqT 10 (.bool false),.rg 0 [] [.v]] [.only [0,1,4,5] []] 11 [false] (ref01_SameTexts_S1 x0 x1 0 ()) (aT (aC (lenm cStr x0) (aT (aC (lenm cStr x1) (aM c0 aN))))) (by kernel_rfl) ?_
  refine bnd H0 fun R0 h0 H2 => ?_
  refine p_joinO 1 (ref01_SameTexts_S2) R0 (by kernel_rfl) ?_ (fun u0 e0 => ?_)
  ·refine p_cnt (ref01_SameTexts_S1 x0 x1) (by kernel_rfl) h0 (fun i0 s0 h1 e1 => ?_) (fun i0 s0 h2 q0 h3 h4 => ?_)
   ·have c2:=lF i0 x0.length (by omega)
    subst e1
    exact p_bar mo 5 [r0 [.v,.v,.e (nI x0.length),.e (.bool false)]] [.only [4] []] (ref01_SameTexts_S2 ()) (aT (aC (lenm cStr x0) (aB c2 aN))) (by kernel_rfl)
   ·have c3:=lT i0 x0.length (by omega)
    refine grd_e h3 fun g0 H3 => ?_
    refine p_at mo 9 [r0 [.v,.v,.e (nI x0.length),.e (.bool true)],.rg 8 [.v,.v,.e (.dptr [.str (x0.getD i0 [])]),.v,.v,.v,.e (.dptr [.str (x1.getD i0 [])]),.v] [.v]] [.only [0,1,4,5,25] []] 9 [true] ⟨26,[(0,dS cStr x0),(1,dS cStr x1),(4,.bool false),(5,nI i0),(25,.bool (!((x0.getD i0 [])==(x1.getD i0 []))))],[]⟩ (aT (aC (lenm cStr x0) (aB c3 (all_app (ix (f:=cStr) (l:=x0) (n:=i0) [] cStr_len (by decide) (by omega)) (all_app (ix (f:=cStr) (l:=x1) (n:=i0) [] cStr_len (by decide) (by omega)) aN))))) (by kernel_rfl) ?_
    refine bsp H3 (fun c4 H4 => ?_) (fun c5 H5 => ?_)
    ·refine t_lens 0 (ps:=[(x0.map cStr).length≤9223372036854775807]) (by kernel_rfl) (fun l0 => ?_)
     have l1:x0.length≤9223372036854775807:=by simpa only [All,List.length_map] using l0
     clear l0
     obtain rfl:=sI H4
     exact p_bar mo 4 [.eqT 25 (.bool false),r0 [.v,.v,.v]] [.only [0,1,4,5] []] (ref01_SameTexts_S1 x0 x1 (i0+1) ()) (aM c4 (aC (pI i0 (by omega)) aN)) (by kernel_rfl)
    ·obtain rfl:=sI H5
     obtain rfl:=out_ret h4
     obtain rfl:=sI (aft_ret H2)
     exact p_ret mo 5 [.eqT 25 (.bool true),r0 [.v]] [] [] (aM c5 aN) (by kernel_rfl)
  ·subst e0
   have H6:=aft_brk H2
   obtain rfl:=sI H6
   exact p_ret mo 3 [r0 [.v]] [] [] aN (by kernel_rfl)
 ·obtain rfl:=sI H1
  exact p_ret mo 10 [r0 [.v],r0 [.v,.e (nI x0.length),.v,.e (nI x1.length),.v],.eqT 10 (.bool true),r0 [.v]] [] [] (aT (aC (lenm cStr x0) (aT (aC (lenm cStr x1) (aM c1 aN))))) (by kernel_rfl)
/-- framewise/framewiseref05.Equal -/
def ref05_Equal (x0:(List Monomial)) (x1:(List Monomial)):Option Bool :=
 bif (((x0.length:Nat):Int)==((x1.length:Nat):Int)) then (
  (cnt (σ:=Unit) (ε:=Unit) (ρ:=Bool) (fun i0 s0 =>
   grd (i0<x1.length) <|
   bif (((x0.getD i0 ⟨0,[]⟩).Coef)==((x1.getD i0 ⟨0,[]⟩).Coef)) then (
    (ref01_SameTexts ((x0.getD i0 ⟨0,[]⟩).Vars) ((x1.getD i0 ⟨0,[]⟩).Vars)).bind fun y0 =>
    bif y0 then (
     some (.go ())
    ) else (
     some (.ret false)
    )
   ) else (
    some (.ret false)
   )
  ) (fun i0 s0=>()) (x0.length-0) 0 ()).bind <| aft fun u0 =>
  some true
 ) else (
  some false
 )
def ref05_Equal_S1 (x0:(List Monomial)) (x1:(List Monomial)) (i0:Nat) (s0:Unit):AS:=⟨42,[(0,dS cMonomial x0),(1,dS cMonomial x1),(4,.bool false),(5,nI i0)],[]⟩
def ref05_Equal_S2 (u1:Unit):AS:=⟨42,[(4,.bool false)],[]⟩
theorem ref05_Equal_c (x0:(List Monomial)) (x1:(List Monomial)) (r:Bool) (H:ref05_Equal x0 x1=some r):AFn Tryz.prog 53 [dS cMonomial x0,dS cMonomial x1] (.bool r):=by
 unfold ref05_Equal at H
 refine acallX Tryz.func53 42 [.tmp 4] (by kernel_rfl) (by kernel_rfl) ?_
 refine bsp H (fun c0 H0 => ?_) (fun c1 H1 => ?_)
 ·refine p_at mo 12 [.rg 0 [] [.v],.rg 0 [] [.v,.e (.int .i64 ((x0.length:Nat):Int)),.v,.e (.int .i64 ((x1.length:Nat):Int)),.v],.eqT 10 (.bool false),.rg 0 [] [.v]] [.only [0,1,4,5] []] 11 [false] (ref05_Equal_S1 x0 x1 0 ()) (aT (aC (lenm cMonomial x0) (aT (aC (lenm cMonomial x1) (aM c0 aN))))) (by kernel_rfl) ?_
  refine bnd H0 fun R0 h0 H2 => ?_
  refine p_joinO 1 (ref05_Equal_S2) R0 (by kernel_rfl) ?_ (fun u0 e0 => ?_)
  ·refine p_cnt (ref05_Equal_S1 x0 x1) (by kernel_rfl) h0 (fun i0 s0 h1 e1 => ?_) (fun i0 s0 h2 q0 h3 h4 => ?_)
   ·have c2:=lF i0 x0.length (by omega)
    subst e1
    exact p_bar mo 5 [r0 [.v,.v,.e (nI x0.length),.e (.bool false)]] [.only [4] []] (ref05_Equal_S2 ()) (aT (aC (lenm cMonomial x0) (aB c2 aN))) (by kernel_rfl)
   ·have c3:=lT i0 x0.length (by omega)
    refine grd_e h3 fun g0 H3 => ?_
    refine bsp H3 (fun c4 H4 => ?_) (fun c5 H5 => ?_)
    ·refine bnd H4 fun y0 h5 H6 => ?_
     refine p_at mo 9 [r0 [.v,.v,.e (nI x0.length),.e (.bool true)],.rg 22 [.v,.v,.e (.dptr [iI ((x0.getD i0 ⟨0,[]⟩).Coef),.dslice (((x0.getD i0 ⟨0,[]⟩).Vars).map cStr)]),.v,.v,.v,.v,.e (.dptr [iI ((x1.getD i0 ⟨0,[]⟩).Coef),.dslice (((x1.getD i0 ⟨0,[]⟩).Vars).map cStr)]),.v,.v,.e (.bool false),.v,.v,.v,.e (.dptr [iI ((x0.getD i0 ⟨0,[]⟩).Coef),.dslice (((x0.getD i0 ⟨0,[]⟩).Vars).map cStr)]),.v,.v,.v,.v,.e (.dptr [iI ((x1.getD i0 ⟨0,[]⟩).Coef),.dslice (((x1.getD i0 ⟨0,[]⟩).Vars).map cStr)]),.v,.v] [.c true (.bool y0),.v,.v]] [.only [0,1,4,5,41] []] 9 [true] ⟨42,[(0,dS cMonomial x0),(1,dS cMonomial x1),(4,.bool false),(5,nI i0),(41,.bool (!y0))],[]⟩ (aT (aC (lenm cMonomial x0) (aB c3 (all_app (ix (f:=cMonomial) (l:=x0) (n:=i0) ⟨0,[]⟩ cMonomial_len (by decide) (by omega)) (all_app (ix (f:=cMonomial) (l:=x1) (n:=i0) ⟨0,[]⟩ cMonomial_len (by decide) (by omega)) (aM c4 (all_app (ix (f:=cMonomial) (l:=x0) (n:=i0) ⟨0,[]⟩ cMonomial_len (by decide) (by omega)) (all_app (ix (f:=cMonomial) (l:=x1) (n:=i0) ⟨0,[]⟩ cMonomial_len (by decide) (by omega)) (aC Tryz.call71 (aF (ref01_SameTexts_c ((x0.getD i0 ⟨0,[]⟩).Vars) ((x1.getD i0 ⟨0,[]⟩).Vars) y0 h5) (aT aN))))))))))) (by kernel_rfl) ?_
     refine bsp H6 (fun c6 H7 => ?_) (fun c7 H8 => ?_)
     ·refine t_lens 0 (ps:=[(x0.map cMonomial).length≤9223372036854775807]) (by kernel_rfl) (fun l0 => ?_)
      have l1:x0.length≤9223372036854775807:=by simpa only [All,List.length_map] using l0
      clear l0
      obtain rfl:=sI H7
      exact p_bar mo 4 [.eqT 41 (.bool false),r0 [.v,.v,.v]] [.only [0,1,4,5] []] (ref05_Equal_S1 x0 x1 (i0+1) ()) (aM c6 (aC (pI i0 (by omega)) aN)) (by kernel_rfl)
     ·obtain rfl:=sI H8
      obtain rfl:=out_ret h4
      obtain rfl:=sI (aft_ret H2)
      exact p_ret mo 5 [.eqT 41 (.bool true),r0 [.v]] [] [] (aM c7 aN) (by kernel_rfl)
    ·obtain rfl:=sI H5
     obtain rfl:=out_ret h4
     obtain rfl:=sI (aft_ret H2)
     exact p_ret mo 13 [r0 [.v,.v,.e (nI x0.length),.e (.bool true)],.rg 22 [.v,.v,.e (.dptr [iI ((x0.getD i0 ⟨0,[]⟩).Coef),.dslice (((x0.getD i0 ⟨0,[]⟩).Vars).map cStr)]),.v,.v,.v,.v,.e (.dptr [iI ((x1.getD i0 ⟨0,[]⟩).Coef),.dslice (((x1.getD i0 ⟨0,[]⟩).Vars).map cStr)]),.v,.v,.e (.bool true),.v,.s,.s,.s,.s,.s,.s,.s,.s,.s,.s] [.s,.s,.v],r0 [.v]] [] [] (aT (aC (lenm cMonomial x0) (aB c3 (all_app (ix (f:=cMonomial) (l:=x0) (n:=i0) ⟨0,[]⟩ cMonomial_len (by decide) (by omega)) (all_app (ix (f:=cMonomial) (l:=x1) (n:=i0) ⟨0,[]⟩ cMonomial_len (by decide) (by omega)) (aM c5 aN)))))) (by kernel_rfl)
  ·subst e0
   have H9:=aft_brk H2
   obtain rfl:=sI H9
   exact p_ret mo 3 [r0 [.v]] [] [] aN (by kernel_rfl)
 ·obtain rfl:=sI H1
  exact p_ret mo 10 [r0 [.v],r0 [.v,.e (nI x0.length),.v,.e (nI x1.length),.v],.eqT 10 (.bool true),r0 [.v]] [] [] (aT (aC (lenm cMonomial x0) (aT (aC (lenm cMonomial x1) (aM c1 aN))))) (by kernel_rfl)
/-- framewise/framewiseref05.number -/
def ref05_number (x0:Str) (x1:Int):Option (Int×Int) :=
 (whl (σ:=(Int×Int)) (ε:=(Int×Int)) (ρ:=Empty) (fun s0 =>
  bif decide (s0.1<((x0.length:Nat):Int)) then (
   grd (0≤s0.1∧s0.1<(x0.length:Int)) <|
   bif decide (((x0.getD s0.1.toNat 0).toNat:Int)≥48) then (
    bif decide (((x0.getD s0.1.toNat 0).toNat:Int)≤57) then (
     bif decide ((w64 (s0.1-x1))<14) then (
      some (.go ((w64 (s0.1+1)),(w64 ((w64 (10*s0.2))+(((x0.getD s0.1.toNat 0-48)).toNat:Int)))))
     ) else (
      some (.brk (s0.1,s0.2))
     )
    ) else (
     some (.brk (s0.1,s0.2))
    )
   ) else (
    some (.brk (s0.1,s0.2))
   )
  ) else (
   some (.brk (s0.1,s0.2))
  )
 ) 4294967296 (x1,0)).bind <| aftE fun u0 =>
 bif (u0.1==x1) then (
  some ((-1),u0.1)
 ) else (
  some (u0.2,u0.1)
 )
def ref05_number_S1 (x0:Str) (x1:Int) (s0:(Int×Int)):AS:=⟨47,[(0,.str x0),(1,iI s0.1),(4,iI 0),(5,iI 0),(6,iI s0.2),(7,iI x1)],[]⟩
def ref05_number_S2 (x1:Int) (u1:(Int×Int)):AS:=⟨47,[(1,iI u1.1),(4,iI 0),(5,iI 0),(6,iI u1.2),(7,iI x1)],[]⟩
theorem ref05_number_c (x0:Str) (x1:Int) (r:(Int×Int)) (H:ref05_number x0 x1=some r):AFn Tryz.prog 197 [.str x0,iI x1] (.tup [iI r.1,iI r.2]):=by
 unfold ref05_number at H
 refine acallX Tryz.func197 47 [.tmp 4,.tmp 5] (by kernel_rfl) (by kernel_rfl) ?_
 refine p_at mo 6 [r0 [.v,.v],r0 [.v,.v,.v]] [.only [0,1,4,5,6,7] []] 6 [] (ref05_number_S1 x0 x1 (x1,0)) aN (by kernel_rfl) ?_
 refine bnd H fun R0 h0 H0 => ?_
 refine p_joinO 1 (ref05_number_S2 x1) R0 (by kernel_rfl) ?_ (fun u0 e0 => ?_)
 ·refine p_whl (ref05_number_S1 x0 x1) (by kernel_rfl) h0 (fun s0 q0 h1 h2 => ?_)
  ·refine bsp h1 (fun c0 H1 => ?_) (fun c1 H2 => ?_)
   ·refine grd_e H1 fun g0 H3 => ?_
    refine bsp H3 (fun c2 H4 => ?_) (fun c3 H5 => ?_)
    ·refine bsp H4 (fun c4 H6 => ?_) (fun c5 H7 => ?_)
     ·refine p_at mo 3 [.rg 0 [] [.v,.v,.v,.e (.bool true),.v,.v,.v,.v,.e (.bool true),.v,.v,.v,.v,.v,.e (.bool true),.v,.v,.v,.v,.w,.v,.v]] [.only [0,1,4,5,6,7,30] []] 3 [] ⟨47,[(0,.str x0),(1,.int .i64 s0.1),(4,.int .i64 0),(5,.int .i64 0),(6,.int .i64 s0.2),(7,.int .i64 x1),(30,.bool (decide ((w64 (s0.1-x1))<14)))],[]⟩ (aT (aB c0 (aC (show (0:Int)≤s0.1∧s0.1<(x0.length:Int) from by exact g0) (aB c2 (aC (show (0:Int)≤s0.1∧s0.1<(x0.length:Int) from by exact g0) (aB c4 aN)))))) (by kernel_rfl) ?_
      refine bsp H6 (fun c6 H8 => ?_) (fun c7 H9 => ?_)
      ·obtain rfl:=sI H8
       exact p_bar mo 7 [.eqT 30 (.bool true),r0 [.v,.w,.v,.v,.v,.e (.int .u8 (((x0.getD s0.1.toNat 0-48)).toNat:Int)),.e (iI (((x0.getD s0.1.toNat 0-48)).toNat:Int)),.w,.v],r0 [.v,.w,.v]] [.only [0,1,4,5,6,7] []] (ref05_number_S1 x0 x1 ((w64 (s0.1+1)),(w64 ((w64 (10*s0.2))+(((x0.getD s0.1.toNat 0-48)).toNat:Int))))) (aB c6 (aC (show (0:Int)≤s0.1∧s0.1<(x0.length:Int) from by exact g0) (aT (aC (u8_sub (x0.getD s0.1.toNat 0) 48) (aT (aC (congrArg (AV.int .i64) (wrap_u8 (x0.getD s0.1.toNat 0-48))) aN)))))) (by kernel_rfl)
      ·obtain rfl:=sI H9
       obtain rfl:=out_brk h2
       exact p_bar mo 3 [.eqT 30 (.bool false)] [.only [1,4,5,6,7] []] (ref05_number_S2 x1 (s0.1,s0.2)) (aB c7 aN) (by kernel_rfl)
     ·obtain rfl:=sI H7
      obtain rfl:=out_brk h2
      exact p_bar mo 5 [r0 [.v,.v,.v,.e (.bool true),.v,.v,.v,.v,.e (.bool true),.v,.v,.v,.v,.v,.e (.bool false),.v,.v,.s,.s,.s,.s,.v]] [.only [1,4,5,6,7] []] (ref05_number_S2 x1 (s0.1,s0.2)) (aT (aB c0 (aC (show (0:Int)≤s0.1∧s0.1<(x0.length:Int) from by exact g0) (aB c2 (aC (show (0:Int)≤s0.1∧s0.1<(x0.length:Int) from by exact g0) (aB c5 aN)))))) (by kernel_rfl)
    ·obtain rfl:=sI H5
     obtain rfl:=out_brk h2
     exact p_bar mo 5 [r0 [.v,.v,.v,.e (.bool true),.v,.v,.v,.v,.e (.bool false),.v,.v,.s,.s,.s,.s,.v,.v,.s,.s,.s,.s,.v]] [.only [1,4,5,6,7] []] (ref05_number_S2 x1 (s0.1,s0.2)) (aT (aB c0 (aC (show (0:Int)≤s0.1∧s0.1<(x0.length:Int) from by exact g0) (aB c3 aN)))) (by kernel_rfl)
   ·obtain rfl:=sI H2
    obtain rfl:=out_brk h2
    exact p_bar mo 5 [r0 [.v,.v,.v,.e (.bool false),.v,.s,.s,.s,.s,.v,.v,.s,.s,.s,.s,.v,.v,.s,.s,.s,.s,.v]] [.only [1,4,5,6,7] []] (ref05_number_S2 x1 (s0.1,s0.2)) (aT (aB c1 aN)) (by kernel_rfl)
 ·subst e0
  have H10:=aftE_brk H0
  refine bsp H10 (fun c8 H11 => ?_) (fun c9 H12 => ?_)
  ·obtain rfl:=sI H11
   exact p_ret mo 8 [r0 [.v,.v,.v],.eqT 43 (.bool true),r0 [.v,.v,.v]] [] [] (aB c8 aN) (by kernel_rfl)
  ·obtain rfl:=sI H12
   exact p_ret mo 9 [r0 [.v,.v,.v],.eqT 43 (.bool false),r0 [.v,.v,.v,.v]] [] [] (aB c9 aN) (by kernel_rfl)
/-- framewise/framewiseref05.monomial -/
def ref05_monomial (x0:Str) (x1:Int):Option (Monomial×Int×Bool) :=
 (whl (σ:=(Int×Bool×Int×(List Str))) (ε:=(Monomial×Int×Bool)) (ρ:=(Monomial×Int×Bool)) (fun s0 =>
  (ref05_number x0 s0.1).bind fun y0 =>
  ((
   bif s0.2.1 then (
    some (true,decide (y0.1≥0))
   ) else (
    some (false,false)
   )
  ):Option (Bool×Bool)).bind fun v0 =>
  ((
   bif v0.2 then (
    some (.brk (y0.2,y0.1,s0.2.2.2))
   ) else (
    (whl (σ:=Int) (ε:=Int) (ρ:=Empty) (fun s1 =>
     bif decide (s1<((x0.length:Nat):Int)) then (
      grd (0≤s1∧s1<(x0.length:Int)) <|
      bif (((x0.getD s1.toNat 0).toNat:Int)==42) then (
       some (.brk s1)
      ) else (
       bif (((x0.getD s1.toNat 0).toNat:Int)==94) then (
        some (.brk s1)
       ) else (
        bif (((x0.getD s1.toNat 0).toNat:Int)==43) then (
         some (.brk s1)
        ) else (
         bif (((x0.getD s1.toNat 0).toNat:Int)==45) then (
          some (.brk s1)
         ) else (
          some (.go (w64 (s1+1)))
         )
        )
       )
      )
     ) else (
      some (.brk s1)
     )
    ) 4294967296 s0.1).bind <| aftE fun u0 =>
    grd (0≤s0.1∧s0.1≤u0∧u0≤(x0.length:Int)) <|
    ((
     bif decide (u0<((x0.length:Nat):Int)) then (
      grd (0≤u0∧u0<(x0.length:Int)) <|
      some (((x0.getD u0.toNat 0).toNat:Int)==94)
     ) else (
      some false
     )
    ):Option Bool).bind fun v1 =>
    ((
     bif v1 then (
      (ref05_number x0 (w64 (u0+1))).bind fun y1 =>
      some (y1.2,y1.1)
     ) else (
      some (u0,1)
     )
    ):Option (Int×Int)).bind fun v2 =>
    ((
     bif decide (v2.2<1) then (
      some true
     ) else (
      bif decide (v2.2>8) then (
       some true
      ) else (
       (ref04_Name ((x0.drop s0.1.toNat).take (u0.toNat-s0.1.toNat))).bind fun y2 =>
       some (!y2)
      )
     )
    ):Option Bool).bind fun v3 =>
    bif v3 then (
     some (.ret (.ret ((Monomial.mk s0.2.2.1 s0.2.2.2),v2.1,false)))
    ) else (
     (whl (σ:=(Int×(List Str))) (ε:=(Out (Int×Int×(List Str)) (Stp (Int×Bool×Int×(List Str)) (Monomial×Int×Bool) (Monomial×Int×Bool)))) (ρ:=(Out (Int×Int×(List Str)) (Stp (Int×Bool×Int×(List Str)) (Monomial×Int×Bool) (Monomial×Int×Bool)))) (fun s2 =>
      bif decide (s2.1>0) then (
       grd ((s2.2.length+1)*16≤140737488355328) <|
       some (.go ((w64 (s2.1-1)),(s2.2++[((x0.drop s0.1.toNat).take (u0.toNat-s0.1.toNat))])))
      ) else (
       some (.brk (.brk (v2.1,s0.2.2.1,s2.2)))
      )
     ) 4294967296 (v2.2,s0.2.2.2)).bind <| aft some
    )
   )
  ):Option (Out (Int×Int×(List Str)) (Stp (Int×Bool×Int×(List Str)) (Monomial×Int×Bool) (Monomial×Int×Bool)))).bind (aft fun u1 =>
   ((
    bif (u1.1==((x0.length:Nat):Int)) then (
     some true
    ) else (
     grd (0≤u1.1∧u1.1<(x0.length:Int)) <|
     some (((x0.getD u1.1.toNat 0).toNat:Int) != 42)
    )
   ):Option Bool).bind fun v4 =>
   bif v4 then (
    some (.ret ((Monomial.mk u1.2.1 u1.2.2),u1.1,true))
   ) else (
    some (.go ((w64 (u1.1+1)),false,u1.2.1,u1.2.2))
   )
  )
 ) 4294967296 (x1,true,1,[])).bind <| aft some
def ref05_monomial_S1 (x0:Str) (s0:(Int×Bool×Int×(List Str))):AS:=⟨118,[(0,.str x0),(1,iI s0.1),(4,.hptr 4 0),(5,iI 0),(6,.bool false),(7,.hptr 7 0),(8,.bool s0.2.1)],[(4,.cells 118 [iI 0,.eslice]),(7,.cells 118 [iI s0.2.2.1,.rslice 102]),(102,.row 9 1 (s0.2.2.2.map cStr))]⟩
def ref05_monomial_S2 (x0:Str) (s0:(Int×Bool×Int×(List Str))) (y0:(Int×Int)) (v0:(Bool×Bool)):AS:=⟨118,[(0,.str x0),(1,iI s0.1),(4,.hptr 4 0),(5,iI 0),(6,.bool false),(7,.hptr 7 0),(8,.bool v0.1),(9,iI y0.1),(10,iI y0.2),(25,.bool v0.2)],[(4,.cells 118 [iI 0,.eslice]),(7,.cells 118 [iI s0.2.2.1,.rslice 102]),(102,.row 9 1 (s0.2.2.2.map cStr))]⟩
def ref05_monomial_S3 (x0:Str) (v0:(Bool×Bool)) (u1:(Int×Int×(List Str))):AS:=⟨118,[(0,.str x0),(1,iI u1.1),(4,.hptr 4 0),(5,iI 0),(6,.bool false),(7,.hptr 7 0),(8,.bool v0.1)],[(4,.cells 118 [iI 0,.eslice]),(7,.cells 118 [iI u1.2.1,.rslice 102]),(102,.row 9 1 (u1.2.2.map cStr))]⟩
def ref05_monomial_S4 (x0:Str) (s0:(Int×Bool×Int×(List Str))) (v0:(Bool×Bool)) (s1:Int):AS:=⟨118,[(0,.str x0),(1,iI s1),(4,.hptr 4 0),(5,iI 0),(6,.bool false),(7,.hptr 7 0),(8,.bool v0.1),(11,iI s0.1)],[(4,.cells 118 [iI 0,.eslice]),(7,.cells 118 [iI s0.2.2.1,.rslice 102]),(102,.row 9 1 (s0.2.2.2.map cStr))]⟩
def ref05_monomial_S5 (x0:Str) (s0:(Int×Bool×Int×(List Str))) (v0:(Bool×Bool)) (u2:Int):AS:=⟨118,[(0,.str x0),(1,iI u2),(4,.hptr 4 0),(5,iI 0),(6,.bool false),(7,.hptr 7 0),(8,.bool v0.1),(11,iI s0.1)],[(4,.cells 118 [iI 0,.eslice]),(7,.cells 118 [iI s0.2.2.1,.rslice 102]),(102,.row 9 1 (s0.2.2.2.map cStr))]⟩
def ref05_monomial_S6 (x0:Str) (s0:(Int×Bool×Int×(List Str))) (v0:(Bool×Bool)) (u0:Int) (v1:Bool):AS:=⟨118,[(0,.str x0),(1,iI u0),(4,.hptr 4 0),(5,iI 0),(6,.bool false),(7,.hptr 7 0),(8,.bool v0.1),(12,.str ((x0.drop s0.1.toNat).take (u0.toNat-s0.1.toNat))),(13,iI 1),(73,.bool v1)],[(4,.cells 118 [iI 0,.eslice]),(7,.cells 118 [iI s0.2.2.1,.rslice 102]),(102,.row 9 1 (s0.2.2.2.map cStr))]⟩
def ref05_monomial_S7 (x0:Str) (s0:(Int×Bool×Int×(List Str))) (v0:(Bool×Bool)) (u0:Int) (v2:(Int×Int)):AS:=⟨118,[(0,.str x0),(1,iI v2.1),(4,.hptr 4 0),(5,iI 0),(6,.bool false),(7,.hptr 7 0),(8,.bool v0.1),(12,.str ((x0.drop s0.1.toNat).take (u0.toNat-s0.1.toNat))),(13,iI v2.2)],[(4,.cells 118 [iI 0,.eslice]),(7,.cells 118 [iI s0.2.2.1,.rslice 102]),(102,.row 9 1 (s0.2.2.2.map cStr))]⟩
def ref05_monomial_S8 (x0:Str) (s0:(Int×Bool×Int×(List Str))) (v0:(Bool×Bool)) (u0:Int) (v2:(Int×Int)) (v3:Bool):AS:=⟨118,[(0,.str x0),(1,iI v2.1),(4,.hptr 4 0),(5,iI 0),(6,.bool false),(7,.hptr 7 0),(8,.bool v0.1),(12,.str ((x0.drop s0.1.toNat).take (u0.toNat-s0.1.toNat))),(13,iI v2.2),(91,.bool v3)],[(4,.cells 118 [iI 0,.eslice]),(7,.cells 118 [iI s0.2.2.1,.rslice 102]),(102,.row 9 1 (s0.2.2.2.map cStr))]⟩
def ref05_monomial_S9 (x0:Str) (s0:(Int×Bool×Int×(List Str))) (v0:(Bool×Bool)) (u0:Int) (v2:(Int×Int)) (s2:(Int×(List Str))):AS:=⟨118,[(0,.str x0),(1,iI v2.1),(4,.hptr 4 0),(5,iI 0),(6,.bool false),(7,.hptr 7 0),(8,.bool v0.1),(12,.str ((x0.drop s0.1.toNat).take (u0.toNat-s0.1.toNat))),(13,iI s2.1)],[(4,.cells 118 [iI 0,.eslice]),(7,.cells 118 [iI s0.2.2.1,.rslice 102]),(102,.row 9 1 (s2.2.map cStr))]⟩
def ref05_monomial_S10 (x0:Str) (u1:(Int×Int×(List Str))) (v4:Bool):AS:=⟨118,[(0,.str x0),(1,iI u1.1),(4,.hptr 4 0),(5,iI 0),(6,.bool false),(7,.hptr 7 0),(8,.bool false),(113,.bool v4)],[(4,.cells 118 [iI 0,.eslice]),(7,.cells 118 [iI u1.2.1,.rslice 102]),(102,.row 9 1 (u1.2.2.map cStr))]⟩
theorem ref05_monomial_c (x0:Str) (x1:Int) (r:(Monomial×Int×Bool)) (H:ref05_monomial x0 x1=some r):AFn Tryz.prog 123 [.str x0,iI x1] (.tup [.agg [iI r.1.Coef,dS cStr r.1.Vars],iI r.2.1,.bool r.2.2]):=by
 unfold ref05_monomial at H
 refine acallX Tryz.func123 118 [.cell 4 118,.tmp 5,.tmp 6] (by kernel_rfl) (by kernel_rfl) ?_
 refine p_at mo 7 [r0 [.m,.v,.v],r0 [.b,.m,.m],r0 [.v]] [.erH 7 1 102 9 1,.only [0,1,4,5,6,7,8] [4,7,102]] 7 [] (ref05_monomial_S1 x0 (x1,true,1,[])) aN (by kernel_rfl) ?_
 refine bnd H fun R0 h0 H0 => ?_
 refine p_whl (ref05_monomial_S1 x0) (by kernel_rfl) h0 (fun s0 q0 h1 h2 => ?_)
 ·refine bnd h1 fun y0 h3 H1 => ?_
  refine p_at mo 5 [r0 [.v,.v,.c true (.tup [iI y0.1,iI y0.2]),.v,.v,.v,.v,.v]] [.only [0,1,4,5,6,7,8,9,10] [4,7,102]] 5 [] ⟨118,[(0,.str x0),(1,iI s0.1),(4,.hptr 4 0),(5,iI 0),(6,.bool false),(7,.hptr 7 0),(8,.bool s0.2.1),(9,iI y0.1),(10,iI y0.2)],[(4,.cells 118 [iI 0,.eslice]),(7,.cells 118 [iI s0.2.2.1,.rslice 102]),(102,.row 9 1 (s0.2.2.2.map cStr))]⟩ (aC Tryz.call197 (aF (ref05_number_c x0 s0.1 y0 h3) aN)) (by kernel_rfl) ?_
  refine bnd H1 fun v0 h4 H2 => ?_
  refine p_join 0 (ref05_monomial_S2 x0 s0 y0 v0) (by kernel_rfl) ?_ ?_
  ·refine bsp h4 (fun c0 H3 => ?_) (fun c1 H4 => ?_)
   ·obtain rfl:=sI H3
    exact p_bar mo 2 [.eqT 8 (.bool true),r0 [.v,.v,.v,.v,.v]] [.only [0,1,4,5,6,7,8,9,10,25] [4,7,102]] (ref05_monomial_S2 x0 s0 y0 (true,decide (y0.1≥0))) (aB c0 aN) (by kernel_rfl)
   ·obtain rfl:=sI H4
    exact p_bar mo 2 [.eqT 8 (.bool false),r0 [.v,.v,.s,.s,.v]] [.only [0,1,4,5,6,7,8,9,10,25] [4,7,102]] (ref05_monomial_S2 x0 s0 y0 (false,false)) (aB c1 aN) (by kernel_rfl)
  ·refine bnd H2 fun v5 h5 H5 => ?_
   refine p_joinO 0 (ref05_monomial_S3 x0 v0) v5 (by kernel_rfl) ?_ (fun u1 e0 => ?_)
   ·refine bsp h5 (fun c2 H6 => ?_) (fun c3 H7 => ?_)
    ·obtain rfl:=sI H6
     exact p_bar mo 3 [.eqT 25 (.bool true),r0 [.v,.v,.v,.m,.v]] [.only [0,1,4,5,6,7,8] [4,7,102]] (ref05_monomial_S3 x0 v0 (y0.2,y0.1,s0.2.2.2)) (aB c2 aN) (by kernel_rfl)
    ·refine p_at mo 6 [.eqT 25 (.bool false),.rg 0 [] [.v,.v]] [.only [0,1,4,5,6,7,8,11] [4,7,102]] 5 [false] (ref05_monomial_S4 x0 s0 v0 s0.1) (aB c3 aN) (by kernel_rfl) ?_
     refine bnd H7 fun R1 h6 H8 => ?_
     refine p_joinO 1 (ref05_monomial_S5 x0 s0 v0) R1 (by kernel_rfl) ?_ (fun u0 e1 => ?_)
     ·refine p_whl (ref05_monomial_S4 x0 s0 v0) (by kernel_rfl) h6 (fun s1 q1 h7 h8 => ?_)
      ·refine bsp h7 (fun c4 H9 => ?_) (fun c5 H10 => ?_)
       ·refine grd_e H9 fun g0 H11 => ?_
        refine bsp H11 (fun c6 H12 => ?_) (fun c7 H13 => ?_)
        ·obtain rfl:=sI H12
         obtain rfl:=out_brk h8
         exact p_bar mo 5 [r0 [.v,.v,.v,.e (.bool true),.v,.v,.v,.v,.e (.bool false),.v,.v,.s,.s,.s,.s,.v,.v,.s,.s,.s,.s,.v,.v,.s,.s,.s,.s,.v]] [.only [0,1,4,5,6,7,8,11] [4,7,102]] (ref05_monomial_S5 x0 s0 v0 s1) (aT (aB c4 (aC (show (0:Int)≤s1∧s1<(x0.length:Int) from by exact g0) (aM c6 aN)))) (by kernel_rfl)
        ·refine bsp H13 (fun c8 H14 => ?_) (fun c9 H15 => ?_)
         ·obtain rfl:=sI H14
          obtain rfl:=out_brk h8
          exact p_bar mo 5 [r0 [.v,.v,.v,.e (.bool true),.v,.v,.v,.v,.e (.bool true),.v,.v,.v,.v,.v,.e (.bool false),.v,.v,.s,.s,.s,.s,.v,.v,.s,.s,.s,.s,.v]] [.only [0,1,4,5,6,7,8,11] [4,7,102]] (ref05_monomial_S5 x0 s0 v0 s1) (aT (aB c4 (aC (show (0:Int)≤s1∧s1<(x0.length:Int) from by exact g0) (aM c7 (aC (show (0:Int)≤s1∧s1<(x0.length:Int) from by exact g0) (aM c8 aN)))))) (by kernel_rfl)
         ·refine bsp H15 (fun c10 H16 => ?_) (fun c11 H17 => ?_)
          ·obtain rfl:=sI H16
           obtain rfl:=out_brk h8
           exact p_bar mo 5 [r0 [.v,.v,.v,.e (.bool true),.v,.v,.v,.v,.e (.bool true),.v,.v,.v,.v,.v,.e (.bool true),.v,.v,.v,.v,.v,.e (.bool false),.v,.v,.s,.s,.s,.s,.v]] [.only [0,1,4,5,6,7,8,11] [4,7,102]] (ref05_monomial_S5 x0 s0 v0 s1) (aT (aB c4 (aC (show (0:Int)≤s1∧s1<(x0.length:Int) from by exact g0) (aM c7 (aC (show (0:Int)≤s1∧s1<(x0.length:Int) from by exact g0) (aM c9 (aC (show (0:Int)≤s1∧s1<(x0.length:Int) from by exact g0) (aM c10 aN)))))))) (by kernel_rfl)
          ·refine p_at mo 3 [.rg 0 [] [.v,.v,.v,.e (.bool true),.v,.v,.v,.v,.e (.bool true),.v,.v,.v,.v,.v,.e (.bool true),.v,.v,.v,.v,.v,.e (.bool true),.v,.v,.v,.v,.v,.v,.v]] [.only [0,1,4,5,6,7,8,11,57] [4,7,102]] 3 [] ⟨118,[(0,.str x0),(1,.int .i64 s1),(4,.hptr 4 0),(5,.int .i64 0),(6,.bool false),(7,.hptr 7 0),(8,.bool v0.1),(11,.int .i64 s0.1),(57,.bool (((x0.getD s1.toNat 0).toNat:Int) != 45))],[(4,.cells 118 [.int .i64 0,.eslice]),(7,.cells 118 [.int .i64 s0.2.2.1,.rslice 102]),(102,.row 9 1 (s0.2.2.2.map cStr))]⟩ (aT (aB c4 (aC (show (0:Int)≤s1∧s1<(x0.length:Int) from by exact g0) (aM c7 (aC (show (0:Int)≤s1∧s1<(x0.length:Int) from by exact g0) (aM c9 (aC (show (0:Int)≤s1∧s1<(x0.length:Int) from by exact g0) (aM c11 (aC (show (0:Int)≤s1∧s1<(x0.length:Int) from by exact g0) aN))))))))) (by kernel_rfl) ?_
           refine bsp H17 (fun c12 H18 => ?_) (fun c13 H19 => ?_)
           ·obtain rfl:=sI H18
            obtain rfl:=out_brk h8
            exact p_bar mo 3 [.eqT 57 (.bool false)] [.only [0,1,4,5,6,7,8,11] [4,7,102]] (ref05_monomial_S5 x0 s0 v0 s1) (aM c12 aN) (by kernel_rfl)
           ·obtain rfl:=sI H19
            exact p_bar mo 5 [.eqT 57 (.bool true),r0 [.v,.w,.v]] [.only [0,1,4,5,6,7,8,11] [4,7,102]] (ref05_monomial_S4 x0 s0 v0 (w64 (s1+1))) (aM c13 aN) (by kernel_rfl)
       ·obtain rfl:=sI H10
        obtain rfl:=out_brk h8
        exact p_bar mo 5 [r0 [.v,.v,.v,.e (.bool false),.v,.s,.s,.s,.s,.v,.v,.s,.s,.s,.s,.v,.v,.s,.s,.s,.s,.v,.v,.s,.s,.s,.s,.v]] [.only [0,1,4,5,6,7,8,11] [4,7,102]] (ref05_monomial_S5 x0 s0 v0 s1) (aT (aB c5 aN)) (by kernel_rfl)
     ·subst e1
      have H20:=aftE_brk H8
      refine grd_e H20 fun g1 H21 => ?_
      refine p_at mo 4 [r0 [.v,.v,.v,.v,.v,.v]] [.only [0,1,4,5,6,7,8,12,13] [4,7,102]] 4 [] ⟨118,[(0,.str x0),(1,iI u0),(4,.hptr 4 0),(5,iI 0),(6,.bool false),(7,.hptr 7 0),(8,.bool v0.1),(12,.str ((x0.drop s0.1.toNat).take (u0.toNat-s0.1.toNat))),(13,iI 1)],[(4,.cells 118 [iI 0,.eslice]),(7,.cells 118 [iI s0.2.2.1,.rslice 102]),(102,.row 9 1 (s0.2.2.2.map cStr))]⟩ (aC (show (0:Int)≤s0.1∧s0.1≤u0∧u0≤(x0.length:Int) from by omega) aN) (by kernel_rfl) ?_
      refine bnd H21 fun v1 h9 H22 => ?_
      refine p_join 0 (ref05_monomial_S6 x0 s0 v0 u0 v1) (by kernel_rfl) ?_ ?_
      ·refine bsp h9 (fun c14 H23 => ?_) (fun c15 H24 => ?_)
       ·refine grd_e H23 fun g2 H25 => ?_
        obtain rfl:=sI H25
        exact p_bar mo 1 [r0 [.v,.v,.v,.e (.bool true),.v,.v,.v,.v,.v,.v]] [.only [0,1,4,5,6,7,8,12,13,73] [4,7,102]] (ref05_monomial_S6 x0 s0 v0 u0 (((x0.getD u0.toNat 0).toNat:Int)==94)) (aT (aB c14 (aC (show (0:Int)≤u0∧u0<(x0.length:Int) from by exact g2) aN))) (by kernel_rfl)
       ·obtain rfl:=sI H24
        exact p_bar mo 1 [r0 [.v,.v,.v,.e (.bool false),.v,.s,.s,.s,.s,.v]] [.only [0,1,4,5,6,7,8,12,13,73] [4,7,102]] (ref05_monomial_S6 x0 s0 v0 u0 false) (aT (aB c15 aN)) (by kernel_rfl)
      ·refine bnd H22 fun v2 h10 H26 => ?_
       refine p_join 0 (ref05_monomial_S7 x0 s0 v0 u0 v2) (by kernel_rfl) ?_ ?_
       ·refine bsp h10 (fun c16 H27 => ?_) (fun c17 H28 => ?_)
        ·refine bnd H27 fun y1 h11 H29 => ?_
         obtain rfl:=sI H29
         exact p_bar mo 3 [.eqT 73 (.bool true),r0 [.v,.v,.w,.c true (.tup [iI y1.1,iI y1.2]),.v,.v,.v,.v,.v]] [.only [0,1,4,5,6,7,8,12,13] [4,7,102]] (ref05_monomial_S7 x0 s0 v0 u0 (y1.2,y1.1)) (aB c16 (aC Tryz.call197 (aF (ref05_number_c x0 (w64 (u0+1)) y1 h11) aN))) (by kernel_rfl)
        ·obtain rfl:=sI H28
         exact p_bar mo 3 [.eqT 73 (.bool false)] [.only [0,1,4,5,6,7,8,12,13] [4,7,102]] (ref05_monomial_S7 x0 s0 v0 u0 (u0,1)) (aB c17 aN) (by kernel_rfl)
       ·refine p_at mo 2 [] [.only [0,1,4,5,6,7,8,12,13] [4,7,102]] 2 [] ⟨118,[(0,.str x0),(1,.int .i64 v2.1),(4,.hptr 4 0),(5,.int .i64 0),(6,.bool false),(7,.hptr 7 0),(8,.bool v0.1),(12,.str ((x0.drop s0.1.toNat).take (u0.toNat-s0.1.toNat))),(13,.int .i64 v2.2)],[(4,.cells 118 [.int .i64 0,.eslice]),(7,.cells 118 [.int .i64 s0.2.2.1,.rslice 102]),(102,.row 9 1 (s0.2.2.2.map cStr))]⟩ aN (by kernel_rfl) ?_
        refine bnd H26 fun v3 h12 H30 => ?_
        refine p_join 0 (ref05_monomial_S8 x0 s0 v0 u0 v2 v3) (by kernel_rfl) ?_ ?_
        ·refine bsp h12 (fun c18 H31 => ?_) (fun c19 H32 => ?_)
         ·obtain rfl:=sI H31
          exact p_bar mo 1 [r0 [.v,.e (.bool true),.v,.s,.s,.v,.v,.s,.s,.s,.v]] [.only [0,1,4,5,6,7,8,12,13,91] [4,7,102]] (ref05_monomial_S8 x0 s0 v0 u0 v2 true) (aB c18 aN) (by kernel_rfl)
         ·refine bsp H32 (fun c20 H33 => ?_) (fun c21 H34 => ?_)
          ·obtain rfl:=sI H33
           exact p_bar mo 1 [r0 [.v,.e (.bool false),.v,.v,.e (.bool true),.v,.v,.s,.s,.s,.v]] [.only [0,1,4,5,6,7,8,12,13,91] [4,7,102]] (ref05_monomial_S8 x0 s0 v0 u0 v2 true) (aB c19 (aB c20 aN)) (by kernel_rfl)
          ·refine bnd H34 fun y2 h13 H35 => ?_
           obtain rfl:=sI H35
           exact p_bar mo 1 [r0 [.v,.e (.bool false),.v,.v,.e (.bool false),.v,.v,.v,.c true (.bool y2),.v,.v]] [.only [0,1,4,5,6,7,8,12,13,91] [4,7,102]] (ref05_monomial_S8 x0 s0 v0 u0 v2 (!y2)) (aB c19 (aB c21 (aC Tryz.call100 (aF (ref04_Name_c ((x0.drop s0.1.toNat).take (u0.toNat-s0.1.toNat)) y2 h13) (aT aN))))) (by kernel_rfl)
        ·refine bsp H30 (fun c22 H36 => ?_) (fun c23 H37 => ?_)
         ·obtain rfl:=sI H36
          obtain rfl:=sI (aft_ret H5)
          obtain rfl:=out_ret h2
          obtain rfl:=sI (aft_ret H0)
          exact p_ret mo 5 [.eqT 91 (.bool true),r0 [.v,.v,.m,.v,.v]] [.fz 102] [] (aB c22 aN) (by kernel_rfl)
         ·refine p_at mo 4 [.eqT 91 (.bool false)] [.only [0,1,4,5,6,7,8,12,13] [4,7,102]] 3 [false] (ref05_monomial_S9 x0 s0 v0 u0 v2 (v2.2,s0.2.2.2)) (aB c23 aN) (by kernel_rfl) ?_
          refine bnd H37 fun R2 h14 H38 => ?_
          refine p_whl (ref05_monomial_S9 x0 s0 v0 u0 v2) (by kernel_rfl) h14 (fun s2 q2 h15 h16 => ?_)
          ·refine bsp h15 (fun c24 H39 => ?_) (fun c25 H40 => ?_)
           ·refine grd_e H39 fun g3 H41 => ?_
            obtain rfl:=sI H41
            exact p_bar mo 10 [r0 [.v,.v],.eqT 95 (.bool true),r0 [.v,.v,.v,.b,.ap,.rwH 102 (.row 9 1 ((s2.2++[((x0.drop s0.1.toNat).take (u0.toNat-s0.1.toNat))]).map cStr)),.v,.m],r0 [.v,.w,.v]] [.only [0,1,4,5,6,7,8,12,13] [4,7,102]] (ref05_monomial_S9 x0 s0 v0 u0 v2 ((w64 (s2.1-1)),(s2.2++[((x0.drop s0.1.toNat).take (u0.toNat-s0.1.toNat))]))) (aB c24 (all_app (apR (c:=cStr) cStr_ok s2.2 [((x0.drop s0.1.toNat).take (u0.toNat-s0.1.toNat))] 16 (by decide) (by simpa using g3)) (aC (apQ 9 1 cStr s2.2 [((x0.drop s0.1.toNat).take (u0.toNat-s0.1.toNat))]) aN))) (by kernel_rfl)
           ·obtain rfl:=sI H40
            obtain rfl:=out_brk h16
            obtain rfl:=sI (aft_brk H38)
            exact p_bar mo 6 [r0 [.v,.v],.eqT 95 (.bool false)] [.only [0,1,4,5,6,7,8] [4,7,102]] (ref05_monomial_S3 x0 v0 (v2.1,s0.2.2.1,s2.2)) (aB c25 aN) (by kernel_rfl)
   ·subst e0
    have H42:=aft_brk H5
    refine p_at mo 4 [r0 [.v]] [.only [0,1,4,5,6,7,8] [4,7,102]] 4 [] ⟨118,[(0,.str x0),(1,iI u1.1),(4,.hptr 4 0),(5,iI 0),(6,.bool false),(7,.hptr 7 0),(8,.bool false)],[(4,.cells 118 [iI 0,.eslice]),(7,.cells 118 [iI u1.2.1,.rslice 102]),(102,.row 9 1 (u1.2.2.map cStr))]⟩ aN (by kernel_rfl) ?_
    refine bnd H42 fun v4 h17 H43 => ?_
    refine p_join 0 (ref05_monomial_S10 x0 u1 v4) (by kernel_rfl) ?_ ?_
    ·refine bsp h17 (fun c26 H44 => ?_) (fun c27 H45 => ?_)
     ·obtain rfl:=sI H44
      exact p_bar mo 1 [r0 [.v,.v,.v,.e (.bool true),.v,.s,.s,.s,.s,.v]] [.only [0,1,4,5,6,7,8,113] [4,7,102]] (ref05_monomial_S10 x0 u1 true) (aT (aB c26 aN)) (by kernel_rfl)
     ·refine grd_e H45 fun g4 H46 => ?_
      obtain rfl:=sI H46
      exact p_bar mo 1 [r0 [.v,.v,.v,.e (.bool false),.v,.v,.v,.v,.v,.v]] [.only [0,1,4,5,6,7,8,113] [4,7,102]] (ref05_monomial_S10 x0 u1 (((x0.getD u1.1.toNat 0).toNat:Int) != 42)) (aT (aB c27 (aC (show (0:Int)≤u1.1∧u1.1<(x0.length:Int) from by exact g4) aN))) (by kernel_rfl)
    ·refine bsp H43 (fun c28 H47 => ?_) (fun c29 H48 => ?_)
     ·obtain rfl:=sI H47
      obtain rfl:=out_ret h2
      obtain rfl:=sI (aft_ret H0)
      exact p_ret mo 5 [.eqT 113 (.bool true),r0 [.v,.v,.m,.v,.v]] [.fz 102] [] (aB c28 aN) (by kernel_rfl)
     ·obtain rfl:=sI H48
      exact p_bar mo 4 [.eqT 113 (.bool false),r0 [.v,.w,.v]] [.only [0,1,4,5,6,7,8] [4,7,102]] (ref05_monomial_S1 x0 ((w64 (u1.1+1)),false,u1.2.1,u1.2.2)) (aB c29 aN) (by kernel_rfl)
/-- framewise/framewiseref05.Parse -/
def ref05_Parse (x0:Str):Option ((List Monomial)×Int) :=
 (whl (σ:=((List Monomial)×Int)) (ε:=(List Monomial)) (ρ:=((List Monomial)×Int)) (fun s0 =>
  bif decide (s0.2<((x0.length:Nat):Int)) then (
   grd (0≤s0.2∧s0.2<(x0.length:Int)) <|
   ((
    bif (((x0.getD s0.2.toNat 0).toNat:Int)==45) then (
     some ((w64 (s0.2+1)),(-1))
    ) else (
     bif (((x0.getD s0.2.toNat 0).toNat:Int)==43) then (
      some ((w64 (s0.2+1)),1)
     ) else (
      some (s0.2,1)
     )
    )
   ):Option (Int×Int)).bind fun v0 =>
   (ref05_monomial x0 v0.1).bind fun y0 =>
   bif y0.2.2 then (
    bif decide (((s0.1.length:Nat):Int)>60) then (
     some (.ret ([],6))
    ) else (
     bif ((w64 (y0.1.Coef*v0.2))==0) then (
      some (.go (s0.1,y0.2.1))
     ) else (
      grd ((s0.1.length+1)*32≤140737488355328) <|
      some (.go ((s0.1++[(Monomial.mk (w64 (y0.1.Coef*v0.2)) y0.1.Vars)]),y0.2.1))
     )
    )
   ) else (
    some (.ret ([],6))
   )
  ) else (
   some (.brk s0.1)
  )
 ) 4294967296 ([],0)).bind <| aft fun u0 =>
 bif (x0==[]) then (
  some ([],6)
 ) else (
  (ref05_Print u0).bind fun y1 =>
  bif (y1==x0) then (
   some (u0,0)
  ) else (
   some ([],6)
  )
 )
def ref05_Parse_S1 (x0:Str) (s0:((List Monomial)×Int)):AS:=⟨62,[(0,.str x0),(2,.eslice),(3,iI 0),(4,.rslice 52),(5,iI s0.2)],[(52,.row 118 2 (s0.1.map cMonomial))]⟩
def ref05_Parse_S2 (x0:Str) (u1:(List Monomial)):AS:=⟨62,[(0,.str x0),(2,.eslice),(3,iI 0),(4,.rslice 52)],[(52,.row 118 2 (u1.map cMonomial))]⟩
def ref05_Parse_S3 (x0:Str) (s0:((List Monomial)×Int)) (v0:(Int×Int)):AS:=⟨62,[(0,.str x0),(2,.eslice),(3,iI 0),(4,.rslice 52),(5,iI v0.1),(6,iI v0.2)],[(52,.row 118 2 (s0.1.map cMonomial))]⟩
theorem ref05_Parse_c (x0:Str) (r:((List Monomial)×Int)) (H:ref05_Parse x0=some r):AFn Tryz.prog 54 [.str x0] (.tup [dS cMonomial r.1,iI r.2]):=by
 unfold ref05_Parse at H
 refine acallX Tryz.func54 62 [.tmp 2,.tmp 3] (by kernel_rfl) (by kernel_rfl) ?_
 refine p_at mo 8 [r0 [.v,.v],r0 [.v],r0 [.v]] [.er 4 52 118 2,.only [0,2,3,4,5] [52]] 8 [] (ref05_Parse_S1 x0 ([],0)) aN (by kernel_rfl) ?_
 refine bnd H fun R0 h0 H0 => ?_
 refine p_joinO 1 (ref05_Parse_S2 x0) R0 (by kernel_rfl) ?_ (fun u0 e0 => ?_)
 ·refine p_whl (ref05_Parse_S1 x0) (by kernel_rfl) h0 (fun s0 q0 h1 h2 => ?_)
  ·refine bsp h1 (fun c0 H1 => ?_) (fun c1 H2 => ?_)
   ·refine grd_e H1 fun g0 H3 => ?_
    refine p_at mo 12 [r0 [.v,.v,.v,.v],.eqT 13 (.bool true),r0 [.v],r0 [.v,.v,.v,.v]] [.only [0,2,3,4,5,6,17] [52]] 11 [true] ⟨62,[(0,.str x0),(2,.eslice),(3,iI 0),(4,.rslice 52),(5,iI s0.2),(6,iI 1),(17,.bool (((x0.getD s0.2.toNat 0).toNat:Int)==45))],[(52,.row 118 2 (s0.1.map cMonomial))]⟩ (aT (aB c0 (aC (show (0:Int)≤s0.2∧s0.2<(x0.length:Int) from by exact g0) aN))) (by kernel_rfl) ?_
    refine bnd H3 fun v0 h3 H4 => ?_
    refine p_join 0 (ref05_Parse_S3 x0 s0 v0) (by kernel_rfl) ?_ ?_
    ·refine bsp h3 (fun c2 H5 => ?_) (fun c3 H6 => ?_)
     ·obtain rfl:=sI H5
      exact p_bar mo 5 [.eqT 17 (.bool true),r0 [.v],r0 [.v,.w,.v]] [.only [0,2,3,4,5,6] [52]] (ref05_Parse_S3 x0 s0 ((w64 (s0.2+1)),(-1))) (aB c2 aN) (by kernel_rfl)
     ·refine bsp H6 (fun c4 H7 => ?_) (fun c5 H8 => ?_)
      ·obtain rfl:=sI H7
       exact p_bar mo 7 [.eqT 17 (.bool false),r0 [.v,.v,.v,.v],.eqT 23 (.bool true),r0 [.v,.w,.v]] [.only [0,2,3,4,5,6] [52]] (ref05_Parse_S3 x0 s0 ((w64 (s0.2+1)),1)) (aB c3 (aC (show (0:Int)≤s0.2∧s0.2<(x0.length:Int) from by exact g0) (aB c4 aN))) (by kernel_rfl)
      ·obtain rfl:=sI H8
       exact p_bar mo 7 [.eqT 17 (.bool false),r0 [.v,.v,.v,.v],.eqT 23 (.bool false)] [.only [0,2,3,4,5,6] [52]] (ref05_Parse_S3 x0 s0 (s0.2,1)) (aB c3 (aC (show (0:Int)≤s0.2∧s0.2<(x0.length:Int) from by exact g0) (aB c5 aN))) (by kernel_rfl)
    ·refine bnd H4 fun y0 h4 H9 => ?_
     refine bsp H9 (fun c6 H10 => ?_) (fun c7 H11 => ?_)
     ·refine p_at mo 6 [.rg 0 [] [.v,.v,.c true (.tup [.agg [.int .i64 y0.1.Coef,.dslice (y0.1.Vars.map cStr)],.int .i64 y0.2.1,.bool y0.2.2]),.v,.v,.v,.v,.m,.m,.v,.v],.eqT 9 (.bool true),.rg 0 [] [.v,.v,.v,.v,.e (.int .i64 ((s0.1.length:Nat):Int)),.v,.v]] [.only [0,2,3,4,5,6,7,8,39] [7,52]] 5 [] ⟨62,[(0,.str x0),(2,.eslice),(3,.int .i64 0),(4,.rslice 52),(5,.int .i64 v0.1),(6,.int .i64 v0.2),(7,.hptr 7 0),(8,.int .i64 y0.2.1),(39,.bool (decide (((s0.1.length:Nat):Int)>60)))],[(7,.cells 118 [.int .i64 y0.1.Coef,.dslice (y0.1.Vars.map cStr)]),(52,.row 118 2 (s0.1.map cMonomial))]⟩ (aC Tryz.call123 (aF (ref05_monomial_c x0 v0.1 y0 h4) (aB c6 (aT (aT (aC (lenm cMonomial s0.1) aN)))))) (by kernel_rfl) ?_
      refine bsp H10 (fun c8 H12 => ?_) (fun c9 H13 => ?_)
      ·obtain rfl:=sI H12
       obtain rfl:=out_ret h2
       obtain rfl:=sI (aft_ret H0)
       exact p_ret mo 5 [.eqT 39 (.bool true),r0 [.v,.v]] [.wk 2 []] [] (aB c8 aN) (by kernel_rfl)
      ·refine bsp H13 (fun c10 H14 => ?_) (fun c11 H15 => ?_)
       ·obtain rfl:=sI H14
        exact p_bar mo 12 [.eqT 39 (.bool false),r0 [.v,.v],r0 [.v,.v,.v,.w,.v,.m],r0 [.v,.v,.v],.eqT 48 (.bool false)] [.only [0,2,3,4,5] [52]] (ref05_Parse_S1 x0 (s0.1,y0.2.1)) (aB c9 (aM c10 aN)) (by kernel_rfl)
       ·refine grd_e H15 fun g1 H16 => ?_
        obtain rfl:=sI H16
        exact p_bar mo 12 [.eqT 39 (.bool false),r0 [.v,.v],r0 [.v,.v,.v,.w,.v,.m],r0 [.v,.v,.v],.eqT 48 (.bool true),r0 [.v,.v,.b,.ap,.rwH 52 (.row 118 2 ((s0.1++[(Monomial.mk (w64 (y0.1.Coef*v0.2)) y0.1.Vars)]).map cMonomial)),.v]] [.only [0,2,3,4,5] [52]] (ref05_Parse_S1 x0 ((s0.1++[(Monomial.mk (w64 (y0.1.Coef*v0.2)) y0.1.Vars)]),y0.2.1)) (aB c9 (aM c11 (all_app (apR (c:=cMonomial) cMonomial_ok s0.1 [(Monomial.mk (w64 (y0.1.Coef*v0.2)) y0.1.Vars)] 32 (by decide) (by simpa using g1)) (aC (apQ 118 2 cMonomial s0.1 [(Monomial.mk (w64 (y0.1.Coef*v0.2)) y0.1.Vars)]) aN)))) (by kernel_rfl)
     ·obtain rfl:=sI H11
      obtain rfl:=out_ret h2
      obtain rfl:=sI (aft_ret H0)
      exact p_ret mo 10 [r0 [.v,.v,.c true (.tup [.agg [iI y0.1.Coef,dS cStr y0.1.Vars],iI y0.2.1,.bool y0.2.2]),.v,.v,.v,.v,.m,.m,.v,.v],.eqT 9 (.bool false),r0 [.v,.v,.v,.s,.s,.s,.v],r0 [.v,.v]] [.wk 2 []] [] (aC Tryz.call123 (aF (ref05_monomial_c x0 v0.1 y0 h4) (aB c7 (aT aN)))) (by kernel_rfl)
   ·obtain rfl:=sI H2
    obtain rfl:=out_brk h2
    exact p_bar mo 6 [r0 [.v,.v,.v,.v],.eqT 13 (.bool false)] [.only [0,2,3,4] [52]] (ref05_Parse_S2 x0 s0.1) (aT (aB c1 aN)) (by kernel_rfl)
 ·subst e0
  have H17:=aft_brk H0
  refine bsp H17 (fun c12 H18 => ?_) (fun c13 H19 => ?_)
  ·obtain rfl:=sI H18
   exact p_ret mo 7 [r0 [.v,.e (.bool true),.v,.s,.s,.s,.s,.v],r0 [.v,.v]] [.wk 2 []] [] (aB c12 aN) (by kernel_rfl)
  ·refine bnd H19 fun y1 h5 H20 => ?_
   refine bsp H20 (fun c14 H21 => ?_) (fun c15 H22 => ?_)
   ·obtain rfl:=sI H21
    exact p_ret mo 9 [r0 [.v,.e (.bool false),.v,.v,.c false (.str y1),.v,.v,.v],.eqT 60 (.bool false),r0 [.v,.v,.v]] [.fz 52] [] (aB c13 (aC Tryz.call50 (aF (ref05_Print_c u0 y1 h5) (aM c14 aN)))) (by kernel_rfl)
   ·obtain rfl:=sI H22
    exact p_ret mo 8 [r0 [.v,.e (.bool false),.v,.v,.c false (.str y1),.v,.v,.v],.eqT 60 (.bool true),r0 [.v,.v]] [.wk 2 []] [] (aB c13 (aC Tryz.call50 (aF (ref05_Print_c u0 y1 h5) (aM c15 aN)))) (by kernel_rfl)
/-- framewise/framewiselaw05.PolyText -/
noncomputable def law05_PolyText (x0:(List Monomial)) (x1:Str):Option Bool :=
 (law05_awake).bind fun y0 =>
 bif y0 then (
  (ref05_Few x0 8).bind fun y1 =>
  bif y1 then (
   bif decide (((x1.length:Nat):Int)>100) then (
    some true
   ) else (
    (poly_Print x0).bind fun y2 =>
    (ref05_Print x0).bind fun y3 =>
    bif (y2==y3) then (
     (poly_Parse y2).bind fun y4 =>
     (ref05_Valid x0).bind fun y5 =>
     ((
      bif y5 then (
       bif (y4.2==0) then (
        (ref05_Equal y4.1 x0).bind fun y6 =>
        bif y6 then (
         some (.brk ())
        ) else (
         some (.ret false)
        )
       ) else (
        some (.ret false)
       )
      ) else (
       some (.brk ())
      )
     ):Option (Out Unit Bool)).bind (aft fun u0 =>
      (poly_Parse x1).bind fun y7 =>
      (ref05_Parse x1).bind fun y8 =>
      (ref05_Equal y7.1 y8.1).bind fun y9 =>
      bif y9 then (
       bif (y7.2==y8.2) then (
        bif (y7.2==0) then (
         (poly_Print y7.1).bind fun y10 =>
         some (y10==x1)
        ) else (
         some true
        )
       ) else (
        some false
       )
      ) else (
       some false
      )
     )
    ) else (
     some false
    )
   )
  ) else (
   some true
  )
 ) else (
  some false
 )
def law05_PolyText_S1 (x1:Str) (u0:Unit):AS:=⟨73,[(1,.str x1),(4,.bool false)],[]⟩
theorem law05_PolyText_c (x0:(List Monomial)) (x1:Str) (r:Bool) (H:law05_PolyText x0 x1=some r):AFn Tryz.prog 9 [dS cMonomial x0,.str x1] (.bool r):=by
 unfold law05_PolyText at H
 refine acallX Tryz.func9 73 [.tmp 4] (by kernel_rfl) (by kernel_rfl) ?_
 refine bnd H fun y0 h0 H0 => ?_
 refine bsp H0 (fun c0 H1 => ?_) (fun c1 H2 => ?_)
 ·refine bnd H1 fun y1 h1 H3 => ?_
  refine bsp H3 (fun c2 H4 => ?_) (fun c3 H5 => ?_)
  ·refine p_at mo 11 [.rg 0 [] [.v],.rg 0 [] [.c true (.bool y0),.v],.eqT 13 (.bool false),.rg 0 [] [.v,.c true (.bool true),.v,.v,.v,.v,.v,.v]] [.only [0,1,4,21] []] 10 [false] ⟨73,[(0,.dslice (x0.map cMonomial)),(1,.str x1),(4,.bool false),(21,.bool (decide (((x1.length:Nat):Int)>100)))],[]⟩ (aC Tryz.call45 (aF (law05_awake_c y0 h0) (aT (aM c0 (aC Tryz.call46 (aC (AFn.eq (ref05_Few_c x0 8 y1 h1) (cB c2)) (aT (aT aN)))))))) (by kernel_rfl) ?_
   refine bsp H4 (fun c4 H6 => ?_) (fun c5 H7 => ?_)
   ·obtain rfl:=sI H6
    exact p_ret mo 5 [.eqT 21 (.bool true),r0 [.v]] [] [] (aB c4 aN) (by kernel_rfl)
   ·refine bnd H7 fun y2 h2 H8 => ?_
    refine bnd H8 fun y3 h3 H9 => ?_
    refine bsp H9 (fun c6 H10 => ?_) (fun c7 H11 => ?_)
    ·refine bnd H10 fun y4 h4 H12 => ?_
     refine bnd H12 fun y5 h5 H13 => ?_
     refine p_at mo 15 [.eqT 21 (.bool false),r0 [.v,.c true (.str y2),.v],r0 [.v,.v,.c true (.str y3),.v],.eqT 27 (.bool false),r0 [.v,.c true (.tup [dS cMonomial y4.1,iI y4.2]),.v,.v,.v,.v,.v]] [.only [0,1,4,6,7] []] 13 [false,false] ⟨73,[(0,dS cMonomial x0),(1,.str x1),(4,.bool false),(6,dS cMonomial y4.1),(7,iI y4.2)],[]⟩ (aB c5 (aC Tryz.call49 (aF (poly_Print_c x0 y2 h2) (aC Tryz.call50 (aF (ref05_Print_c x0 y3 h3) (aM c6 (aC Tryz.call51 (aF (poly_Parse_c y2 y4 h4) aN)))))))) (by kernel_rfl) ?_
     refine bnd H13 fun v0 h6 H14 => ?_
     refine p_joinO 1 (law05_PolyText_S1 x1) v0 (by kernel_rfl) ?_ (fun u0 e0 => ?_)
     ·refine bsp h6 (fun c8 H15 => ?_) (fun c9 H16 => ?_)
      ·refine bsp H15 (fun c10 H17 => ?_) (fun c11 H18 => ?_)
       ·refine bnd H17 fun y6 h7 H19 => ?_
        refine bsp H19 (fun c12 H20 => ?_) (fun c13 H21 => ?_)
        ·obtain rfl:=sI H20
         exact p_bar mo 4 [r0 [.v,.c true (.bool true),.v,.v,.e (.bool false),.v,.v,.v,.c true (.bool y6),.v,.v,.v],.eqT 44 (.bool false)] [.only [1,4] []] (law05_PolyText_S1 x1 ()) (aC Tryz.call52 (aC (AFn.eq (ref05_Valid_c x0 y5 h5) (cB c8)) (aM c10 (aC Tryz.call53 (aF (ref05_Equal_c y4.1 x0 y6 h7) (aT (aM c12 aN))))))) (by kernel_rfl)
        ·obtain rfl:=sI H21
         obtain rfl:=sI (aft_ret H14)
         exact p_ret mo 6 [r0 [.v,.c true (.bool true),.v,.v,.e (.bool false),.v,.v,.v,.c true (.bool y6),.v,.v,.v],.eqT 44 (.bool true),r0 [.v]] [] [] (aC Tryz.call52 (aC (AFn.eq (ref05_Valid_c x0 y5 h5) (cB c8)) (aM c10 (aC Tryz.call53 (aF (ref05_Equal_c y4.1 x0 y6 h7) (aT (aM c13 aN))))))) (by kernel_rfl)
       ·obtain rfl:=sI H18
        obtain rfl:=sI (aft_ret H14)
        exact p_ret mo 5 [r0 [.v,.c true (.bool true),.v,.v,.e (.bool true),.v,.s,.s,.s,.s,.v,.v],r0 [.v]] [] [] (aC Tryz.call52 (aC (AFn.eq (ref05_Valid_c x0 y5 h5) (cB c8)) (aM c11 aN))) (by kernel_rfl)
      ·obtain rfl:=sI H16
       exact p_bar mo 3 [r0 [.v,.c true (.bool false),.v,.s,.s,.s,.s,.s,.s,.s,.s,.v]] [.only [1,4] []] (law05_PolyText_S1 x1 ()) (aC Tryz.call52 (aC (AFn.eq (ref05_Valid_c x0 y5 h5) (cB c9)) aN)) (by kernel_rfl)
     ·subst e0
      have H22:=aft_brk H14
      refine bnd H22 fun y7 h8 H23 => ?_
      refine bnd H23 fun y8 h9 H24 => ?_
      refine bnd H24 fun y9 h10 H25 => ?_
      refine bsp H25 (fun c14 H26 => ?_) (fun c15 H27 => ?_)
      ·refine bsp H26 (fun c16 H28 => ?_) (fun c17 H29 => ?_)
       ·refine bsp H28 (fun c18 H30 => ?_) (fun c19 H31 => ?_)
        ·refine bnd H30 fun y10 h11 H32 => ?_
         obtain rfl:=sI H32
         exact p_ret mo 7 [r0 [.v,.c true (.tup [dS cMonomial y7.1,iI y7.2]),.v,.v,.v,.v,.v],r0 [.v,.c true (.tup [dS cMonomial y8.1,iI y8.2]),.v,.v,.v,.v,.v],r0 [.v,.v,.c true (.bool true),.v,.v,.v,.e (.bool true),.v,.v,.v,.e (.bool false),.v,.v,.c true (.str y10),.v,.v,.v,.v,.v]] [] [] (aC Tryz.call51 (aF (poly_Parse_c x1 y7 h8) (aC Tryz.call54 (aF (ref05_Parse_c x1 y8 h9) (aC Tryz.call53 (aC (AFn.eq (ref05_Equal_c y7.1 y8.1 y9 h10) (cB c14)) (aB c16 (aM c18 (aC Tryz.call49 (aF (poly_Print_c y7.1 y10 h11) aN)))))))))) (by kernel_rfl)
        ·obtain rfl:=sI H31
         exact p_ret mo 7 [r0 [.v,.c true (.tup [dS cMonomial y7.1,iI y7.2]),.v,.v,.v,.v,.v],r0 [.v,.c true (.tup [dS cMonomial y8.1,iI y8.2]),.v,.v,.v,.v,.v],r0 [.v,.v,.c true (.bool true),.v,.v,.v,.e (.bool true),.v,.v,.v,.e (.bool true),.v,.s,.s,.s,.s,.v,.v,.v]] [] [] (aC Tryz.call51 (aF (poly_Parse_c x1 y7 h8) (aC Tryz.call54 (aF (ref05_Parse_c x1 y8 h9) (aC Tryz.call53 (aC (AFn.eq (ref05_Equal_c y7.1 y8.1 y9 h10) (cB c14)) (aB c16 (aM c19 aN)))))))) (by kernel_rfl)
       ·obtain rfl:=sI H29
        exact p_ret mo 7 [r0 [.v,.c true (.tup [dS cMonomial y7.1,iI y7.2]),.v,.v,.v,.v,.v],r0 [.v,.c true (.tup [dS cMonomial y8.1,iI y8.2]),.v,.v,.v,.v,.v],r0 [.v,.v,.c true (.bool true),.v,.v,.v,.e (.bool false),.v,.v,.s,.s,.s,.s,.s,.s,.s,.s,.v,.v]] [] [] (aC Tryz.call51 (aF (poly_Parse_c x1 y7 h8) (aC Tryz.call54 (aF (ref05_Parse_c x1 y8 h9) (aC Tryz.call53 (aC (AFn.eq (ref05_Equal_c y7.1 y8.1 y9 h10) (cB c14)) (aB c17 aN))))))) (by kernel_rfl)
      ·obtain rfl:=sI H27
       exact p_ret mo 7 [r0 [.v,.c true (.tup [dS cMonomial y7.1,iI y7.2]),.v,.v,.v,.v,.v],r0 [.v,.c true (.tup [dS cMonomial y8.1,iI y8.2]),.v,.v,.v,.v,.v],r0 [.v,.v,.c true (.bool false),.v,.s,.s,.s,.v,.v,.s,.s,.s,.s,.s,.s,.s,.s,.v,.v]] [] [] (aC Tryz.call51 (aF (poly_Parse_c x1 y7 h8) (aC Tryz.call54 (aF (ref05_Parse_c x1 y8 h9) (aC Tryz.call53 (aC (AFn.eq (ref05_Equal_c y7.1 y8.1 y9 h10) (cB c15)) aN)))))) (by kernel_rfl)
    ·obtain rfl:=sI H11
     exact p_ret mo 13 [.eqT 21 (.bool false),r0 [.v,.c true (.str y2),.v],r0 [.v,.v,.c true (.str y3),.v],.eqT 27 (.bool true),r0 [.v]] [] [] (aB c5 (aC Tryz.call49 (aF (poly_Print_c x0 y2 h2) (aC Tryz.call50 (aF (ref05_Print_c x0 y3 h3) (aM c7 aN)))))) (by kernel_rfl)
  ·obtain rfl:=sI H5
   exact p_ret mo 15 [r0 [.v],r0 [.c true (.bool y0),.v],.eqT 13 (.bool false),r0 [.v,.c true (.bool false),.v,.v,.s,.s,.s,.v],r0 [.v]] [] [] (aC Tryz.call45 (aF (law05_awake_c y0 h0) (aT (aM c0 (aC Tryz.call46 (aC (AFn.eq (ref05_Few_c x0 8 y1 h1) (cB c3)) (aT aN))))))) (by kernel_rfl)
 ·obtain rfl:=sI H2
  exact p_ret mo 10 [r0 [.v],r0 [.c true (.bool y0),.v],.eqT 13 (.bool true),r0 [.v]] [] [] (aC Tryz.call45 (aF (law05_awake_c y0 h0) (aT (aM c1 aN)))) (by kernel_rfl)
end Go.Proofs.YtjfpcjnopbfekaaGreatDoor
