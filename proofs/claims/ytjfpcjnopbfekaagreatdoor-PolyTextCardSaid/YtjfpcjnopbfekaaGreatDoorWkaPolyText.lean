/- What functions of the program compute, walked: each as a plain function, with the theorem that the code computes it wherever that answers. Printed by a program, part 1. -/
import Derived.Test.YtjfpcjnopbfekaaGreatDoorFrdPolyText
import Derived.KernelRfl
import Derived.Test.YtjfpcjnopbfekaaGreatDoorProg
set_option linter.unusedSimpArgs false
set_option linter.unusedVariables false
namespace Go.Proofs.YtjfpcjnopbfekaaGreatDoor
open Go.RowKit Go.Ab Go.Sh
theorem cB {a b:Bool} (h:a=b):AV.bool a=AV.bool b:=congrArg AV.bool h
theorem cN {a b:Bool} (h:a=b):AV.bool (!a)=AV.bool (!b):=congrArg (fun x=>AV.bool (!x)) h
theorem aC {p:Prop} {ps:List Prop} (h:p) (h2:All ps):All (p::ps):=all_cons h h2
theorem aN:All []:=all_nil
theorem aT {ps:List Prop} (h2:All ps):All (True::ps):=all_cons trivial h2
theorem aB {a b:Bool} {ps:List Prop} (h:a=b) (h2:All ps):All ((AV.bool a=AV.bool b)::ps):=all_cons (cB h) h2
theorem aM {a b:Bool} {ps:List Prop} (h:a=b) (h2:All ps):All ((AV.bool (!a)=AV.bool (!b))::ps):=all_cons (cN h) h2
theorem aF {P:Program} {f:FuncId} {args:List AV} {v:AV} {ps:List Prop} (h:AFn P f args v) (h2:All ps):All (ACall P f args [] (fun r _=>r=v)::ps):=all_cons (AFn.is h) h2
theorem pI (n:Nat) (h:n<9223372036854775807):I64 (((n:Nat):Int)+1):=by unfold I64;omega
theorem lF (i n:Nat) (h:¬ i<n):decide (((i:Nat):Int)<((n:Nat):Int))=false:=decide_eq_false (by omega)
theorem lT (i n:Nat) (h:i<n):decide (((i:Nat):Int)<((n:Nat):Int))=true:=decide_eq_true (by omega)
def nI (n:Nat):AV:=.int .i64 ((n:Nat):Int)
def iI (n:Int):AV:=.int .i64 n
def dS {α:Type} (c:α→List AV) (x:List α):AV:=.dslice (x.map c)
def r0 (d:List Dir):Sg:=.rg 0 [] d
theorem sI {α:Type} {x r:α} (h:some x=some r):x=r:=Option.some.inj h
theorem mo:Tryz.prog.follows .mixedOrders=true:=Tryz.mo
structure Monomial where
 Coef:Int
 Vars:(List Str)
 deriving DecidableEq
def cStr (x:Str):List AV:=[.str x]
theorem cStr_len (x:Str):(cStr x).length=1:=rfl
theorem cStr_ok (x:Str):(cStr x).length=1∧(cStr x).all (fun v=>v.one&&v.fl)=true:=⟨rfl,rfl⟩
def cMonomial (x:Monomial):List AV:=[.int .i64 x.Coef,.dslice (x.Vars.map cStr)]
theorem cMonomial_len (x:Monomial):(cMonomial x).length=2:=rfl
theorem cMonomial_ok (x:Monomial):(cMonomial x).length=2∧(cMonomial x).all (fun v=>v.one&&v.fl)=true:=⟨rfl,rfl⟩
structure Coef where
 Var:Str
 C:Int
 deriving DecidableEq
def cCoef (x:Coef):List AV:=[.str x.Var,.int .i64 x.C]
theorem cCoef_len (x:Coef):(cCoef x).length=2:=rfl
theorem cCoef_ok (x:Coef):(cCoef x).length=2∧(cCoef x).all (fun v=>v.one&&v.fl)=true:=⟨rfl,rfl⟩
structure Linear where
 Const:Int
 Terms:(List Coef)
 deriving DecidableEq
def cLinear (x:Linear):List AV:=[.int .i64 x.Const,.dslice (x.Terms.map cCoef)]
theorem cLinear_len (x:Linear):(cLinear x).length=2:=rfl
theorem cLinear_ok (x:Linear):(cLinear x).length=2∧(cLinear x).all (fun v=>v.one&&v.fl)=true:=⟨rfl,rfl⟩
def cByte (x:UInt8):List AV:=[.int .u8 ((x).toNat:Int)]
theorem cByte_len (x:UInt8):(cByte x).length=1:=rfl
theorem cByte_ok (x:UInt8):(cByte x).length=1∧(cByte x).all (fun v=>v.one&&v.fl)=true:=⟨rfl,rfl⟩
def cL_cStr (x:(List Str)):List AV:=[.dslice (x.map cStr)]
theorem cL_cStr_len (x:(List Str)):(cL_cStr x).length=1:=rfl
theorem cL_cStr_ok (x:(List Str)):(cL_cStr x).length=1∧(cL_cStr x).all (fun v=>v.one&&v.fl)=true:=⟨rfl,rfl⟩
def cInt_i64 (x:Int):List AV:=[.int .i64 x]
theorem cInt_i64_len (x:Int):(cInt_i64 x).length=1:=rfl
theorem cInt_i64_ok (x:Int):(cInt_i64 x).length=1∧(cInt_i64 x).all (fun v=>v.one&&v.fl)=true:=⟨rfl,rfl⟩
def cL_cInt_i64 (x:(List Int)):List AV:=[.dslice (x.map cInt_i64)]
theorem cL_cInt_i64_len (x:(List Int)):(cL_cInt_i64 x).length=1:=rfl
theorem cL_cInt_i64_ok (x:(List Int)):(cL_cInt_i64 x).length=1∧(cL_cInt_i64 x).all (fun v=>v.one&&v.fl)=true:=⟨rfl,rfl⟩
def cL_cMonomial (x:(List Monomial)):List AV:=[.dslice (x.map cMonomial)]
theorem cL_cMonomial_len (x:(List Monomial)):(cL_cMonomial x).length=1:=rfl
theorem cL_cMonomial_ok (x:(List Monomial)):(cL_cMonomial x).length=1∧(cL_cMonomial x).all (fun v=>v.one&&v.fl)=true:=⟨rfl,rfl⟩
structure Value where
 Var:Str
 N:Int
 deriving DecidableEq
def cValue (x:Value):List AV:=[.str x.Var,.int .i64 x.N]
theorem cValue_len (x:Value):(cValue x).length=2:=rfl
theorem cValue_ok (x:Value):(cValue x).length=2∧(cValue x).all (fun v=>v.one&&v.fl)=true:=⟨rfl,rfl⟩
/-- internal/stringslite.HasPrefix -/
def internal_stringslite_HasPrefix (x0:Str) (x1:Str):Option Bool :=
 bif decide (((x0.length:Nat):Int)≥((x1.length:Nat):Int)) then (
  grd (x1.length≤x0.length) <|
  some ((x0.take x1.length)==x1)
 ) else (
  some false
 )
theorem internal_stringslite_HasPrefix_c (x0:Str) (x1:Str) (r:Bool) (H:internal_stringslite_HasPrefix x0 x1=some r):AFn Tryz.prog 220 [.str x0,.str x1] (.bool r):=by
 unfold internal_stringslite_HasPrefix at H
 refine acallX Tryz.func220 18 [.tmp 4] (by kernel_rfl) (by kernel_rfl) ?_
 refine bsp H (fun c0 H0 => ?_) (fun c1 H1 => ?_)
 ·have c0p:=of_decide_eq_true c0
  refine grd_e H0 fun g0 H2 => ?_
  obtain rfl:=sI H2
  exact p_ret mo 5 [r0 [.v],r0 [.v,.v,.v,.v,.e (.bool true),.v,.v,.v,.v,.e (.str (x0.take x1.length)),.v,.v,.v,.v]] [] [] (aT (aT (aB c0 (aT (aC (show (0:Int)≤0∧0≤((x1.length:Nat):Int)∧((x1.length:Nat):Int)≤(x0.length:Int) from by omega) (aC (sl_take x0 x1.length) aN)))))) (by kernel_rfl)
 ·obtain rfl:=sI H1
  exact p_ret mo 5 [r0 [.v],r0 [.v,.v,.v,.v,.e (.bool false),.v,.s,.s,.s,.s,.s,.s,.v,.v]] [] [] (aT (aT (aB c1 aN))) (by kernel_rfl)
/-- strings.HasPrefix -/
def strings_HasPrefix (x0:Str) (x1:Str):Option Bool :=
 (internal_stringslite_HasPrefix x0 x1).bind fun y0 =>
 some y0
theorem strings_HasPrefix_c (x0:Str) (x1:Str) (r:Bool) (H:strings_HasPrefix x0 x1=some r):AFn Tryz.prog 166 [.str x0,.str x1] (.bool r):=by
 unfold strings_HasPrefix at H
 refine acallX Tryz.func166 8 [.tmp 4] (by kernel_rfl) (by kernel_rfl) ?_
 refine bnd H fun y0 h0 H0 => ?_
 refine some_e H0 fun e0 => ?_
 subst e0
 exact p_ret mo 5 [r0 [.v],r0 [.v,.v,.c true (.bool y0),.v]] [] [] (aC Tryz.call220 (aF (internal_stringslite_HasPrefix_c x0 x1 y0 h0) aN)) (by kernel_rfl)
/-- framewise/linear.Name -/
def linear_Name (x0:Str):Option Bool :=
 (strings_HasPrefix x0 [95]).bind fun y0 =>
 bif y0 then (
  grd (1≤x0.length) <|
  (lib_Atoi (x0.drop 1)).bind fun y1 =>
  bif y1.2 then (
   bif decide (y1.1>0) then (
    bif decide (((x0.length:Nat):Int)≤10) then (
     (lib_Itoa y1.1).bind fun y2 =>
     some (y2==(x0.drop 1))
    ) else (
     some false
    )
   ) else (
    some false
   )
  ) else (
   some false
  )
 ) else (
  (cnt (σ:=Unit) (ε:=Unit) (ρ:=Bool) (fun i0 s0 =>
   ((
    bif decide ((((x0.getD i0 0)).toNat:Int)<97) then (
     bif (((i0:Nat):Int)==0) then (
      some (.ret (.ret false))
     ) else (
      bif decide ((((x0.getD i0 0)).toNat:Int)<48) then (
       some (.ret (.ret false))
      ) else (
       bif decide ((((x0.getD i0 0)).toNat:Int)>57) then (
        some (.ret (.ret false))
       ) else (
        some (.brk ())
       )
      )
     )
    ) else (
     bif decide ((((x0.getD i0 0)).toNat:Int)>122) then (
      bif (((i0:Nat):Int)==0) then (
       some (.ret (.ret false))
      ) else (
       bif decide ((((x0.getD i0 0)).toNat:Int)<48) then (
        some (.ret (.ret false))
       ) else (
        bif decide ((((x0.getD i0 0)).toNat:Int)>57) then (
         some (.ret (.ret false))
        ) else (
         some (.brk ())
        )
       )
      )
     ) else (
      some (.brk ())
     )
    )
   ):Option (Out Unit (Stp Unit Unit Bool))).bind (aft fun u0 =>
    some (.go ())
   )
  ) (fun i0 s0=>()) (x0.length-0) 0 ()).bind <| aft fun u1 =>
  bif (x0==[]) then (
   some false
  ) else (
   some (decide (((x0.length:Nat):Int)≤30))
  )
 )
def linear_Name_S1 (x0:Str) (i0:Nat) (s0:Unit):AS:=⟨67,[(0,.str x0),(2,.bool false),(34,dS cByte x0),(35,nI x0.length),(36,nI i0)],[]⟩
def linear_Name_S2 (x0:Str) (u2:Unit):AS:=⟨67,[(0,.str x0),(2,.bool false)],[]⟩
def linear_Name_S3 (x0:Str) (i0:Nat) (u0:Unit):AS:=⟨67,[(0,.str x0),(2,.bool false),(34,dS cByte x0),(35,nI x0.length),(36,nI i0)],[]⟩
theorem linear_Name_c (x0:Str) (r:Bool) (H:linear_Name x0=some r):AFn Tryz.prog 96 [.str x0] (.bool r):=by
 unfold linear_Name at H
 refine acallX Tryz.func96 67 [.tmp 2] (by kernel_rfl) (by kernel_rfl) ?_
 refine bnd H fun y0 h0 H0 => ?_
 refine bsp H0 (fun c0 H1 => ?_) (fun c1 H2 => ?_)
 ·refine grd_e H1 fun g0 H3 => ?_
  refine bnd H3 fun y1 h1 H4 => ?_
  refine p_at mo 10 [r0 [.v],r0 [.v,.c true (.bool y0)],.eqT 8 (.bool true),r0 [.v,.e (.str (x0.drop 1)),.cf true (.tup [iI y1.1,errV 272 y1.2]),.v,.v,.v,.v,.v]] [.only [0,2,3,4] []] 9 [true] ⟨67,[(0,.str x0),(2,.bool false),(3,iI y1.1),(4,errV 272 y1.2)],[]⟩ (aC Tryz.call166 (aF (strings_HasPrefix_c x0 [95] y0 h0) (aB c0 (aC (show (0:Int)≤1∧1≤(x0.length:Int)∧(x0.length:Int)≤(x0.length:Int) from by omega) (aC (sl_drop x0 1) (aC Tryz.call167 (aF (lib_Atoi_c (x0.drop 1) y1 h1) (aC (show okRes true (.tup [iI y1.1,errV 272 y1.2])=true from by cases h2:y1.2<;>rfl) aN)))))))) (by kernel_rfl) ?_
  refine bsp H4 (fun c2 H5 => ?_) (fun c3 H6 => ?_)
  ·refine bsp H5 (fun c4 H7 => ?_) (fun c5 H8 => ?_)
   ·have c4p:=of_decide_eq_true c4
    refine bsp H7 (fun c6 H9 => ?_) (fun c7 H10 => ?_)
    ·have c6p:=of_decide_eq_true c6
     refine bnd H9 fun y2 h3 H11 => ?_
     obtain rfl:=sI H11
     exact p_ret mo 3 [.eqT 4 (.nilI),.rg 16 [.v,.v,.v,.v,.e (.bool true),.v,.v,.v,.v,.e (.bool true),.v,.v,.v,.c true (.str y2),.v,.e (.str (x0.drop 1))] [.v,.v,.v]] [] [] (aC (congrArg (errV 272) c2) (aB c4 (aT (aB c6 (aC Tryz.call168 (aF (lib_Itoa_c y1.1 y2 h3) (aC (show (0:Int)≤1∧1≤(x0.length:Int)∧(x0.length:Int)≤(x0.length:Int) from by omega) (aC (sl_drop x0 1) aN)))))))) (by kernel_rfl)
    ·obtain rfl:=sI H10
     exact p_ret mo 3 [.eqT 4 (.nilI),.rg 16 [.v,.v,.v,.v,.e (.bool true),.v,.v,.v,.v,.e (.bool false),.v,.v,.s,.s,.s,.s] [.s,.v,.v]] [] [] (aC (congrArg (errV 272) c2) (aB c4 (aT (aB c7 aN)))) (by kernel_rfl)
   ·obtain rfl:=sI H8
    exact p_ret mo 3 [.eqT 4 (.nilI),.rg 16 [.v,.v,.v,.v,.e (.bool false),.v,.v,.s,.s,.s,.v,.v,.s,.s,.s,.s] [.s,.v,.v]] [] [] (aC (congrArg (errV 272) c2) (aB c5 aN)) (by kernel_rfl)
  ·obtain rfl:=sI H6
   exact p_ret mo 3 [.eqT 4 (.iface 272 (.any)),.rg 16 [.v,.v,.v,.s,.s,.v,.v,.s,.s,.s,.v,.v,.s,.s,.s,.s] [.s,.v,.v]] [] [] (aC (congrArg (errV 272) c3) aN) (by kernel_rfl)
 ·refine p_at mo 12 [.rg 0 [] [.v],.rg 0 [] [.v,.c true (.bool y0)],.eqT 8 (.bool false),.rg 0 [] [.v,.m,.e (.int .i64 ((x0.length:Nat):Int)),.v]] [.only [0,2,34,35,36] []] 11 [false] (linear_Name_S1 x0 0 ()) (aC Tryz.call166 (aF (strings_HasPrefix_c x0 [95] y0 h0) (aB c1 (aT (aC (lenm cByte x0) aN))))) (by kernel_rfl) ?_
  refine bnd H2 fun R0 h4 H12 => ?_
  refine p_joinO 1 (linear_Name_S2 x0) R0 (by kernel_rfl) ?_ (fun u1 e0 => ?_)
  ·refine p_cnt (linear_Name_S1 x0) (by kernel_rfl) h4 (fun i0 s0 h5 e1 => ?_) (fun i0 s0 h6 q0 h7 h8 => ?_)
   ·have c8:=lF i0 x0.length (by omega)
    subst e1
    exact p_bar mo 5 [r0 [.e (.bool false)]] [.only [0,2] []] (linear_Name_S2 x0 ()) (aB c8 aN) (by kernel_rfl)
   ·have c9:=lT i0 x0.length (by omega)
    refine p_at mo 10 [r0 [.e (.bool true)],r0 [.v,.e (.dptr [.int .u8 (((x0.getD i0 0)).toNat:Int)]),.v,.v,.v]] [.only [0,2,5,6,34,35,36] []] 10 [true] ⟨67,[(0,.str x0),(2,.bool false),(5,nI i0),(6,.int .u8 (((x0.getD i0 0)).toNat:Int)),(34,dS cByte x0),(35,nI x0.length),(36,nI i0)],[]⟩ (aB c9 (all_app (ix (f:=cByte) (l:=x0) (n:=i0) 0 cByte_len (by decide) (by omega)) aN)) (by kernel_rfl) ?_
    refine bnd h7 fun v0 h9 H13 => ?_
    refine p_joinO 2 (linear_Name_S3 x0 i0) v0 (by kernel_rfl) ?_ (fun u0 e2 => ?_)
    ·refine bsp h9 (fun c10 H14 => ?_) (fun c11 H15 => ?_)
     ·refine bsp H14 (fun c12 H16 => ?_) (fun c13 H17 => ?_)
      ·obtain rfl:=sI H16
       obtain rfl:=sI (aft_ret H13)
       obtain rfl:=out_ret h8
       obtain rfl:=sI (aft_ret H12)
       exact p_ret mo 5 [r0 [.v,.e (.bool true),.v,.s,.s,.v,.v,.v,.e (.bool true),.v,.s,.s,.v,.v,.s,.s,.v,.v],r0 [.v]] [] [] (aB c10 (aB c12 aN)) (by kernel_rfl)
      ·refine bsp H17 (fun c14 H18 => ?_) (fun c15 H19 => ?_)
       ·obtain rfl:=sI H18
        obtain rfl:=sI (aft_ret H13)
        obtain rfl:=out_ret h8
        obtain rfl:=sI (aft_ret H12)
        exact p_ret mo 5 [r0 [.v,.e (.bool true),.v,.s,.s,.v,.v,.v,.e (.bool false),.v,.v,.e (.bool true),.v,.v,.s,.s,.v,.v],r0 [.v]] [] [] (aB c10 (aB c13 (aB c14 aN))) (by kernel_rfl)
       ·refine bsp H19 (fun c16 H20 => ?_) (fun c17 H21 => ?_)
        ·obtain rfl:=sI H20
         obtain rfl:=sI (aft_ret H13)
         obtain rfl:=out_ret h8
         obtain rfl:=sI (aft_ret H12)
         exact p_ret mo 6 [r0 [.v,.e (.bool true),.v,.s,.s,.v,.v,.v,.e (.bool false),.v,.v,.e (.bool false),.v,.v,.v,.v,.v,.v],.eqT 58 (.bool true),r0 [.v]] [] [] (aB c10 (aB c13 (aB c15 (aB c16 aN)))) (by kernel_rfl)
        ·obtain rfl:=sI H21
         exact p_bar mo 4 [r0 [.v,.e (.bool true),.v,.s,.s,.v,.v,.v,.e (.bool false),.v,.v,.e (.bool false),.v,.v,.v,.v,.v,.v],.eqT 58 (.bool false)] [.only [0,2,34,35,36] []] (linear_Name_S3 x0 i0 ()) (aB c10 (aB c13 (aB c15 (aB c17 aN)))) (by kernel_rfl)
     ·refine bsp H15 (fun c18 H22 => ?_) (fun c19 H23 => ?_)
      ·refine bsp H22 (fun c20 H24 => ?_) (fun c21 H25 => ?_)
       ·obtain rfl:=sI H24
        obtain rfl:=sI (aft_ret H13)
        obtain rfl:=out_ret h8
        obtain rfl:=sI (aft_ret H12)
        exact p_ret mo 5 [r0 [.v,.e (.bool false),.v,.v,.e (.bool true),.v,.v,.v,.e (.bool true),.v,.s,.s,.v,.v,.s,.s,.v,.v],r0 [.v]] [] [] (aB c11 (aB c18 (aB c20 aN))) (by kernel_rfl)
       ·refine bsp H25 (fun c22 H26 => ?_) (fun c23 H27 => ?_)
        ·obtain rfl:=sI H26
         obtain rfl:=sI (aft_ret H13)
         obtain rfl:=out_ret h8
         obtain rfl:=sI (aft_ret H12)
         exact p_ret mo 5 [r0 [.v,.e (.bool false),.v,.v,.e (.bool true),.v,.v,.v,.e (.bool false),.v,.v,.e (.bool true),.v,.v,.s,.s,.v,.v],r0 [.v]] [] [] (aB c11 (aB c18 (aB c21 (aB c22 aN)))) (by kernel_rfl)
        ·refine bsp H27 (fun c24 H28 => ?_) (fun c25 H29 => ?_)
         ·obtain rfl:=sI H28
          obtain rfl:=sI (aft_ret H13)
          obtain rfl:=out_ret h8
          obtain rfl:=sI (aft_ret H12)
          exact p_ret mo 6 [r0 [.v,.e (.bool false),.v,.v,.e (.bool true),.v,.v,.v,.e (.bool false),.v,.v,.e (.bool false),.v,.v,.v,.v,.v,.v],.eqT 58 (.bool true),r0 [.v]] [] [] (aB c11 (aB c18 (aB c21 (aB c23 (aB c24 aN))))) (by kernel_rfl)
         ·obtain rfl:=sI H29
          exact p_bar mo 4 [r0 [.v,.e (.bool false),.v,.v,.e (.bool true),.v,.v,.v,.e (.bool false),.v,.v,.e (.bool false),.v,.v,.v,.v,.v,.v],.eqT 58 (.bool false)] [.only [0,2,34,35,36] []] (linear_Name_S3 x0 i0 ()) (aB c11 (aB c18 (aB c21 (aB c23 (aB c25 aN))))) (by kernel_rfl)
      ·obtain rfl:=sI H23
       exact p_bar mo 3 [r0 [.v,.e (.bool false),.v,.v,.e (.bool false),.v,.v,.s,.s,.s,.s,.s,.s,.s,.s,.s,.s,.v]] [.only [0,2,34,35,36] []] (linear_Name_S3 x0 i0 ()) (aB c11 (aB c19 aN)) (by kernel_rfl)
    ·subst e2
     have H30:=aft_brk H13
     refine t_lens 0 (ps:=[x0.length≤9223372036854775807]) (by kernel_rfl) (fun l0 => ?_)
     have l1:x0.length≤9223372036854775807:=by simpa only [All,List.length_map] using l0
     clear l0
     obtain rfl:=sI H30
     exact p_bar mo 1 [r0 [.v,.v]] [.only [0,2,34,35,36] []] (linear_Name_S1 x0 (i0+1) ()) (aC (pI i0 (by omega)) aN) (by kernel_rfl)
  ·subst e0
   have H31:=aft_brk H12
   refine bsp H31 (fun c26 H32 => ?_) (fun c27 H33 => ?_)
   ·obtain rfl:=sI H32
    exact p_ret mo 3 [r0 [.v,.e (.bool false),.v,.s,.s,.s,.v,.v]] [] [] (aM c26 aN) (by kernel_rfl)
   ·obtain rfl:=sI H33
    exact p_ret mo 3 [r0 [.v,.e (.bool true),.v,.v,.v,.v,.v,.v]] [] [] (aM c27 (aT aN)) (by kernel_rfl)
/-- framewise/linear.in -/
def linear_in (x0:Int):Option Bool :=
 bif decide (x0≥(-1000000)) then (
  some (decide (x0≤1000000))
 ) else (
  some false
 )
theorem linear_in_c (x0:Int) (r:Bool) (H:linear_in x0=some r):AFn Tryz.prog 170 [iI x0] (.bool r):=by
 unfold linear_in at H
 refine acallX Tryz.func170 9 [.tmp 2] (by kernel_rfl) (by kernel_rfl) ?_
 refine bsp H (fun c0 H0 => ?_) (fun c1 H1 => ?_)
 ·obtain rfl:=sI H0
  exact p_ret mo 5 [r0 [.v],r0 [.v,.e (.bool true),.v,.v,.v,.v,.v]] [] [] (aB c0 aN) (by kernel_rfl)
 ·obtain rfl:=sI H1
  exact p_ret mo 5 [r0 [.v],r0 [.v,.e (.bool false),.v,.s,.s,.v,.v]] [] [] (aB c1 aN) (by kernel_rfl)
/-- framewise/linear.Valid -/
def linear_Valid (x0:Linear):Option Bool :=
 (cnt (σ:=Unit) (ε:=Unit) (ρ:=Bool) (fun i0 s0 =>
  (linear_Name ((x0.Terms.getD i0 ⟨[],0⟩).Var)).bind fun y0 =>
  ((
   bif y0 then (
    bif (((x0.Terms.getD i0 ⟨[],0⟩).C)==0) then (
     some (.ret (.ret false))
    ) else (
     (linear_in ((x0.Terms.getD i0 ⟨[],0⟩).C)).bind fun y1 =>
     bif y1 then (
      bif decide (((i0:Nat):Int)>0) then (
       grd (0≤(w64 (((i0:Nat):Int)-1))∧(w64 (((i0:Nat):Int)-1))<(x0.Terms.length:Int)) <|
       bif (Op.bytesLess ((x0.Terms.getD (w64 (((i0:Nat):Int)-1)).toNat ⟨[],0⟩).Var) ((x0.Terms.getD i0 ⟨[],0⟩).Var)) then (
        some (.brk ())
       ) else (
        some (.ret (.ret false))
       )
      ) else (
       some (.brk ())
      )
     ) else (
      some (.ret (.ret false))
     )
    )
   ) else (
    some (.ret (.ret false))
   )
  ):Option (Out Unit (Stp Unit Unit Bool))).bind (aft fun u0 =>
   some (.go ())
  )
 ) (fun i0 s0=>()) (x0.Terms.length-0) 0 ()).bind <| aft fun u1 =>
 (linear_in x0.Const).bind fun y2 =>
 bif y2 then (
  some (decide (((x0.Terms.length:Nat):Int)≤12))
 ) else (
  some false
 )
def linear_Valid_S1 (x0:Linear) (i0:Nat) (s0:Unit):AS:=⟨54,[(1,.hptr 1 0),(2,.bool false),(6,dS cCoef x0.Terms),(7,nI x0.Terms.length),(8,nI i0)],[(1,.cells 39 [iI x0.Const,dS cCoef x0.Terms])]⟩
def linear_Valid_S2 (x0:Linear) (u2:Unit):AS:=⟨54,[(1,.hptr 1 0),(2,.bool false)],[(1,.cells 39 [iI x0.Const,dS cCoef x0.Terms])]⟩
def linear_Valid_S3 (x0:Linear) (i0:Nat) (u0:Unit):AS:=⟨54,[(1,.hptr 1 0),(2,.bool false),(6,dS cCoef x0.Terms),(7,nI x0.Terms.length),(8,nI i0)],[(1,.cells 39 [iI x0.Const,dS cCoef x0.Terms])]⟩
theorem linear_Valid_c (x0:Linear) (r:Bool) (H:linear_Valid x0=some r):AFn Tryz.prog 99 [.agg [iI x0.Const,dS cCoef x0.Terms]] (.bool r):=by
 unfold linear_Valid at H
 refine acallX Tryz.func99 54 [.tmp 2] (by kernel_rfl) (by kernel_rfl) ?_
 refine p_at mo 6 [r0 [.m,.v],r0 [.v,.v,.e (nI x0.Terms.length),.v]] [.only [1,2,6,7,8] [1]] 6 [] (linear_Valid_S1 x0 0 ()) (aT (aC (lenm cCoef x0.Terms) aN)) (by kernel_rfl) ?_
 refine bnd H fun R0 h0 H0 => ?_
 refine p_joinO 1 (linear_Valid_S2 x0) R0 (by kernel_rfl) ?_ (fun u1 e0 => ?_)
 ·refine p_cnt (linear_Valid_S1 x0) (by kernel_rfl) h0 (fun i0 s0 h1 e1 => ?_) (fun i0 s0 h2 q0 h3 h4 => ?_)
  ·have c0:=lF i0 x0.Terms.length (by omega)
   subst e1
   exact p_bar mo 5 [r0 [.e (.bool false)]] [.only [1,2] [1]] (linear_Valid_S2 x0 ()) (aB c0 aN) (by kernel_rfl)
  ·have c1:=lT i0 x0.Terms.length (by omega)
   refine bnd h3 fun y0 h5 H1 => ?_
   refine p_at mo 10 [r0 [.e (.bool true)],r0 [.v,.e (.dptr [.str ((x0.Terms.getD i0 ⟨[],0⟩).Var),iI ((x0.Terms.getD i0 ⟨[],0⟩).C)]),.v,.m,.v,.m]] [.only [1,2,3,4,6,7,8] [1,4]] 10 [true] ⟨54,[(1,.hptr 1 0),(2,.bool false),(3,nI i0),(4,.hptr 4 0),(6,dS cCoef x0.Terms),(7,nI x0.Terms.length),(8,nI i0)],[(1,.cells 39 [iI x0.Const,dS cCoef x0.Terms]),(4,.cells 44 [.str ((x0.Terms.getD i0 ⟨[],0⟩).Var),iI ((x0.Terms.getD i0 ⟨[],0⟩).C)])]⟩ (aB c1 (all_app (ix (f:=cCoef) (l:=x0.Terms) (n:=i0) ⟨[],0⟩ cCoef_len (by decide) (by omega)) aN)) (by kernel_rfl) ?_
   refine bnd H1 fun v0 h6 H2 => ?_
   refine p_joinO 2 (linear_Valid_S3 x0 i0) v0 (by kernel_rfl) ?_ (fun u0 e2 => ?_)
   ·refine bsp h6 (fun c2 H3 => ?_) (fun c3 H4 => ?_)
    ·refine bsp H3 (fun c4 H5 => ?_) (fun c5 H6 => ?_)
     ·obtain rfl:=sI H5
      obtain rfl:=sI (aft_ret H2)
      obtain rfl:=out_ret h4
      obtain rfl:=sI (aft_ret H0)
      exact p_ret mo 5 [.rg 28 [.v,.v,.c true (.bool true),.v,.v,.v,.v,.e (.bool true),.v,.v,.s,.s,.s,.s,.v,.v,.s,.s,.s,.s,.s,.s,.s,.s,.s,.s,.s,.s] [.s,.s,.v],r0 [.v]] [] [] (aC Tryz.call96 (aC (AFn.eq (linear_Name_c ((x0.Terms.getD i0 ⟨[],0⟩).Var) y0 h5) (cB c2)) (aT (aB c4 aN)))) (by kernel_rfl)
     ·refine bnd H6 fun y1 h7 H7 => ?_
      refine bsp H7 (fun c6 H8 => ?_) (fun c7 H9 => ?_)
      ·refine bsp H8 (fun c8 H10 => ?_) (fun c9 H11 => ?_)
       ·refine grd_e H10 fun g0 H12 => ?_
        refine p_at mo 1 [.rg 28 [.v,.v,.c true (.bool true),.v,.v,.v,.v,.e (.bool false),.v,.v,.v,.v,.c true (.bool true),.v,.v,.v,.v,.e (.bool true),.v,.v,.v,.v,.w,.e (.dptr [.str ((x0.Terms.getD (w64 (((i0:Nat):Int)-1)).toNat ⟨[],0⟩).Var),iI ((x0.Terms.getD (w64 (((i0:Nat):Int)-1)).toNat ⟨[],0⟩).C)]),.v,.v,.v,.v] [.v,.v,.v]] [.only [1,2,6,7,8,43] [1]] 1 [] ⟨54,[(1,.hptr 1 0),(2,.bool false),(6,dS cCoef x0.Terms),(7,nI x0.Terms.length),(8,nI i0),(43,.bool (!(Op.bytesLess ((x0.Terms.getD (w64 (((i0:Nat):Int)-1)).toNat ⟨[],0⟩).Var) ((x0.Terms.getD i0 ⟨[],0⟩).Var))))],[(1,.cells 39 [iI x0.Const,dS cCoef x0.Terms])]⟩ (aC Tryz.call96 (aC (AFn.eq (linear_Name_c ((x0.Terms.getD i0 ⟨[],0⟩).Var) y0 h5) (cB c2)) (aT (aB c5 (aC Tryz.call170 (aC (AFn.eq (linear_in_c ((x0.Terms.getD i0 ⟨[],0⟩).C) y1 h7) (cB c6)) (aT (aB c8 (all_app (ixz (f:=cCoef) (l:=x0.Terms) (n:=(w64 (((i0:Nat):Int)-1))) ⟨[],0⟩ cCoef_len (by decide) (by exact g0)) aN))))))))) (by kernel_rfl) ?_
        refine bsp H12 (fun c10 H13 => ?_) (fun c11 H14 => ?_)
        ·obtain rfl:=sI H13
         exact p_bar mo 3 [.eqT 43 (.bool false)] [.only [1,2,6,7,8] [1]] (linear_Valid_S3 x0 i0 ()) (aM c10 aN) (by kernel_rfl)
        ·obtain rfl:=sI H14
         obtain rfl:=sI (aft_ret H2)
         obtain rfl:=out_ret h4
         obtain rfl:=sI (aft_ret H0)
         exact p_ret mo 5 [.eqT 43 (.bool true),r0 [.v]] [] [] (aM c11 aN) (by kernel_rfl)
       ·obtain rfl:=sI H11
        exact p_bar mo 3 [.rg 28 [.v,.v,.c true (.bool true),.v,.v,.v,.v,.e (.bool false),.v,.v,.v,.v,.c true (.bool true),.v,.v,.v,.v,.e (.bool false),.v,.s,.s,.s,.s,.s,.s,.s,.s,.s] [.s,.v,.v]] [.only [1,2,6,7,8] [1]] (linear_Valid_S3 x0 i0 ()) (aC Tryz.call96 (aC (AFn.eq (linear_Name_c ((x0.Terms.getD i0 ⟨[],0⟩).Var) y0 h5) (cB c2)) (aT (aB c5 (aC Tryz.call170 (aC (AFn.eq (linear_in_c ((x0.Terms.getD i0 ⟨[],0⟩).C) y1 h7) (cB c6)) (aT (aB c9 aN)))))))) (by kernel_rfl)
      ·obtain rfl:=sI H9
       obtain rfl:=sI (aft_ret H2)
       obtain rfl:=out_ret h4
       obtain rfl:=sI (aft_ret H0)
       exact p_ret mo 5 [.rg 28 [.v,.v,.c true (.bool true),.v,.v,.v,.v,.e (.bool false),.v,.v,.v,.v,.c true (.bool false),.v,.v,.v,.s,.s,.s,.s,.s,.s,.s,.s,.s,.s,.s,.s] [.s,.s,.v],r0 [.v]] [] [] (aC Tryz.call96 (aC (AFn.eq (linear_Name_c ((x0.Terms.getD i0 ⟨[],0⟩).Var) y0 h5) (cB c2)) (aT (aB c5 (aC Tryz.call170 (aC (AFn.eq (linear_in_c ((x0.Terms.getD i0 ⟨[],0⟩).C) y1 h7) (cB c7)) (aT aN))))))) (by kernel_rfl)
    ·obtain rfl:=sI H4
     obtain rfl:=sI (aft_ret H2)
     obtain rfl:=out_ret h4
     obtain rfl:=sI (aft_ret H0)
     exact p_ret mo 5 [.rg 28 [.v,.v,.c true (.bool false),.v,.v,.s,.s,.s,.v,.v,.s,.s,.s,.s,.v,.v,.s,.s,.s,.s,.s,.s,.s,.s,.s,.s,.s,.s] [.s,.s,.v],r0 [.v]] [] [] (aC Tryz.call96 (aC (AFn.eq (linear_Name_c ((x0.Terms.getD i0 ⟨[],0⟩).Var) y0 h5) (cB c3)) (aT aN))) (by kernel_rfl)
   ·subst e2
    have H15:=aft_brk H2
    refine t_lens 6 (ps:=[(x0.Terms.map cCoef).length≤9223372036854775807]) (by kernel_rfl) (fun l0 => ?_)
    have l1:x0.Terms.length≤9223372036854775807:=by simpa only [All,List.length_map] using l0
    clear l0
    obtain rfl:=sI H15
    exact p_bar mo 1 [r0 [.v,.v]] [.only [1,2,6,7,8] [1]] (linear_Valid_S1 x0 (i0+1) ()) (aC (pI i0 (by omega)) aN) (by kernel_rfl)
 ·subst e0
  have H16:=aft_brk H0
  refine bnd H16 fun y2 h8 H17 => ?_
  refine bsp H17 (fun c12 H18 => ?_) (fun c13 H19 => ?_)
  ·obtain rfl:=sI H18
   exact p_ret mo 3 [r0 [.v,.v,.c true (.bool true),.v,.v,.v,.e (nI x0.Terms.length),.v,.v,.v]] [] [] (aC Tryz.call170 (aC (AFn.eq (linear_in_c x0.Const y2 h8) (cB c12)) (aT (aC (lenm cCoef x0.Terms) aN)))) (by kernel_rfl)
  ·obtain rfl:=sI H19
   exact p_ret mo 3 [r0 [.v,.v,.c true (.bool false),.v,.s,.s,.s,.s,.v,.v]] [] [] (aC Tryz.call170 (aC (AFn.eq (linear_in_c x0.Const y2 h8) (cB c13)) aN)) (by kernel_rfl)
/-- framewise/poly.newSum -/
def poly_newSum  : Option ((List (Str×(List Str)))×(List (Str×(List Int)))×(List (Str×(List Int)))) :=
 some ([],[],[])
theorem poly_newSum_c  (r:((List (Str×(List Str)))×(List (Str×(List Int)))×(List (Str×(List Int))))) (H:poly_newSum  = some r):ACall Tryz.prog 131 [] [] (fun r2 h0=>r2=(.agg [.amap 1,.amap 2,.amap 3])∧h0=[(1,.smap 9 90 (r.1.map (mapV cL_cStr))),(2,.rmap 3 1 (rcm cInt_i64 r.2.1)),(3,.rmap 3 1 (rcm cInt_i64 r.2.2))]):=by
 unfold poly_newSum at H
 refine acallX Tryz.func131 5 [.cell 0 144] (by kernel_rfl) (by kernel_rfl) ?_
 obtain rfl:=sI H
 exact p_ret mo 5 [r0 [.m],r0 [.m,.m,.tr 2 3 1,.m,.tr 3 3 1,.b,.m]] [] [1,2,3] aN (by kernel_rfl)
/-- (framewise/poly.sum).add -/
def poly_sum_add (x0:(List Str)) (x1:Int) (x2:Int) (x3:(List (Str×(List Str)))) (x4:(List (Str×(List Int)))) (x5:(List (Str×(List Int)))):Option ((List (Str×(List Str)))×(List (Str×(List Int)))×(List (Str×(List Int)))) :=
 (lib_ValuesS x0).bind fun y0 =>
 (lib_SortedS y0).bind fun y1 =>
 (lib_Join y1 [42]).bind fun y2 =>
 grd (((mget [] y2 x4).length+[x1].length)*8≤140737488355328) <|
 grd (((mget [] y2 x5).length+[x2].length)*8≤140737488355328) <|
 grd (x4.length+1<1000000) <|
 grd (x5.length+1<1000000) <|
 some ((mput y2 y1 x3),(mput y2 ((mget [] y2 x4)++[x1]) x4),(mput y2 ((mget [] y2 x5)++[x2]) x5))
theorem poly_sum_add_c (x0:(List Str)) (x1:Int) (x2:Int) (x3:(List (Str×(List Str)))) (x4:(List (Str×(List Int)))) (x5:(List (Str×(List Int)))) (r:((List (Str×(List Str)))×(List (Str×(List Int)))×(List (Str×(List Int))))) (H:poly_sum_add x0 x1 x2 x3 x4 x5=some r):ACall Tryz.prog 132 [.agg [.amap 1000,.amap 1001,.amap 1002],dS cStr x0,iI x1,iI x2] [(1000,.smap 9 90 (x3.map (mapV cL_cStr))),(1001,.rmap 3 1 (rcm cInt_i64 x4)),(1002,.rmap 3 1 (rcm cInt_i64 x5))] (fun r2 h0=>r2=(.tup [])∧h0=[(1000,.smap 9 90 (r.1.map (mapV cL_cStr))),(1001,.rmap 3 1 (rcm cInt_i64 r.2.1)),(1002,.rmap 3 1 (rcm cInt_i64 r.2.2))]):=by
 unfold poly_sum_add at H
 refine acallX Tryz.func132 40 [] (by kernel_rfl) (by kernel_rfl) ?_
 refine bnd H fun y0 h1 H0 => ?_
 refine bnd H0 fun y1 h2 H1 => ?_
 refine bnd H1 fun y2 h3 H2 => ?_
 refine grd_e H2 fun g0 H3 => ?_
 refine grd_e H3 fun g1 H4 => ?_
 refine grd_e H4 fun g2 H5 => ?_
 refine grd_e H5 fun g3 H6 => ?_
 obtain rfl:=sI H6
 exact p_ret mo 9 [r0 [.m],r0 [.v,.c true (.fn 251 [.dptr [dS cStr y0]]),.c true (dS cStr y1),.v],r0 [.v,.c true (.str y2),.v],r0 [.v,.v,.v,.v,.m,.rwH 1000 (.smap 9 90 ((mput y2 y1 x3).map (mapV cL_cStr)))],.rg 23 [.ent ⟨142,1001,y2,38,39,20,21,22⟩,.v,.v,.v,.v,.v,.v,.v,.v,.v,.lk ((mget [] y2 x4).map cInt_i64) (rhole y2 (rcm cInt_i64 x4)),.v,.b,.apx (((mget [] y2 x4)++[x1]).map cInt_i64),.v,.v,.v,.lk ((mget [] y2 x5).map cInt_i64) (rhole y2 (rcm cInt_i64 x5)),.v,.b,.apx (((mget [] y2 x5)++[x2]).map cInt_i64),.e1 (rent y2 (rhole y2 (rcm cInt_i64 x4))),.e2,.e3 (rcm cInt_i64 (mput y2 ((mget [] y2 x4)++[x1]) x4))] [.ms (rcm cInt_i64 (mput y2 ((mget [] y2 x5)++[x2]) x5))]] [] [1000,1001,1002] (aC Tryz.call206 (aF (lib_ValuesS_c x0 y0 h1) (aC Tryz.call205 (aF (lib_SortedS_c y0 y1 h2) (aC Tryz.call153 (aF (lib_Join_c y1 [42] y2 h3) (aC (congrArg (AO.smap 9 90) (aput_mapV (c:=cL_cStr) y2 y1 x3)) (aC (rcm_ok cInt_i64 y2 x4) (aC (rcm_get cInt_i64 y2 x4) (aC (Eq.refl (rhole y2 (rcm cInt_i64 x4))) (all_app (apXP (c:=cInt_i64) cInt_i64_ok (mget [] y2 x4) [x1] 8 (by decide) (by simpa using g0) List.map_append.symm) (aC (rcm_ok cInt_i64 y2 x5) (aC (rcm_get cInt_i64 y2 x5) (aC (Eq.refl (rhole y2 (rcm cInt_i64 x5))) (all_app (apXP (c:=cInt_i64) cInt_i64_ok (mget [] y2 x5) [x2] 8 (by decide) (by simpa using g1) List.map_append.symm) (aC (Eq.refl y2) (aC (rcm_lenh cInt_i64 y2 x4 g2) (aC (Eq.refl (rent y2 (rhole y2 (rcm cInt_i64 x4)))) (aC (rcm_lene cInt_i64 y2 x4 g2) (aC (rcm_pute cInt_i64 y2 ((mget [] y2 x4)++[x1]) x4) (aC (rcm_lenh cInt_i64 y2 x5 g3) (aC (rcm_puth cInt_i64 y2 ((mget [] y2 x5)++[x2]) x5) aN)))))))))))))))))))))) (by kernel_rfl)
/-- framewise/intmath.in -/
def intmath_in (x0:(List Int)):Option Bool :=
 (cnt (σ:=Unit) (ε:=Unit) (ρ:=Bool) (fun i0 s0 =>
  bif decide ((x0.getD i0 0)<(-4611686018427387904)) then (
   some (.ret false)
  ) else (
   bif decide ((x0.getD i0 0)>4611686018427387904) then (
    some (.ret false)
   ) else (
    some (.go ())
   )
  )
 ) (fun i0 s0=>()) (x0.length-0) 0 ()).bind <| aft fun u0 =>
 some true
def intmath_in_S1 (x0:(List Int)) (i0:Nat) (s0:Unit):AS:=⟨18,[(2,.bool false),(5,dS cInt_i64 x0),(6,nI x0.length),(7,nI i0)],[]⟩
def intmath_in_S2 (u1:Unit):AS:=⟨18,[(2,.bool false)],[]⟩
theorem intmath_in_c (x0:(List Int)) (r:Bool) (H:intmath_in x0=some r):AFn Tryz.prog 189 [dS cInt_i64 x0] (.bool r):=by
 unfold intmath_in at H
 refine acallX Tryz.func189 18 [.tmp 2] (by kernel_rfl) (by kernel_rfl) ?_
 refine p_at mo 6 [r0 [.v],r0 [.v,.e (nI x0.length),.v]] [.only [2,5,6,7] []] 6 [] (intmath_in_S1 x0 0 ()) (aT (aC (lenm cInt_i64 x0) aN)) (by kernel_rfl) ?_
 refine bnd H fun R0 h0 H0 => ?_
 refine p_joinO 1 (intmath_in_S2) R0 (by kernel_rfl) ?_ (fun u0 e0 => ?_)
 ·refine p_cnt (intmath_in_S1 x0) (by kernel_rfl) h0 (fun i0 s0 h1 e1 => ?_) (fun i0 s0 h2 q0 h3 h4 => ?_)
  ·have c0:=lF i0 x0.length (by omega)
   subst e1
   exact p_bar mo 5 [r0 [.e (.bool false)]] [.only [2] []] (intmath_in_S2 ()) (aB c0 aN) (by kernel_rfl)
  ·have c1:=lT i0 x0.length (by omega)
   refine bsp h3 (fun c2 H1 => ?_) (fun c3 H2 => ?_)
   ·have c2p:=of_decide_eq_true c2
    obtain rfl:=sI H1
    obtain rfl:=out_ret h4
    obtain rfl:=sI (aft_ret H0)
    exact p_ret mo 15 [r0 [.e (.bool true)],r0 [.e (.dptr [iI (x0.getD i0 0)]),.v,.v],r0 [.v,.e (.bool true),.v,.s,.s,.v],r0 [.v]] [] [] (aB c1 (all_app (ix (f:=cInt_i64) (l:=x0) (n:=i0) 0 cInt_i64_len (by decide) (by omega)) (aB c2 aN))) (by kernel_rfl)
   ·have c3p:=of_decide_eq_false c3
    refine bsp H2 (fun c4 H3 => ?_) (fun c5 H4 => ?_)
    ·have c4p:=of_decide_eq_true c4
     obtain rfl:=sI H3
     obtain rfl:=out_ret h4
     obtain rfl:=sI (aft_ret H0)
     exact p_ret mo 16 [r0 [.e (.bool true)],r0 [.e (.dptr [iI (x0.getD i0 0)]),.v,.v],r0 [.v,.e (.bool false),.v,.v,.v,.v],.eqT 16 (.bool true),r0 [.v]] [] [] (aB c1 (all_app (ix (f:=cInt_i64) (l:=x0) (n:=i0) 0 cInt_i64_len (by decide) (by omega)) (aB c3 (aB c4 aN)))) (by kernel_rfl)
    ·have c5p:=of_decide_eq_false c5
     refine t_lens 5 (ps:=[(x0.map cInt_i64).length≤9223372036854775807]) (by kernel_rfl) (fun l0 => ?_)
     have l1:x0.length≤9223372036854775807:=by simpa only [All,List.length_map] using l0
     clear l0
     obtain rfl:=sI H4
     exact p_bar mo 15 [r0 [.e (.bool true)],r0 [.e (.dptr [iI (x0.getD i0 0)]),.v,.v],r0 [.v,.e (.bool false),.v,.v,.v,.v],.eqT 16 (.bool false),r0 [.v,.v]] [.only [2,5,6,7] []] (intmath_in_S1 x0 (i0+1) ()) (aB c1 (all_app (ix (f:=cInt_i64) (l:=x0) (n:=i0) 0 cInt_i64_len (by decide) (by omega)) (aB c3 (aB c5 (aC (pI i0 (by omega)) aN))))) (by kernel_rfl)
 ·subst e0
  have H5:=aft_brk H0
  obtain rfl:=sI H5
  exact p_ret mo 3 [r0 [.v]] [] [] aN (by kernel_rfl)
/-- framewise/intmath.abs -/
def intmath_abs (x0:Int):Option Int :=
 bif decide (x0<0) then (
  some (w64 (0-x0))
 ) else (
  some x0
 )
theorem intmath_abs_c (x0:Int) (r:Int) (H:intmath_abs x0=some r):AFn Tryz.prog 239 [iI x0] (iI r):=by
 unfold intmath_abs at H
 refine acallX Tryz.func239 8 [.tmp 2] (by kernel_rfl) (by kernel_rfl) ?_
 refine bsp H (fun c0 H0 => ?_) (fun c1 H1 => ?_)
 ·obtain rfl:=sI H0
  exact p_ret mo 10 [r0 [.v],r0 [.v,.v],.eqT 4 (.bool true),r0 [.v,.w,.v]] [] [] (aB c0 aN) (by kernel_rfl)
 ·refine some_e H1 fun e0 => ?_
  subst e0
  exact p_ret mo 11 [r0 [.v],r0 [.v,.v],.eqT 4 (.bool false),r0 [.v,.v]] [] [] (aB c1 aN) (by kernel_rfl)
/-- (*framewise/intmath.total).add -/
def intmath_total_add (x0:Int) (x1:Int) (x2:Int) (x3:Int) (x4:Int) (x5:Int) (x6:Int) (x7:Int):Option (Int×Int×Int×Int×Int×Int) :=
 bif (decide (x0<0)==decide (x1<0)) then (
  (intmath_abs x0).bind fun y0 =>
  (intmath_abs x1).bind fun y1 =>
  (lib_Mul64 (IntKind.wrap .u64 y0) (IntKind.wrap .u64 y1)).bind fun y2 =>
  (lib_Add64 x2 y2.2 0).bind fun y3 =>
  (lib_Add64 x3 y2.1 y3.2).bind fun y4 =>
  (lib_Add64 x4 0 y4.2).bind fun y5 =>
  some (y3.1,y4.1,y5.1,x5,x6,x7)
 ) else (
  (intmath_abs x0).bind fun y6 =>
  (intmath_abs x1).bind fun y7 =>
  (lib_Mul64 (IntKind.wrap .u64 y6) (IntKind.wrap .u64 y7)).bind fun y8 =>
  (lib_Add64 x5 y8.2 0).bind fun y9 =>
  (lib_Add64 x6 y8.1 y9.2).bind fun y10 =>
  (lib_Add64 x7 0 y10.2).bind fun y11 =>
  some (x2,x3,x4,y9.1,y10.1,y11.1)
 )
theorem intmath_total_add_c (x0:Int) (x1:Int) (x2:Int) (x3:Int) (x4:Int) (x5:Int) (x6:Int) (x7:Int) (r:(Int×Int×Int×Int×Int×Int)) (H:intmath_total_add x0 x1 x2 x3 x4 x5 x6 x7=some r):ACall Tryz.prog 190 [.hptr 1000 0,iI x0,iI x1] [(1000,.cells 202 [.int .u64 x2,.int .u64 x3,.int .u64 x4,.int .u64 x5,.int .u64 x6,.int .u64 x7])] (fun r2 h0=>r2=(.tup [])∧h0=[(1000,.cells 202 [.int .u64 r.1,.int .u64 r.2.1,.int .u64 r.2.2.1,.int .u64 r.2.2.2.1,.int .u64 r.2.2.2.2.1,.int .u64 r.2.2.2.2.2])]):=by
 unfold intmath_total_add at H
 refine acallX Tryz.func190 54 [] (by kernel_rfl) (by kernel_rfl) ?_
 refine bsp H (fun c0 H0 => ?_) (fun c1 H1 => ?_)
 ·refine bnd H0 fun y0 h1 H2 => ?_
  refine bnd H2 fun y1 h2 H3 => ?_
  refine bnd H3 fun y2 h3 H4 => ?_
  refine bnd H4 fun y3 h4 H5 => ?_
  refine bnd H5 fun y4 h5 H6 => ?_
  refine bnd H6 fun y5 h6 H7 => ?_
  obtain rfl:=sI H7
  exact p_ret mo 57 [r0 [.v],r0 [.v,.v,.v,.v,.v],.eqT 16 (.bool false),r0 [.v,.c true (iI y0),.v,.v,.c true (iI y1),.v,.c true (.tup [.int .u64 y2.1,.int .u64 y2.2]),.v,.v,.v,.v,.v],r0 [.v],r0 [.v,.v,.b,.v],.un,r0 [.v],r0 [.v,.v,.v,.v],.rg 20 [.v,.v,.v,.v,.v,.v,.v,.v,.v,.v,.v,.v,.xc (.tup [.int .u64 y3.1,.int .u64 y3.2]),.v,.v,.v,.v,.v,.v,.m] [.v],r0 [.v,.v],.cv [.only [0,6,9,29,30] [1000]],r0 [.v],r0 [.v,.v,.v,.v],.rg 20 [.v,.v,.v,.v,.v,.v,.v,.v,.v,.v,.v,.v,.xc (.tup [.int .u64 y4.1,.int .u64 y4.2]),.v,.v,.v,.v,.v,.v,.m] [.v],r0 [.v,.v],.cv [.only [0,6,9,29,30] [1000]],r0 [.v],r0 [.v,.v,.v,.v],.rg 20 [.v,.v,.v,.v,.v,.v,.v,.v,.v,.v,.v,.v,.xc (.tup [.int .u64 y5.1,.int .u64 y5.2]),.v,.v,.v,.v,.v,.v,.m] [.v],r0 [.v,.v],.cv [.only [0,6,9,29,30] [1000]],r0 [.v]] [] [1000] (aM c0 (aC Tryz.call239 (aF (intmath_abs_c x0 y0 h1) (aT (aC Tryz.call239 (aF (intmath_abs_c x1 y1 h2) (aT (aC Tryz.call238 (aF (lib_Mul64_c (IntKind.wrap .u64 y0) (IntKind.wrap .u64 y1) y2 h3) (aT (aT (aT (aC (lib_Add64_c x2 y2.2 0 y3 h4) (aT (aT (aC (show I64 (0+1) from by unfold I64;omega) (aT (aT (aT (aC (lib_Add64_c x3 y2.1 y3.2 y4 h5) (aT (aT (aC (show I64 (1+1) from by unfold I64;omega) (aT (aT (aT (aC (lib_Add64_c x4 0 y4.2 y5 h6) (aT (aT (aC (show I64 (2+1) from by unfold I64;omega) aN)))))))))))))))))))))))))))))) (by kernel_rfl)
 ·refine bnd H1 fun y6 h7 H8 => ?_
  refine bnd H8 fun y7 h8 H9 => ?_
  refine bnd H9 fun y8 h9 H10 => ?_
  refine bnd H10 fun y9 h10 H11 => ?_
  refine bnd H11 fun y10 h11 H12 => ?_
  refine bnd H12 fun y11 h12 H13 => ?_
  obtain rfl:=sI H13
  exact p_ret mo 57 [r0 [.v],r0 [.v,.v,.v,.v,.v],.eqT 16 (.bool true),r0 [.v],r0 [.v,.c true (iI y6),.v,.v,.c true (iI y7),.v,.c true (.tup [.int .u64 y8.1,.int .u64 y8.2]),.v,.v,.v,.v,.v],r0 [.v],r0 [.v,.v,.b,.v],.un,r0 [.v],r0 [.v,.v,.v,.v],.rg 20 [.v,.v,.v,.v,.v,.v,.v,.v,.v,.v,.v,.v,.xc (.tup [.int .u64 y9.1,.int .u64 y9.2]),.v,.v,.v,.v,.v,.v,.m] [.v],r0 [.v,.v],.cv [.only [0,6,9,29,30] [1000]],r0 [.v],r0 [.v,.v,.v,.v],.rg 20 [.v,.v,.v,.v,.v,.v,.v,.v,.v,.v,.v,.v,.xc (.tup [.int .u64 y10.1,.int .u64 y10.2]),.v,.v,.v,.v,.v,.v,.m] [.v],r0 [.v,.v],.cv [.only [0,6,9,29,30] [1000]],r0 [.v],r0 [.v,.v,.v,.v],.rg 20 [.v,.v,.v,.v,.v,.v,.v,.v,.v,.v,.v,.v,.xc (.tup [.int .u64 y11.1,.int .u64 y11.2]),.v,.v,.v,.v,.v,.v,.m] [.v],r0 [.v,.v],.cv [.only [0,6,9,29,30] [1000]],r0 [.v]] [] [1000] (aM c1 (aC Tryz.call239 (aF (intmath_abs_c x0 y6 h7) (aT (aC Tryz.call239 (aF (intmath_abs_c x1 y7 h8) (aT (aC Tryz.call238 (aF (lib_Mul64_c (IntKind.wrap .u64 y6) (IntKind.wrap .u64 y7) y8 h9) (aT (aT (aT (aC (lib_Add64_c x5 y8.2 0 y9 h10) (aT (aT (aC (show I64 (0+1) from by unfold I64;omega) (aT (aT (aT (aC (lib_Add64_c x6 y8.1 y9.2 y10 h11) (aT (aT (aC (show I64 (1+1) from by unfold I64;omega) (aT (aT (aT (aC (lib_Add64_c x7 0 y10.2 y11 h12) (aT (aT (aC (show I64 (2+1) from by unfold I64;omega) aN)))))))))))))))))))))))))))))) (by kernel_rfl)
/-- (*framewise/intmath.total).value$1 -/
def intmath_total_value_1 (x0:(Int×Int×Int)) (x1:(Int×Int×Int)):Option ((Int×Int×Int)×Bool) :=
 (lib_Sub64 x0.1 x1.1 0).bind fun y0 =>
 (lib_Sub64 x0.2.1 x1.2.1 y0.2).bind fun y1 =>
 (lib_Sub64 x0.2.2 x1.2.2 y1.2).bind fun y2 =>
 some ((y0.1,y1.1,y2.1),(y2.2==0))
theorem intmath_total_value_1_c (x0:(Int×Int×Int)) (x1:(Int×Int×Int)) (r:((Int×Int×Int)×Bool)) (H:intmath_total_value_1 x0 x1=some r):AFn Tryz.prog 241 [.agg [.int .u64 x0.1,.int .u64 x0.2.1,.int .u64 x0.2.2],.agg [.int .u64 x1.1,.int .u64 x1.2.1,.int .u64 x1.2.2]] (.tup [.agg [.int .u64 r.1.1,.int .u64 r.1.2.1,.int .u64 r.1.2.2],.bool r.2]):=by
 unfold intmath_total_value_1 at H
 refine acallX Tryz.func241 29 [.cell 4 200,.tmp 5] (by kernel_rfl) (by kernel_rfl) ?_
 refine bnd H fun y0 h0 H0 => ?_
 refine bnd H0 fun y1 h1 H1 => ?_
 refine bnd H1 fun y2 h2 H2 => ?_
 obtain rfl:=sI H2
 exact p_ret mo 55 [r0 [.m,.m,.m,.v],r0 [.m],r0 [.v],r0 [.v],.un,r0 [.v],r0 [.v,.v],.rg 14 [.v,.v,.v,.v,.v,.v,.v,.v,.xc (.tup [.int .u64 y0.1,.int .u64 y0.2]),.v,.v,.v,.v,.m] [.v],r0 [.v,.v],.cv [.only [2,3,4,5,6,7,9] [2,3,4,6]],r0 [.v],r0 [.v,.v],.rg 14 [.v,.v,.v,.v,.v,.v,.v,.v,.xc (.tup [.int .u64 y1.1,.int .u64 y1.2]),.v,.v,.v,.v,.m] [.v],r0 [.v,.v],.cv [.only [2,3,4,5,6,7,9] [2,3,4,6]],r0 [.v],r0 [.v,.v],.rg 14 [.v,.v,.v,.v,.v,.v,.v,.v,.xc (.tup [.int .u64 y2.1,.int .u64 y2.2]),.v,.v,.v,.v,.m] [.v],r0 [.v,.v],.cv [.only [2,3,4,5,6,7,9] [2,3,4,6]],r0 [.v],r0 [.v,.v,.v,.m,.v]] [] [] (aT (aT (aC (lib_Sub64_c x0.1 x1.1 0 y0 h0) (aT (aC (show I64 (0+1) from by unfold I64;omega) (aT (aT (aC (lib_Sub64_c x0.2.1 x1.2.1 y0.2 y1 h1) (aT (aC (show I64 (1+1) from by unfold I64;omega) (aT (aT (aC (lib_Sub64_c x0.2.2 x1.2.2 y1.2 y2 h2) (aT (aC (show I64 (2+1) from by unfold I64;omega) aN))))))))))))))) (by kernel_rfl)
/-- framewise/intmath.checked -/
def intmath_checked (x0:Int):Option (Int×Int) :=
 (intmath_in [x0]).bind fun y0 =>
 bif y0 then (
  some (x0,0)
 ) else (
  some (0,2)
 )
theorem intmath_checked_c (x0:Int) (r:(Int×Int)) (H:intmath_checked x0=some r):AFn Tryz.prog 243 [iI x0] (.tup [iI r.1,iI r.2]):=by
 unfold intmath_checked at H
 refine acallX Tryz.func243 9 [.tmp 2,.tmp 3] (by kernel_rfl) (by kernel_rfl) ?_
 refine bnd H fun y0 h0 H0 => ?_
 refine bsp H0 (fun c0 H1 => ?_) (fun c1 H2 => ?_)
 ·obtain rfl:=sI H1
  exact p_ret mo 11 [r0 [.v,.v],r0 [.v,.b,.c true (.bool y0),.v],.eqT 7 (.bool false),r0 [.v,.v,.v]] [] [] (aC Tryz.call189 (aF (intmath_in_c [x0] y0 h0) (aT (aM c0 aN)))) (by kernel_rfl)
 ·obtain rfl:=sI H2
  exact p_ret mo 10 [r0 [.v,.v],r0 [.v,.b,.c true (.bool y0),.v],.eqT 7 (.bool true),r0 [.v,.v]] [] [] (aC Tryz.call189 (aF (intmath_in_c [x0] y0 h0) (aT (aM c1 aN)))) (by kernel_rfl)
/-- (*framewise/intmath.total).value -/
def intmath_total_value (x0:Int) (x1:Int) (x2:Int) (x3:Int) (x4:Int) (x5:Int):Option (Int×Int) :=
 (intmath_total_value_1 (x0,x1,x2) (x3,x4,x5)).bind fun y0 =>
 bif y0.2 then (
  bif decide (y0.1.2.1>0) then (
   some (0,2)
  ) else (
   bif decide (y0.1.2.2>0) then (
    some (0,2)
   ) else (
    bif decide (y0.1.1>4611686018427387904) then (
     some (0,2)
    ) else (
     (intmath_checked (w64 (1*(IntKind.wrap .i64 y0.1.1)))).bind fun y1 =>
     some (y1.1,y1.2)
    )
   )
  )
 ) else (
  (intmath_total_value_1 (x3,x4,x5) (x0,x1,x2)).bind fun y2 =>
  bif y2.2 then (
   bif decide (y2.1.2.1>0) then (
    some (0,2)
   ) else (
    bif decide (y2.1.2.2>0) then (
     some (0,2)
    ) else (
     bif decide (y2.1.1>4611686018427387904) then (
      some (0,2)
     ) else (
      (intmath_checked (w64 ((-1)*(IntKind.wrap .i64 y2.1.1)))).bind fun y3 =>
      some (y3.1,y3.2)
     )
    )
   )
  ) else (
   some (0,2)
  )
 )
theorem intmath_total_value_c (x0:Int) (x1:Int) (x2:Int) (x3:Int) (x4:Int) (x5:Int) (r:(Int×Int)) (H:intmath_total_value x0 x1 x2 x3 x4 x5=some r):ACall Tryz.prog 191 [.hptr 1000 0] [(1000,.cells 202 [.int .u64 x0,.int .u64 x1,.int .u64 x2,.int .u64 x3,.int .u64 x4,.int .u64 x5])] (fun r2 h0=>r2=(.tup [iI r.1,iI r.2])∧h0=[(1000,.cells 202 [.int .u64 x0,.int .u64 x1,.int .u64 x2,.int .u64 x3,.int .u64 x4,.int .u64 x5])]):=by
 unfold intmath_total_value at H
 refine acallX Tryz.func191 53 [.tmp 2,.tmp 3] (by kernel_rfl) (by kernel_rfl) ?_
 refine bnd H fun y0 h1 H0 => ?_
 refine p_at mo 22 [r0 [.v,.v],r0 [.v],r0 [.b,.v],.un,r0 [.v],r0 [.v,.v,.v,.v],.rg 18 [.v,.v,.v,.v,.v,.v,.v,.v,.v,.v,.v,.v,.c true (.tup [.agg [.int .u64 y0.1.1,.int .u64 y0.1.2.1,.int .u64 y0.1.2.2],.bool y0.2]),.v,.v,.v,.m,.m] [.v],r0 [.v]] [.only [0,2,3,4,6,7,9,10,30] [7,1000]] 22 [true] ⟨53,[(0,.hptr 1000 0),(2,iI 0),(3,iI 0),(4,.fn 241 []),(6,iI 1),(7,.hptr 7 0),(9,.agg [iI 1,iI (-1)]),(10,iI 0),(30,.bool y0.2)],[(7,.cells 200 [.int .u64 y0.1.1,.int .u64 y0.1.2.1,.int .u64 y0.1.2.2]),(1000,.cells 202 [.int .u64 x0,.int .u64 x1,.int .u64 x2,.int .u64 x3,.int .u64 x4,.int .u64 x5])]⟩ (aT (aT (aC (show I64 (1-0) from by unfold I64;omega) (aT (aC Tryz.call241 (aF (intmath_total_value_1_c (x0,x1,x2) (x3,x4,x5) y0 h1) aN)))))) (by kernel_rfl) ?_
 refine bsp H0 (fun c0 H1 => ?_) (fun c1 H2 => ?_)
 ·refine bsp H1 (fun c2 H3 => ?_) (fun c3 H4 => ?_)
  ·obtain rfl:=sI H3
   exact p_ret mo 9 [.eqT 30 (.bool true),r0 [.v,.v,.e (.bool true),.v,.s,.s,.s,.v,.v,.s,.s,.s,.v],r0 [.v,.v]] [] [1000] (aB c0 (aT (aB c2 aN))) (by kernel_rfl)
  ·refine bsp H4 (fun c4 H5 => ?_) (fun c5 H6 => ?_)
   ·obtain rfl:=sI H5
    exact p_ret mo 9 [.eqT 30 (.bool true),r0 [.v,.v,.e (.bool false),.v,.v,.v,.e (.bool true),.v,.v,.s,.s,.s,.v],r0 [.v,.v]] [] [1000] (aB c0 (aT (aB c3 (aT (aB c4 aN))))) (by kernel_rfl)
   ·refine bsp H6 (fun c6 H7 => ?_) (fun c7 H8 => ?_)
    ·obtain rfl:=sI H7
     exact p_ret mo 10 [.eqT 30 (.bool true),r0 [.v,.v,.e (.bool false),.v,.v,.v,.e (.bool false),.v,.v,.v,.v,.v,.v],.eqT 43 (.bool true),r0 [.v,.v]] [] [1000] (aB c0 (aT (aB c3 (aT (aB c5 (aT (aB c6 aN))))))) (by kernel_rfl)
    ·refine bnd H8 fun y1 h2 H9 => ?_
     obtain rfl:=sI H9
     exact p_ret mo 11 [.eqT 30 (.bool true),r0 [.v,.v,.e (.bool false),.v,.v,.v,.e (.bool false),.v,.v,.v,.v,.v,.v],.eqT 43 (.bool false),r0 [.v,.v,.v,.v,.w,.c true (.tup [iI y1.1,iI y1.2]),.v,.v,.v,.v]] [] [1000] (aB c0 (aT (aB c3 (aT (aB c5 (aT (aB c7 (aT (aT (aC Tryz.call243 (aF (intmath_checked_c (w64 (1*(IntKind.wrap .i64 y0.1.1))) y1 h2) aN))))))))))) (by kernel_rfl)
 ·refine bnd H2 fun y2 h3 H10 => ?_
  refine p_at mo 18 [.eqT 30 (.bool false),r0 [.v,.v],.cv [.only [0,2,3,4,9,10] [1000]],r0 [.v],r0 [.v,.v,.v,.v],.rg 18 [.v,.v,.v,.v,.v,.v,.v,.v,.v,.v,.v,.v,.c true (.tup [.agg [.int .u64 y2.1.1,.int .u64 y2.1.2.1,.int .u64 y2.1.2.2],.bool y2.2]),.v,.v,.v,.m,.m] [.v],r0 [.v]] [.only [0,2,3,4,6,7,9,10,30] [7,1000]] 16 [false,true] ⟨53,[(0,.hptr 1000 0),(2,iI 0),(3,iI 0),(4,.fn 241 []),(6,iI (-1)),(7,.hptr 7 0),(9,.agg [iI 1,iI (-1)]),(10,iI 1),(30,.bool y2.2)],[(7,.cells 200 [.int .u64 y2.1.1,.int .u64 y2.1.2.1,.int .u64 y2.1.2.2]),(1000,.cells 202 [.int .u64 x0,.int .u64 x1,.int .u64 x2,.int .u64 x3,.int .u64 x4,.int .u64 x5])]⟩ (aB c1 (aC (show I64 (0+1) from by unfold I64;omega) (aT (aT (aC (show I64 (1-1) from by unfold I64;omega) (aT (aC Tryz.call241 (aF (intmath_total_value_1_c (x3,x4,x5) (x0,x1,x2) y2 h3) aN)))))))) (by kernel_rfl) ?_
  refine bsp H10 (fun c8 H11 => ?_) (fun c9 H12 => ?_)
  ·refine bsp H11 (fun c10 H13 => ?_) (fun c11 H14 => ?_)
   ·obtain rfl:=sI H13
    exact p_ret mo 9 [.eqT 30 (.bool true),r0 [.v,.v,.e (.bool true),.v,.s,.s,.s,.v,.v,.s,.s,.s,.v],r0 [.v,.v]] [] [1000] (aB c8 (aT (aB c10 aN))) (by kernel_rfl)
   ·refine bsp H14 (fun c12 H15 => ?_) (fun c13 H16 => ?_)
    ·obtain rfl:=sI H15
     exact p_ret mo 9 [.eqT 30 (.bool true),r0 [.v,.v,.e (.bool false),.v,.v,.v,.e (.bool true),.v,.v,.s,.s,.s,.v],r0 [.v,.v]] [] [1000] (aB c8 (aT (aB c11 (aT (aB c12 aN))))) (by kernel_rfl)
    ·refine bsp H16 (fun c14 H17 => ?_) (fun c15 H18 => ?_)
     ·obtain rfl:=sI H17
      exact p_ret mo 10 [.eqT 30 (.bool true),r0 [.v,.v,.e (.bool false),.v,.v,.v,.e (.bool false),.v,.v,.v,.v,.v,.v],.eqT 43 (.bool true),r0 [.v,.v]] [] [1000] (aB c8 (aT (aB c11 (aT (aB c13 (aT (aB c14 aN))))))) (by kernel_rfl)
     ·refine bnd H18 fun y3 h4 H19 => ?_
      obtain rfl:=sI H19
      exact p_ret mo 11 [.eqT 30 (.bool true),r0 [.v,.v,.e (.bool false),.v,.v,.v,.e (.bool false),.v,.v,.v,.v,.v,.v],.eqT 43 (.bool false),r0 [.v,.v,.v,.v,.w,.c true (.tup [iI y3.1,iI y3.2]),.v,.v,.v,.v]] [] [1000] (aB c8 (aT (aB c11 (aT (aB c13 (aT (aB c15 (aT (aT (aC Tryz.call243 (aF (intmath_checked_c (w64 ((-1)*(IntKind.wrap .i64 y2.1.1))) y3 h4) aN))))))))))) (by kernel_rfl)
  ·obtain rfl:=sI H12
   exact p_ret mo 13 [.eqT 30 (.bool false),r0 [.v,.v],.cv [.only [0,2,3,4,9,10] [1000]],r0 [.v],r0 [.v,.v]] [] [1000] (aB c9 (aC (show I64 (1+1) from by unfold I64;omega) aN)) (by kernel_rfl)
/-- framewise/intmath.Dot -/
def intmath_Dot (x0:(List Int)) (x1:(List Int)):Option (Int×Int) :=
 bif (((x0.length:Nat):Int)==((x1.length:Nat):Int)) then (
  bif decide (((x0.length:Nat):Int)>10000) then (
   some (0,3)
  ) else (
   (intmath_in x0).bind fun y0 =>
   bif y0 then (
    (intmath_in x1).bind fun y1 =>
    bif y1 then (
     (cnt (σ:=(Int×Int×Int×Int×Int×Int)) (ε:=(Int×Int×Int×Int×Int×Int)) (ρ:=Empty) (fun i0 s0 =>
      grd (i0<x1.length) <|
      (intmath_total_add (x0.getD i0 0) (x1.getD i0 0) s0.1 s0.2.1 s0.2.2.1 s0.2.2.2.1 s0.2.2.2.2.1 s0.2.2.2.2.2).bind fun y2 =>
      some (.go (y2.1,y2.2.1,y2.2.2.1,y2.2.2.2.1,y2.2.2.2.2.1,y2.2.2.2.2.2))
     ) (fun i0 s0=>(s0.1,s0.2.1,s0.2.2.1,s0.2.2.2.1,s0.2.2.2.2.1,s0.2.2.2.2.2)) (x0.length-0) 0 (0,0,0,0,0,0)).bind <| aftE fun u0 =>
     (intmath_total_value u0.1 u0.2.1 u0.2.2.1 u0.2.2.2.1 u0.2.2.2.2.1 u0.2.2.2.2.2).bind fun y3 =>
     some (y3.1,y3.2)
    ) else (
     some (0,2)
    )
   ) else (
    some (0,2)
   )
  )
 ) else (
  some (0,1)
 )
def intmath_Dot_S1 (x0:(List Int)) (x1:(List Int)) (i0:Nat) (s0:(Int×Int×Int×Int×Int×Int)):AS:=⟨45,[(1,dS cInt_i64 x1),(4,iI 0),(5,iI 0),(6,.hptr 6 0),(28,dS cInt_i64 x0),(29,nI x0.length),(30,nI i0)],[(6,.cells 202 [.int .u64 s0.1,.int .u64 s0.2.1,.int .u64 s0.2.2.1,.int .u64 s0.2.2.2.1,.int .u64 s0.2.2.2.2.1,.int .u64 s0.2.2.2.2.2])]⟩
def intmath_Dot_S2 (u1:(Int×Int×Int×Int×Int×Int)):AS:=⟨45,[(4,iI 0),(5,iI 0),(6,.hptr 6 0)],[(6,.cells 202 [.int .u64 u1.1,.int .u64 u1.2.1,.int .u64 u1.2.2.1,.int .u64 u1.2.2.2.1,.int .u64 u1.2.2.2.2.1,.int .u64 u1.2.2.2.2.2])]⟩
theorem intmath_Dot_c (x0:(List Int)) (x1:(List Int)) (r:(Int×Int)) (H:intmath_Dot x0 x1=some r):AFn Tryz.prog 207 [dS cInt_i64 x0,dS cInt_i64 x1] (.tup [iI r.1,iI r.2]):=by
 unfold intmath_Dot at H
 refine acallX Tryz.func207 45 [.tmp 4,.tmp 5] (by kernel_rfl) (by kernel_rfl) ?_
 refine bsp H (fun c0 H0 => ?_) (fun c1 H1 => ?_)
 ·refine p_at mo 10 [.rg 0 [] [.v,.v],.rg 0 [] [.v,.e (.int .i64 ((x0.length:Nat):Int)),.v,.e (.int .i64 ((x1.length:Nat):Int)),.v,.v],.eqT 9 (.bool false),.rg 0 [] [.v,.e (.int .i64 ((x0.length:Nat):Int)),.v,.v]] [.only [0,1,4,5,15] []] 9 [false] ⟨45,[(0,.dslice (x0.map cInt_i64)),(1,.dslice (x1.map cInt_i64)),(4,.int .i64 0),(5,.int .i64 0),(15,.bool (decide (((x0.length:Nat):Int)>10000)))],[]⟩ (aT (aC (lenm cInt_i64 x0) (aT (aC (lenm cInt_i64 x1) (aM c0 (aT (aC (lenm cInt_i64 x0) aN))))))) (by kernel_rfl) ?_
  refine bsp H0 (fun c2 H2 => ?_) (fun c3 H3 => ?_)
  ·obtain rfl:=sI H2
   exact p_ret mo 5 [.eqT 15 (.bool true),r0 [.v,.v]] [] [] (aB c2 aN) (by kernel_rfl)
  ·have c3p:=of_decide_eq_false c3
   refine bnd H3 fun y0 h0 H4 => ?_
   refine bsp H4 (fun c4 H5 => ?_) (fun c5 H6 => ?_)
   ·refine bnd H5 fun y1 h1 H7 => ?_
    refine bsp H7 (fun c6 H8 => ?_) (fun c7 H9 => ?_)
    ·refine p_at mo 13 [.eqT 15 (.bool false),.rg 0 [] [.v,.c true (.bool true),.v,.v,.v,.c true (.bool y1),.v,.v,.v],.eqT 19 (.bool false),.rg 0 [] [.m],.rg 0 [] [.v,.e (.int .i64 ((x0.length:Nat):Int)),.v]] [.only [1,4,5,6,28,29,30] [6]] 11 [false,false] (intmath_Dot_S1 x0 x1 0 (0,0,0,0,0,0)) (aB c3 (aC Tryz.call189 (aC (AFn.eq (intmath_in_c x0 y0 h0) (cB c4)) (aT (aC Tryz.call189 (aF (intmath_in_c x1 y1 h1) (aT (aM c6 (aT (aC (lenm cInt_i64 x0) aN)))))))))) (by kernel_rfl) ?_
     refine bnd H8 fun R0 h2 H10 => ?_
     refine p_joinO 1 (intmath_Dot_S2) R0 (by kernel_rfl) ?_ (fun u0 e0 => ?_)
     ·refine p_cnt (intmath_Dot_S1 x0 x1) (by kernel_rfl) h2 (fun i0 s0 h3 e1 => ?_) (fun i0 s0 h4 q0 h5 h6 => ?_)
      ·have c8:=lF i0 x0.length (by omega)
       subst e1
       exact p_bar mo 5 [r0 [.e (.bool false)]] [.only [4,5,6] [6]] (intmath_Dot_S2 (s0.1,s0.2.1,s0.2.2.1,s0.2.2.2.1,s0.2.2.2.2.1,s0.2.2.2.2.2)) (aB c8 aN) (by kernel_rfl)
      ·have c9:=lT i0 x0.length (by omega)
       refine grd_e h5 fun g0 H11 => ?_
       refine bnd H11 fun y2 h7 H12 => ?_
       refine t_lens 28 (ps:=[(x0.map cInt_i64).length≤9223372036854775807]) (by kernel_rfl) (fun l0 => ?_)
       have l1:x0.length≤9223372036854775807:=by simpa only [All,List.length_map] using l0
       clear l0
       obtain rfl:=sI H12
       exact p_bar mo 11 [r0 [.e (.bool true)],r0 [.v,.e (.dptr [iI (x0.getD i0 0)]),.v,.v,.v],r0 [.v,.v,.v,.e (.dptr [iI (x1.getD i0 0)]),.v,.hR [(6,1000)] 40 (.tup []) [(1000,.cells 202 [.int .u64 y2.1,.int .u64 y2.2.1,.int .u64 y2.2.2.1,.int .u64 y2.2.2.2.1,.int .u64 y2.2.2.2.2.1,.int .u64 y2.2.2.2.2.2])]],r0 [.v,.v]] [.only [1,4,5,6,28,29,30] [6]] (intmath_Dot_S1 x0 x1 (i0+1) (y2.1,y2.2.1,y2.2.2.1,y2.2.2.2.1,y2.2.2.2.2.1,y2.2.2.2.2.2)) (aB c9 (all_app (ix (f:=cInt_i64) (l:=x0) (n:=i0) 0 cInt_i64_len (by decide) (by omega)) (all_app (ix (f:=cInt_i64) (l:=x1) (n:=i0) 0 cInt_i64_len (by decide) (by omega)) (aC Tryz.call190 (aC (intmath_total_add_c (x0.getD i0 0) (x1.getD i0 0) s0.1 s0.2.1 s0.2.2.1 s0.2.2.2.1 s0.2.2.2.2.1 s0.2.2.2.2.2 y2 h7) (aC (pI i0 (by omega)) aN)))))) (by kernel_rfl)
     ·subst e0
      have H13:=aftE_brk H10
      refine bnd H13 fun y3 h8 H14 => ?_
      obtain rfl:=sI H14
      exact p_ret mo 3 [r0 [.hR [(6,1000)] 42 (.tup [iI y3.1,iI y3.2]) [(1000,.cells 202 [.int .u64 u0.1,.int .u64 u0.2.1,.int .u64 u0.2.2.1,.int .u64 u0.2.2.2.1,.int .u64 u0.2.2.2.2.1,.int .u64 u0.2.2.2.2.2])],.v,.v,.v,.v]] [] [] (aC Tryz.call191 (aC (intmath_total_value_c u0.1 u0.2.1 u0.2.2.1 u0.2.2.2.1 u0.2.2.2.2.1 u0.2.2.2.2.2 y3 h8) aN)) (by kernel_rfl)
    ·obtain rfl:=sI H9
     exact p_ret mo 9 [.eqT 15 (.bool false),r0 [.v,.c true (.bool true),.v,.v,.v,.c true (.bool y1),.v,.v,.v],.eqT 19 (.bool true),r0 [.v,.v]] [] [] (aB c3 (aC Tryz.call189 (aC (AFn.eq (intmath_in_c x0 y0 h0) (cB c4)) (aT (aC Tryz.call189 (aF (intmath_in_c x1 y1 h1) (aT (aM c7 aN)))))))) (by kernel_rfl)
   ·obtain rfl:=sI H6
    exact p_ret mo 8 [.eqT 15 (.bool false),r0 [.v,.c true (.bool false),.v,.v,.s,.s,.s,.v,.v],r0 [.v,.v]] [] [] (aB c3 (aC Tryz.call189 (aC (AFn.eq (intmath_in_c x0 y0 h0) (cB c5)) (aT aN)))) (by kernel_rfl)
 ·obtain rfl:=sI H1
  exact p_ret mo 11 [r0 [.v,.v],r0 [.v,.e (nI x0.length),.v,.e (nI x1.length),.v,.v],.eqT 9 (.bool true),r0 [.v,.v]] [] [] (aT (aC (lenm cInt_i64 x0) (aT (aC (lenm cInt_i64 x1) (aM c1 aN))))) (by kernel_rfl)
/-- cmp.isNaN[string] -/
def cmp_isNaN_string (x0:Str):Option Bool :=
 some (!(x0==x0))
theorem cmp_isNaN_string_c (x0:Str) (r:Bool) (H:cmp_isNaN_string x0=some r):AFn Tryz.prog 253 [.str x0] (.bool r):=by
 unfold cmp_isNaN_string at H
 refine acallX Tryz.func253 6 [.tmp 2] (by kernel_rfl) (by kernel_rfl) ?_
 obtain rfl:=sI H
 exact p_ret mo 5 [r0 [.v],r0 [.v,.v,.v,.v]] [] [] aN (by kernel_rfl)
/-- cmp.Less[string] -/
def cmp_Less_string (x0:Str) (x1:Str):Option Bool :=
 (cmp_isNaN_string x0).bind fun y0 =>
 bif y0 then (
  (cmp_isNaN_string x1).bind fun y1 =>
  bif y1 then (
   some (Op.bytesLess x0 x1)
  ) else (
   some true
  )
 ) else (
  some (Op.bytesLess x0 x1)
 )
theorem cmp_Less_string_c (x0:Str) (x1:Str) (r:Bool) (H:cmp_Less_string x0 x1=some r):AFn Tryz.prog 210 [.str x0,.str x1] (.bool r):=by
 unfold cmp_Less_string at H
 refine acallX Tryz.func210 17 [.tmp 4] (by kernel_rfl) (by kernel_rfl) ?_
 refine bnd H fun y0 h0 H0 => ?_
 refine bsp H0 (fun c0 H1 => ?_) (fun c1 H2 => ?_)
 ·refine bnd H1 fun y1 h1 H3 => ?_
  refine bsp H3 (fun c2 H4 => ?_) (fun c3 H5 => ?_)
  ·obtain rfl:=sI H4
   exact p_ret mo 5 [r0 [.v],r0 [.v,.c true (.bool true),.v,.v,.c true (.bool true),.v,.v,.v,.v,.v,.v,.v,.v]] [] [] (aC Tryz.call253 (aC (AFn.eq (cmp_isNaN_string_c x0 y0 h0) (cB c0)) (aC Tryz.call253 (aC (AFn.eq (cmp_isNaN_string_c x1 y1 h1) (cB c2)) (aT aN))))) (by kernel_rfl)
  ·obtain rfl:=sI H5
   exact p_ret mo 5 [r0 [.v],r0 [.v,.c true (.bool true),.v,.v,.c true (.bool false),.v,.v,.v,.s,.s,.s,.v,.v]] [] [] (aC Tryz.call253 (aC (AFn.eq (cmp_isNaN_string_c x0 y0 h0) (cB c0)) (aC Tryz.call253 (aC (AFn.eq (cmp_isNaN_string_c x1 y1 h1) (cB c3)) (aT aN))))) (by kernel_rfl)
 ·obtain rfl:=sI H2
  exact p_ret mo 5 [r0 [.v],r0 [.v,.c true (.bool false),.v,.s,.s,.s,.v,.v,.v,.v,.v,.v,.v]] [] [] (aC Tryz.call253 (aC (AFn.eq (cmp_isNaN_string_c x0 y0 h0) (cB c1)) aN)) (by kernel_rfl)
/-- slices.IsSorted[[]string,string] -/
def slices_IsSorted_string (x0:(List Str)):Option Bool :=
 (whl (σ:=Int) (ε:=Unit) (ρ:=Bool) (fun s0 =>
  bif decide (s0>0) then (
   grd (0≤s0∧s0<(x0.length:Int)) <|
   grd (0≤(w64 (s0-1))∧(w64 (s0-1))<(x0.length:Int)) <|
   (cmp_Less_string (x0.getD s0.toNat []) (x0.getD (w64 (s0-1)).toNat [])).bind fun y0 =>
   bif y0 then (
    some (.ret false)
   ) else (
    some (.go (w64 (s0-1)))
   )
  ) else (
   some (.brk ())
  )
 ) 4294967296 (w64 (((x0.length:Nat):Int)-1))).bind <| aft fun u0 =>
 some true
def slices_IsSorted_string_S1 (x0:(List Str)) (s0:Int):AS:=⟨21,[(0,dS cStr x0),(2,.bool false),(3,iI s0)],[]⟩
def slices_IsSorted_string_S2 (u1:Unit):AS:=⟨21,[(2,.bool false)],[]⟩
theorem slices_IsSorted_string_c (x0:(List Str)) (r:Bool) (H:slices_IsSorted_string x0=some r):AFn Tryz.prog 134 [dS cStr x0] (.bool r):=by
 unfold slices_IsSorted_string at H
 refine acallX Tryz.func134 21 [.tmp 2] (by kernel_rfl) (by kernel_rfl) ?_
 refine p_at mo 6 [r0 [.v],r0 [.v,.e (nI x0.length),.w,.v]] [.only [0,2,3] []] 6 [] (slices_IsSorted_string_S1 x0 (w64 (((x0.length:Nat):Int)-1))) (aT (aC (lenm cStr x0) aN)) (by kernel_rfl) ?_
 refine bnd H fun R0 h0 H0 => ?_
 refine p_joinO 1 (slices_IsSorted_string_S2) R0 (by kernel_rfl) ?_ (fun u0 e0 => ?_)
 ·refine p_whl (slices_IsSorted_string_S1 x0) (by kernel_rfl) h0 (fun s0 q0 h1 h2 => ?_)
  ·refine bsp h1 (fun c0 H1 => ?_) (fun c1 H2 => ?_)
   ·refine grd_e H1 fun g0 H3 => ?_
    refine grd_e H3 fun g1 H4 => ?_
    refine bnd H4 fun y0 h3 H5 => ?_
    refine p_at mo 10 [r0 [.v,.v],.eqT 8 (.bool true),.rg 9 [.v,.v,.e (.dptr [.str (x0.getD s0.toNat [])]),.v,.v,.v,.w,.e (.dptr [.str (x0.getD (w64 (s0-1)).toNat [])]),.v] [.c true (.bool y0)]] [.only [0,2,3,20] []] 9 [true] ⟨21,[(0,dS cStr x0),(2,.bool false),(3,iI s0),(20,.bool y0)],[]⟩ (aB c0 (all_app (ixz (f:=cStr) (l:=x0) (n:=s0) [] cStr_len (by decide) (by exact g0)) (all_app (ixz (f:=cStr) (l:=x0) (n:=(w64 (s0-1))) [] cStr_len (by decide) (by exact g1)) (aC Tryz.call210 (aF (cmp_Less_string_c (x0.getD s0.toNat []) (x0.getD (w64 (s0-1)).toNat []) y0 h3) aN))))) (by kernel_rfl) ?_
    refine bsp H5 (fun c2 H6 => ?_) (fun c3 H7 => ?_)
    ·obtain rfl:=sI H6
     obtain rfl:=out_ret h2
     obtain rfl:=sI (aft_ret H0)
     exact p_ret mo 5 [.eqT 20 (.bool true),r0 [.v]] [] [] (aB c2 aN) (by kernel_rfl)
    ·obtain rfl:=sI H7
     exact p_bar mo 4 [.eqT 20 (.bool false),r0 [.v,.w,.v]] [.only [0,2,3] []] (slices_IsSorted_string_S1 x0 (w64 (s0-1))) (aB c3 aN) (by kernel_rfl)
   ·obtain rfl:=sI H2
    obtain rfl:=out_brk h2
    exact p_bar mo 6 [r0 [.v,.v],.eqT 8 (.bool false)] [.only [2] []] (slices_IsSorted_string_S2 ()) (aB c1 aN) (by kernel_rfl)
 ·subst e0
  have H8:=aft_brk H0
  obtain rfl:=sI H8
  exact p_ret mo 3 [r0 [.v]] [] [] aN (by kernel_rfl)
/-- framewise/poly.Valid$1 -/
def poly_Valid_1 (x0:Str):Option Bool :=
 (linear_Name x0).bind fun y0 =>
 some (!y0)
theorem poly_Valid_1_c (x0:Str) (r:Bool) (H:poly_Valid_1 x0=some r):AFn Tryz.prog 136 [.str x0] (.bool r):=by
 unfold poly_Valid_1 at H
 refine acallX Tryz.func136 6 [.tmp 2] (by kernel_rfl) (by kernel_rfl) ?_
 refine bnd H fun y0 h0 H0 => ?_
 obtain rfl:=sI H0
 exact p_ret mo 5 [r0 [.v],r0 [.v,.c true (.bool y0),.v,.v]] [] [] (aC Tryz.call96 (aF (linear_Name_c x0 y0 h0) (aT aN))) (by kernel_rfl)
/-- slices.IndexFunc[[]string,string] -/
def slices_IndexFunc_string (x0:(List Str)):Option Int :=
 (cnt (σ:=Unit) (ε:=Unit) (ρ:=Int) (fun i0 s0 =>
  (poly_Valid_1 (x0.getD i0 [])).bind fun y0 =>
  bif y0 then (
   some (.ret ((i0:Nat):Int))
  ) else (
   some (.go ())
  )
 ) (fun i0 s0=>()) (x0.length-0) 0 ()).bind <| aft fun u0 =>
 some (-1)
def slices_IndexFunc_string_S1 (x0:(List Str)) (i0:Nat) (s0:Unit):AS:=⟨19,[(0,dS cStr x0),(1,.fn 136 []),(4,iI 0),(7,nI x0.length),(8,nI i0)],[]⟩
def slices_IndexFunc_string_S2 (u1:Unit):AS:=⟨19,[(4,iI 0)],[]⟩
theorem slices_IndexFunc_string_c (x0:(List Str)) (r:Int) (H:slices_IndexFunc_string x0=some r):AFn Tryz.prog 211 [dS cStr x0,.fn 136 []] (iI r):=by
 unfold slices_IndexFunc_string at H
 refine acallX Tryz.func211 19 [.tmp 4] (by kernel_rfl) (by kernel_rfl) ?_
 refine p_at mo 6 [r0 [.v],r0 [.v,.e (nI x0.length),.v]] [.only [0,1,4,7,8] []] 6 [] (slices_IndexFunc_string_S1 x0 0 ()) (aT (aC (lenm cStr x0) aN)) (by kernel_rfl) ?_
 refine bnd H fun R0 h0 H0 => ?_
 refine p_joinO 1 (slices_IndexFunc_string_S2) R0 (by kernel_rfl) ?_ (fun u0 e0 => ?_)
 ·refine p_cnt (slices_IndexFunc_string_S1 x0) (by kernel_rfl) h0 (fun i0 s0 h1 e1 => ?_) (fun i0 s0 h2 q0 h3 h4 => ?_)
  ·have c0:=lF i0 x0.length (by omega)
   subst e1
   exact p_bar mo 5 [r0 [.e (.bool false)]] [.only [4] []] (slices_IndexFunc_string_S2 ()) (aB c0 aN) (by kernel_rfl)
  ·have c1:=lT i0 x0.length (by omega)
   refine bnd h3 fun y0 h5 H1 => ?_
   refine bsp H1 (fun c2 H2 => ?_) (fun c3 H3 => ?_)
   ·obtain rfl:=sI H2
    obtain rfl:=out_ret h4
    obtain rfl:=sI (aft_ret H0)
    exact p_ret mo 16 [r0 [.e (.bool true)],r0 [.v,.v],r0 [.v,.v,.v,.e (.dptr [.str (x0.getD i0 [])]),.v,.c true (.bool y0)],.eqT 16 (.bool true),r0 [.v,.v]] [] [] (aB c1 (all_app (ix (f:=cStr) (l:=x0) (n:=i0) [] cStr_len (by decide) (by omega)) (aC Tryz.call136 (aF (poly_Valid_1_c (x0.getD i0 []) y0 h5) (aB c2 aN))))) (by kernel_rfl)
   ·refine t_lens 0 (ps:=[(x0.map cStr).length≤9223372036854775807]) (by kernel_rfl) (fun l0 => ?_)
    have l1:x0.length≤9223372036854775807:=by simpa only [All,List.length_map] using l0
    clear l0
    obtain rfl:=sI H3
    exact p_bar mo 15 [r0 [.e (.bool true)],r0 [.v,.v],r0 [.v,.v,.v,.e (.dptr [.str (x0.getD i0 [])]),.v,.c true (.bool y0)],.eqT 16 (.bool false),r0 [.v,.v]] [.only [0,1,4,7,8] []] (slices_IndexFunc_string_S1 x0 (i0+1) ()) (aB c1 (all_app (ix (f:=cStr) (l:=x0) (n:=i0) [] cStr_len (by decide) (by omega)) (aC Tryz.call136 (aF (poly_Valid_1_c (x0.getD i0 []) y0 h5) (aB c3 (aC (pI i0 (by omega)) aN)))))) (by kernel_rfl)
 ·subst e0
  have H4:=aft_brk H0
  obtain rfl:=sI H4
  exact p_ret mo 3 [r0 [.v]] [] [] aN (by kernel_rfl)
/-- slices.ContainsFunc[[]string,string] -/
def slices_ContainsFunc_string (x0:(List Str)):Option Bool :=
 (slices_IndexFunc_string x0).bind fun y0 =>
 some (decide (y0≥0))
theorem slices_ContainsFunc_string_c (x0:(List Str)) (r:Bool) (H:slices_ContainsFunc_string x0=some r):AFn Tryz.prog 135 [dS cStr x0,.fn 136 []] (.bool r):=by
 unfold slices_ContainsFunc_string at H
 refine acallX Tryz.func135 9 [.tmp 4] (by kernel_rfl) (by kernel_rfl) ?_
 refine bnd H fun y0 h0 H0 => ?_
 obtain rfl:=sI H0
 exact p_ret mo 5 [r0 [.v],r0 [.v,.v,.c true (iI y0),.v,.v]] [] [] (aC Tryz.call211 (aF (slices_IndexFunc_string_c x0 y0 h0) aN)) (by kernel_rfl)
/-- cmp.Compare[string] -/
def cmp_Compare_string (x0:Str) (x1:Str):Option Int :=
 (cmp_isNaN_string x0).bind fun y0 =>
 (cmp_isNaN_string x1).bind fun y1 =>
 bif y0 then (
  bif y1 then (
   some 0
  ) else (
   some (-1)
  )
 ) else (
  bif y1 then (
   some 1
  ) else (
   bif (Op.bytesLess x0 x1) then (
    some (-1)
   ) else (
    bif (Op.bytesLess x0 x1||x0==x1) then (
     some 0
    ) else (
     some 1
    )
   )
  )
 )
theorem cmp_Compare_string_c (x0:Str) (x1:Str) (r:Int) (H:cmp_Compare_string x0 x1=some r):AFn Tryz.prog 212 [.str x0,.str x1] (iI r):=by
 unfold cmp_Compare_string at H
 refine acallX Tryz.func212 20 [.tmp 4] (by kernel_rfl) (by kernel_rfl) ?_
 refine bnd H fun y0 h0 H0 => ?_
 refine bnd H0 fun y1 h1 H1 => ?_
 refine bsp H1 (fun c0 H2 => ?_) (fun c1 H3 => ?_)
 ·refine bsp H2 (fun c2 H4 => ?_) (fun c3 H5 => ?_)
  ·obtain rfl:=sI H4
   exact p_ret mo 19 [r0 [.v],r0 [.v,.c true (.bool y0),.v],r0 [.v,.c true (.bool y1),.v],r0 [.v],.eqT 11 (.bool true),r0 [.v],.eqT 12 (.bool true),r0 [.v]] [] [] (aC Tryz.call253 (aF (cmp_isNaN_string_c x0 y0 h0) (aC Tryz.call253 (aF (cmp_isNaN_string_c x1 y1 h1) (aB c0 (aB c2 aN)))))) (by kernel_rfl)
  ·obtain rfl:=sI H5
   exact p_ret mo 20 [r0 [.v],r0 [.v,.c true (.bool y0),.v],r0 [.v,.c true (.bool y1),.v],r0 [.v],.eqT 11 (.bool true),r0 [.v],.eqT 12 (.bool false),r0 [.v]] [] [] (aC Tryz.call253 (aF (cmp_isNaN_string_c x0 y0 h0) (aC Tryz.call253 (aF (cmp_isNaN_string_c x1 y1 h1) (aB c0 (aB c3 aN)))))) (by kernel_rfl)
 ·refine bsp H3 (fun c4 H6 => ?_) (fun c5 H7 => ?_)
  ·obtain rfl:=sI H6
   exact p_ret mo 20 [r0 [.v],r0 [.v,.c true (.bool y0),.v],r0 [.v,.c true (.bool y1),.v],r0 [.v],.eqT 11 (.bool false),r0 [.v],.eqT 13 (.bool true),r0 [.v]] [] [] (aC Tryz.call253 (aF (cmp_isNaN_string_c x0 y0 h0) (aC Tryz.call253 (aF (cmp_isNaN_string_c x1 y1 h1) (aB c1 (aB c4 aN)))))) (by kernel_rfl)
  ·refine p_at mo 21 [.rg 0 [] [.v],.rg 0 [] [.v,.c true (.bool y0),.v],.rg 0 [] [.v,.c true (.bool y1),.v],.rg 0 [] [.v],.eqT 11 (.bool false),.rg 0 [] [.v],.eqT 13 (.bool false),.rg 0 [] [.v,.v,.v]] [.only [0,1,4,16] []] 19 [false,false] ⟨20,[(0,.str x0),(1,.str x1),(4,.int .i64 0),(16,.bool (Op.bytesLess x0 x1))],[]⟩ (aC Tryz.call253 (aF (cmp_isNaN_string_c x0 y0 h0) (aC Tryz.call253 (aF (cmp_isNaN_string_c x1 y1 h1) (aB c1 (aB c5 aN)))))) (by kernel_rfl) ?_
   refine bsp H7 (fun c6 H8 => ?_) (fun c7 H9 => ?_)
   ·obtain rfl:=sI H8
    exact p_ret mo 5 [.eqT 16 (.bool true),r0 [.v]] [] [] (aB c6 aN) (by kernel_rfl)
   ·refine bsp H9 (fun c8 H10 => ?_) (fun c9 H11 => ?_)
    ·obtain rfl:=sI H10
     exact p_ret mo 12 [.eqT 16 (.bool false),r0 [.v,.v,.v],.eqT 19 (.bool false),r0 [.v]] [] [] (aB c7 (aM c8 aN)) (by kernel_rfl)
    ·obtain rfl:=sI H11
     exact p_ret mo 11 [.eqT 16 (.bool false),r0 [.v,.v,.v],.eqT 19 (.bool true),r0 [.v]] [] [] (aB c7 (aM c9 aN)) (by kernel_rfl)
/-- slices.Compare[[]string,string] -/
def slices_Compare_string (x0:(List Str)) (x1:(List Str)):Option Int :=
 (cnt (σ:=Unit) (ε:=Unit) (ρ:=Int) (fun i0 s0 =>
  bif decide (((i0:Nat):Int)≥((x1.length:Nat):Int)) then (
   some (.ret 1)
  ) else (
   (cmp_Compare_string (x0.getD i0 []) (x1.getD i0 [])).bind fun y0 =>
   bif (y0==0) then (
    some (.go ())
   ) else (
    some (.ret y0)
   )
  )
 ) (fun i0 s0=>()) (x0.length-0) 0 ()).bind <| aft fun u0 =>
 bif decide (((x0.length:Nat):Int)<((x1.length:Nat):Int)) then (
  some (-1)
 ) else (
  some 0
 )
def slices_Compare_string_S1 (x0:(List Str)) (x1:(List Str)) (i0:Nat) (s0:Unit):AS:=⟨36,[(0,dS cStr x0),(1,dS cStr x1),(4,iI 0),(9,dS cStr x0),(10,nI x0.length),(11,nI i0)],[]⟩
def slices_Compare_string_S2 (x0:(List Str)) (x1:(List Str)) (u1:Unit):AS:=⟨36,[(0,dS cStr x0),(1,dS cStr x1),(4,iI 0)],[]⟩
theorem slices_Compare_string_c (x0:(List Str)) (x1:(List Str)) (r:Int) (H:slices_Compare_string x0 x1=some r):AFn Tryz.prog 137 [dS cStr x0,dS cStr x1] (iI r):=by
 unfold slices_Compare_string at H
 refine acallX Tryz.func137 36 [.tmp 4] (by kernel_rfl) (by kernel_rfl) ?_
 refine p_at mo 6 [r0 [.v],r0 [.v,.e (nI x0.length),.v]] [.only [0,1,4,9,10,11] []] 6 [] (slices_Compare_string_S1 x0 x1 0 ()) (aT (aC (lenm cStr x0) aN)) (by kernel_rfl) ?_
 refine bnd H fun R0 h0 H0 => ?_
 refine p_joinO 1 (slices_Compare_string_S2 x0 x1) R0 (by kernel_rfl) ?_ (fun u0 e0 => ?_)
 ·refine p_cnt (slices_Compare_string_S1 x0 x1) (by kernel_rfl) h0 (fun i0 s0 h1 e1 => ?_) (fun i0 s0 h2 q0 h3 h4 => ?_)
  ·have c0:=lF i0 x0.length (by omega)
   subst e1
   exact p_bar mo 5 [r0 [.e (.bool false)]] [.only [0,1,4] []] (slices_Compare_string_S2 x0 x1 ()) (aB c0 aN) (by kernel_rfl)
  ·have c1:=lT i0 x0.length (by omega)
   refine bsp h3 (fun c2 H1 => ?_) (fun c3 H2 => ?_)
   ·have c2p:=of_decide_eq_true c2
    obtain rfl:=sI H1
    obtain rfl:=out_ret h4
    obtain rfl:=sI (aft_ret H0)
    exact p_ret mo 17 [r0 [.e (.bool true)],r0 [.v,.e (.dptr [.str (x0.getD i0 [])]),.v,.v,.v],r0 [.v,.v,.e (nI x1.length),.v],.eqT 19 (.bool true),r0 [.v]] [] [] (aB c1 (all_app (ix (f:=cStr) (l:=x0) (n:=i0) [] cStr_len (by decide) (by omega)) (aT (aC (lenm cStr x1) (aB c2 aN))))) (by kernel_rfl)
   ·have c3p:=of_decide_eq_false c3
    refine bnd H2 fun y0 h5 H3 => ?_
    refine p_at mo 21 [r0 [.e (.bool true)],r0 [.v,.e (.dptr [.str (x0.getD i0 [])]),.v,.v,.v],r0 [.v,.v,.e (nI x1.length),.v],.eqT 19 (.bool false),r0 [.v,.v,.e (.dptr [.str (x1.getD i0 [])]),.v,.v],r0 [.v,.v,.c true (iI y0),.v],r0 [.v,.v]] [.only [0,1,4,8,9,10,11,28] []] 20 [true,false] ⟨36,[(0,dS cStr x0),(1,dS cStr x1),(4,iI 0),(8,iI y0),(9,dS cStr x0),(10,nI x0.length),(11,nI i0),(28,.bool (y0 != 0))],[]⟩ (aB c1 (all_app (ix (f:=cStr) (l:=x0) (n:=i0) [] cStr_len (by decide) (by omega)) (aT (aC (lenm cStr x1) (aB c3 (all_app (ix (f:=cStr) (l:=x1) (n:=i0) [] cStr_len (by decide) (by omega)) (aC Tryz.call212 (aF (cmp_Compare_string_c (x0.getD i0 []) (x1.getD i0 []) y0 h5) aN)))))))) (by kernel_rfl) ?_
    refine bsp H3 (fun c4 H4 => ?_) (fun c5 H5 => ?_)
    ·refine t_lens 0 (ps:=[(x0.map cStr).length≤9223372036854775807]) (by kernel_rfl) (fun l0 => ?_)
     have l1:x0.length≤9223372036854775807:=by simpa only [All,List.length_map] using l0
     clear l0
     obtain rfl:=sI H4
     exact p_bar mo 4 [.eqT 28 (.bool false),r0 [.v,.v]] [.only [0,1,4,9,10,11] []] (slices_Compare_string_S1 x0 x1 (i0+1) ()) (aM c4 (aC (pI i0 (by omega)) aN)) (by kernel_rfl)
    ·obtain rfl:=sI H5
     obtain rfl:=out_ret h4
     refine some_e (aft_ret H0) fun e2 => ?_
     subst e2
     exact p_ret mo 5 [.eqT 28 (.bool true),r0 [.v,.v]] [] [] (aM c5 aN) (by kernel_rfl)
 ·subst e0
  have H6:=aft_brk H0
  refine bsp H6 (fun c6 H7 => ?_) (fun c7 H8 => ?_)
  ·obtain rfl:=sI H7
   exact p_ret mo 8 [r0 [.v,.e (nI x0.length),.v,.e (nI x1.length),.v],.eqT 35 (.bool true),r0 [.v]] [] [] (aT (aC (lenm cStr x0) (aT (aC (lenm cStr x1) (aB c6 aN))))) (by kernel_rfl)
  ·obtain rfl:=sI H8
   exact p_ret mo 9 [r0 [.v,.e (nI x0.length),.v,.e (nI x1.length),.v],.eqT 35 (.bool false),r0 [.v]] [] [] (aT (aC (lenm cStr x0) (aT (aC (lenm cStr x1) (aB c7 aN))))) (by kernel_rfl)
/-- framewise/poly.Valid -/
def poly_Valid (x0:(List Monomial)):Option Bool :=
 (cnt (σ:=Unit) (ε:=Unit) (ρ:=Bool) (fun i0 s0 =>
  bif (((x0.getD i0 ⟨0,[]⟩).Coef)==0) then (
   some (.ret false)
  ) else (
   bif decide (((x0.getD i0 ⟨0,[]⟩).Coef)<(-1099511627776)) then (
    some (.ret false)
   ) else (
    bif decide (((x0.getD i0 ⟨0,[]⟩).Coef)>1099511627776) then (
     some (.ret false)
    ) else (
     bif decide (((((x0.getD i0 ⟨0,[]⟩).Vars).length:Nat):Int)>8) then (
      some (.ret false)
     ) else (
      (slices_IsSorted_string ((x0.getD i0 ⟨0,[]⟩).Vars)).bind fun y0 =>
      bif y0 then (
       (slices_ContainsFunc_string ((x0.getD i0 ⟨0,[]⟩).Vars)).bind fun y1 =>
       bif y1 then (
        some (.ret false)
       ) else (
        ((
         bif decide (((i0:Nat):Int)>0) then (
          grd (0≤(w64 (((i0:Nat):Int)-1))∧(w64 (((i0:Nat):Int)-1))<(x0.length:Int)) <|
          (slices_Compare_string ((x0.getD (w64 (((i0:Nat):Int)-1)).toNat ⟨0,[]⟩).Vars) ((x0.getD i0 ⟨0,[]⟩).Vars)).bind fun y2 =>
          bif decide (y2≥0) then (
           some (.ret (.ret false))
          ) else (
           some (.brk ())
          )
         ) else (
          some (.brk ())
         )
        ):Option (Out Unit (Stp Unit Unit Bool))).bind (aft fun u0 =>
         some (.go ())
        )
       )
      ) else (
       some (.ret false)
      )
     )
    )
   )
  )
 ) (fun i0 s0=>()) (x0.length-0) 0 ()).bind <| aft fun u1 =>
 some (decide (((x0.length:Nat):Int)≤60))
def poly_Valid_S1 (x0:(List Monomial)) (i0:Nat) (s0:Unit):AS:=⟨58,[(0,dS cMonomial x0),(2,.bool false),(5,dS cMonomial x0),(6,nI x0.length),(7,nI i0)],[]⟩
def poly_Valid_S2 (x0:(List Monomial)) (u2:Unit):AS:=⟨58,[(0,dS cMonomial x0),(2,.bool false)],[]⟩
def poly_Valid_S3 (x0:(List Monomial)) (i0:Nat) (u0:Unit):AS:=⟨58,[(0,dS cMonomial x0),(2,.bool false),(5,dS cMonomial x0),(6,nI x0.length),(7,nI i0)],[]⟩
theorem poly_Valid_c (x0:(List Monomial)) (r:Bool) (H:poly_Valid x0=some r):AFn Tryz.prog 70 [dS cMonomial x0] (.bool r):=by
 unfold poly_Valid at H
 refine acallX Tryz.func70 58 [.tmp 2] (by kernel_rfl) (by kernel_rfl) ?_
 refine p_at mo 6 [r0 [.v],r0 [.v,.e (nI x0.length),.v]] [.only [0,2,5,6,7] []] 6 [] (poly_Valid_S1 x0 0 ()) (aT (aC (lenm cMonomial x0) aN)) (by kernel_rfl) ?_
 refine bnd H fun R0 h0 H0 => ?_
 refine p_joinO 1 (poly_Valid_S2 x0) R0 (by kernel_rfl) ?_ (fun u1 e0 => ?_)
 ·refine p_cnt (poly_Valid_S1 x0) (by kernel_rfl) h0 (fun i0 s0 h1 e1 => ?_) (fun i0 s0 h2 q0 h3 h4 => ?_)
  ·have c0:=lF i0 x0.length (by omega)
   subst e1
   exact p_bar mo 5 [r0 [.e (.bool false)]] [.only [0,2] []] (poly_Valid_S2 x0 ()) (aB c0 aN) (by kernel_rfl)
  ·have c1:=lT i0 x0.length (by omega)
   refine bsp h3 (fun c2 H1 => ?_) (fun c3 H2 => ?_)
   ·obtain rfl:=sI H1
    obtain rfl:=out_ret h4
    obtain rfl:=sI (aft_ret H0)
    exact p_ret mo 16 [r0 [.e (.bool true)],r0 [.v,.e (.dptr [iI ((x0.getD i0 ⟨0,[]⟩).Coef),.dslice (((x0.getD i0 ⟨0,[]⟩).Vars).map cStr)]),.v,.m,.v,.m],r0 [.v,.v,.e (.bool true),.v,.s,.s,.s,.v,.v,.s,.s,.s,.v,.v,.s,.s,.s,.s,.v,.v,.s,.s,.s,.s,.v],r0 [.v]] [] [] (aB c1 (all_app (ix (f:=cMonomial) (l:=x0) (n:=i0) ⟨0,[]⟩ cMonomial_len (by decide) (by omega)) (aB c2 aN))) (by kernel_rfl)
   ·refine bsp H2 (fun c4 H3 => ?_) (fun c5 H4 => ?_)
    ·have c4p:=of_decide_eq_true c4
     obtain rfl:=sI H3
     obtain rfl:=out_ret h4
     obtain rfl:=sI (aft_ret H0)
     exact p_ret mo 16 [r0 [.e (.bool true)],r0 [.v,.e (.dptr [iI ((x0.getD i0 ⟨0,[]⟩).Coef),.dslice (((x0.getD i0 ⟨0,[]⟩).Vars).map cStr)]),.v,.m,.v,.m],r0 [.v,.v,.e (.bool false),.v,.v,.v,.e (.bool true),.v,.v,.s,.s,.s,.v,.v,.s,.s,.s,.s,.v,.v,.s,.s,.s,.s,.v],r0 [.v]] [] [] (aB c1 (all_app (ix (f:=cMonomial) (l:=x0) (n:=i0) ⟨0,[]⟩ cMonomial_len (by decide) (by omega)) (aB c3 (aB c4 aN)))) (by kernel_rfl)
    ·have c5p:=of_decide_eq_false c5
     refine bsp H4 (fun c6 H5 => ?_) (fun c7 H6 => ?_)
     ·have c6p:=of_decide_eq_true c6
      obtain rfl:=sI H5
      obtain rfl:=out_ret h4
      obtain rfl:=sI (aft_ret H0)
      exact p_ret mo 16 [r0 [.e (.bool true)],r0 [.v,.e (.dptr [iI ((x0.getD i0 ⟨0,[]⟩).Coef),.dslice (((x0.getD i0 ⟨0,[]⟩).Vars).map cStr)]),.v,.m,.v,.m],r0 [.v,.v,.e (.bool false),.v,.v,.v,.e (.bool false),.v,.v,.v,.v,.e (.bool true),.v,.v,.s,.s,.s,.s,.v,.v,.s,.s,.s,.s,.v],r0 [.v]] [] [] (aB c1 (all_app (ix (f:=cMonomial) (l:=x0) (n:=i0) ⟨0,[]⟩ cMonomial_len (by decide) (by omega)) (aB c3 (aB c5 (aB c6 aN))))) (by kernel_rfl)
     ·have c7p:=of_decide_eq_false c7
      refine bsp H6 (fun c8 H7 => ?_) (fun c9 H8 => ?_)
      ·have c8p:=of_decide_eq_true c8
       obtain rfl:=sI H7
       obtain rfl:=out_ret h4
       obtain rfl:=sI (aft_ret H0)
       exact p_ret mo 16 [r0 [.e (.bool true)],r0 [.v,.e (.dptr [iI ((x0.getD i0 ⟨0,[]⟩).Coef),.dslice (((x0.getD i0 ⟨0,[]⟩).Vars).map cStr)]),.v,.m,.v,.m],r0 [.v,.v,.e (.bool false),.v,.v,.v,.e (.bool false),.v,.v,.v,.v,.e (.bool false),.v,.v,.v,.v,.e (iI ((((x0.getD i0 ⟨0,[]⟩).Vars).length:Nat):Int)),.e (.bool true),.v,.v,.s,.s,.s,.s,.v],r0 [.v]] [] [] (aB c1 (all_app (ix (f:=cMonomial) (l:=x0) (n:=i0) ⟨0,[]⟩ cMonomial_len (by decide) (by omega)) (aB c3 (aB c5 (aB c7 (aT (aC (lenm cStr ((x0.getD i0 ⟨0,[]⟩).Vars)) (aB c8 aN)))))))) (by kernel_rfl)
      ·have c9p:=of_decide_eq_false c9
       refine bnd H8 fun y0 h5 H9 => ?_
       refine p_at mo 12 [r0 [.e (.bool true)],r0 [.v,.e (.dptr [iI ((x0.getD i0 ⟨0,[]⟩).Coef),.dslice (((x0.getD i0 ⟨0,[]⟩).Vars).map cStr)]),.v,.m,.v,.m],r0 [.v,.v,.e (.bool false),.v,.v,.v,.e (.bool false),.v,.v,.v,.v,.e (.bool false),.v,.v,.v,.v,.e (iI ((((x0.getD i0 ⟨0,[]⟩).Vars).length:Nat):Int)),.e (.bool false),.v,.v,.v,.v,.c true (.bool y0),.v,.v]] [.only [0,2,3,4,5,6,7,36] [4]] 12 [true] ⟨58,[(0,dS cMonomial x0),(2,.bool false),(3,nI i0),(4,.hptr 4 0),(5,dS cMonomial x0),(6,nI x0.length),(7,nI i0),(36,.bool (!y0))],[(4,.cells 118 [iI ((x0.getD i0 ⟨0,[]⟩).Coef),.dslice (((x0.getD i0 ⟨0,[]⟩).Vars).map cStr)])]⟩ (aB c1 (all_app (ix (f:=cMonomial) (l:=x0) (n:=i0) ⟨0,[]⟩ cMonomial_len (by decide) (by omega)) (aB c3 (aB c5 (aB c7 (aT (aC (lenm cStr ((x0.getD i0 ⟨0,[]⟩).Vars)) (aB c9 (aC Tryz.call134 (aF (slices_IsSorted_string_c ((x0.getD i0 ⟨0,[]⟩).Vars) y0 h5) (aT aN))))))))))) (by kernel_rfl) ?_
       refine bsp H9 (fun c10 H10 => ?_) (fun c11 H11 => ?_)
       ·refine bnd H10 fun y1 h6 H12 => ?_
        refine bsp H12 (fun c12 H13 => ?_) (fun c13 H14 => ?_)
        ·obtain rfl:=sI H13
         obtain rfl:=out_ret h4
         obtain rfl:=sI (aft_ret H0)
         exact p_ret mo 11 [.eqT 36 (.bool false),r0 [.v,.v,.c true (.bool y1)],.eqT 39 (.bool true),r0 [.v]] [] [] (aM c10 (aC Tryz.call135 (aF (slices_ContainsFunc_string_c ((x0.getD i0 ⟨0,[]⟩).Vars) y1 h6) (aB c12 aN)))) (by kernel_rfl)
        ·refine p_at mo 10 [.eqT 36 (.bool false),.rg 0 [] [.v,.v,.c true (.bool y1)],.eqT 39 (.bool false)] [.only [0,2,3,4,5,6,7] [4]] 8 [false,false] ⟨58,[(0,.dslice (x0.map cMonomial)),(2,.bool false),(3,.int .i64 ((i0:Nat):Int)),(4,.hptr 4 0),(5,.dslice (x0.map cMonomial)),(6,.int .i64 ((x0.length:Nat):Int)),(7,.int .i64 ((i0:Nat):Int))],[(4,.cells 118 [.int .i64 ((x0.getD i0 ⟨0,[]⟩).Coef),.dslice (((x0.getD i0 ⟨0,[]⟩).Vars).map cStr)])]⟩ (aM c10 (aC Tryz.call135 (aF (slices_ContainsFunc_string_c ((x0.getD i0 ⟨0,[]⟩).Vars) y1 h6) (aB c13 aN)))) (by kernel_rfl) ?_
         refine bnd H14 fun v0 h7 H15 => ?_
         refine p_joinO 2 (poly_Valid_S3 x0 i0) v0 (by kernel_rfl) ?_ (fun u0 e2 => ?_)
         ·refine bsp h7 (fun c14 H16 => ?_) (fun c15 H17 => ?_)
          ·refine grd_e H16 fun g0 H18 => ?_
           refine bnd H18 fun y2 h8 H19 => ?_
           refine p_at mo 1 [.rg 11 [.v,.e (.bool true),.v,.v,.v,.w,.e (.dptr [iI ((x0.getD (w64 (((i0:Nat):Int)-1)).toNat ⟨0,[]⟩).Coef),.dslice (((x0.getD (w64 (((i0:Nat):Int)-1)).toNat ⟨0,[]⟩).Vars).map cStr)]),.v,.v,.v,.v] [.c true (iI y2),.v,.v]] [.only [0,2,5,6,7,53] []] 1 [] ⟨58,[(0,dS cMonomial x0),(2,.bool false),(5,dS cMonomial x0),(6,nI x0.length),(7,nI i0),(53,.bool (decide (y2≥0)))],[]⟩ (aB c14 (all_app (ixz (f:=cMonomial) (l:=x0) (n:=(w64 (((i0:Nat):Int)-1))) ⟨0,[]⟩ cMonomial_len (by decide) (by exact g0)) (aC Tryz.call137 (aF (slices_Compare_string_c ((x0.getD (w64 (((i0:Nat):Int)-1)).toNat ⟨0,[]⟩).Vars) ((x0.getD i0 ⟨0,[]⟩).Vars) y2 h8) aN)))) (by kernel_rfl) ?_
           refine bsp H19 (fun c16 H20 => ?_) (fun c17 H21 => ?_)
           ·obtain rfl:=sI H20
            obtain rfl:=sI (aft_ret H15)
            obtain rfl:=out_ret h4
            obtain rfl:=sI (aft_ret H0)
            exact p_ret mo 5 [.eqT 53 (.bool true),r0 [.v]] [] [] (aB c16 aN) (by kernel_rfl)
           ·obtain rfl:=sI H21
            exact p_bar mo 3 [.eqT 53 (.bool false)] [.only [0,2,5,6,7] []] (poly_Valid_S3 x0 i0 ()) (aB c17 aN) (by kernel_rfl)
          ·obtain rfl:=sI H17
           exact p_bar mo 3 [.rg 11 [.v,.e (.bool false),.v,.s,.s,.s,.s,.s,.s,.s,.s] [.s,.s,.v]] [.only [0,2,5,6,7] []] (poly_Valid_S3 x0 i0 ()) (aB c15 aN) (by kernel_rfl)
         ·subst e2
          have H22:=aft_brk H15
          refine t_lens 0 (ps:=[(x0.map cMonomial).length≤9223372036854775807]) (by kernel_rfl) (fun l0 => ?_)
          have l1:x0.length≤9223372036854775807:=by simpa only [All,List.length_map] using l0
          clear l0
          obtain rfl:=sI H22
          exact p_bar mo 1 [r0 [.v,.v]] [.only [0,2,5,6,7] []] (poly_Valid_S1 x0 (i0+1) ()) (aC (pI i0 (by omega)) aN) (by kernel_rfl)
       ·obtain rfl:=sI H11
        obtain rfl:=out_ret h4
        obtain rfl:=sI (aft_ret H0)
        exact p_ret mo 5 [.eqT 36 (.bool true),r0 [.v]] [] [] (aM c11 aN) (by kernel_rfl)
 ·subst e0
  have H23:=aft_brk H0
  obtain rfl:=sI H23
  exact p_ret mo 3 [r0 [.v,.e (nI x0.length),.v,.v]] [] [] (aT (aC (lenm cMonomial x0) aN)) (by kernel_rfl)
/-- (framewise/poly.sum).result -/
noncomputable def poly_sum_result (x0:(List (Str×(List Str)))) (x1:(List (Str×(List Int)))) (x2:(List (Str×(List Int)))):Option ((List Monomial)×Int) :=
 mrngK (σ:=(List Monomial)) (ε:=Empty) (β:=((List Monomial)×Int)) x0 (fun e0 s0 =>
  (intmath_Dot (mget [] e0.1 x1) (mget [] e0.1 x2)).bind fun y0 =>
  bif (y0.2==0) then (
   bif (y0.1==0) then (
    some (.go s0)
   ) else (
    grd ((s0.length+1)*32≤140737488355328) <|
    some (.go (s0++[(Monomial.mk y0.1 e0.2)]))
   )
  ) else (
   some (.ret ([],3))
  )
 ) [] (fun s0 =>
  (lib_SortM (fun x=>x.Vars) s0).bind fun y1 =>
  (poly_Valid y1).bind fun y2 =>
  bif y2 then (
   some (y1,0)
  ) else (
   some ([],3)
  )
 )
def poly_sum_result_S1 (x0:(List (Str×(List Str)))) (x1:(List (Str×(List Int)))) (x2:(List (Str×(List Int)))) (i0:(List Nat)) (s0:(List Monomial)):AS:=⟨45,[(1,.hptr 1 0),(2,.eslice),(3,iI 0),(4,.rslice 38),(11,.hptr 11 0)],[(1,.cells 144 [.dmap (x0.map (mapV cL_cStr)),.dmap (x1.map (mapV cL_cInt_i64)),.dmap (x2.map (mapV cL_cInt_i64))]),(11,.iter (x0.map (mapV cL_cStr)) i0),(38,.row 118 2 (s0.map cMonomial))]⟩
theorem poly_sum_result_c (x0:(List (Str×(List Str)))) (x1:(List (Str×(List Int)))) (x2:(List (Str×(List Int)))) (r:((List Monomial)×Int)) (H:poly_sum_result x0 x1 x2=some r):ACall Tryz.prog 133 [.agg [.amap 1000,.amap 1001,.amap 1002]] [(1000,.smap 9 90 (x0.map (mapV cL_cStr))),(1001,.rmap 3 1 (rcm cInt_i64 x1)),(1002,.rmap 3 1 (rcm cInt_i64 x2))] (fun r2 h0=>r2=(.tup [dS cMonomial r.1,iI r.2])∧h0=[]):=by
 unfold poly_sum_result at H
 refine acallX Tryz.func133 45 [.tmp 2,.tmp 3] (by kernel_rfl) (by kernel_rfl) ?_
 refine p_at mo 8 [r0 [.m,.v,.v],r0 [.v],r0 [.v,.v,.fr 1001,.rwT 0 (.agg [.amap 1000,.dmap (x1.map (mapV cL_cInt_i64)),.amap 1002]),.rwH 1 (.cells 144 [.amap 1000,.dmap (x1.map (mapV cL_cInt_i64)),.amap 1002]),.fr 1002,.rwT 0 (.agg [.amap 1000,.dmap (x1.map (mapV cL_cInt_i64)),.dmap (x2.map (mapV cL_cInt_i64))]),.rwH 1 (.cells 144 [.amap 1000,.dmap (x1.map (mapV cL_cInt_i64)),.dmap (x2.map (mapV cL_cInt_i64))]),.fm 1000,.m]] [.er 4 38 118 2,.only [1,2,3,4,11] [1,11,38]] 8 [] (poly_sum_result_S1 x0 x1 x2 [] []) (aC (rcm_all cInt_i64 x1) (aC (congrArg (fun x:List (List UInt8×AV)=>AV.agg [.amap 1000,.dmap x,.amap 1002]) (rdm_rcm cInt_i64 x1)) (aC (congrArg (fun x:List (List UInt8×AV)=>AO.cells 144 [.amap 1000,.dmap x,.amap 1002]) (rdm_rcm cInt_i64 x1)) (aC (rcm_all cInt_i64 x2) (aC (congrArg (fun x:List (List UInt8×AV)=>AV.agg [.amap 1000,.dmap (x1.map (mapV cL_cInt_i64)),.dmap x]) (rdm_rcm cInt_i64 x2)) (aC (congrArg (fun x:List (List UInt8×AV)=>AO.cells 144 [.amap 1000,.dmap (x1.map (mapV cL_cInt_i64)),.dmap x]) (rdm_rcm cInt_i64 x2)) (aC (mapV_fl cL_cStr_ok x0) aN))))))) (by kernel_rfl) ?_
 refine p_mrngX (cc:=cL_cStr) 11 (poly_sum_result_S1 x0 x1 x2) (by kernel_rfl) H [.v] (fun i0 s0=>⟨by kernel_rfl,by kernel_rfl⟩) (fun i0 s0=>⟨45,[(1,.hptr 1 0),(2,.eslice),(3,iI 0),(4,.rslice 38),(11,.hptr 11 0),(12,.tup [.bool false]),(13,.bool false)],[(1,.cells 144 [.dmap (x0.map (mapV cL_cStr)),.dmap (x1.map (mapV cL_cInt_i64)),.dmap (x2.map (mapV cL_cInt_i64))]),(11,.iter (x0.map (mapV cL_cStr)) i0),(38,.row 118 2 (s0.map cMonomial))]⟩) (fun i0 s0=>by kernel_rfl) (fun i0 s0 n0 e0=>⟨45,[(1,.hptr 1 0),(2,.eslice),(3,iI 0),(4,.rslice 38),(11,.hptr 11 0),(12,.tup [.bool true,.str e0.1,dS cStr e0.2]),(13,.bool true)],[(1,.cells 144 [.dmap (x0.map (mapV cL_cStr)),.dmap (x1.map (mapV cL_cInt_i64)),.dmap (x2.map (mapV cL_cInt_i64))]),(11,.iter (x0.map (mapV cL_cStr)) (i0++[n0])),(38,.row 118 2 (s0.map cMonomial))]⟩) (fun i0 s0 n0 e0=>by kernel_rfl) (fun i0 s0 H0 => ?_) (fun i0 s0 n0 e0 h1 q0 h2 h3 => ?_)
 ·refine bnd H0 fun y1 h4 H1 => ?_
  refine bnd H1 fun y2 h5 H2 => ?_
  refine bsp H2 (fun c0 H3 => ?_) (fun c1 H4 => ?_)
  ·obtain rfl:=sI H3
   exact p_ret mo 14 [r0 [.v,.hR [(38,1000)] 40 (.tup []) [(1000,.row 118 2 (y1.map cMonomial))]],r0 [.v,.c false (.bool y2),.v],.eqT 43 (.bool false),r0 [.v,.v,.v]] [.fz 38] [] (aC Tryz.call208 (aC (lib_SortM_c cMonomial (fun x=>x.Vars) (fun x=>x.Coef) (fun _=>rfl) s0 y1 h4) (aC Tryz.call70 (aF (poly_Valid_c y1 y2 h5) (aT (aM c0 aN)))))) (by kernel_rfl)
  ·obtain rfl:=sI H4
   exact p_ret mo 13 [r0 [.v,.hR [(38,1000)] 40 (.tup []) [(1000,.row 118 2 (y1.map cMonomial))]],r0 [.v,.c false (.bool y2),.v],.eqT 43 (.bool true),r0 [.v,.v]] [.wk 2 []] [] (aC Tryz.call208 (aC (lib_SortM_c cMonomial (fun x=>x.Vars) (fun x=>x.Coef) (fun _=>rfl) s0 y1 h4) (aC Tryz.call70 (aF (poly_Valid_c y1 y2 h5) (aT (aM c1 aN)))))) (by kernel_rfl)
 ·refine bnd h2 fun y0 h6 H5 => ?_
  refine p_at mo 11 [r0 [.en n0 (.tup [.str e0.1,dS cStr e0.2]),.v,.v,.v,.v],r0 [.v,.v,.v,.l (.dslice ((mget [] e0.1 x1).map cInt_i64)),.v,.v,.v,.l (.dslice ((mget [] e0.1 x2).map cInt_i64)),.c true (.tup [iI y0.1,iI y0.2]),.v,.v,.v,.v,.v],r0 [.v,.v]] [.only [1,2,3,4,6,7,11,30] [1,11,38]] 11 [true] ⟨45,[(1,.hptr 1 0),(2,.eslice),(3,iI 0),(4,.rslice 38),(6,dS cStr e0.2),(7,iI y0.1),(11,.hptr 11 0),(30,.bool (y0.2 != 0))],[(1,.cells 144 [.dmap (x0.map (mapV cL_cStr)),.dmap (x1.map (mapV cL_cInt_i64)),.dmap (x2.map (mapV cL_cInt_i64))]),(11,.iter (x0.map (mapV cL_cStr)) (i0++[n0])),(38,.row 118 2 (s0.map cMonomial))]⟩ (aC (seen_last i0 n0) (aC (en_eq (cc:=cL_cStr) h1) (aC (aget_mapV (c:=cL_cInt_i64) e0.1 [] x1) (aC (aget_mapV (c:=cL_cInt_i64) e0.1 [] x2) (aC Tryz.call207 (aF (intmath_Dot_c (mget [] e0.1 x1) (mget [] e0.1 x2) y0 h6) aN)))))) (by kernel_rfl) ?_
  refine bsp H5 (fun c2 H6 => ?_) (fun c3 H7 => ?_)
  ·refine bsp H6 (fun c4 H8 => ?_) (fun c5 H9 => ?_)
   ·obtain rfl:=sI H8
    exact p_bar mo 8 [.eqT 30 (.bool false),r0 [.v,.v],.eqT 32 (.bool false)] [.only [1,2,3,4,11] [1,11,38]] (poly_sum_result_S1 x0 x1 x2 (i0++[n0]) s0) (aM c2 (aM c4 aN)) (by kernel_rfl)
   ·refine grd_e H9 fun g0 H10 => ?_
    obtain rfl:=sI H10
    exact p_bar mo 8 [.eqT 30 (.bool false),r0 [.v,.v],.eqT 32 (.bool true),r0 [.v,.v,.v,.b,.b,.ap,.rwH 38 (.row 118 2 ((s0++[(Monomial.mk y0.1 e0.2)]).map cMonomial)),.v]] [.only [1,2,3,4,11] [1,11,38]] (poly_sum_result_S1 x0 x1 x2 (i0++[n0]) (s0++[(Monomial.mk y0.1 e0.2)])) (aM c2 (aM c5 (all_app (apR (c:=cMonomial) cMonomial_ok s0 [(Monomial.mk y0.1 e0.2)] 32 (by decide) (by simpa using g0)) (aC (apQ 118 2 cMonomial s0 [(Monomial.mk y0.1 e0.2)]) aN)))) (by kernel_rfl)
  ·obtain rfl:=sI H7
   obtain rfl:=sI (outK_ret h3)
   exact p_ret mo 5 [.eqT 30 (.bool true),r0 [.v,.v]] [.wk 2 []] [] (aM c3 aN) (by kernel_rfl)
/-- framewise/poly.Of -/
noncomputable def poly_Of (x0:Linear):Option ((List Monomial)×Int) :=
 (linear_Valid x0).bind fun y0 =>
 bif y0 then (
  (poly_newSum).bind fun y1 =>
  (poly_sum_add [] x0.Const 1 y1.1 y1.2.1 y1.2.2).bind fun y2 =>
  (cnt (σ:=((List (Str×(List Int)))×(List (Str×(List Int)))×(List (Str×(List Str))))) (ε:=((List (Str×(List Int)))×(List (Str×(List Int)))×(List (Str×(List Str))))) (ρ:=Empty) (fun i0 s0 =>
   (poly_sum_add [((x0.Terms.getD i0 ⟨[],0⟩).Var)] ((x0.Terms.getD i0 ⟨[],0⟩).C) 1 s0.2.2 s0.1 s0.2.1).bind fun y3 =>
   some (.go (y3.2.1,y3.2.2,y3.1))
  ) (fun i0 s0=>(s0.1,s0.2.1,s0.2.2)) (x0.Terms.length-0) 0 (y2.2.1,y2.2.2,y2.1)).bind <| aftE fun u0 =>
  (poly_sum_result u0.2.2 u0.1 u0.2.1).bind fun y4 =>
  some (y4.1,y4.2)
 ) else (
  some ([],1)
 )
def poly_Of_S1 (x0:Linear) (i0:Nat) (s0:((List (Str×(List Int)))×(List (Str×(List Int)))×(List (Str×(List Str))))):AS:=⟨34,[(2,.eslice),(3,iI 0),(4,.hptr 4 0),(16,dS cCoef x0.Terms),(17,nI x0.Terms.length),(18,nI i0)],[(4,.cells 144 [.amap 900,.amap 901,.amap 902]),(900,.smap 9 90 (s0.2.2.map (mapV cL_cStr))),(901,.rmap 3 1 (rcm cInt_i64 s0.1)),(902,.rmap 3 1 (rcm cInt_i64 s0.2.1))]⟩
def poly_Of_S2 (u1:((List (Str×(List Int)))×(List (Str×(List Int)))×(List (Str×(List Str))))):AS:=⟨34,[(2,.eslice),(3,iI 0),(4,.hptr 4 0)],[(4,.cells 144 [.amap 900,.amap 901,.amap 902]),(900,.smap 9 90 (u1.2.2.map (mapV cL_cStr))),(901,.rmap 3 1 (rcm cInt_i64 u1.1)),(902,.rmap 3 1 (rcm cInt_i64 u1.2.1))]⟩
theorem poly_Of_c (x0:Linear) (r:((List Monomial)×Int)) (H:poly_Of x0=some r):AFn Tryz.prog 67 [.agg [iI x0.Const,dS cCoef x0.Terms]] (.tup [dS cMonomial r.1,iI r.2]):=by
 unfold poly_Of at H
 refine acallX Tryz.func67 34 [.tmp 2,.tmp 3] (by kernel_rfl) (by kernel_rfl) ?_
 refine bnd H fun y0 h0 H0 => ?_
 refine bsp H0 (fun c0 H1 => ?_) (fun c1 H2 => ?_)
 ·refine bnd H1 fun y1 h1 H3 => ?_
  refine bnd H3 fun y2 h2 H4 => ?_
  refine p_at mo 16 [r0 [.m,.v,.v],r0 [.v,.c true (.bool y0),.v],.eqT 9 (.bool false),r0 [.hM [] [(1,900),(2,901),(3,902)] (.agg [.amap 1,.amap 2,.amap 3]) [(1,.smap 9 90 (y1.1.map (mapV cL_cStr))),(2,.rmap 3 1 (rcm cInt_i64 y1.2.1)),(3,.rmap 3 1 (rcm cInt_i64 y1.2.2))],.m,.m],r0 [.v,.v,.v,.hR [(900,1000),(901,1001),(902,1002)] 14 (.tup []) [(1000,.smap 9 90 (y2.1.map (mapV cL_cStr))),(1001,.rmap 3 1 (rcm cInt_i64 y2.2.1)),(1002,.rmap 3 1 (rcm cInt_i64 y2.2.2))]],r0 [.v,.v,.e (nI x0.Terms.length),.v]] [.only [2,3,4,16,17,18] [4,900,901,902]] 15 [false] (poly_Of_S1 x0 0 (y2.2.1,y2.2.2,y2.1)) (aC Tryz.call99 (aF (linear_Valid_c x0 y0 h0) (aT (aM c0 (aC Tryz.call131 (aC (poly_newSum_c y1 h1) (aC Tryz.call132 (aC (ACall.es (args:=[.agg [.amap 1000,.amap 1001,.amap 1002],.eslice,iI x0.Const,iI 1]) 1 (poly_sum_add_c [] x0.Const 1 y1.1 y1.2.1 y1.2.2 y2 h2) rfl) (aT (aC (lenm cCoef x0.Terms) aN)))))))))) (by kernel_rfl) ?_
  refine bnd H4 fun R0 h3 H5 => ?_
  refine p_joinO 1 (poly_Of_S2) R0 (by kernel_rfl) ?_ (fun u0 e0 => ?_)
  ·refine p_cnt (poly_Of_S1 x0) (by kernel_rfl) h3 (fun i0 s0 h4 e1 => ?_) (fun i0 s0 h5 q0 h6 h7 => ?_)
   ·have c2:=lF i0 x0.Terms.length (by omega)
    subst e1
    exact p_bar mo 5 [r0 [.e (.bool false)]] [.only [2,3,4] [4,900,901,902]] (poly_Of_S2 (s0.1,s0.2.1,s0.2.2)) (aB c2 aN) (by kernel_rfl)
   ·have c3:=lT i0 x0.Terms.length (by omega)
    refine bnd h6 fun y3 h8 H6 => ?_
    refine t_lens 16 (ps:=[(x0.Terms.map cCoef).length≤9223372036854775807]) (by kernel_rfl) (fun l0 => ?_)
    have l1:x0.Terms.length≤9223372036854775807:=by simpa only [All,List.length_map] using l0
    clear l0
    obtain rfl:=sI H6
    exact p_bar mo 11 [r0 [.e (.bool true)],r0 [.e (.dptr [.str ((x0.Terms.getD i0 ⟨[],0⟩).Var),iI ((x0.Terms.getD i0 ⟨[],0⟩).C)]),.v,.m,.m],r0 [.v,.v,.v,.b,.v,.v,.hR [(900,1000),(901,1001),(902,1002)] 28 (.tup []) [(1000,.smap 9 90 (y3.1.map (mapV cL_cStr))),(1001,.rmap 3 1 (rcm cInt_i64 y3.2.1)),(1002,.rmap 3 1 (rcm cInt_i64 y3.2.2))]],r0 [.v,.v]] [.only [2,3,4,16,17,18] [4,900,901,902]] (poly_Of_S1 x0 (i0+1) (y3.2.1,y3.2.2,y3.1)) (aB c3 (all_app (ix (f:=cCoef) (l:=x0.Terms) (n:=i0) ⟨[],0⟩ cCoef_len (by decide) (by omega)) (aC Tryz.call132 (aC (poly_sum_add_c [((x0.Terms.getD i0 ⟨[],0⟩).Var)] ((x0.Terms.getD i0 ⟨[],0⟩).C) 1 s0.2.2 s0.1 s0.2.1 y3 h8) (aC (pI i0 (by omega)) aN))))) (by kernel_rfl)
  ·subst e0
   have H7:=aftE_brk H5
   refine bnd H7 fun y4 h9 H8 => ?_
   obtain rfl:=sI H8
   exact p_ret mo 3 [r0 [.v,.hR [(900,1000),(901,1001),(902,1002)] 31 (.tup [dS cMonomial y4.1,iI y4.2]) [],.v,.v,.v,.v]] [] [] (aC Tryz.call133 (aC (poly_sum_result_c u0.2.2 u0.1 u0.2.1 y4 h9) aN)) (by kernel_rfl)
 ·obtain rfl:=sI H2
  exact p_ret mo 10 [r0 [.m,.v,.v],r0 [.v,.c true (.bool y0),.v],.eqT 9 (.bool true),r0 [.v,.v]] [.wk 2 []] [] (aC Tryz.call99 (aF (linear_Valid_c x0 y0 h0) (aT (aM c1 aN)))) (by kernel_rfl)
/-- framewise/poly.mul$1 -/
def poly_mul_1 (x0:Monomial) (x1:Monomial) (x2:(List (Str×(List Str)))) (x3:(List (Str×(List Int)))) (x4:(List (Str×(List Int)))):Option ((List (Str×(List Str)))×(List (Str×(List Int)))×(List (Str×(List Int)))) :=
 (lib_ConcatS [x0.Vars,x1.Vars]).bind fun y0 =>
 (poly_sum_add y0 x0.Coef x1.Coef x2 x3 x4).bind fun y1 =>
 some (y1.1,y1.2.1,y1.2.2)
theorem poly_mul_1_c (x0:Monomial) (x1:Monomial) (x2:(List (Str×(List Str)))) (x3:(List (Str×(List Int)))) (x4:(List (Str×(List Int)))) (r:((List (Str×(List Str)))×(List (Str×(List Int)))×(List (Str×(List Int))))) (H:poly_mul_1 x0 x1 x2 x3 x4=some r):ACall Tryz.prog 199 [.agg [iI x0.Coef,dS cStr x0.Vars],.agg [iI x1.Coef,dS cStr x1.Vars],.hptr 1000 0] [(1000,.cells 144 [.amap 1001,.amap 1002,.amap 1003]),(1001,.smap 9 90 (x2.map (mapV cL_cStr))),(1002,.rmap 3 1 (rcm cInt_i64 x3)),(1003,.rmap 3 1 (rcm cInt_i64 x4))] (fun r2 h0=>r2=(.tup [])∧h0=[(1000,.cells 144 [.amap 1001,.amap 1002,.amap 1003]),(1001,.smap 9 90 (r.1.map (mapV cL_cStr))),(1002,.rmap 3 1 (rcm cInt_i64 r.2.1)),(1003,.rmap 3 1 (rcm cInt_i64 r.2.2))]):=by
 unfold poly_mul_1 at H
 refine acallX Tryz.func199 17 [] (by kernel_rfl) (by kernel_rfl) ?_
 refine bnd H fun y0 h1 H0 => ?_
 refine bnd H0 fun y1 h2 H1 => ?_
 obtain rfl:=sI H1
 exact p_ret mo 3 [r0 [.m,.m],.rg 11 [.v,.v,.v,.v,.v,.b,.c true (dS cStr y0),.v,.v,.v,.v] [.hR [(1001,1000),(1002,1001),(1003,1002)] 16 (.tup []) [(1000,.smap 9 90 (y1.1.map (mapV cL_cStr))),(1001,.rmap 3 1 (rcm cInt_i64 y1.2.1)),(1002,.rmap 3 1 (rcm cInt_i64 y1.2.2))]]] [] [1000,1001,1002,1003] (aC Tryz.call200 (aF (lib_ConcatS_c cStr [x0.Vars,x1.Vars] cStr_ok y0 h1) (aC Tryz.call132 (aC (poly_sum_add_c y0 x0.Coef x1.Coef x2 x3 x4 y1 h2) aN)))) (by kernel_rfl)
/-- framewise/poly.pairs[framewise/api.Monomial,framewise/api.Monomial] -/
def poly_pairs_api_Monomial (x0:(List Monomial)) (x1:(List Monomial)) (x2:(List (Str×(List Str)))) (x3:(List (Str×(List Int)))) (x4:(List (Str×(List Int)))):Option ((List (Str×(List Str)))×(List (Str×(List Int)))×(List (Str×(List Int)))) :=
 (cnt (σ:=((List (Str×(List Str)))×(List (Str×(List Int)))×(List (Str×(List Int))))) (ε:=((List (Str×(List Str)))×(List (Str×(List Int)))×(List (Str×(List Int))))) (ρ:=((List (Str×(List Str)))×(List (Str×(List Int)))×(List (Str×(List Int))))) (fun i0 s0 =>
  (cnt (σ:=((List (Str×(List Str)))×(List (Str×(List Int)))×(List (Str×(List Int))))) (ε:=((List (Str×(List Str)))×(List (Str×(List Int)))×(List (Str×(List Int))))) (ρ:=Empty) (fun i1 s1 =>
   (poly_mul_1 (Monomial.mk ((x0.getD i0 ⟨0,[]⟩).Coef) ((x0.getD i0 ⟨0,[]⟩).Vars)) (Monomial.mk ((x1.getD i1 ⟨0,[]⟩).Coef) ((x1.getD i1 ⟨0,[]⟩).Vars)) s1.1 s1.2.1 s1.2.2).bind fun y0 =>
   some (.go (y0.1,y0.2.1,y0.2.2))
  ) (fun i1 s1=>(s1.1,s1.2.1,s1.2.2)) (x1.length-0) 0 (s0.1,s0.2.1,s0.2.2)).bind <| aftE fun u0 =>
  some (.go (u0.1,u0.2.1,u0.2.2))
 ) (fun i0 s0=>(s0.1,s0.2.1,s0.2.2)) (x0.length-0) 0 (x2,x3,x4)).bind <| aft some
def poly_pairs_api_Monomial_S1 (x0:(List Monomial)) (x1:(List Monomial)) (i0:Nat) (s0:((List (Str×(List Str)))×(List (Str×(List Int)))×(List (Str×(List Int))))):AS:=⟨28,[(1,dS cMonomial x1),(2,.fn 199 [.hptr 1000 0]),(10,dS cMonomial x0),(11,nI x0.length),(12,nI i0)],[(1000,.cells 144 [.amap 1001,.amap 1002,.amap 1003]),(1001,.smap 9 90 (s0.1.map (mapV cL_cStr))),(1002,.rmap 3 1 (rcm cInt_i64 s0.2.1)),(1003,.rmap 3 1 (rcm cInt_i64 s0.2.2))]⟩
def poly_pairs_api_Monomial_S2 (x0:(List Monomial)) (x1:(List Monomial)) (i0:Nat) (i1:Nat) (s1:((List (Str×(List Str)))×(List (Str×(List Int)))×(List (Str×(List Int))))):AS:=⟨28,[(1,dS cMonomial x1),(2,.fn 199 [.hptr 1000 0]),(7,.hptr 7 0),(10,dS cMonomial x0),(11,nI x0.length),(12,nI i0),(16,dS cMonomial x1),(17,nI x1.length),(18,nI i1)],[(7,.cells 118 [iI ((x0.getD i0 ⟨0,[]⟩).Coef),.dslice (((x0.getD i0 ⟨0,[]⟩).Vars).map cStr)]),(1000,.cells 144 [.amap 1001,.amap 1002,.amap 1003]),(1001,.smap 9 90 (s1.1.map (mapV cL_cStr))),(1002,.rmap 3 1 (rcm cInt_i64 s1.2.1)),(1003,.rmap 3 1 (rcm cInt_i64 s1.2.2))]⟩
def poly_pairs_api_Monomial_S3 (x0:(List Monomial)) (x1:(List Monomial)) (i0:Nat) (u1:((List (Str×(List Str)))×(List (Str×(List Int)))×(List (Str×(List Int))))):AS:=⟨28,[(1,dS cMonomial x1),(2,.fn 199 [.hptr 1000 0]),(10,dS cMonomial x0),(11,nI x0.length),(12,nI i0)],[(1000,.cells 144 [.amap 1001,.amap 1002,.amap 1003]),(1001,.smap 9 90 (u1.1.map (mapV cL_cStr))),(1002,.rmap 3 1 (rcm cInt_i64 u1.2.1)),(1003,.rmap 3 1 (rcm cInt_i64 u1.2.2))]⟩
theorem poly_pairs_api_Monomial_c (x0:(List Monomial)) (x1:(List Monomial)) (x2:(List (Str×(List Str)))) (x3:(List (Str×(List Int)))) (x4:(List (Str×(List Int)))) (r:((List (Str×(List Str)))×(List (Str×(List Int)))×(List (Str×(List Int))))) (H:poly_pairs_api_Monomial x0 x1 x2 x3 x4=some r):ACall Tryz.prog 198 [dS cMonomial x0,dS cMonomial x1,.fn 199 [.hptr 1000 0]] [(1000,.cells 144 [.amap 1001,.amap 1002,.amap 1003]),(1001,.smap 9 90 (x2.map (mapV cL_cStr))),(1002,.rmap 3 1 (rcm cInt_i64 x3)),(1003,.rmap 3 1 (rcm cInt_i64 x4))] (fun r2 h0=>r2=(.tup [])∧h0=[(1000,.cells 144 [.amap 1001,.amap 1002,.amap 1003]),(1001,.smap 9 90 (r.1.map (mapV cL_cStr))),(1002,.rmap 3 1 (rcm cInt_i64 r.2.1)),(1003,.rmap 3 1 (rcm cInt_i64 r.2.2))]):=by
 unfold poly_pairs_api_Monomial at H
 refine acallX Tryz.func198 28 [] (by kernel_rfl) (by kernel_rfl) ?_
 refine p_at mo 3 [r0 [.v,.e (nI x0.length),.v]] [.only [1,2,10,11,12] [1000,1001,1002,1003]] 3 [] (poly_pairs_api_Monomial_S1 x0 x1 0 (x2,x3,x4)) (aT (aC (lenm cMonomial x0) aN)) (by kernel_rfl) ?_
 refine bnd H fun R0 h1 H0 => ?_
 refine p_cnt (poly_pairs_api_Monomial_S1 x0 x1) (by kernel_rfl) h1 (fun i0 s0 h2 e0 => ?_) (fun i0 s0 h3 q0 h4 h5 => ?_)
 ·have c0:=lF i0 x0.length (by omega)
  subst e0
  obtain rfl:=sI (aft_brk H0)
  exact p_ret mo 5 [r0 [.e (.bool false)]] [] [1000,1001,1002,1003] (aB c0 aN) (by kernel_rfl)
 ·have c1:=lT i0 x0.length (by omega)
  refine p_at mo 12 [r0 [.e (.bool true)],r0 [.e (.dptr [iI ((x0.getD i0 ⟨0,[]⟩).Coef),.dslice (((x0.getD i0 ⟨0,[]⟩).Vars).map cStr)]),.v,.m,.m],r0 [.v,.e (nI x1.length),.v]] [.only [1,2,7,10,11,12,16,17,18] [7,1000,1001,1002,1003]] 12 [true] (poly_pairs_api_Monomial_S2 x0 x1 i0 0 (s0.1,s0.2.1,s0.2.2)) (aB c1 (all_app (ix (f:=cMonomial) (l:=x0) (n:=i0) ⟨0,[]⟩ cMonomial_len (by decide) (by omega)) (aT (aC (lenm cMonomial x1) aN)))) (by kernel_rfl) ?_
  refine bnd h4 fun R1 h6 H1 => ?_
  refine p_joinO 2 (poly_pairs_api_Monomial_S3 x0 x1 i0) R1 (by kernel_rfl) ?_ (fun u0 e1 => ?_)
  ·refine p_cnt (poly_pairs_api_Monomial_S2 x0 x1 i0) (by kernel_rfl) h6 (fun i1 s1 h7 e2 => ?_) (fun i1 s1 h8 q1 h9 h10 => ?_)
   ·have c2:=lF i1 x1.length (by omega)
    subst e2
    exact p_bar mo 5 [r0 [.e (.bool false)]] [.only [1,2,10,11,12] [1000,1001,1002,1003]] (poly_pairs_api_Monomial_S3 x0 x1 i0 (s1.1,s1.2.1,s1.2.2)) (aB c2 aN) (by kernel_rfl)
   ·have c3:=lT i1 x1.length (by omega)
    refine bnd h9 fun y0 h11 H2 => ?_
    refine t_lens 1 (ps:=[(x1.map cMonomial).length≤9223372036854775807]) (by kernel_rfl) (fun l0 => ?_)
    have l1:x1.length≤9223372036854775807:=by simpa only [All,List.length_map] using l0
    clear l0
    obtain rfl:=sI H2
    exact p_bar mo 11 [r0 [.e (.bool true)],r0 [.e (.dptr [iI ((x1.getD i1 ⟨0,[]⟩).Coef),.dslice (((x1.getD i1 ⟨0,[]⟩).Vars).map cStr)]),.v,.m,.m],r0 [.v,.v,.v,.hR [(1000,1000),(1001,1001),(1002,1002),(1003,1003)] 25 (.tup []) [(1000,.cells 144 [.amap 1001,.amap 1002,.amap 1003]),(1001,.smap 9 90 (y0.1.map (mapV cL_cStr))),(1002,.rmap 3 1 (rcm cInt_i64 y0.2.1)),(1003,.rmap 3 1 (rcm cInt_i64 y0.2.2))]],r0 [.v,.v]] [.only [1,2,7,10,11,12,16,17,18] [7,1000,1001,1002,1003]] (poly_pairs_api_Monomial_S2 x0 x1 i0 (i1+1) (y0.1,y0.2.1,y0.2.2)) (aB c3 (all_app (ix (f:=cMonomial) (l:=x1) (n:=i1) ⟨0,[]⟩ cMonomial_len (by decide) (by omega)) (aC Tryz.call199 (aC (poly_mul_1_c (Monomial.mk ((x0.getD i0 ⟨0,[]⟩).Coef) ((x0.getD i0 ⟨0,[]⟩).Vars)) (Monomial.mk ((x1.getD i1 ⟨0,[]⟩).Coef) ((x1.getD i1 ⟨0,[]⟩).Vars)) s1.1 s1.2.1 s1.2.2 y0 h11) (aC (pI i1 (by omega)) aN))))) (by kernel_rfl)
  ·subst e1
   have H3:=aftE_brk H1
   refine t_lens 10 (ps:=[(x0.map cMonomial).length≤9223372036854775807]) (by kernel_rfl) (fun l2 => ?_)
   have l3:x0.length≤9223372036854775807:=by simpa only [All,List.length_map] using l2
   clear l2
   obtain rfl:=sI H3
   exact p_bar mo 1 [r0 [.v,.v]] [.only [1,2,10,11,12] [1000,1001,1002,1003]] (poly_pairs_api_Monomial_S1 x0 x1 (i0+1) (u0.1,u0.2.1,u0.2.2)) (aC (pI i0 (by omega)) aN) (by kernel_rfl)
/-- framewise/poly.mul -/
noncomputable def poly_mul (x0:(List Monomial)) (x1:(List Monomial)):Option ((List Monomial)×Int) :=
 (poly_newSum).bind fun y0 =>
 (poly_pairs_api_Monomial x0 x1 y0.1 y0.2.1 y0.2.2).bind fun y1 =>
 (poly_sum_result y1.1 y1.2.1 y1.2.2).bind fun y2 =>
 some (y2.1,y2.2)
theorem poly_mul_c (x0:(List Monomial)) (x1:(List Monomial)) (r:((List Monomial)×Int)) (H:poly_mul x0 x1=some r):AFn Tryz.prog 124 [dS cMonomial x0,dS cMonomial x1] (.tup [dS cMonomial r.1,iI r.2]):=by
 unfold poly_mul at H
 refine acallX Tryz.func124 16 [.tmp 4,.tmp 5] (by kernel_rfl) (by kernel_rfl) ?_
 refine bnd H fun y0 h0 H0 => ?_
 refine bnd H0 fun y1 h1 H1 => ?_
 refine bnd H1 fun y2 h2 H2 => ?_
 obtain rfl:=sI H2
 exact p_ret mo 9 [r0 [.v,.v],r0 [.hM [] [(1,900),(2,901),(3,902)] (.agg [.amap 1,.amap 2,.amap 3]) [(1,.smap 9 90 (y0.1.map (mapV cL_cStr))),(2,.rmap 3 1 (rcm cInt_i64 y0.2.1)),(3,.rmap 3 1 (rcm cInt_i64 y0.2.2))],.m,.m],r0 [.v,.v,.v,.hR [(6,1000),(900,1001),(901,1002),(902,1003)] 11 (.tup []) [(1000,.cells 144 [.amap 1001,.amap 1002,.amap 1003]),(1001,.smap 9 90 (y1.1.map (mapV cL_cStr))),(1002,.rmap 3 1 (rcm cInt_i64 y1.2.1)),(1003,.rmap 3 1 (rcm cInt_i64 y1.2.2))]],r0 [.v,.hR [(900,1000),(901,1001),(902,1002)] 13 (.tup [dS cMonomial y2.1,iI y2.2]) [],.v,.v,.v,.v]] [] [] (aC Tryz.call131 (aC (poly_newSum_c y0 h0) (aC Tryz.call198 (aC (poly_pairs_api_Monomial_c x0 x1 y0.1 y0.2.1 y0.2.2 y1 h1) (aC Tryz.call133 (aC (poly_sum_result_c y1.1 y1.2.1 y1.2.2 y2 h2) aN)))))) (by kernel_rfl)
/-- framewise/poly.Product -/
noncomputable def poly_Product (x0:(List Linear)):Option ((List Monomial)×Int) :=
 (cnt (σ:=(List (List Monomial))) (ε:=(List (List Monomial))) (ρ:=((List Monomial)×Int)) (fun i0 s0 =>
  (poly_Of (Linear.mk ((x0.getD i0 ⟨0,[]⟩).Const) ((x0.getD i0 ⟨0,[]⟩).Terms))).bind fun y0 =>
  bif (y0.2==0) then (
   grd ((s0.length+1)*24≤140737488355328) <|
   some (.go (s0++[y0.1]))
  ) else (
   some (.ret ([],y0.2))
  )
 ) (fun i0 s0=>s0) (x0.length-0) 0 []).bind <| aft fun u0 =>
 (cnt (σ:=(List Monomial)) (ε:=(List Monomial)) (ρ:=((List Monomial)×Int)) (fun i1 s1 =>
  (poly_mul s1 (u0.getD i1 [])).bind fun y1 =>
  bif (y1.2==0) then (
   some (.go y1.1)
  ) else (
   some (.ret ([],y1.2))
  )
 ) (fun i1 s1=>s1) (u0.length-0) 0 [(Monomial.mk 1 [])]).bind <| aft fun u1 =>
 some (u1,0)
def poly_Product_S1 (x0:(List Linear)) (i0:Nat) (s0:(List (List Monomial))):AS:=⟨53,[(2,.eslice),(3,iI 0),(4,.rslice 31),(14,dS cLinear x0),(15,nI x0.length),(16,nI i0)],[(31,.row 70 1 (s0.map cL_cMonomial))]⟩
def poly_Product_S2 (u2:(List (List Monomial))):AS:=⟨53,[(2,.eslice),(3,iI 0),(4,.rslice 31)],[(31,.row 70 1 (u2.map cL_cMonomial))]⟩
def poly_Product_S3 (u0:(List (List Monomial))) (i1:Nat) (s1:(List Monomial)):AS:=⟨53,[(2,.eslice),(3,iI 0),(9,dS cMonomial s1),(35,.rslice 31),(36,nI u0.length),(37,nI i1)],[(31,.row 70 1 (u0.map cL_cMonomial))]⟩
def poly_Product_S4 (u3:(List Monomial)):AS:=⟨53,[(2,.eslice),(3,iI 0),(9,dS cMonomial u3)],[]⟩
theorem poly_Product_c (x0:(List Linear)) (r:((List Monomial)×Int)) (H:poly_Product x0=some r):AFn Tryz.prog 110 [dS cLinear x0] (.tup [dS cMonomial r.1,iI r.2]):=by
 unfold poly_Product at H
 refine acallX Tryz.func110 53 [.tmp 2,.tmp 3] (by kernel_rfl) (by kernel_rfl) ?_
 refine p_at mo 8 [r0 [.v,.v],r0 [.v],r0 [.v,.e (nI x0.length),.v]] [.er 4 31 70 1,.only [2,3,4,14,15,16] [31]] 8 [] (poly_Product_S1 x0 0 []) (aT (aC (lenm cLinear x0) aN)) (by kernel_rfl) ?_
 refine bnd H fun R0 h0 H0 => ?_
 refine p_joinO 1 (poly_Product_S2) R0 (by kernel_rfl) ?_ (fun u0 e0 => ?_)
 ·refine p_cnt (poly_Product_S1 x0) (by kernel_rfl) h0 (fun i0 s0 h1 e1 => ?_) (fun i0 s0 h2 q0 h3 h4 => ?_)
  ·have c0:=lF i0 x0.length (by omega)
   subst e1
   exact p_bar mo 5 [r0 [.e (.bool false)]] [.only [2,3,4] [31]] (poly_Product_S2 s0) (aB c0 aN) (by kernel_rfl)
  ·have c1:=lT i0 x0.length (by omega)
   refine bnd h3 fun y0 h5 H1 => ?_
   refine p_at mo 14 [r0 [.e (.bool true)],r0 [.e (.dptr [iI ((x0.getD i0 ⟨0,[]⟩).Const),.dslice (((x0.getD i0 ⟨0,[]⟩).Terms).map cCoef)]),.v,.m,.m],r0 [.v,.c true (.tup [dS cMonomial y0.1,iI y0.2]),.v,.v,.v,.v,.v],r0 [.v,.v]] [.only [2,3,4,7,8,14,15,16,26] [31]] 14 [true] ⟨53,[(2,.eslice),(3,iI 0),(4,.rslice 31),(7,dS cMonomial y0.1),(8,iI y0.2),(14,dS cLinear x0),(15,nI x0.length),(16,nI i0),(26,.bool (y0.2 != 0))],[(31,.row 70 1 (s0.map cL_cMonomial))]⟩ (aB c1 (all_app (ix (f:=cLinear) (l:=x0) (n:=i0) ⟨0,[]⟩ cLinear_len (by decide) (by omega)) (aC Tryz.call67 (aF (poly_Of_c (Linear.mk ((x0.getD i0 ⟨0,[]⟩).Const) ((x0.getD i0 ⟨0,[]⟩).Terms)) y0 h5) aN)))) (by kernel_rfl) ?_
   refine bsp H1 (fun c2 H2 => ?_) (fun c3 H3 => ?_)
   ·refine grd_e H2 fun g0 H4 => ?_
    refine t_lens 14 (ps:=[(x0.map cLinear).length≤9223372036854775807]) (by kernel_rfl) (fun l0 => ?_)
    have l1:x0.length≤9223372036854775807:=by simpa only [All,List.length_map] using l0
    clear l0
    obtain rfl:=sI H4
    exact p_bar mo 5 [.eqT 26 (.bool false),r0 [.v,.v,.b,.ap,.rwH 31 (.row 70 1 ((s0++[y0.1]).map cL_cMonomial)),.v],r0 [.v,.v]] [.only [2,3,4,14,15,16] [31]] (poly_Product_S1 x0 (i0+1) (s0++[y0.1])) (aM c2 (all_app (apR (c:=cL_cMonomial) cL_cMonomial_ok s0 [y0.1] 24 (by decide) (by simpa using g0)) (aC (apQ 70 1 cL_cMonomial s0 [y0.1]) (aC (pI i0 (by omega)) aN)))) (by kernel_rfl)
   ·obtain rfl:=sI H3
    obtain rfl:=out_ret h4
    obtain rfl:=sI (aft_ret H0)
    exact p_ret mo 5 [.eqT 26 (.bool true),r0 [.v,.v,.v]] [.wk 2 []] [] (aM c3 aN) (by kernel_rfl)
 ·subst e0
  have H5:=aft_brk H0
  refine p_at mo 6 [r0 [.b,.b,.wk 34 [(0,1)],.v],r0 [.v,.e (nI u0.length),.v]] [.only [2,3,9,35,36,37] [31]] 6 [] (poly_Product_S3 u0 0 [(Monomial.mk 1 [])]) (aT (aC (lenm cL_cMonomial u0) aN)) (by kernel_rfl) ?_
  refine bnd H5 fun R1 h6 H6 => ?_
  refine p_joinO 1 (poly_Product_S4) R1 (by kernel_rfl) ?_ (fun u1 e2 => ?_)
  ·refine p_cnt (poly_Product_S3 u0) (by kernel_rfl) h6 (fun i1 s1 h7 e3 => ?_) (fun i1 s1 h8 q1 h9 h10 => ?_)
   ·have c4:=lF i1 u0.length (by omega)
    subst e3
    exact p_bar mo 5 [r0 [.e (.bool false)]] [.only [2,3,9] []] (poly_Product_S4 s1) (aB c4 aN) (by kernel_rfl)
   ·have c5:=lT i1 u0.length (by omega)
    refine bnd h9 fun y1 h11 H7 => ?_
    refine p_at mo 14 [r0 [.e (.bool true)],r0 [.v,.rl i1 0 (.dslice ((u0.getD i1 []).map cMonomial)),.v],r0 [.v,.v,.c true (.tup [dS cMonomial y1.1,iI y1.2]),.v,.v,.v,.v,.v],r0 [.v,.v]] [.only [2,3,9,12,13,35,36,37,48] [31]] 14 [true] ⟨53,[(2,.eslice),(3,iI 0),(9,dS cMonomial s1),(12,dS cMonomial y1.1),(13,iI y1.2),(35,.rslice 31),(36,nI u0.length),(37,nI i1),(48,.bool (y1.2 != 0))],[(31,.row 70 1 (u0.map cL_cMonomial))]⟩ (aB c5 (aC (show (0:Int)≤((i1:Nat):Int)∧((i1:Nat):Int)<((u0.map cL_cMonomial).length:Int) from by rw [List.length_map];omega) (aC (rlP (f:=cL_cMonomial) (l:=u0) (n:=i1) 1 0 1 (by omega) (by decide)) (aC (rl1 (f:=cL_cMonomial) (l:=u0) (n:=i1) [] 0 (by omega)) (aC Tryz.call124 (aF (poly_mul_c s1 (u0.getD i1 []) y1 h11) aN)))))) (by kernel_rfl) ?_
    refine bsp H7 (fun c6 H8 => ?_) (fun c7 H9 => ?_)
    ·refine t_lensR 31 (n:=(u0.map cL_cMonomial).length) (by kernel_rfl) (fun l2 => ?_)
     have l3:u0.length≤9223372036854775807:=by simpa only [List.length_map] using l2
     clear l2
     obtain rfl:=sI H8
     exact p_bar mo 5 [.eqT 48 (.bool false),r0 [.v,.v],r0 [.v,.v]] [.only [2,3,9,35,36,37] [31]] (poly_Product_S3 u0 (i1+1) y1.1) (aM c6 (aC (pI i1 (by omega)) aN)) (by kernel_rfl)
    ·obtain rfl:=sI H9
     obtain rfl:=out_ret h10
     obtain rfl:=sI (aft_ret H6)
     exact p_ret mo 5 [.eqT 48 (.bool true),r0 [.v,.v,.v]] [.wk 2 []] [] (aM c7 aN) (by kernel_rfl)
  ·subst e2
   have H10:=aft_brk H6
   obtain rfl:=sI H10
   exact p_ret mo 3 [r0 [.v,.v,.v]] [] [] aN (by kernel_rfl)
/-- framewise/poly.parseMonomial -/
def poly_parseMonomial (x0:Str):Option (Monomial×Bool) :=
 (lib_Split x0 [42]).bind fun y0 =>
 (cnt (σ:=(Int×(List Str))) (ε:=(Int×(List Str))) (ρ:=(Monomial×Bool)) (fun i0 s0 =>
  (lib_Atoi (y0.getD i0 [])).bind fun y1 =>
  ((
   ((
    bif y1.2 then (
     bif (((i0:Nat):Int)==0) then (
      some (.ret (.brk (y1.1,s0.2)))
     ) else (
      some (.brk ())
     )
    ) else (
     some (.brk ())
    )
   ):Option (Out Unit (Out (Int×(List Str)) (Stp (Int×(List Str)) (Int×(List Str)) (Monomial×Bool))))).bind (aft fun u0 =>
    (lib_Cut (y0.getD i0 []) [94]).bind fun y2 =>
    ((
     bif y2.2.2 then (
      (lib_Atoi y2.2.1).bind fun y3 =>
      bif y3.2 then (
       bif decide (y3.1<2) then (
        some (.ret (.ret (.ret ((Monomial.mk s0.1 s0.2),false))))
       ) else (
        bif decide (y3.1>8) then (
         some (.ret (.ret (.ret ((Monomial.mk s0.1 s0.2),false))))
        ) else (
         some (.brk y3.1)
        )
       )
      ) else (
       some (.ret (.ret (.ret ((Monomial.mk s0.1 s0.2),false))))
      )
     ) else (
      some (.brk 1)
     )
    ):Option (Out Int (Out (Int×(List Str)) (Stp (Int×(List Str)) (Int×(List Str)) (Monomial×Bool))))).bind (aft fun u1 =>
     (whl (σ:=(Int×(List Str))) (ε:=(Out (Int×(List Str)) (Stp (Int×(List Str)) (Int×(List Str)) (Monomial×Bool)))) (ρ:=(Out (Int×(List Str)) (Stp (Int×(List Str)) (Int×(List Str)) (Monomial×Bool)))) (fun s1 =>
      bif decide (s1.1<u1) then (
       grd ((s1.2.length+1)*16≤140737488355328) <|
       some (.go ((w64 (s1.1+1)),(s1.2++[y2.1])))
      ) else (
       some (.brk (.brk (s0.1,s1.2)))
      )
     ) 4294967296 (0,s0.2)).bind <| aft some
    )
   )
  ):Option (Out (Int×(List Str)) (Stp (Int×(List Str)) (Int×(List Str)) (Monomial×Bool)))).bind (aft fun u2 =>
   some (.go (u2.1,u2.2))
  )
 ) (fun i0 s0=>(s0.1,s0.2)) (y0.length-0) 0 (1,[])).bind <| aft fun u3 =>
 some ((Monomial.mk u3.1 u3.2),true)
def poly_parseMonomial_S1 (y0:(List Str)) (i0:Nat) (s0:(Int×(List Str))):AS:=⟨73,[(2,.hptr 2 0),(3,.bool false),(4,.hptr 4 0),(17,dS cStr y0),(18,nI y0.length),(19,nI i0)],[(2,.cells 118 [iI 0,.eslice]),(4,.cells 118 [iI s0.1,.rslice 68]),(68,.row 9 1 (s0.2.map cStr))]⟩
def poly_parseMonomial_S2 (u4:(Int×(List Str))):AS:=⟨73,[(2,.hptr 2 0),(3,.bool false),(4,.hptr 4 0)],[(2,.cells 118 [iI 0,.eslice]),(4,.cells 118 [iI u4.1,.rslice 68]),(68,.row 9 1 (u4.2.map cStr))]⟩
def poly_parseMonomial_S3 (y0:(List Str)) (i0:Nat) (u2:(Int×(List Str))):AS:=⟨73,[(2,.hptr 2 0),(3,.bool false),(4,.hptr 4 0),(17,dS cStr y0),(18,nI y0.length),(19,nI i0)],[(2,.cells 118 [iI 0,.eslice]),(4,.cells 118 [iI u2.1,.rslice 68]),(68,.row 9 1 (u2.2.map cStr))]⟩
def poly_parseMonomial_S4 (y0:(List Str)) (i0:Nat) (s0:(Int×(List Str))) (u0:Unit):AS:=⟨73,[(2,.hptr 2 0),(3,.bool false),(4,.hptr 4 0),(6,.str (y0.getD i0 [])),(17,dS cStr y0),(18,nI y0.length),(19,nI i0)],[(2,.cells 118 [iI 0,.eslice]),(4,.cells 118 [iI s0.1,.rslice 68]),(68,.row 9 1 (s0.2.map cStr))]⟩
def poly_parseMonomial_S5 (y0:(List Str)) (i0:Nat) (s0:(Int×(List Str))) (y2:(Str×Str×Bool)) (u1:Int):AS:=⟨73,[(2,.hptr 2 0),(3,.bool false),(4,.hptr 4 0),(9,.str y2.1),(12,iI u1),(17,dS cStr y0),(18,nI y0.length),(19,nI i0)],[(2,.cells 118 [iI 0,.eslice]),(4,.cells 118 [iI s0.1,.rslice 68]),(68,.row 9 1 (s0.2.map cStr))]⟩
def poly_parseMonomial_S6 (y0:(List Str)) (i0:Nat) (s0:(Int×(List Str))) (y2:(Str×Str×Bool)) (u1:Int) (s1:(Int×(List Str))):AS:=⟨73,[(2,.hptr 2 0),(3,.bool false),(4,.hptr 4 0),(9,.str y2.1),(17,dS cStr y0),(18,nI y0.length),(19,nI i0),(61,iI u1),(62,iI s1.1)],[(2,.cells 118 [iI 0,.eslice]),(4,.cells 118 [iI s0.1,.rslice 68]),(68,.row 9 1 (s1.2.map cStr))]⟩
theorem poly_parseMonomial_c (x0:Str) (r:(Monomial×Bool)) (H:poly_parseMonomial x0=some r):AFn Tryz.prog 121 [.str x0] (.tup [.agg [iI r.1.Coef,dS cStr r.1.Vars],.bool r.2]):=by
 unfold poly_parseMonomial at H
 refine acallX Tryz.func121 73 [.cell 2 118,.tmp 3] (by kernel_rfl) (by kernel_rfl) ?_
 refine bnd H fun y0 h0 H0 => ?_
 refine p_at mo 8 [r0 [.m,.v],r0 [.b,.m,.m],r0 [.v,.c true (dS cStr y0),.e (nI y0.length),.v]] [.erH 4 1 68 9 1,.only [2,3,4,17,18,19] [2,4,68]] 8 [] (poly_parseMonomial_S1 y0 0 (1,[])) (aC Tryz.call92 (aF (lib_Split_c x0 [42] y0 h0) (aT (aC (lenm cStr y0) aN)))) (by kernel_rfl) ?_
 refine bnd H0 fun R0 h1 H1 => ?_
 refine p_joinO 1 (poly_parseMonomial_S2) R0 (by kernel_rfl) ?_ (fun u3 e0 => ?_)
 ·refine p_cnt (poly_parseMonomial_S1 y0) (by kernel_rfl) h1 (fun i0 s0 h2 e1 => ?_) (fun i0 s0 h3 q0 h4 h5 => ?_)
  ·have c0:=lF i0 y0.length (by omega)
   subst e1
   exact p_bar mo 5 [r0 [.e (.bool false)]] [.only [2,3,4] [2,4,68]] (poly_parseMonomial_S2 (s0.1,s0.2)) (aB c0 aN) (by kernel_rfl)
  ·have c1:=lT i0 y0.length (by omega)
   refine bnd h4 fun y1 h6 H2 => ?_
   refine p_at mo 13 [r0 [.e (.bool true)],r0 [.v,.e (.dptr [.str (y0.getD i0 [])]),.v,.v,.v],r0 [.v,.cf true (.tup [iI y1.1,errV 272 y1.2]),.v,.v,.v,.v,.v]] [.only [2,3,4,5,6,7,8,17,18,19] [2,4,68]] 13 [true] ⟨73,[(2,.hptr 2 0),(3,.bool false),(4,.hptr 4 0),(5,nI i0),(6,.str (y0.getD i0 [])),(7,iI y1.1),(8,errV 272 y1.2),(17,dS cStr y0),(18,nI y0.length),(19,nI i0)],[(2,.cells 118 [iI 0,.eslice]),(4,.cells 118 [iI s0.1,.rslice 68]),(68,.row 9 1 (s0.2.map cStr))]⟩ (aB c1 (all_app (ix (f:=cStr) (l:=y0) (n:=i0) [] cStr_len (by decide) (by omega)) (aC Tryz.call167 (aF (lib_Atoi_c (y0.getD i0 []) y1 h6) (aC (show okRes true (.tup [iI y1.1,errV 272 y1.2])=true from by cases h7:y1.2<;>rfl) aN))))) (by kernel_rfl) ?_
   refine bnd H2 fun v0 h8 H3 => ?_
   refine p_joinO 3 (poly_parseMonomial_S3 y0 i0) v0 (by kernel_rfl) ?_ (fun u2 e2 => ?_)
   ·refine bnd h8 fun v1 h9 H4 => ?_
    refine p_joinO 1 (poly_parseMonomial_S4 y0 i0 s0) v1 (by kernel_rfl) ?_ (fun u0 e3 => ?_)
    ·refine bsp h9 (fun c2 H5 => ?_) (fun c3 H6 => ?_)
     ·refine bsp H5 (fun c4 H7 => ?_) (fun c5 H8 => ?_)
      ·obtain rfl:=sI H7
       obtain rfl:=sI (aft_ret H4)
       exact p_bar mo 7 [.eqT 8 (.nilI),r0 [.v,.v,.v,.v,.v,.v],.eqT 34 (.bool true),r0 [.v,.v,.m]] [.only [2,3,4,17,18,19] [2,4,68]] (poly_parseMonomial_S3 y0 i0 (y1.1,s0.2)) (aC (congrArg (errV 272) c2) (aB c4 aN)) (by kernel_rfl)
      ·obtain rfl:=sI H8
       exact p_bar mo 5 [.eqT 8 (.nilI),r0 [.v,.v,.v,.v,.v,.v],.eqT 34 (.bool false)] [.only [2,3,4,6,17,18,19] [2,4,68]] (poly_parseMonomial_S4 y0 i0 s0 ()) (aC (congrArg (errV 272) c2) (aB c5 aN)) (by kernel_rfl)
     ·obtain rfl:=sI H6
      exact p_bar mo 4 [.eqT 8 (.iface 272 (.any)),r0 [.v,.v,.v,.s,.s,.v]] [.only [2,3,4,6,17,18,19] [2,4,68]] (poly_parseMonomial_S4 y0 i0 s0 ()) (aC (congrArg (errV 272) c3) aN) (by kernel_rfl)
    ·subst e3
     have H9:=aft_brk H4
     refine bnd H9 fun y2 h10 H10 => ?_
     refine p_at mo 7 [r0 [.v,.c true (.tup [.str y2.1,.str y2.2.1,.bool y2.2.2]),.v,.v,.v,.v,.v,.v,.v],r0 [.v],r0 [.v]] [.only [2,3,4,9,10,12,17,18,19,43] [2,4,68]] 7 [] ⟨73,[(2,.hptr 2 0),(3,.bool false),(4,.hptr 4 0),(9,.str y2.1),(10,.str y2.2.1),(12,iI 1),(17,dS cStr y0),(18,nI y0.length),(19,nI i0),(43,.bool y2.2.2)],[(2,.cells 118 [iI 0,.eslice]),(4,.cells 118 [iI s0.1,.rslice 68]),(68,.row 9 1 (s0.2.map cStr))]⟩ (aC Tryz.call196 (aF (lib_Cut_c (y0.getD i0 []) [94] y2 h10) aN)) (by kernel_rfl) ?_
     refine bnd H10 fun v2 h11 H11 => ?_
     refine p_joinO 0 (poly_parseMonomial_S5 y0 i0 s0 y2) v2 (by kernel_rfl) ?_ (fun u1 e4 => ?_)
     ·refine bsp h11 (fun c6 H12 => ?_) (fun c7 H13 => ?_)
      ·refine bnd H12 fun y3 h12 H14 => ?_
       refine bsp H14 (fun c8 H15 => ?_) (fun c9 H16 => ?_)
       ·refine p_at mo 7 [.eqT 43 (.bool true),.rg 0 [] [.v,.cf true (.tup [.int .i64 y3.1,errV 272 y3.2]),.v,.v,.v,.v,.v],.eqT 14 (.nilI)] [.only [2,3,4,9,12,13,14,17,18,19] [2,4,68]] 5 [true] ⟨73,[(2,.hptr 2 0),(3,.bool false),(4,.hptr 4 0),(9,.str y2.1),(12,.int .i64 1),(13,.int .i64 y3.1),(14,.nilI),(17,.dslice (y0.map cStr)),(18,.int .i64 ((y0.length:Nat):Int)),(19,.int .i64 ((i0:Nat):Int))],[(2,.cells 118 [.int .i64 0,.eslice]),(4,.cells 118 [.int .i64 s0.1,.rslice 68]),(68,.row 9 1 (s0.2.map cStr))]⟩ (aB c6 (aC Tryz.call167 (aF (lib_Atoi_c y2.2.1 y3 h12) (aC (show okRes true (.tup [.int .i64 y3.1,errV 272 y3.2])=true from by cases h7:y3.2<;>rfl) (aC (congrArg (errV 272) c8) aN))))) (by kernel_rfl) ?_
        refine bsp H15 (fun c10 H17 => ?_) (fun c11 H18 => ?_)
        ·obtain rfl:=sI H17
         obtain rfl:=sI (aft_ret H11)
         obtain rfl:=sI (aft_ret H3)
         obtain rfl:=out_ret h5
         obtain rfl:=sI (aft_ret H1)
         exact p_ret mo 5 [r0 [.v,.v,.v,.v,.e (.bool true),.v,.v,.s,.s,.v],r0 [.v,.m,.v]] [.fz 68] [] (aB c10 aN) (by kernel_rfl)
        ·refine bsp H18 (fun c12 H19 => ?_) (fun c13 H20 => ?_)
         ·obtain rfl:=sI H19
          obtain rfl:=sI (aft_ret H11)
          obtain rfl:=sI (aft_ret H3)
          obtain rfl:=out_ret h5
          obtain rfl:=sI (aft_ret H1)
          exact p_ret mo 6 [r0 [.v,.v,.v,.v,.e (.bool false),.v,.v,.v,.v,.v],.eqT 58 (.bool true),r0 [.v,.m,.v]] [.fz 68] [] (aB c11 (aB c12 aN)) (by kernel_rfl)
         ·obtain rfl:=sI H20
          exact p_bar mo 5 [r0 [.v,.v,.v,.v,.e (.bool false),.v,.v,.v,.v,.v],.eqT 58 (.bool false),r0 [.v,.v]] [.only [2,3,4,9,12,17,18,19] [2,4,68]] (poly_parseMonomial_S5 y0 i0 s0 y2 y3.1) (aB c11 (aB c13 aN)) (by kernel_rfl)
       ·obtain rfl:=sI H16
        obtain rfl:=sI (aft_ret H11)
        obtain rfl:=sI (aft_ret H3)
        obtain rfl:=out_ret h5
        obtain rfl:=sI (aft_ret H1)
        exact p_ret mo 12 [.eqT 43 (.bool true),r0 [.v,.cf true (.tup [iI y3.1,errV 272 y3.2]),.v,.v,.v,.v,.v],.eqT 14 (.iface 272 (.any)),r0 [.v,.v,.v,.s,.s,.v,.v,.s,.s,.v],r0 [.v,.m,.v]] [.fz 68] [] (aB c6 (aC Tryz.call167 (aF (lib_Atoi_c y2.2.1 y3 h12) (aC (show okRes true (.tup [iI y3.1,errV 272 y3.2])=true from by cases h7:y3.2<;>rfl) (aC (congrArg (errV 272) c9) aN))))) (by kernel_rfl)
      ·obtain rfl:=sI H13
       exact p_bar mo 3 [.eqT 43 (.bool false)] [.only [2,3,4,9,12,17,18,19] [2,4,68]] (poly_parseMonomial_S5 y0 i0 s0 y2 1) (aB c7 aN) (by kernel_rfl)
     ·subst e4
      have H21:=aft_brk H11
      refine p_at mo 3 [r0 [.v,.v]] [.only [2,3,4,9,17,18,19,61,62] [2,4,68]] 3 [] (poly_parseMonomial_S6 y0 i0 s0 y2 u1 (0,s0.2)) aN (by kernel_rfl) ?_
      refine bnd H21 fun R1 h13 H22 => ?_
      refine p_whl (poly_parseMonomial_S6 y0 i0 s0 y2 u1) (by kernel_rfl) h13 (fun s1 q1 h14 h15 => ?_)
      ·refine bsp h14 (fun c14 H23 => ?_) (fun c15 H24 => ?_)
       ·refine grd_e H23 fun g0 H25 => ?_
        obtain rfl:=sI H25
        exact p_bar mo 10 [r0 [.v],.eqT 63 (.bool true),r0 [.v,.v,.v,.b,.ap,.rwH 68 (.row 9 1 ((s1.2++[y2.1]).map cStr)),.v,.m],r0 [.w,.v]] [.only [2,3,4,9,17,18,19,61,62] [2,4,68]] (poly_parseMonomial_S6 y0 i0 s0 y2 u1 ((w64 (s1.1+1)),(s1.2++[y2.1]))) (aB c14 (all_app (apR (c:=cStr) cStr_ok s1.2 [y2.1] 16 (by decide) (by simpa using g0)) (aC (apQ 9 1 cStr s1.2 [y2.1]) aN))) (by kernel_rfl)
       ·obtain rfl:=sI H24
        obtain rfl:=out_brk h15
        obtain rfl:=sI (aft_brk H22)
        exact p_bar mo 6 [r0 [.v],.eqT 63 (.bool false)] [.only [2,3,4,17,18,19] [2,4,68]] (poly_parseMonomial_S3 y0 i0 (s0.1,s1.2)) (aB c15 aN) (by kernel_rfl)
   ·subst e2
    have H26:=aft_brk H3
    refine t_lens 17 (ps:=[(y0.map cStr).length≤9223372036854775807]) (by kernel_rfl) (fun l0 => ?_)
    have l1:y0.length≤9223372036854775807:=by simpa only [All,List.length_map] using l0
    clear l0
    obtain rfl:=sI H26
    exact p_bar mo 1 [r0 [.v,.v]] [.only [2,3,4,17,18,19] [2,4,68]] (poly_parseMonomial_S1 y0 (i0+1) (u2.1,u2.2)) (aC (pI i0 (by omega)) aN) (by kernel_rfl)
 ·subst e0
  have H27:=aft_brk H1
  obtain rfl:=sI H27
  exact p_ret mo 3 [r0 [.v,.m,.v]] [.fz 68] [] aN (by kernel_rfl)
/-- framewise/poly.monomial -/
def poly_monomial (x0:Monomial):Option Str :=
 ((
  bif ((if (w64 (0-x0.Coef))>x0.Coef then (w64 (0-x0.Coef)) else x0.Coef)==1) then (
   some (((x0.Vars.length:Nat):Int)==0)
  ) else (
   some true
  )
 ):Option Bool).bind fun v0 =>
 ((
  bif v0 then (
   (lib_Itoa (if (w64 (0-x0.Coef))>x0.Coef then (w64 (0-x0.Coef)) else x0.Coef)).bind fun y0 =>
   some [y0]
  ) else (
   some []
  )
 ):Option (List Str)).bind fun v1 =>
 (whl (σ:=((List Str)×Nat)) (ε:=(List Str)) (ρ:=Empty) (fun s0 =>
  bif decide (((s0.2:Nat):Int)<((x0.Vars.length:Nat):Int)) then (
   (cnt (σ:=Unit) (ε:=Nat) (ρ:=Empty) (fun i0 s1 =>
    bif ((x0.Vars.getD i0 [])==(x0.Vars.getD s0.2 [])) then (
     some (.go ())
    ) else (
     some (.brk i0)
    )
   ) (fun i0 s1=>i0) (x0.Vars.length-s0.2) s0.2 ()).bind <| aftE fun u0 =>
   ((
    bif decide ((w64 (((u0:Nat):Int)-((s0.2:Nat):Int)))>1) then (
     (lib_Itoa (w64 (((u0:Nat):Int)-((s0.2:Nat):Int)))).bind fun y1 =>
     grd ([94].length+y1.length≤9223372036854775807) <|
     grd ((x0.Vars.getD s0.2 []).length+([94]++y1).length≤9223372036854775807) <|
     some ((x0.Vars.getD s0.2 [])++([94]++y1))
    ) else (
     some (x0.Vars.getD s0.2 [])
    )
   ):Option Str).bind fun v2 =>
   grd ((s0.1.length+1)*16≤140737488355328) <|
   some (.go ((s0.1++[v2]),u0))
  ) else (
   some (.brk s0.1)
  )
 ) 4294967296 (v1,0)).bind <| aftE fun u1 =>
 (lib_Join u1 [42]).bind fun y2 =>
 some y2
def poly_monomial_S1 (x0:Monomial) (v0:Bool):AS:=⟨76,[(1,.hptr 1 0),(2,.str []),(3,.eslice),(4,iI (if (w64 (0-x0.Coef))>x0.Coef then (w64 (0-x0.Coef)) else x0.Coef)),(21,.bool v0)],[(1,.cells 118 [iI x0.Coef,dS cStr x0.Vars])]⟩
def poly_monomial_S2 (x0:Monomial) (v1:(List Str)):AS:=⟨76,[(1,.hptr 1 0),(2,.str []),(3,.rslice 26)],[(1,.cells 118 [iI x0.Coef,dS cStr x0.Vars]),(26,.row 9 1 (v1.map cStr))]⟩
def poly_monomial_S3 (x0:Monomial) (s0:((List Str)×Nat)):AS:=⟨76,[(1,.hptr 1 0),(2,.str []),(3,.rslice 72),(5,nI s0.2)],[(1,.cells 118 [iI x0.Coef,dS cStr x0.Vars]),(72,.row 9 1 (s0.1.map cStr))]⟩
def poly_monomial_S4 (u2:(List Str)):AS:=⟨76,[(2,.str []),(3,.rslice 72)],[(72,.row 9 1 (u2.map cStr))]⟩
def poly_monomial_S5 (x0:Monomial) (s0:((List Str)×Nat)) (i0:Nat) (s1:Unit):AS:=⟨76,[(1,.hptr 1 0),(2,.str []),(3,.rslice 72),(5,nI s0.2),(6,nI i0)],[(1,.cells 118 [iI x0.Coef,dS cStr x0.Vars]),(72,.row 9 1 (s0.1.map cStr))]⟩
def poly_monomial_S6 (x0:Monomial) (s0:((List Str)×Nat)) (u3:Nat):AS:=⟨76,[(1,.hptr 1 0),(2,.str []),(3,.rslice 72),(5,nI s0.2),(6,nI u3)],[(1,.cells 118 [iI x0.Coef,dS cStr x0.Vars]),(72,.row 9 1 (s0.1.map cStr))]⟩
def poly_monomial_S7 (x0:Monomial) (s0:((List Str)×Nat)) (u0:Nat) (v2:Str):AS:=⟨76,[(1,.hptr 1 0),(2,.str []),(3,.rslice 72),(5,nI s0.2),(6,nI u0),(7,.str v2)],[(1,.cells 118 [iI x0.Coef,dS cStr x0.Vars]),(72,.row 9 1 (s0.1.map cStr))]⟩
theorem poly_monomial_c (x0:Monomial) (r:Str) (H:poly_monomial x0=some r):AFn Tryz.prog 118 [.agg [iI x0.Coef,dS cStr x0.Vars]] (.str r):=by
 unfold poly_monomial at H
 refine acallX Tryz.func118 76 [.tmp 2] (by kernel_rfl) (by kernel_rfl) ?_
 refine p_at mo 8 [r0 [.m,.v],r0 [.v],r0 [.v,.v,.v,.v,.w,.v,.v]] [.only [1,2,3,4] [1]] 8 [] ⟨76,[(1,.hptr 1 0),(2,.str []),(3,.eslice),(4,iI (if (w64 (0-x0.Coef))>x0.Coef then (w64 (0-x0.Coef)) else x0.Coef))],[(1,.cells 118 [iI x0.Coef,dS cStr x0.Vars])]⟩ (aT aN) (by kernel_rfl) ?_
 refine bnd H fun v0 h0 H0 => ?_
 refine p_join 0 (poly_monomial_S1 x0 v0) (by kernel_rfl) ?_ ?_
 ·refine bsp h0 (fun c0 H1 => ?_) (fun c1 H2 => ?_)
  ·obtain rfl:=sI H1
   exact p_bar mo 1 [r0 [.v,.e (.bool false),.v,.v,.v,.e (nI x0.Vars.length),.v,.v]] [.only [1,2,3,4,21] [1]] (poly_monomial_S1 x0 (((x0.Vars.length:Nat):Int)==0)) (aM c0 (aT (aC (lenm cStr x0.Vars) aN))) (by kernel_rfl)
  ·obtain rfl:=sI H2
   exact p_bar mo 1 [r0 [.v,.e (.bool true),.v,.s,.s,.s,.s,.v]] [.only [1,2,3,4,21] [1]] (poly_monomial_S1 x0 true) (aM c1 aN) (by kernel_rfl)
 ·refine bnd H0 fun v1 h1 H3 => ?_
  refine p_join 0 (poly_monomial_S2 x0 v1) (by kernel_rfl) ?_ ?_
  ·refine bsp h1 (fun c2 H4 => ?_) (fun c3 H5 => ?_)
   ·refine bnd H4 fun y0 h2 H6 => ?_
    obtain rfl:=sI H6
    exact p_bar mo 3 [.eqT 21 (.bool true),r0 [.v,.v,.c true (.str y0),.b,.er 22 26 9 1,.ap,.rwH 26 (.row 9 1 ([y0].map cStr)),.v]] [.only [1,2,3] [1,26]] (poly_monomial_S2 x0 [y0]) (aB c2 (aC Tryz.call168 (aF (lib_Itoa_c (if (w64 (0-x0.Coef))>x0.Coef then (w64 (0-x0.Coef)) else x0.Coef) y0 h2) (all_app (apR (c:=cStr) cStr_ok [] [y0] 16 (by decide) (by simp)) (aC (apQ0 9 1 cStr [y0]) aN))))) (by kernel_rfl)
   ·obtain rfl:=sI H5
    exact p_bar mo 3 [.eqT 21 (.bool false)] [.er 3 26 9 1,.only [1,2,3] [1,26]] (poly_monomial_S2 x0 []) (aB c3 aN) (by kernel_rfl)
  ·refine p_at mo 4 [.rg 0 [] [.v]] [.ren [(1,1),(26,72)],.only [1,2,3,5] [1,72]] 4 [] (poly_monomial_S3 x0 (v1,0)) aN (by kernel_rfl) ?_
   refine bnd H3 fun R0 h3 H7 => ?_
   refine p_joinO 1 (poly_monomial_S4) R0 (by kernel_rfl) ?_ (fun u1 e0 => ?_)
   ·refine p_whl (poly_monomial_S3 x0) (by kernel_rfl) h3 (fun s0 q0 h4 h5 => ?_)
    ·refine bsp h4 (fun c4 H8 => ?_) (fun c5 H9 => ?_)
     ·have c4p:=of_decide_eq_true c4
      refine p_at mo 11 [r0 [.v,.v,.v,.e (nI x0.Vars.length),.v],.eqT 31 (.bool true),r0 [.v,.v]] [.only [1,2,3,5,6] [1,72]] 10 [true] (poly_monomial_S5 x0 s0 s0.2 ()) (aT (aC (lenm cStr x0.Vars) (aB c4 aN))) (by kernel_rfl) ?_
      refine bnd H8 fun R1 h6 H10 => ?_
      refine p_joinO 1 (poly_monomial_S6 x0 s0) R1 (by kernel_rfl) ?_ (fun u0 e1 => ?_)
      ·refine p_cnt (poly_monomial_S5 x0 s0) (by kernel_rfl) h6 (fun i0 s1 h7 e2 => ?_) (fun i0 s1 h8 q1 h9 h10 => ?_)
       ·have c6:=lF i0 x0.Vars.length (by omega)
        subst e2
        exact p_bar mo 5 [.rg 16 [.v,.v,.v,.e (nI x0.Vars.length),.e (.bool false),.v,.s,.s,.s,.s,.s,.s,.s,.s,.s,.s] [.s,.v]] [.only [1,2,3,5,6] [1,72]] (poly_monomial_S6 x0 s0 i0) (aT (aC (lenm cStr x0.Vars) (aB c6 aN))) (by kernel_rfl)
       ·have c7:=lT i0 x0.Vars.length (by omega)
        refine p_at mo 3 [.rg 16 [.v,.v,.v,.e (nI x0.Vars.length),.e (.bool true),.v,.v,.v,.v,.e (.dptr [.str (x0.Vars.getD i0 [])]),.v,.v,.v,.v,.e (.dptr [.str (x0.Vars.getD s0.2 [])]),.v] [.v,.v]] [.only [1,2,3,5,6,50] [1,72]] 3 [] ⟨76,[(1,.hptr 1 0),(2,.str []),(3,.rslice 72),(5,nI s0.2),(6,nI i0),(50,.bool ((x0.Vars.getD i0 [])==(x0.Vars.getD s0.2 [])))],[(1,.cells 118 [iI x0.Coef,dS cStr x0.Vars]),(72,.row 9 1 (s0.1.map cStr))]⟩ (aT (aC (lenm cStr x0.Vars) (aB c7 (all_app (ix (f:=cStr) (l:=x0.Vars) (n:=i0) [] cStr_len (by decide) (by omega)) (all_app (ix (f:=cStr) (l:=x0.Vars) (n:=s0.2) [] cStr_len (by decide) (by omega)) aN))))) (by kernel_rfl) ?_
        refine bsp h9 (fun c8 H11 => ?_) (fun c9 H12 => ?_)
        ·refine t_lensH 1 1 (ps:=[(x0.Vars.map cStr).length≤9223372036854775807]) (by kernel_rfl) (fun l0 => ?_)
         have l1:x0.Vars.length≤9223372036854775807:=by simpa only [All,List.length_map] using l0
         clear l0
         obtain rfl:=sI H11
         exact p_bar mo 5 [.eqT 50 (.bool true),r0 [.v,.v,.v]] [.only [1,2,3,5,6] [1,72]] (poly_monomial_S5 x0 s0 (i0+1) ()) (aB c8 (aC (pI i0 (by omega)) aN)) (by kernel_rfl)
        ·obtain rfl:=sI H12
         obtain rfl:=out_brk h10
         exact p_bar mo 3 [.eqT 50 (.bool false)] [.only [1,2,3,5,6] [1,72]] (poly_monomial_S6 x0 s0 i0) (aB c9 aN) (by kernel_rfl)
      ·subst e1
       have H13:=aftE_brk H10
       refine p_at mo 5 [r0 [.v,.v,.v,.e (.dptr [.str (x0.Vars.getD s0.2 [])]),.v,.v],r0 [.v,.v,.w,.v]] [.only [1,2,3,5,6,7,61] [1,72]] 5 [] ⟨76,[(1,.hptr 1 0),(2,.str []),(3,.rslice 72),(5,nI s0.2),(6,nI u0),(7,.str (x0.Vars.getD s0.2 [])),(61,.bool (decide ((w64 (((u0:Nat):Int)-((s0.2:Nat):Int)))>1)))],[(1,.cells 118 [iI x0.Coef,dS cStr x0.Vars]),(72,.row 9 1 (s0.1.map cStr))]⟩ (all_app (ix (f:=cStr) (l:=x0.Vars) (n:=s0.2) [] cStr_len (by decide) (by omega)) aN) (by kernel_rfl) ?_
       refine bnd H13 fun v2 h11 H14 => ?_
       refine p_join 0 (poly_monomial_S7 x0 s0 u0 v2) (by kernel_rfl) ?_ ?_
       ·refine bsp h11 (fun c10 H15 => ?_) (fun c11 H16 => ?_)
        ·refine bnd H15 fun y1 h12 H17 => ?_
         refine grd_e H17 fun g0 H18 => ?_
         refine grd_e H18 fun g1 H19 => ?_
         obtain rfl:=sI H19
         exact p_bar mo 3 [.eqT 61 (.bool true),r0 [.v,.v,.v,.w,.c true (.str y1),.v,.v,.v]] [.only [1,2,3,5,6,7] [1,72]] (poly_monomial_S7 x0 s0 u0 ((x0.Vars.getD s0.2 [])++([94]++y1))) (aB c10 (aC Tryz.call168 (aF (lib_Itoa_c (w64 (((u0:Nat):Int)-((s0.2:Nat):Int))) y1 h12) (aC (show [94].length+y1.length≤9223372036854775807 from g0) (aC (show (x0.Vars.getD s0.2 []).length+([94]++y1).length≤9223372036854775807 from g1) aN))))) (by kernel_rfl)
        ·obtain rfl:=sI H16
         exact p_bar mo 3 [.eqT 61 (.bool false)] [.only [1,2,3,5,6,7] [1,72]] (poly_monomial_S7 x0 s0 u0 (x0.Vars.getD s0.2 [])) (aB c11 aN) (by kernel_rfl)
       ·refine grd_e H14 fun g2 H20 => ?_
        obtain rfl:=sI H20
        exact p_bar mo 3 [r0 [.v,.v,.b,.ap,.rwH 72 (.row 9 1 ((s0.1++[v2]).map cStr)),.v],r0 [.v,.v]] [.only [1,2,3,5] [1,72]] (poly_monomial_S3 x0 ((s0.1++[v2]),u0)) (all_app (apR (c:=cStr) cStr_ok s0.1 [v2] 16 (by decide) (by simpa using g2)) (aC (apQ 9 1 cStr s0.1 [v2]) aN)) (by kernel_rfl)
     ·obtain rfl:=sI H9
      obtain rfl:=out_brk h5
      exact p_bar mo 6 [r0 [.v,.v,.v,.e (nI x0.Vars.length),.v],.eqT 31 (.bool false)] [.only [2,3] [72]] (poly_monomial_S4 s0.1) (aT (aC (lenm cStr x0.Vars) (aB c5 aN))) (by kernel_rfl)
   ·subst e0
    have H21:=aftE_brk H7
    refine bnd H21 fun y2 h13 H22 => ?_
    refine some_e H22 fun e3 => ?_
    subst e3
    exact p_ret mo 3 [r0 [.v,.c false (.str y2),.v]] [] [] (aC Tryz.call153 (aF (lib_Join_c u1 [42] y2 h13) aN)) (by kernel_rfl)
/-- framewise/poly.Print -/
def poly_Print (x0:(List Monomial)):Option Str :=
 (poly_Valid x0).bind fun y0 =>
 bif y0 then (
  (cnt (σ:=Str) (ε:=Str) (ρ:=Empty) (fun i0 s0 =>
   ((
    bif decide (((x0.getD i0 ⟨0,[]⟩).Coef)<0) then (
     grd (s0.length+[45].length≤9223372036854775807) <|
     some (s0++[45])
    ) else (
     bif (s0==[]) then (
      some s0
     ) else (
      grd (s0.length+[43].length≤9223372036854775807) <|
      some (s0++[43])
     )
    )
   ):Option Str).bind fun v0 =>
   (poly_monomial (Monomial.mk ((x0.getD i0 ⟨0,[]⟩).Coef) ((x0.getD i0 ⟨0,[]⟩).Vars))).bind fun y1 =>
   grd (v0.length+y1.length≤9223372036854775807) <|
   some (.go (v0++y1))
  ) (fun i0 s0=>s0) (x0.length-0) 0 []).bind <| aftE fun u0 =>
  bif (u0==[]) then (
   some [48]
  ) else (
   some u0
  )
 ) else (
  some []
 )
def poly_Print_S1 (x0:(List Monomial)) (i0:Nat) (s0:Str):AS:=⟨34,[(2,.str []),(3,.str s0),(9,dS cMonomial x0),(10,nI x0.length),(11,nI i0)],[]⟩
def poly_Print_S2 (u1:Str):AS:=⟨34,[(2,.str []),(3,.str u1)],[]⟩
def poly_Print_S3 (x0:(List Monomial)) (i0:Nat) (v0:Str):AS:=⟨34,[(2,.str []),(3,.str v0),(5,.hptr 5 0),(9,dS cMonomial x0),(10,nI x0.length),(11,nI i0)],[(5,.cells 118 [iI ((x0.getD i0 ⟨0,[]⟩).Coef),.dslice (((x0.getD i0 ⟨0,[]⟩).Vars).map cStr)])]⟩
theorem poly_Print_c (x0:(List Monomial)) (r:Str) (H:poly_Print x0=some r):AFn Tryz.prog 49 [dS cMonomial x0] (.str r):=by
 unfold poly_Print at H
 refine acallX Tryz.func49 34 [.tmp 2] (by kernel_rfl) (by kernel_rfl) ?_
 refine bnd H fun y0 h0 H0 => ?_
 refine bsp H0 (fun c0 H1 => ?_) (fun c1 H2 => ?_)
 ·refine p_at mo 14 [.rg 0 [] [.v],.rg 0 [] [.v,.c true (.bool y0),.v],.eqT 8 (.bool false),.rg 0 [] [.v],.rg 0 [] [.v,.e (.int .i64 ((x0.length:Nat):Int)),.v]] [.only [2,3,9,10,11] []] 13 [false] (poly_Print_S1 x0 0 []) (aC Tryz.call70 (aF (poly_Valid_c x0 y0 h0) (aT (aM c0 (aT (aC (lenm cMonomial x0) aN)))))) (by kernel_rfl) ?_
  refine bnd H1 fun R0 h1 H3 => ?_
  refine p_joinO 1 (poly_Print_S2) R0 (by kernel_rfl) ?_ (fun u0 e0 => ?_)
  ·refine p_cnt (poly_Print_S1 x0) (by kernel_rfl) h1 (fun i0 s0 h2 e1 => ?_) (fun i0 s0 h3 q0 h4 h5 => ?_)
   ·have c2:=lF i0 x0.length (by omega)
    subst e1
    exact p_bar mo 5 [r0 [.e (.bool false)]] [.only [2,3] []] (poly_Print_S2 s0) (aB c2 aN) (by kernel_rfl)
   ·have c3:=lT i0 x0.length (by omega)
    refine p_at mo 13 [r0 [.e (.bool true)],r0 [.e (.dptr [iI ((x0.getD i0 ⟨0,[]⟩).Coef),.dslice (((x0.getD i0 ⟨0,[]⟩).Vars).map cStr)]),.v,.m,.m],r0 [.v,.v,.v,.v]] [.only [2,3,5,9,10,11,15] [5]] 13 [true] ⟨34,[(2,.str []),(3,.str s0),(5,.hptr 5 0),(9,dS cMonomial x0),(10,nI x0.length),(11,nI i0),(15,.bool (decide (((x0.getD i0 ⟨0,[]⟩).Coef)<0)))],[(5,.cells 118 [iI ((x0.getD i0 ⟨0,[]⟩).Coef),.dslice (((x0.getD i0 ⟨0,[]⟩).Vars).map cStr)])]⟩ (aB c3 (all_app (ix (f:=cMonomial) (l:=x0) (n:=i0) ⟨0,[]⟩ cMonomial_len (by decide) (by omega)) aN)) (by kernel_rfl) ?_
    refine bnd h4 fun v0 h6 H4 => ?_
    refine p_join 1 (poly_Print_S3 x0 i0 v0) (by kernel_rfl) ?_ ?_
    ·refine bsp h6 (fun c4 H5 => ?_) (fun c5 H6 => ?_)
     ·refine grd_e H5 fun g0 H7 => ?_
      obtain rfl:=sI H7
      exact p_bar mo 3 [.eqT 15 (.bool true),r0 [.v,.v,.v]] [.only [2,3,5,9,10,11] [5]] (poly_Print_S3 x0 i0 (s0++[45])) (aB c4 (aC (show s0.length+[45].length≤9223372036854775807 from g0) aN)) (by kernel_rfl)
     ·refine bsp H6 (fun c6 H8 => ?_) (fun c7 H9 => ?_)
      ·refine some_e H8 fun e2 => ?_
       subst e2
       exact p_bar mo 7 [.eqT 15 (.bool false),r0 [.v,.v,.v],.eqT 21 (.bool false)] [.only [2,3,5,9,10,11] [5]] (poly_Print_S3 x0 i0 s0) (aB c5 (aM c6 aN)) (by kernel_rfl)
      ·refine grd_e H9 fun g1 H10 => ?_
       obtain rfl:=sI H10
       exact p_bar mo 7 [.eqT 15 (.bool false),r0 [.v,.v,.v],.eqT 21 (.bool true),r0 [.v,.v,.v]] [.only [2,3,5,9,10,11] [5]] (poly_Print_S3 x0 i0 (s0++[43])) (aB c5 (aM c7 (aC (show s0.length+[43].length≤9223372036854775807 from g1) aN))) (by kernel_rfl)
    ·refine bnd H4 fun y1 h7 H11 => ?_
     refine grd_e H11 fun g2 H12 => ?_
     refine t_lens 9 (ps:=[(x0.map cMonomial).length≤9223372036854775807]) (by kernel_rfl) (fun l0 => ?_)
     have l1:x0.length≤9223372036854775807:=by simpa only [All,List.length_map] using l0
     clear l0
     obtain rfl:=sI H12
     exact p_bar mo 2 [r0 [.v,.v,.c true (.str y1),.v,.v],r0 [.v,.v]] [.only [2,3,9,10,11] []] (poly_Print_S1 x0 (i0+1) (v0++y1)) (aC Tryz.call118 (aF (poly_monomial_c (Monomial.mk ((x0.getD i0 ⟨0,[]⟩).Coef) ((x0.getD i0 ⟨0,[]⟩).Vars)) y1 h7) (aC (show v0.length+y1.length≤9223372036854775807 from g2) (aC (pI i0 (by omega)) aN)))) (by kernel_rfl)
  ·subst e0
   have H13:=aftE_brk H3
   refine bsp H13 (fun c8 H14 => ?_) (fun c9 H15 => ?_)
   ·obtain rfl:=sI H14
    exact p_ret mo 8 [r0 [.v,.v],.eqT 32 (.bool true),r0 [.v]] [] [] (aB c8 aN) (by kernel_rfl)
   ·refine some_e H15 fun e3 => ?_
    subst e3
    exact p_ret mo 9 [r0 [.v,.v],.eqT 32 (.bool false),r0 [.v,.v]] [] [] (aB c9 aN) (by kernel_rfl)
 ·obtain rfl:=sI H2
  exact p_ret mo 10 [r0 [.v],r0 [.v,.c true (.bool y0),.v],.eqT 8 (.bool true),r0 [.v]] [] [] (aC Tryz.call70 (aF (poly_Valid_c x0 y0 h0) (aT (aM c1 aN)))) (by kernel_rfl)
/-- framewise/poly.Parse -/
def poly_Parse (x0:Str):Option ((List Monomial)×Int) :=
 (whl (σ:=((List Monomial)×Str)) (ε:=(List Monomial)) (ρ:=((List Monomial)×Int)) (fun s0 =>
  bif (s0.2==[]) then (
   some (.brk s0.1)
  ) else (
   bif (x0==[48]) then (
    some (.brk s0.1)
   ) else (
    grd (0<s0.2.length) <|
    ((
     bif (((s0.2.getD 0 0).toNat:Int)==45) then (
      some (-1)
     ) else (
      some 1
     )
    ):Option Int).bind fun v0 =>
    ((
     bif (((s0.2.getD 0 0).toNat:Int)==45) then (
      some true
     ) else (
      some (((s0.2.getD 0 0).toNat:Int)==43)
     )
    ):Option Bool).bind fun v1 =>
    ((
     bif v1 then (
      grd (1≤s0.2.length) <|
      some (s0.2.drop 1)
     ) else (
      some s0.2
     )
    ):Option Str).bind fun v2 =>
    (lib_IndexAny v2 [43,45]).bind fun y0 =>
    ((
     bif decide (y0<0) then (
      some ((v2.length:Nat):Int)
     ) else (
      some y0
     )
    ):Option Int).bind fun v3 =>
    grd (0≤v3∧v3≤(v2.length:Int)) <|
    (poly_parseMonomial (v2.take v3.toNat)).bind fun y1 =>
    bif y1.2 then (
     bif decide (((s0.1.length:Nat):Int)>60) then (
      some (.ret ([],6))
     ) else (
      grd ((s0.1.length+1)*32≤140737488355328) <|
      some (.go ((s0.1++[(Monomial.mk (w64 (y1.1.Coef*v0)) y1.1.Vars)]),(v2.drop v3.toNat)))
     )
    ) else (
     some (.ret ([],6))
    )
   )
  )
 ) 4294967296 ([],x0)).bind <| aft fun u0 =>
 (poly_Valid u0).bind fun y2 =>
 bif y2 then (
  (poly_Print u0).bind fun y3 =>
  bif (y3==x0) then (
   some (u0,0)
  ) else (
   some ([],6)
  )
 ) else (
  some ([],6)
 )
def poly_Parse_S1 (x0:Str) (s0:((List Monomial)×Str)):AS:=⟨72,[(0,.str x0),(2,.eslice),(3,iI 0),(4,.rslice 58),(5,.str s0.2)],[(58,.row 118 2 (s0.1.map cMonomial))]⟩
def poly_Parse_S2 (x0:Str) (u1:(List Monomial)):AS:=⟨72,[(0,.str x0),(2,.eslice),(3,iI 0),(4,.rslice 58)],[(58,.row 118 2 (u1.map cMonomial))]⟩
def poly_Parse_S3 (x0:Str) (s0:((List Monomial)×Str)) (v0:Int):AS:=⟨72,[(0,.str x0),(2,.eslice),(3,iI 0),(4,.rslice 58),(5,.str s0.2),(6,iI v0)],[(58,.row 118 2 (s0.1.map cMonomial))]⟩
def poly_Parse_S4 (x0:Str) (s0:((List Monomial)×Str)) (v0:Int) (v1:Bool):AS:=⟨72,[(0,.str x0),(2,.eslice),(3,iI 0),(4,.rslice 58),(5,.str s0.2),(6,iI v0),(27,.bool v1)],[(58,.row 118 2 (s0.1.map cMonomial))]⟩
def poly_Parse_S5 (x0:Str) (s0:((List Monomial)×Str)) (v0:Int) (v2:Str):AS:=⟨72,[(0,.str x0),(2,.eslice),(3,iI 0),(4,.rslice 58),(5,.str v2),(6,iI v0)],[(58,.row 118 2 (s0.1.map cMonomial))]⟩
def poly_Parse_S6 (x0:Str) (s0:((List Monomial)×Str)) (v0:Int) (v2:Str) (v3:Int):AS:=⟨72,[(0,.str x0),(2,.eslice),(3,iI 0),(4,.rslice 58),(5,.str v2),(6,iI v0),(7,iI v3)],[(58,.row 118 2 (s0.1.map cMonomial))]⟩
theorem poly_Parse_c (x0:Str) (r:((List Monomial)×Int)) (H:poly_Parse x0=some r):AFn Tryz.prog 51 [.str x0] (.tup [dS cMonomial r.1,iI r.2]):=by
 unfold poly_Parse at H
 refine acallX Tryz.func51 72 [.tmp 2,.tmp 3] (by kernel_rfl) (by kernel_rfl) ?_
 refine p_at mo 8 [r0 [.v,.v],r0 [.v],r0 [.v,.v]] [.er 4 58 118 2,.only [0,2,3,4,5] [58]] 8 [] (poly_Parse_S1 x0 ([],x0)) aN (by kernel_rfl) ?_
 refine bnd H fun R0 h0 H0 => ?_
 refine p_joinO 1 (poly_Parse_S2 x0) R0 (by kernel_rfl) ?_ (fun u0 e0 => ?_)
 ·refine p_whl (poly_Parse_S1 x0) (by kernel_rfl) h0 (fun s0 q0 h1 h2 => ?_)
  ·refine bsp h1 (fun c0 H1 => ?_) (fun c1 H2 => ?_)
   ·obtain rfl:=sI H1
    obtain rfl:=out_brk h2
    exact p_bar mo 5 [r0 [.v,.e (.bool false),.v,.s,.s,.v]] [.only [0,2,3,4] [58]] (poly_Parse_S2 x0 s0.1) (aM c0 aN) (by kernel_rfl)
   ·refine bsp H2 (fun c2 H3 => ?_) (fun c3 H4 => ?_)
    ·obtain rfl:=sI H3
     obtain rfl:=out_brk h2
     exact p_bar mo 6 [r0 [.v,.e (.bool true),.v,.v,.v,.v],.eqT 16 (.bool false)] [.only [0,2,3,4] [58]] (poly_Parse_S2 x0 s0.1) (aM c1 (aM c2 aN)) (by kernel_rfl)
    ·refine grd_e H4 fun g0 H5 => ?_
     refine p_at mo 12 [r0 [.v,.e (.bool true),.v,.v,.v,.v],.eqT 16 (.bool true),r0 [.v],r0 [.v,.v,.v]] [.only [0,2,3,4,5,6,19] [58]] 11 [true] ⟨72,[(0,.str x0),(2,.eslice),(3,iI 0),(4,.rslice 58),(5,.str s0.2),(6,iI 1),(19,.bool (((s0.2.getD 0 0).toNat:Int)==45))],[(58,.row 118 2 (s0.1.map cMonomial))]⟩ (aM c1 (aM c3 (aC (show (0:Int)≤0∧0<(s0.2.length:Int) from by omega) aN))) (by kernel_rfl) ?_
     refine bnd H5 fun v0 h3 H6 => ?_
     refine p_join 0 (poly_Parse_S3 x0 s0 v0) (by kernel_rfl) ?_ ?_
     ·refine bsp h3 (fun c4 H7 => ?_) (fun c5 H8 => ?_)
      ·obtain rfl:=sI H7
       exact p_bar mo 3 [.eqT 19 (.bool true),r0 [.v]] [.only [0,2,3,4,5,6] [58]] (poly_Parse_S3 x0 s0 (-1)) (aB c4 aN) (by kernel_rfl)
      ·obtain rfl:=sI H8
       exact p_bar mo 3 [.eqT 19 (.bool false)] [.only [0,2,3,4,5,6] [58]] (poly_Parse_S3 x0 s0 1) (aB c5 aN) (by kernel_rfl)
     ·refine p_at mo 2 [] [.only [0,2,3,4,5,6] [58]] 2 [] ⟨72,[(0,.str x0),(2,.eslice),(3,.int .i64 0),(4,.rslice 58),(5,.str s0.2),(6,.int .i64 v0)],[(58,.row 118 2 (s0.1.map cMonomial))]⟩ aN (by kernel_rfl) ?_
      refine bnd H6 fun v1 h4 H9 => ?_
      refine p_join 0 (poly_Parse_S4 x0 s0 v0 v1) (by kernel_rfl) ?_ ?_
      ·refine bsp h4 (fun c6 H10 => ?_) (fun c7 H11 => ?_)
       ·obtain rfl:=sI H10
        exact p_bar mo 1 [r0 [.v,.v,.e (.bool true),.v,.s,.s,.s,.v]] [.only [0,2,3,4,5,6,27] [58]] (poly_Parse_S4 x0 s0 v0 true) (aC (show (0:Int)≤0∧0<(s0.2.length:Int) from by omega) (aB c6 aN)) (by kernel_rfl)
       ·obtain rfl:=sI H11
        exact p_bar mo 1 [r0 [.v,.v,.e (.bool false),.v,.v,.v,.v,.v]] [.only [0,2,3,4,5,6,27] [58]] (poly_Parse_S4 x0 s0 v0 (((s0.2.getD 0 0).toNat:Int)==43)) (aC (show (0:Int)≤0∧0<(s0.2.length:Int) from by omega) (aB c7 (aC (show (0:Int)≤0∧0<(s0.2.length:Int) from by omega) aN))) (by kernel_rfl)
      ·refine bnd H9 fun v2 h5 H12 => ?_
       refine p_join 0 (poly_Parse_S5 x0 s0 v0 v2) (by kernel_rfl) ?_ ?_
       ·refine bsp h5 (fun c8 H13 => ?_) (fun c9 H14 => ?_)
        ·refine grd_e H13 fun g1 H15 => ?_
         obtain rfl:=sI H15
         exact p_bar mo 3 [.eqT 27 (.bool true),r0 [.v,.e (.str (s0.2.drop 1)),.v]] [.only [0,2,3,4,5,6] [58]] (poly_Parse_S5 x0 s0 v0 (s0.2.drop 1)) (aB c8 (aC (show (0:Int)≤1∧1≤(s0.2.length:Int)∧(s0.2.length:Int)≤(s0.2.length:Int) from by omega) (aC (sl_drop s0.2 1) aN))) (by kernel_rfl)
        ·obtain rfl:=sI H14
         exact p_bar mo 3 [.eqT 27 (.bool false)] [.only [0,2,3,4,5,6] [58]] (poly_Parse_S5 x0 s0 v0 s0.2) (aB c9 aN) (by kernel_rfl)
       ·refine bnd H12 fun y0 h6 H16 => ?_
        refine p_at mo 5 [r0 [.v,.c true (iI y0),.v],r0 [.v,.v]] [.only [0,2,3,4,5,6,7,33] [58]] 5 [] ⟨72,[(0,.str x0),(2,.eslice),(3,iI 0),(4,.rslice 58),(5,.str v2),(6,iI v0),(7,iI y0),(33,.bool (decide (y0<0)))],[(58,.row 118 2 (s0.1.map cMonomial))]⟩ (aC Tryz.call120 (aF (lib_IndexAny_c v2 [43,45] y0 h6) aN)) (by kernel_rfl) ?_
        refine bnd H16 fun v3 h7 H17 => ?_
        refine p_join 0 (poly_Parse_S6 x0 s0 v0 v2 v3) (by kernel_rfl) ?_ ?_
        ·refine bsp h7 (fun c10 H18 => ?_) (fun c11 H19 => ?_)
         ·obtain rfl:=sI H18
          exact p_bar mo 3 [.eqT 33 (.bool true),r0 [.v,.v,.v]] [.only [0,2,3,4,5,6,7] [58]] (poly_Parse_S6 x0 s0 v0 v2 ((v2.length:Nat):Int)) (aB c10 (aT aN)) (by kernel_rfl)
         ·refine some_e H19 fun e1 => ?_
          subst e1
          exact p_bar mo 3 [.eqT 33 (.bool false)] [.only [0,2,3,4,5,6,7] [58]] (poly_Parse_S6 x0 s0 v0 v2 y0) (aB c11 aN) (by kernel_rfl)
        ·refine grd_e H17 fun g2 H20 => ?_
         refine bnd H20 fun y1 h8 H21 => ?_
         refine bsp H21 (fun c12 H22 => ?_) (fun c13 H23 => ?_)
         ·refine p_at mo 6 [.rg 0 [] [.v,.v,.e (.str (v2.take v3.toNat)),.c true (.tup [.agg [.int .i64 y1.1.Coef,.dslice (y1.1.Vars.map cStr)],.bool y1.2]),.v,.v,.v,.m,.m,.v],.eqT 9 (.bool true),.rg 0 [] [.v,.v,.v,.v,.e (.int .i64 ((s0.1.length:Nat):Int)),.v,.v]] [.only [0,2,3,4,5,6,7,8,49] [8,58]] 5 [] ⟨72,[(0,.str x0),(2,.eslice),(3,.int .i64 0),(4,.rslice 58),(5,.str v2),(6,.int .i64 v0),(7,.int .i64 v3),(8,.hptr 8 0),(49,.bool (decide (((s0.1.length:Nat):Int)>60)))],[(8,.cells 118 [.int .i64 y1.1.Coef,.dslice (y1.1.Vars.map cStr)]),(58,.row 118 2 (s0.1.map cMonomial))]⟩ (aC (show (0:Int)≤0∧0≤v3∧v3≤(v2.length:Int) from by omega) (aC (sl_take v2 v3.toNat) (aC Tryz.call121 (aF (poly_parseMonomial_c (v2.take v3.toNat) y1 h8) (aB c12 (aT (aT (aC (lenm cMonomial s0.1) aN)))))))) (by kernel_rfl) ?_
          refine bsp H22 (fun c14 H24 => ?_) (fun c15 H25 => ?_)
          ·obtain rfl:=sI H24
           obtain rfl:=out_ret h2
           obtain rfl:=sI (aft_ret H0)
           exact p_ret mo 5 [.eqT 49 (.bool true),r0 [.v,.v]] [.wk 2 []] [] (aB c14 aN) (by kernel_rfl)
          ·have c15p:=of_decide_eq_false c15
           refine grd_e H25 fun g3 H26 => ?_
           obtain rfl:=sI H26
           exact p_bar mo 8 [.eqT 49 (.bool false),r0 [.v,.v,.v,.w,.v,.m],r0 [.v,.v,.b,.ap,.rwH 58 (.row 118 2 ((s0.1++[(Monomial.mk (w64 (y1.1.Coef*v0)) y1.1.Vars)]).map cMonomial)),.v],r0 [.v,.v,.e (.str (v2.drop v3.toNat)),.v]] [.only [0,2,3,4,5] [58]] (poly_Parse_S1 x0 ((s0.1++[(Monomial.mk (w64 (y1.1.Coef*v0)) y1.1.Vars)]),(v2.drop v3.toNat))) (aB c15 (all_app (apR (c:=cMonomial) cMonomial_ok s0.1 [(Monomial.mk (w64 (y1.1.Coef*v0)) y1.1.Vars)] 32 (by decide) (by simpa using g3)) (aC (apQ 118 2 cMonomial s0.1 [(Monomial.mk (w64 (y1.1.Coef*v0)) y1.1.Vars)]) (aC (show (0:Int)≤v3∧v3≤(v2.length:Int)∧(v2.length:Int)≤(v2.length:Int) from by omega) (aC (sl_drop v2 v3.toNat) aN))))) (by kernel_rfl)
         ·obtain rfl:=sI H23
          obtain rfl:=out_ret h2
          obtain rfl:=sI (aft_ret H0)
          exact p_ret mo 10 [r0 [.v,.v,.e (.str (v2.take v3.toNat)),.c true (.tup [.agg [iI y1.1.Coef,dS cStr y1.1.Vars],.bool y1.2]),.v,.v,.v,.m,.m,.v],.eqT 9 (.bool false),r0 [.v,.v,.v,.s,.s,.s,.v],r0 [.v,.v]] [.wk 2 []] [] (aC (show (0:Int)≤0∧0≤v3∧v3≤(v2.length:Int) from by omega) (aC (sl_take v2 v3.toNat) (aC Tryz.call121 (aF (poly_parseMonomial_c (v2.take v3.toNat) y1 h8) (aB c13 (aT aN)))))) (by kernel_rfl)
 ·subst e0
  have H27:=aft_brk H0
  refine bnd H27 fun y2 h9 H28 => ?_
  refine bsp H28 (fun c16 H29 => ?_) (fun c17 H30 => ?_)
  ·refine bnd H29 fun y3 h10 H31 => ?_
   refine bsp H31 (fun c18 H32 => ?_) (fun c19 H33 => ?_)
   ·obtain rfl:=sI H32
    exact p_ret mo 9 [r0 [.v,.c false (.bool true),.v,.v,.v,.c false (.str y3),.v,.v,.v],.eqT 70 (.bool false),r0 [.v,.v,.v]] [.fz 58] [] (aC Tryz.call70 (aC (AFn.eq (poly_Valid_c u0 y2 h9) (cB c16)) (aT (aC Tryz.call49 (aF (poly_Print_c u0 y3 h10) (aM c18 aN)))))) (by kernel_rfl)
   ·obtain rfl:=sI H33
    exact p_ret mo 8 [r0 [.v,.c false (.bool true),.v,.v,.v,.c false (.str y3),.v,.v,.v],.eqT 70 (.bool true),r0 [.v,.v]] [.wk 2 []] [] (aC Tryz.call70 (aC (AFn.eq (poly_Valid_c u0 y2 h9) (cB c16)) (aT (aC Tryz.call49 (aF (poly_Print_c u0 y3 h10) (aM c19 aN)))))) (by kernel_rfl)
  ·obtain rfl:=sI H30
   exact p_ret mo 7 [r0 [.v,.c false (.bool false),.v,.v,.s,.s,.s,.s,.v],r0 [.v,.v]] [.wk 2 []] [] (aC Tryz.call70 (aC (AFn.eq (poly_Valid_c u0 y2 h9) (cB c17)) (aT aN))) (by kernel_rfl)
/-- framewise/poly.Eval$1 -/
def poly_Eval_1 (x0:Value) (x1:Str):Option Bool :=
 some (x0.Var==x1)
theorem poly_Eval_1_c (x0:Value) (x1:Str) (r:Bool) (H:poly_Eval_1 x0 x1=some r):AFn Tryz.prog 112 [.agg [.str x0.Var,iI x0.N],.dptr [.str x1]] (.bool r):=by
 unfold poly_Eval_1 at H
 refine acallX Tryz.func112 8 [.tmp 3] (by kernel_rfl) (by kernel_rfl) ?_
 obtain rfl:=sI H
 exact p_ret mo 5 [r0 [.m,.v],r0 [.v,.v,.v,.v,.v]] [] [] aN (by kernel_rfl)
/-- slices.IndexFunc[[]framewise/api.Value,framewise/api.Value] -/
def slices_IndexFunc_api_Value (x0:(List Value)) (x1:Str):Option Int :=
 (cnt (σ:=Unit) (ε:=Unit) (ρ:=Int) (fun i0 s0 =>
  (poly_Eval_1 (Value.mk ((x0.getD i0 ⟨[],0⟩).Var) ((x0.getD i0 ⟨[],0⟩).N)) x1).bind fun y0 =>
  bif y0 then (
   some (.ret ((i0:Nat):Int))
  ) else (
   some (.go ())
  )
 ) (fun i0 s0=>()) (x0.length-0) 0 ()).bind <| aft fun u0 =>
 some (-1)
def slices_IndexFunc_api_Value_S1 (x0:(List Value)) (x1:Str) (i0:Nat) (s0:Unit):AS:=⟨19,[(0,dS cValue x0),(1,.fn 112 [.hptr 1000 0]),(4,iI 0),(7,nI x0.length),(8,nI i0)],[(1000,.cells 9 [.str x1])]⟩
def slices_IndexFunc_api_Value_S2 (x1:Str) (u1:Unit):AS:=⟨19,[(4,iI 0)],[(1000,.cells 9 [.str x1])]⟩
theorem slices_IndexFunc_api_Value_c (x0:(List Value)) (x1:Str) (r:Int) (H:slices_IndexFunc_api_Value x0 x1=some r):ACall Tryz.prog 111 [dS cValue x0,.fn 112 [.hptr 1000 0]] [(1000,.cells 9 [.str x1])] (fun r2 h0=>r2=(iI r)∧h0=[(1000,.cells 9 [.str x1])]):=by
 unfold slices_IndexFunc_api_Value at H
 refine acallX Tryz.func111 19 [.tmp 4] (by kernel_rfl) (by kernel_rfl) ?_
 refine p_at mo 6 [r0 [.v],r0 [.v,.e (nI x0.length),.v]] [.only [0,1,4,7,8] [1000]] 6 [] (slices_IndexFunc_api_Value_S1 x0 x1 0 ()) (aT (aC (lenm cValue x0) aN)) (by kernel_rfl) ?_
 refine bnd H fun R0 h1 H0 => ?_
 refine p_joinO 1 (slices_IndexFunc_api_Value_S2 x1) R0 (by kernel_rfl) ?_ (fun u0 e0 => ?_)
 ·refine p_cnt (slices_IndexFunc_api_Value_S1 x0 x1) (by kernel_rfl) h1 (fun i0 s0 h2 e1 => ?_) (fun i0 s0 h3 q0 h4 h5 => ?_)
  ·have c0:=lF i0 x0.length (by omega)
   subst e1
   exact p_bar mo 5 [r0 [.e (.bool false)]] [.only [4] [1000]] (slices_IndexFunc_api_Value_S2 x1 ()) (aB c0 aN) (by kernel_rfl)
  ·have c1:=lT i0 x0.length (by omega)
   refine bnd h4 fun y0 h6 H1 => ?_
   refine p_at mo 11 [r0 [.e (.bool true)],r0 [.v,.v],r0 [.v,.v,.v,.e (.dptr [.str ((x0.getD i0 ⟨[],0⟩).Var),iI ((x0.getD i0 ⟨[],0⟩).N)]),.v,.c false (.bool y0)]] [.only [0,1,4,5,7,8,16] [1000]] 11 [true] ⟨19,[(0,dS cValue x0),(1,.fn 112 [.hptr 1000 0]),(4,iI 0),(5,nI i0),(7,nI x0.length),(8,nI i0),(16,.bool y0)],[(1000,.cells 9 [.str x1])]⟩ (aB c1 (all_app (ix (f:=cValue) (l:=x0) (n:=i0) ⟨[],0⟩ cValue_len (by decide) (by omega)) (aC Tryz.call112 (aF (poly_Eval_1_c (Value.mk ((x0.getD i0 ⟨[],0⟩).Var) ((x0.getD i0 ⟨[],0⟩).N)) x1 y0 h6) aN)))) (by kernel_rfl) ?_
   refine bsp H1 (fun c2 H2 => ?_) (fun c3 H3 => ?_)
   ·obtain rfl:=sI H2
    obtain rfl:=out_ret h5
    obtain rfl:=sI (aft_ret H0)
    exact p_ret mo 5 [.eqT 16 (.bool true),r0 [.v,.v]] [] [1000] (aB c2 aN) (by kernel_rfl)
   ·refine t_lens 0 (ps:=[(x0.map cValue).length≤9223372036854775807]) (by kernel_rfl) (fun l0 => ?_)
    have l1:x0.length≤9223372036854775807:=by simpa only [All,List.length_map] using l0
    clear l0
    obtain rfl:=sI H3
    exact p_bar mo 4 [.eqT 16 (.bool false),r0 [.v,.v]] [.only [0,1,4,7,8] [1000]] (slices_IndexFunc_api_Value_S1 x0 x1 (i0+1) ()) (aB c3 (aC (pI i0 (by omega)) aN)) (by kernel_rfl)
 ·subst e0
  have H4:=aft_brk H0
  obtain rfl:=sI H4
  exact p_ret mo 3 [r0 [.v]] [] [1000] aN (by kernel_rfl)
/-- slices.Index[[]int,int] -/
def slices_Index_int (x0:(List Int)) (x1:Int):Option Int :=
 (cnt (σ:=Unit) (ε:=Unit) (ρ:=Int) (fun i0 s0 =>
  bif (x1==(x0.getD i0 0)) then (
   some (.ret ((i0:Nat):Int))
  ) else (
   some (.go ())
  )
 ) (fun i0 s0=>()) (x0.length-0) 0 ()).bind <| aft fun u0 =>
 some (-1)
def slices_Index_int_S1 (x0:(List Int)) (x1:Int) (i0:Nat) (s0:Unit):AS:=⟨19,[(0,dS cInt_i64 x0),(1,iI x1),(4,iI 0),(7,nI x0.length),(8,nI i0)],[]⟩
def slices_Index_int_S2 (u1:Unit):AS:=⟨19,[(4,iI 0)],[]⟩
theorem slices_Index_int_c (x0:(List Int)) (x1:Int) (r:Int) (H:slices_Index_int x0 x1=some r):AFn Tryz.prog 237 [dS cInt_i64 x0,iI x1] (iI r):=by
 unfold slices_Index_int at H
 refine acallX Tryz.func237 19 [.tmp 4] (by kernel_rfl) (by kernel_rfl) ?_
 refine p_at mo 6 [r0 [.v],r0 [.v,.e (nI x0.length),.v]] [.only [0,1,4,7,8] []] 6 [] (slices_Index_int_S1 x0 x1 0 ()) (aT (aC (lenm cInt_i64 x0) aN)) (by kernel_rfl) ?_
 refine bnd H fun R0 h0 H0 => ?_
 refine p_joinO 1 (slices_Index_int_S2) R0 (by kernel_rfl) ?_ (fun u0 e0 => ?_)
 ·refine p_cnt (slices_Index_int_S1 x0 x1) (by kernel_rfl) h0 (fun i0 s0 h1 e1 => ?_) (fun i0 s0 h2 q0 h3 h4 => ?_)
  ·have c0:=lF i0 x0.length (by omega)
   subst e1
   exact p_bar mo 5 [r0 [.e (.bool false)]] [.only [4] []] (slices_Index_int_S2 ()) (aB c0 aN) (by kernel_rfl)
  ·have c1:=lT i0 x0.length (by omega)
   refine bsp h3 (fun c2 H1 => ?_) (fun c3 H2 => ?_)
   ·obtain rfl:=sI H1
    obtain rfl:=out_ret h4
    obtain rfl:=sI (aft_ret H0)
    exact p_ret mo 16 [r0 [.e (.bool true)],r0 [.v,.v],r0 [.v,.v,.v,.e (.dptr [iI (x0.getD i0 0)]),.v,.v],.eqT 16 (.bool true),r0 [.v,.v]] [] [] (aB c1 (all_app (ix (f:=cInt_i64) (l:=x0) (n:=i0) 0 cInt_i64_len (by decide) (by omega)) (aB c2 aN))) (by kernel_rfl)
   ·refine t_lens 0 (ps:=[(x0.map cInt_i64).length≤9223372036854775807]) (by kernel_rfl) (fun l0 => ?_)
    have l1:x0.length≤9223372036854775807:=by simpa only [All,List.length_map] using l0
    clear l0
    obtain rfl:=sI H2
    exact p_bar mo 15 [r0 [.e (.bool true)],r0 [.v,.v],r0 [.v,.v,.v,.e (.dptr [iI (x0.getD i0 0)]),.v,.v],.eqT 16 (.bool false),r0 [.v,.v]] [.only [0,1,4,7,8] []] (slices_Index_int_S1 x0 x1 (i0+1) ()) (aB c1 (all_app (ix (f:=cInt_i64) (l:=x0) (n:=i0) 0 cInt_i64_len (by decide) (by omega)) (aB c3 (aC (pI i0 (by omega)) aN)))) (by kernel_rfl)
 ·subst e0
  have H3:=aft_brk H0
  obtain rfl:=sI H3
  exact p_ret mo 3 [r0 [.v]] [] [] aN (by kernel_rfl)
/-- slices.Contains[[]int,int] -/
def slices_Contains_int (x0:(List Int)) (x1:Int):Option Bool :=
 (slices_Index_int x0 x1).bind fun y0 =>
 some (decide (y0≥0))
theorem slices_Contains_int_c (x0:(List Int)) (x1:Int) (r:Bool) (H:slices_Contains_int x0 x1=some r):AFn Tryz.prog 187 [dS cInt_i64 x0,iI x1] (.bool r):=by
 unfold slices_Contains_int at H
 refine acallX Tryz.func187 9 [.tmp 4] (by kernel_rfl) (by kernel_rfl) ?_
 refine bnd H fun y0 h0 H0 => ?_
 obtain rfl:=sI H0
 exact p_ret mo 5 [r0 [.v],r0 [.v,.v,.c true (iI y0),.v,.v]] [] [] (aC Tryz.call237 (aF (slices_Index_int_c x0 x1 y0 h0) aN)) (by kernel_rfl)
/-- framewise/intmath.Mul -/
def intmath_Mul (x0:Int) (x1:Int):Option (Int×Int) :=
 (intmath_in [x0,x1]).bind fun y0 =>
 bif y0 then (
  (intmath_abs x0).bind fun y1 =>
  (intmath_abs x1).bind fun y2 =>
  (lib_Mul64 (IntKind.wrap .u64 y1) (IntKind.wrap .u64 y2)).bind fun y3 =>
  bif decide (y3.1>0) then (
   some (0,2)
  ) else (
   bif decide (y3.2>4611686018427387904) then (
    some (0,2)
   ) else (
    bif (decide (x0<0)==decide (x1<0)) then (
     some ((IntKind.wrap .i64 y3.2),0)
    ) else (
     some ((w64 (0-(IntKind.wrap .i64 y3.2))),0)
    )
   )
  )
 ) else (
  some (0,2)
 )
theorem intmath_Mul_c (x0:Int) (x1:Int) (r:(Int×Int)) (H:intmath_Mul x0 x1=some r):AFn Tryz.prog 188 [iI x0,iI x1] (.tup [iI r.1,iI r.2]):=by
 unfold intmath_Mul at H
 refine acallX Tryz.func188 39 [.tmp 4,.tmp 5] (by kernel_rfl) (by kernel_rfl) ?_
 refine bnd H fun y0 h0 H0 => ?_
 refine bsp H0 (fun c0 H1 => ?_) (fun c1 H2 => ?_)
 ·refine bnd H1 fun y1 h1 H3 => ?_
  refine bnd H3 fun y2 h2 H4 => ?_
  refine bnd H4 fun y3 h3 H5 => ?_
  refine p_at mo 12 [r0 [.v,.v],r0 [.v,.v,.b,.c true (.bool y0),.v],.eqT 12 (.bool false),r0 [.v,.c true (iI y1),.v,.v,.c true (iI y2),.v,.c true (.tup [.int .u64 y3.1,.int .u64 y3.2]),.v,.v,.v,.v,.v]] [.only [0,1,4,5,6,7] []] 11 [false] ⟨39,[(0,iI x0),(1,iI x1),(4,iI 0),(5,iI 0),(6,.int .u64 y3.1),(7,.int .u64 y3.2)],[]⟩ (aC Tryz.call189 (aF (intmath_in_c [x0,x1] y0 h0) (aT (aM c0 (aC Tryz.call239 (aF (intmath_abs_c x0 y1 h1) (aT (aC Tryz.call239 (aF (intmath_abs_c x1 y2 h2) (aT (aC Tryz.call238 (aF (lib_Mul64_c (IntKind.wrap .u64 y1) (IntKind.wrap .u64 y2) y3 h3) aN)))))))))))) (by kernel_rfl) ?_
  refine bsp H5 (fun c2 H6 => ?_) (fun c3 H7 => ?_)
  ·obtain rfl:=sI H6
   exact p_ret mo 5 [r0 [.v,.e (.bool true),.v,.s,.s,.v],r0 [.v,.v]] [] [] (aB c2 aN) (by kernel_rfl)
  ·refine bsp H7 (fun c4 H8 => ?_) (fun c5 H9 => ?_)
   ·obtain rfl:=sI H8
    exact p_ret mo 6 [r0 [.v,.e (.bool false),.v,.v,.v,.v],.eqT 28 (.bool true),r0 [.v,.v]] [] [] (aB c3 (aB c4 aN)) (by kernel_rfl)
   ·refine bsp H9 (fun c6 H10 => ?_) (fun c7 H11 => ?_)
    ·obtain rfl:=sI H10
     exact p_ret mo 13 [r0 [.v,.e (.bool false),.v,.v,.v,.v],.eqT 28 (.bool false),r0 [.v,.v,.v,.v,.v],.eqT 33 (.bool false),r0 [.v,.v,.v,.v]] [] [] (aB c3 (aB c5 (aM c6 (aT aN)))) (by kernel_rfl)
    ·obtain rfl:=sI H11
     exact p_ret mo 12 [r0 [.v,.e (.bool false),.v,.v,.v,.v],.eqT 28 (.bool false),r0 [.v,.v,.v,.v,.v],.eqT 33 (.bool true),r0 [.v,.v,.w,.v,.v]] [] [] (aB c3 (aB c5 (aM c7 (aT aN)))) (by kernel_rfl)
 ·obtain rfl:=sI H2
  exact p_ret mo 10 [r0 [.v,.v],r0 [.v,.v,.b,.c true (.bool y0),.v],.eqT 12 (.bool true),r0 [.v,.v]] [] [] (aC Tryz.call189 (aF (intmath_in_c [x0,x1] y0 h0) (aT (aM c1 aN)))) (by kernel_rfl)
/-- framewise/poly.product -/
def poly_product (x0:(List Int)):Option (Int×Int) :=
 (slices_Contains_int x0 0).bind fun y0 =>
 bif y0 then (
  some (0,0)
 ) else (
  (cnt (σ:=Int) (ε:=Int) (ρ:=(Int×Int)) (fun i0 s0 =>
   (intmath_Mul s0 (x0.getD i0 0)).bind fun y1 =>
   bif (y1.2==0) then (
    some (.go y1.1)
   ) else (
    some (.ret (0,y1.2))
   )
  ) (fun i0 s0=>s0) (x0.length-0) 0 1).bind <| aft fun u0 =>
  some (u0,0)
 )
def poly_product_S1 (x0:(List Int)) (i0:Nat) (s0:Int):AS:=⟨29,[(2,iI 0),(3,iI 0),(4,iI s0),(11,dS cInt_i64 x0),(12,nI x0.length),(13,nI i0)],[]⟩
def poly_product_S2 (u1:Int):AS:=⟨29,[(2,iI 0),(3,iI 0),(4,iI u1)],[]⟩
theorem poly_product_c (x0:(List Int)) (r:(Int×Int)) (H:poly_product x0=some r):AFn Tryz.prog 113 [dS cInt_i64 x0] (.tup [iI r.1,iI r.2]):=by
 unfold poly_product at H
 refine acallX Tryz.func113 29 [.tmp 2,.tmp 3] (by kernel_rfl) (by kernel_rfl) ?_
 refine bnd H fun y0 h0 H0 => ?_
 refine bsp H0 (fun c0 H1 => ?_) (fun c1 H2 => ?_)
 ·obtain rfl:=sI H1
  exact p_ret mo 10 [r0 [.v,.v],r0 [.v,.c true (.bool y0)],.eqT 10 (.bool true),r0 [.v,.v]] [] [] (aC Tryz.call187 (aF (slices_Contains_int_c x0 0 y0 h0) (aB c0 aN))) (by kernel_rfl)
 ·refine p_at mo 14 [.rg 0 [] [.v,.v],.rg 0 [] [.v,.c true (.bool y0)],.eqT 10 (.bool false),.rg 0 [] [.v],.rg 0 [] [.v,.e (.int .i64 ((x0.length:Nat):Int)),.v]] [.only [2,3,4,11,12,13] []] 13 [false] (poly_product_S1 x0 0 1) (aC Tryz.call187 (aF (slices_Contains_int_c x0 0 y0 h0) (aB c1 (aT (aC (lenm cInt_i64 x0) aN))))) (by kernel_rfl) ?_
  refine bnd H2 fun R0 h1 H3 => ?_
  refine p_joinO 1 (poly_product_S2) R0 (by kernel_rfl) ?_ (fun u0 e0 => ?_)
  ·refine p_cnt (poly_product_S1 x0) (by kernel_rfl) h1 (fun i0 s0 h2 e1 => ?_) (fun i0 s0 h3 q0 h4 h5 => ?_)
   ·have c2:=lF i0 x0.length (by omega)
    subst e1
    exact p_bar mo 5 [r0 [.e (.bool false)]] [.only [2,3,4] []] (poly_product_S2 s0) (aB c2 aN) (by kernel_rfl)
   ·have c3:=lT i0 x0.length (by omega)
    refine bnd h4 fun y1 h6 H4 => ?_
    refine p_at mo 14 [r0 [.e (.bool true)],r0 [.e (.dptr [iI (x0.getD i0 0)]),.v,.v],r0 [.v,.v,.c true (.tup [iI y1.1,iI y1.2]),.v,.v,.v,.v,.v],r0 [.v,.v]] [.only [2,3,4,7,8,11,12,13,24] []] 14 [true] ⟨29,[(2,iI 0),(3,iI 0),(4,iI s0),(7,iI y1.1),(8,iI y1.2),(11,dS cInt_i64 x0),(12,nI x0.length),(13,nI i0),(24,.bool (y1.2 != 0))],[]⟩ (aB c3 (all_app (ix (f:=cInt_i64) (l:=x0) (n:=i0) 0 cInt_i64_len (by decide) (by omega)) (aC Tryz.call188 (aF (intmath_Mul_c s0 (x0.getD i0 0) y1 h6) aN)))) (by kernel_rfl) ?_
    refine bsp H4 (fun c4 H5 => ?_) (fun c5 H6 => ?_)
    ·refine t_lens 11 (ps:=[(x0.map cInt_i64).length≤9223372036854775807]) (by kernel_rfl) (fun l0 => ?_)
     have l1:x0.length≤9223372036854775807:=by simpa only [All,List.length_map] using l0
     clear l0
     obtain rfl:=sI H5
     exact p_bar mo 5 [.eqT 24 (.bool false),r0 [.v,.v],r0 [.v,.v]] [.only [2,3,4,11,12,13] []] (poly_product_S1 x0 (i0+1) y1.1) (aM c4 (aC (pI i0 (by omega)) aN)) (by kernel_rfl)
    ·obtain rfl:=sI H6
     obtain rfl:=out_ret h5
     obtain rfl:=sI (aft_ret H3)
     exact p_ret mo 5 [.eqT 24 (.bool true),r0 [.v,.v,.v]] [] [] (aM c5 aN) (by kernel_rfl)
  ·subst e0
   have H7:=aft_brk H3
   obtain rfl:=sI H7
   exact p_ret mo 3 [r0 [.v,.v,.v]] [] [] aN (by kernel_rfl)
/-- framewise/intmath.Sum -/
def intmath_Sum (x0:(List Int)):Option (Int×Int) :=
 bif decide (((x0.length:Nat):Int)>10000) then (
  some (0,3)
 ) else (
  (intmath_in x0).bind fun y0 =>
  bif y0 then (
   (cnt (σ:=(Int×Int×Int×Int×Int×Int)) (ε:=(Int×Int×Int×Int×Int×Int)) (ρ:=Empty) (fun i0 s0 =>
    (intmath_total_add (x0.getD i0 0) 1 s0.1 s0.2.1 s0.2.2.1 s0.2.2.2.1 s0.2.2.2.2.1 s0.2.2.2.2.2).bind fun y1 =>
    some (.go (y1.1,y1.2.1,y1.2.2.1,y1.2.2.2.1,y1.2.2.2.2.1,y1.2.2.2.2.2))
   ) (fun i0 s0=>(s0.1,s0.2.1,s0.2.2.1,s0.2.2.2.1,s0.2.2.2.2.1,s0.2.2.2.2.2)) (x0.length-0) 0 (0,0,0,0,0,0)).bind <| aftE fun u0 =>
   (intmath_total_value u0.1 u0.2.1 u0.2.2.1 u0.2.2.2.1 u0.2.2.2.2.1 u0.2.2.2.2.2).bind fun y2 =>
   some (y2.1,y2.2)
  ) else (
   some (0,2)
  )
 )
def intmath_Sum_S1 (x0:(List Int)) (i0:Nat) (s0:(Int×Int×Int×Int×Int×Int)):AS:=⟨25,[(2,iI 0),(3,iI 0),(4,.hptr 4 0),(13,dS cInt_i64 x0),(14,nI x0.length),(15,nI i0)],[(4,.cells 202 [.int .u64 s0.1,.int .u64 s0.2.1,.int .u64 s0.2.2.1,.int .u64 s0.2.2.2.1,.int .u64 s0.2.2.2.2.1,.int .u64 s0.2.2.2.2.2])]⟩
def intmath_Sum_S2 (u1:(Int×Int×Int×Int×Int×Int)):AS:=⟨25,[(2,iI 0),(3,iI 0),(4,.hptr 4 0)],[(4,.cells 202 [.int .u64 u1.1,.int .u64 u1.2.1,.int .u64 u1.2.2.1,.int .u64 u1.2.2.2.1,.int .u64 u1.2.2.2.2.1,.int .u64 u1.2.2.2.2.2])]⟩
theorem intmath_Sum_c (x0:(List Int)) (r:(Int×Int)) (H:intmath_Sum x0=some r):AFn Tryz.prog 114 [dS cInt_i64 x0] (.tup [iI r.1,iI r.2]):=by
 unfold intmath_Sum at H
 refine acallX Tryz.func114 25 [.tmp 2,.tmp 3] (by kernel_rfl) (by kernel_rfl) ?_
 refine bsp H (fun c0 H0 => ?_) (fun c1 H1 => ?_)
 ·obtain rfl:=sI H0
  exact p_ret mo 10 [r0 [.v,.v],r0 [.v,.e (nI x0.length),.v],.eqT 9 (.bool true),r0 [.v,.v]] [] [] (aT (aC (lenm cInt_i64 x0) (aB c0 aN))) (by kernel_rfl)
 ·have c1p:=of_decide_eq_false c1
  refine bnd H1 fun y0 h0 H2 => ?_
  refine bsp H2 (fun c2 H3 => ?_) (fun c3 H4 => ?_)
  ·refine p_at mo 20 [.rg 0 [] [.v,.v],.rg 0 [] [.v,.e (.int .i64 ((x0.length:Nat):Int)),.v],.eqT 9 (.bool false),.rg 0 [] [.v,.c true (.bool y0),.v],.eqT 12 (.bool false),.rg 0 [] [.m],.rg 0 [] [.v,.e (.int .i64 ((x0.length:Nat):Int)),.v]] [.only [2,3,4,13,14,15] [4]] 18 [false,false] (intmath_Sum_S1 x0 0 (0,0,0,0,0,0)) (aT (aC (lenm cInt_i64 x0) (aB c1 (aC Tryz.call189 (aF (intmath_in_c x0 y0 h0) (aT (aM c2 (aT (aC (lenm cInt_i64 x0) aN))))))))) (by kernel_rfl) ?_
   refine bnd H3 fun R0 h1 H5 => ?_
   refine p_joinO 1 (intmath_Sum_S2) R0 (by kernel_rfl) ?_ (fun u0 e0 => ?_)
   ·refine p_cnt (intmath_Sum_S1 x0) (by kernel_rfl) h1 (fun i0 s0 h2 e1 => ?_) (fun i0 s0 h3 q0 h4 h5 => ?_)
    ·have c4:=lF i0 x0.length (by omega)
     subst e1
     exact p_bar mo 5 [r0 [.e (.bool false)]] [.only [2,3,4] [4]] (intmath_Sum_S2 (s0.1,s0.2.1,s0.2.2.1,s0.2.2.2.1,s0.2.2.2.2.1,s0.2.2.2.2.2)) (aB c4 aN) (by kernel_rfl)
    ·have c5:=lT i0 x0.length (by omega)
     refine bnd h4 fun y1 h6 H6 => ?_
     refine t_lens 13 (ps:=[(x0.map cInt_i64).length≤9223372036854775807]) (by kernel_rfl) (fun l0 => ?_)
     have l1:x0.length≤9223372036854775807:=by simpa only [All,List.length_map] using l0
     clear l0
     obtain rfl:=sI H6
     exact p_bar mo 11 [r0 [.e (.bool true)],r0 [.e (.dptr [iI (x0.getD i0 0)]),.v,.v],r0 [.v,.hR [(4,1000)] 20 (.tup []) [(1000,.cells 202 [.int .u64 y1.1,.int .u64 y1.2.1,.int .u64 y1.2.2.1,.int .u64 y1.2.2.2.1,.int .u64 y1.2.2.2.2.1,.int .u64 y1.2.2.2.2.2])]],r0 [.v,.v]] [.only [2,3,4,13,14,15] [4]] (intmath_Sum_S1 x0 (i0+1) (y1.1,y1.2.1,y1.2.2.1,y1.2.2.2.1,y1.2.2.2.2.1,y1.2.2.2.2.2)) (aB c5 (all_app (ix (f:=cInt_i64) (l:=x0) (n:=i0) 0 cInt_i64_len (by decide) (by omega)) (aC Tryz.call190 (aC (intmath_total_add_c (x0.getD i0 0) 1 s0.1 s0.2.1 s0.2.2.1 s0.2.2.2.1 s0.2.2.2.2.1 s0.2.2.2.2.2 y1 h6) (aC (pI i0 (by omega)) aN))))) (by kernel_rfl)
   ·subst e0
    have H7:=aftE_brk H5
    refine bnd H7 fun y2 h7 H8 => ?_
    obtain rfl:=sI H8
    exact p_ret mo 3 [r0 [.hR [(4,1000)] 22 (.tup [iI y2.1,iI y2.2]) [(1000,.cells 202 [.int .u64 u0.1,.int .u64 u0.2.1,.int .u64 u0.2.2.1,.int .u64 u0.2.2.2.1,.int .u64 u0.2.2.2.2.1,.int .u64 u0.2.2.2.2.2])],.v,.v,.v,.v]] [] [] (aC Tryz.call191 (aC (intmath_total_value_c u0.1 u0.2.1 u0.2.2.1 u0.2.2.2.1 u0.2.2.2.2.1 u0.2.2.2.2.2 y2 h7) aN)) (by kernel_rfl)
  ·obtain rfl:=sI H4
   exact p_ret mo 16 [r0 [.v,.v],r0 [.v,.e (nI x0.length),.v],.eqT 9 (.bool false),r0 [.v,.c true (.bool y0),.v],.eqT 12 (.bool true),r0 [.v,.v]] [] [] (aT (aC (lenm cInt_i64 x0) (aB c1 (aC Tryz.call189 (aF (intmath_in_c x0 y0 h0) (aT (aM c3 aN))))))) (by kernel_rfl)
/-- framewise/poly.Eval -/
def poly_Eval (x0:(List Monomial)) (x1:(List Value)):Option (Int×Int) :=
 (poly_Valid x0).bind fun y0 =>
 bif y0 then (
  (cnt (σ:=((List (List Int))×Bool)) (ε:=((List (List Int))×Bool)) (ρ:=(Int×Int)) (fun i0 s0 =>
   (cnt (σ:=(Bool×(List Int))) (ε:=(Bool×(List Int))) (ρ:=(Stp ((List (List Int))×Bool) ((List (List Int))×Bool) (Int×Int))) (fun i1 s1 =>
    (slices_IndexFunc_api_Value x1 (((x0.getD i0 ⟨0,[]⟩).Vars).getD i1 [])).bind fun y1 =>
    bif decide (y1<0) then (
     some (.ret (.ret (0,7)))
    ) else (
     grd (0≤y1∧y1<(x1.length:Int)) <|
     ((
      bif s1.1 then (
       some true
      ) else (
       bif decide (((x1.getD y1.toNat ⟨[],0⟩).N)<(-4611686018427387904)) then (
        some true
       ) else (
        some (decide (((x1.getD y1.toNat ⟨[],0⟩).N)>4611686018427387904))
       )
      )
     ):Option Bool).bind fun v0 =>
     grd ((s1.2.length+1)*8≤140737488355328) <|
     some (.go (v0,(s1.2++[((x1.getD y1.toNat ⟨[],0⟩).N)])))
    )
   ) (fun i1 s1=>(s1.1,s1.2)) (((x0.getD i0 ⟨0,[]⟩).Vars).length-0) 0 (s0.2,[((x0.getD i0 ⟨0,[]⟩).Coef)])).bind <| aft fun u0 =>
   grd ((s0.1.length+1)*24≤140737488355328) <|
   some (.go ((s0.1++[u0.2]),u0.1))
  ) (fun i0 s0=>(s0.1,s0.2)) (x0.length-0) 0 ([],false)).bind <| aft fun u1 =>
  bif u1.2 then (
   some (0,2)
  ) else (
   (cnt (σ:=(List Int)) (ε:=(List Int)) (ρ:=(Int×Int)) (fun i2 s2 =>
    (poly_product (u1.1.getD i2 [])).bind fun y2 =>
    bif (y2.2==0) then (
     grd ((s2.length+1)*8≤140737488355328) <|
     some (.go (s2++[y2.1]))
    ) else (
     some (.ret (0,2))
    )
   ) (fun i2 s2=>s2) (u1.1.length-0) 0 []).bind <| aft fun u2 =>
   (intmath_Sum u2).bind fun y3 =>
   some (y3.1,y3.2)
  )
 ) else (
  some (0,1)
 )
def poly_Eval_S1 (x0:(List Monomial)) (x1:(List Value)) (i0:Nat) (s0:((List (List Int))×Bool)):AS:=⟨91,[(1,dS cValue x1),(4,iI 0),(5,iI 0),(6,.rslice 66),(7,.bool s0.2),(23,dS cMonomial x0),(24,nI x0.length),(25,nI i0)],[(66,.row 33 1 (s0.1.map cL_cInt_i64))]⟩
def poly_Eval_S2 (u3:((List (List Int))×Bool)):AS:=⟨91,[(4,iI 0),(5,iI 0),(6,.rslice 66),(7,.bool u3.2)],[(66,.row 33 1 (u3.1.map cL_cInt_i64))]⟩
def poly_Eval_S3 (x0:(List Monomial)) (x1:(List Value)) (i0:Nat) (s0:((List (List Int))×Bool)) (i1:Nat) (s1:(Bool×(List Int))):AS:=⟨91,[(1,dS cValue x1),(4,iI 0),(5,iI 0),(6,.rslice 66),(7,.bool s1.1),(10,.rslice 61),(23,dS cMonomial x0),(24,nI x0.length),(25,nI i0),(33,.dslice (((x0.getD i0 ⟨0,[]⟩).Vars).map cStr)),(34,iI ((((x0.getD i0 ⟨0,[]⟩).Vars).length:Nat):Int)),(35,nI i1)],[(61,.row 3 1 (s1.2.map cInt_i64)),(66,.row 33 1 (s0.1.map cL_cInt_i64))]⟩
def poly_Eval_S4 (x0:(List Monomial)) (x1:(List Value)) (i0:Nat) (s0:((List (List Int))×Bool)) (u4:(Bool×(List Int))):AS:=⟨91,[(1,dS cValue x1),(4,iI 0),(5,iI 0),(6,.rslice 66),(7,.bool u4.1),(10,.rslice 61),(23,dS cMonomial x0),(24,nI x0.length),(25,nI i0)],[(61,.row 3 1 (u4.2.map cInt_i64)),(66,.row 33 1 (s0.1.map cL_cInt_i64))]⟩
def poly_Eval_S5 (x0:(List Monomial)) (x1:(List Value)) (i0:Nat) (s0:((List (List Int))×Bool)) (i1:Nat) (s1:(Bool×(List Int))) (y1:Int) (v0:Bool):AS:=⟨91,[(1,dS cValue x1),(4,iI 0),(5,iI 0),(6,.rslice 66),(7,.bool v0),(10,.rslice 61),(14,iI ((x1.getD y1.toNat ⟨[],0⟩).N)),(23,dS cMonomial x0),(24,nI x0.length),(25,nI i0),(33,.dslice (((x0.getD i0 ⟨0,[]⟩).Vars).map cStr)),(34,iI ((((x0.getD i0 ⟨0,[]⟩).Vars).length:Nat):Int)),(35,nI i1)],[(61,.row 3 1 (s1.2.map cInt_i64)),(66,.row 33 1 (s0.1.map cL_cInt_i64))]⟩
def poly_Eval_S6 (u1:((List (List Int))×Bool)) (i2:Nat) (s2:(List Int)):AS:=⟨91,[(4,iI 0),(5,iI 0),(15,.rslice 85),(69,.rslice 66),(70,nI u1.1.length),(71,nI i2)],[(66,.row 33 1 (u1.1.map cL_cInt_i64)),(85,.row 3 1 (s2.map cInt_i64))]⟩
def poly_Eval_S7 (u5:(List Int)):AS:=⟨91,[(4,iI 0),(5,iI 0),(15,.rslice 85)],[(85,.row 3 1 (u5.map cInt_i64))]⟩
theorem poly_Eval_c (x0:(List Monomial)) (x1:(List Value)) (r:(Int×Int)) (H:poly_Eval x0 x1=some r):AFn Tryz.prog 47 [dS cMonomial x0,dS cValue x1] (.tup [iI r.1,iI r.2]):=by
 unfold poly_Eval at H
 refine acallX Tryz.func47 91 [.tmp 4,.tmp 5] (by kernel_rfl) (by kernel_rfl) ?_
 refine bnd H fun y0 h0 H0 => ?_
 refine bsp H0 (fun c0 H1 => ?_) (fun c1 H2 => ?_)
 ·refine p_at mo 16 [.rg 0 [] [.v,.v],.rg 0 [] [.v,.c true (.bool y0),.v],.eqT 22 (.bool false),.rg 0 [] [.v],.rg 0 [] [.v],.rg 0 [] [.v,.e (.int .i64 ((x0.length:Nat):Int)),.v]] [.er 6 66 33 1,.only [1,4,5,6,7,23,24,25] [66]] 15 [false] (poly_Eval_S1 x0 x1 0 ([],false)) (aC Tryz.call70 (aF (poly_Valid_c x0 y0 h0) (aT (aM c0 (aT (aC (lenm cMonomial x0) aN)))))) (by kernel_rfl) ?_
  refine bnd H1 fun R0 h1 H3 => ?_
  refine p_joinO 1 (poly_Eval_S2) R0 (by kernel_rfl) ?_ (fun u1 e0 => ?_)
  ·refine p_cnt (poly_Eval_S1 x0 x1) (by kernel_rfl) h1 (fun i0 s0 h2 e1 => ?_) (fun i0 s0 h3 q0 h4 h5 => ?_)
   ·have c2:=lF i0 x0.length (by omega)
    subst e1
    exact p_bar mo 5 [r0 [.e (.bool false)]] [.only [4,5,6,7] [66]] (poly_Eval_S2 (s0.1,s0.2)) (aB c2 aN) (by kernel_rfl)
   ·have c3:=lT i0 x0.length (by omega)
    refine p_at mo 15 [r0 [.e (.bool true)],r0 [.e (.dptr [iI ((x0.getD i0 ⟨0,[]⟩).Coef),.dslice (((x0.getD i0 ⟨0,[]⟩).Vars).map cStr)]),.v,.m,.m],r0 [.v,.v,.ap,.rwH 31 (.row 3 1 ([((x0.getD i0 ⟨0,[]⟩).Coef)].map cInt_i64)),.v],r0 [.v,.v,.e (iI ((((x0.getD i0 ⟨0,[]⟩).Vars).length:Nat):Int)),.v]] [.ren [(31,61),(66,66)],.only [1,4,5,6,7,10,23,24,25,33,34,35] [61,66]] 15 [true] (poly_Eval_S3 x0 x1 i0 s0 0 (s0.2,[((x0.getD i0 ⟨0,[]⟩).Coef)])) (aB c3 (all_app (ix (f:=cMonomial) (l:=x0) (n:=i0) ⟨0,[]⟩ cMonomial_len (by decide) (by omega)) (aC (Eq.refl (AO.row 3 1 ([((x0.getD i0 ⟨0,[]⟩).Coef)].map cInt_i64))) (aT (aC (lenm cStr ((x0.getD i0 ⟨0,[]⟩).Vars)) aN))))) (by kernel_rfl) ?_
    refine bnd h4 fun R1 h6 H4 => ?_
    refine p_joinO 1 (poly_Eval_S4 x0 x1 i0 s0) R1 (by kernel_rfl) ?_ (fun u0 e2 => ?_)
    ·refine p_cnt (poly_Eval_S3 x0 x1 i0 s0) (by kernel_rfl) h6 (fun i1 s1 h7 e3 => ?_) (fun i1 s1 h8 q1 h9 h10 => ?_)
     ·have c4:=lF i1 (((x0.getD i0 ⟨0,[]⟩).Vars).length) (by omega)
      subst e3
      exact p_bar mo 5 [r0 [.e (.bool false)]] [.only [1,4,5,6,7,10,23,24,25] [61,66]] (poly_Eval_S4 x0 x1 i0 s0 (s1.1,s1.2)) (aB c4 aN) (by kernel_rfl)
     ·have c5:=lT i1 (((x0.getD i0 ⟨0,[]⟩).Vars).length) (by omega)
      refine bnd h9 fun y1 h11 H5 => ?_
      refine p_at mo 14 [r0 [.e (.bool true)],r0 [.e (.dptr [.str (((x0.getD i0 ⟨0,[]⟩).Vars).getD i1 [])]),.v,.m,.m],r0 [.v,.v,.hR [(12,1000)] 41 (iI y1) [(1000,.cells 9 [.str (((x0.getD i0 ⟨0,[]⟩).Vars).getD i1 [])])],.v],r0 [.v,.v]] [.only [1,4,5,6,7,10,13,23,24,25,33,34,35,43] [61,66]] 14 [true] ⟨91,[(1,dS cValue x1),(4,iI 0),(5,iI 0),(6,.rslice 66),(7,.bool s1.1),(10,.rslice 61),(13,iI y1),(23,dS cMonomial x0),(24,nI x0.length),(25,nI i0),(33,.dslice (((x0.getD i0 ⟨0,[]⟩).Vars).map cStr)),(34,iI ((((x0.getD i0 ⟨0,[]⟩).Vars).length:Nat):Int)),(35,nI i1),(43,.bool (decide (y1<0)))],[(61,.row 3 1 (s1.2.map cInt_i64)),(66,.row 33 1 (s0.1.map cL_cInt_i64))]⟩ (aB c5 (all_app (ix (f:=cStr) (l:=((x0.getD i0 ⟨0,[]⟩).Vars)) (n:=i1) [] cStr_len (by decide) (by omega)) (aC Tryz.call111 (aC (slices_IndexFunc_api_Value_c x1 (((x0.getD i0 ⟨0,[]⟩).Vars).getD i1 []) y1 h11) aN)))) (by kernel_rfl) ?_
      refine bsp H5 (fun c6 H6 => ?_) (fun c7 H7 => ?_)
      ·obtain rfl:=sI H6
       obtain rfl:=out_ret h10
       obtain rfl:=sI (aft_ret H4)
       obtain rfl:=out_ret h5
       obtain rfl:=sI (aft_ret H3)
       exact p_ret mo 5 [.eqT 43 (.bool true),r0 [.v,.v]] [] [] (aB c6 aN) (by kernel_rfl)
      ·have c7p:=of_decide_eq_false c7
       refine grd_e H7 fun g0 H8 => ?_
       refine p_at mo 6 [.eqT 43 (.bool false),r0 [.v,.v,.e (.dptr [.str ((x1.getD y1.toNat ⟨[],0⟩).Var),iI ((x1.getD y1.toNat ⟨[],0⟩).N)]),.v,.v,.v]] [.only [1,4,5,6,7,10,14,23,24,25,33,34,35] [61,66]] 5 [false] ⟨91,[(1,dS cValue x1),(4,iI 0),(5,iI 0),(6,.rslice 66),(7,.bool s1.1),(10,.rslice 61),(14,iI ((x1.getD y1.toNat ⟨[],0⟩).N)),(23,dS cMonomial x0),(24,nI x0.length),(25,nI i0),(33,.dslice (((x0.getD i0 ⟨0,[]⟩).Vars).map cStr)),(34,iI ((((x0.getD i0 ⟨0,[]⟩).Vars).length:Nat):Int)),(35,nI i1)],[(61,.row 3 1 (s1.2.map cInt_i64)),(66,.row 33 1 (s0.1.map cL_cInt_i64))]⟩ (aB c7 (all_app (ixz (f:=cValue) (l:=x1) (n:=y1) ⟨[],0⟩ cValue_len (by decide) (by exact g0)) aN)) (by kernel_rfl) ?_
       refine bnd H8 fun v0 h12 H9 => ?_
       refine p_join 0 (poly_Eval_S5 x0 x1 i0 s0 i1 s1 y1 v0) (by kernel_rfl) ?_ ?_
       ·refine bsp h12 (fun c8 H10 => ?_) (fun c9 H11 => ?_)
        ·obtain rfl:=sI H10
         exact p_bar mo 2 [.eqT 7 (.bool true),r0 [.v,.v,.s,.s,.v,.v,.s,.s,.v,.v]] [.only [1,4,5,6,7,10,14,23,24,25,33,34,35] [61,66]] (poly_Eval_S5 x0 x1 i0 s0 i1 s1 y1 true) (aB c8 aN) (by kernel_rfl)
        ·refine bsp H11 (fun c10 H12 => ?_) (fun c11 H13 => ?_)
         ·obtain rfl:=sI H12
          exact p_bar mo 2 [.eqT 7 (.bool false),r0 [.v,.v,.v,.e (.bool true),.v,.v,.s,.s,.v,.v]] [.only [1,4,5,6,7,10,14,23,24,25,33,34,35] [61,66]] (poly_Eval_S5 x0 x1 i0 s0 i1 s1 y1 true) (aB c9 (aB c10 aN)) (by kernel_rfl)
         ·obtain rfl:=sI H13
          exact p_bar mo 2 [.eqT 7 (.bool false),r0 [.v,.v,.v,.e (.bool false),.v,.v,.v,.v,.v,.v]] [.only [1,4,5,6,7,10,14,23,24,25,33,34,35] [61,66]] (poly_Eval_S5 x0 x1 i0 s0 i1 s1 y1 (decide (((x1.getD y1.toNat ⟨[],0⟩).N)>4611686018427387904))) (aB c9 (aB c11 aN)) (by kernel_rfl)
       ·refine grd_e H9 fun g1 H14 => ?_
        refine t_lens 33 (ps:=[(((x0.getD i0 ⟨0,[]⟩).Vars).map cStr).length≤9223372036854775807]) (by kernel_rfl) (fun l0 => ?_)
        have l1:((x0.getD i0 ⟨0,[]⟩).Vars).length≤9223372036854775807:=by simpa only [All,List.length_map] using l0
        clear l0
        obtain rfl:=sI H14
        exact p_bar mo 2 [r0 [.v,.v,.b,.ap,.rwH 61 (.row 3 1 ((s1.2++[((x1.getD y1.toNat ⟨[],0⟩).N)]).map cInt_i64)),.v],r0 [.v,.v]] [.only [1,4,5,6,7,10,23,24,25,33,34,35] [61,66]] (poly_Eval_S3 x0 x1 i0 s0 (i1+1) (v0,(s1.2++[((x1.getD y1.toNat ⟨[],0⟩).N)]))) (all_app (apR (c:=cInt_i64) cInt_i64_ok s1.2 [((x1.getD y1.toNat ⟨[],0⟩).N)] 8 (by decide) (by simpa using g1)) (aC (apQ 3 1 cInt_i64 s1.2 [((x1.getD y1.toNat ⟨[],0⟩).N)]) (aC (pI i1 (by omega)) aN))) (by kernel_rfl)
    ·subst e2
     have H15:=aft_brk H4
     refine grd_e H15 fun g2 H16 => ?_
     refine t_lens 23 (ps:=[(x0.map cMonomial).length≤9223372036854775807]) (by kernel_rfl) (fun l2 => ?_)
     have l3:x0.length≤9223372036854775807:=by simpa only [All,List.length_map] using l2
     clear l2
     obtain rfl:=sI H16
     exact p_bar mo 2 [r0 [.v,.v,.fz 61,.b,.ap,.rwH 66 (.row 33 1 ((s0.1++[u0.2]).map cL_cInt_i64)),.v],r0 [.v,.v]] [.only [1,4,5,6,7,23,24,25] [66]] (poly_Eval_S1 x0 x1 (i0+1) ((s0.1++[u0.2]),u0.1)) (all_app (apR (c:=cL_cInt_i64) cL_cInt_i64_ok s0.1 [u0.2] 24 (by decide) (by simpa using g2)) (aC (apQ 33 1 cL_cInt_i64 s0.1 [u0.2]) (aC (pI i0 (by omega)) aN))) (by kernel_rfl)
  ·subst e0
   have H17:=aft_brk H3
   refine bsp H17 (fun c12 H18 => ?_) (fun c13 H19 => ?_)
   ·obtain rfl:=sI H18
    exact p_ret mo 8 [r0 [.v],.eqT 68 (.bool true),r0 [.v,.v]] [] [] (aB c12 aN) (by kernel_rfl)
   ·refine p_at mo 12 [.rg 0 [] [.v],.eqT 68 (.bool false),.rg 0 [] [.v],.rg 0 [] [.v,.e (.int .i64 ((u1.1.length:Nat):Int)),.v]] [.er 15 85 3 1,.only [4,5,15,69,70,71] [66,85]] 11 [false] (poly_Eval_S6 u1 0 []) (aB c13 (aT (aC (lenm cL_cInt_i64 u1.1) aN))) (by kernel_rfl) ?_
    refine bnd H19 fun R2 h13 H20 => ?_
    refine p_joinO 1 (poly_Eval_S7) R2 (by kernel_rfl) ?_ (fun u2 e4 => ?_)
    ·refine p_cnt (poly_Eval_S6 u1) (by kernel_rfl) h13 (fun i2 s2 h14 e5 => ?_) (fun i2 s2 h15 q2 h16 h17 => ?_)
     ·have c14:=lF i2 u1.1.length (by omega)
      subst e5
      exact p_bar mo 5 [r0 [.e (.bool false)]] [.only [4,5,15] [85]] (poly_Eval_S7 s2) (aB c14 aN) (by kernel_rfl)
     ·have c15:=lT i2 u1.1.length (by omega)
      refine bnd h16 fun y2 h18 H21 => ?_
      refine p_at mo 14 [r0 [.e (.bool true)],r0 [.v,.rl i2 0 (.dslice ((u1.1.getD i2 []).map cInt_i64)),.v],r0 [.v,.c true (.tup [iI y2.1,iI y2.2]),.v,.v,.v,.v,.v],r0 [.v,.v]] [.only [4,5,15,18,69,70,71,81] [66,85]] 14 [true] ⟨91,[(4,iI 0),(5,iI 0),(15,.rslice 85),(18,iI y2.1),(69,.rslice 66),(70,nI u1.1.length),(71,nI i2),(81,.bool (y2.2 != 0))],[(66,.row 33 1 (u1.1.map cL_cInt_i64)),(85,.row 3 1 (s2.map cInt_i64))]⟩ (aB c15 (aC (show (0:Int)≤((i2:Nat):Int)∧((i2:Nat):Int)<((u1.1.map cL_cInt_i64).length:Int) from by rw [List.length_map];omega) (aC (rlP (f:=cL_cInt_i64) (l:=u1.1) (n:=i2) 1 0 1 (by omega) (by decide)) (aC (rl1 (f:=cL_cInt_i64) (l:=u1.1) (n:=i2) [] 0 (by omega)) (aC Tryz.call113 (aF (poly_product_c (u1.1.getD i2 []) y2 h18) aN)))))) (by kernel_rfl) ?_
      refine bsp H21 (fun c16 H22 => ?_) (fun c17 H23 => ?_)
      ·refine grd_e H22 fun g3 H24 => ?_
       refine t_lensR 66 (n:=(u1.1.map cL_cInt_i64).length) (by kernel_rfl) (fun l4 => ?_)
       have l5:u1.1.length≤9223372036854775807:=by simpa only [List.length_map] using l4
       clear l4
       obtain rfl:=sI H24
       exact p_bar mo 5 [.eqT 81 (.bool false),r0 [.v,.v,.b,.ap,.rwH 85 (.row 3 1 ((s2++[y2.1]).map cInt_i64)),.v],r0 [.v,.v]] [.only [4,5,15,69,70,71] [66,85]] (poly_Eval_S6 u1 (i2+1) (s2++[y2.1])) (aM c16 (all_app (apR (c:=cInt_i64) cInt_i64_ok s2 [y2.1] 8 (by decide) (by simpa using g3)) (aC (apQ 3 1 cInt_i64 s2 [y2.1]) (aC (pI i2 (by omega)) aN)))) (by kernel_rfl)
      ·obtain rfl:=sI H23
       obtain rfl:=out_ret h17
       obtain rfl:=sI (aft_ret H20)
       exact p_ret mo 5 [.eqT 81 (.bool true),r0 [.v,.v]] [] [] (aM c17 aN) (by kernel_rfl)
    ·subst e4
     have H25:=aft_brk H20
     refine bnd H25 fun y3 h19 H26 => ?_
     obtain rfl:=sI H26
     exact p_ret mo 3 [r0 [.v,.c false (.tup [iI y3.1,iI y3.2]),.v,.v,.v,.v]] [] [] (aC Tryz.call114 (aF (intmath_Sum_c u2 y3 h19) aN)) (by kernel_rfl)
 ·obtain rfl:=sI H2
  exact p_ret mo 10 [r0 [.v,.v],r0 [.v,.c true (.bool y0),.v],.eqT 22 (.bool true),r0 [.v,.v]] [] [] (aC Tryz.call70 (aF (poly_Valid_c x0 y0 h0) (aT (aM c1 aN)))) (by kernel_rfl)
/-- framewise/poly.Degree -/
def poly_Degree (x0:(List Monomial)):Option Int :=
 (cnt (σ:=Int) (ε:=Int) (ρ:=Empty) (fun i0 s0 =>
  some (.go (if ((((x0.getD i0 ⟨0,[]⟩).Vars).length:Nat):Int)>s0 then ((((x0.getD i0 ⟨0,[]⟩).Vars).length:Nat):Int) else s0))
 ) (fun i0 s0=>s0) (x0.length-0) 0 0).bind <| aftE fun u0 =>
 (poly_Valid x0).bind fun y0 =>
 bif y0 then (
  some u0
 ) else (
  some 0
 )
def poly_Degree_S1 (x0:(List Monomial)) (i0:Nat) (s0:Int):AS:=⟨22,[(0,dS cMonomial x0),(2,iI 0),(3,iI s0),(6,dS cMonomial x0),(7,nI x0.length),(8,nI i0)],[]⟩
def poly_Degree_S2 (x0:(List Monomial)) (u1:Int):AS:=⟨22,[(0,dS cMonomial x0),(2,iI 0),(3,iI u1)],[]⟩
theorem poly_Degree_c (x0:(List Monomial)) (r:Int) (H:poly_Degree x0=some r):AFn Tryz.prog 57 [dS cMonomial x0] (iI r):=by
 unfold poly_Degree at H
 refine acallX Tryz.func57 22 [.tmp 2] (by kernel_rfl) (by kernel_rfl) ?_
 refine p_at mo 8 [r0 [.v],r0 [.v],r0 [.v,.e (nI x0.length),.v]] [.only [0,2,3,6,7,8] []] 8 [] (poly_Degree_S1 x0 0 0) (aT (aC (lenm cMonomial x0) aN)) (by kernel_rfl) ?_
 refine bnd H fun R0 h0 H0 => ?_
 refine p_joinO 1 (poly_Degree_S2 x0) R0 (by kernel_rfl) ?_ (fun u0 e0 => ?_)
 ·refine p_cnt (poly_Degree_S1 x0) (by kernel_rfl) h0 (fun i0 s0 h1 e1 => ?_) (fun i0 s0 h2 q0 h3 h4 => ?_)
  ·have c0:=lF i0 x0.length (by omega)
   subst e1
   exact p_bar mo 5 [r0 [.e (.bool false)]] [.only [0,2,3] []] (poly_Degree_S2 x0 s0) (aB c0 aN) (by kernel_rfl)
  ·have c1:=lT i0 x0.length (by omega)
   refine t_lens 0 (ps:=[(x0.map cMonomial).length≤9223372036854775807]) (by kernel_rfl) (fun l0 => ?_)
   have l1:x0.length≤9223372036854775807:=by simpa only [All,List.length_map] using l0
   clear l0
   obtain rfl:=sI h3
   exact p_bar mo 11 [r0 [.e (.bool true)],r0 [.e (.dptr [iI ((x0.getD i0 ⟨0,[]⟩).Coef),.dslice (((x0.getD i0 ⟨0,[]⟩).Vars).map cStr)]),.v,.m,.m],r0 [.v,.v,.v,.e (iI ((((x0.getD i0 ⟨0,[]⟩).Vars).length:Nat):Int)),.v,.v],r0 [.v,.v]] [.only [0,2,3,6,7,8] []] (poly_Degree_S1 x0 (i0+1) (if ((((x0.getD i0 ⟨0,[]⟩).Vars).length:Nat):Int)>s0 then ((((x0.getD i0 ⟨0,[]⟩).Vars).length:Nat):Int) else s0)) (aB c1 (all_app (ix (f:=cMonomial) (l:=x0) (n:=i0) ⟨0,[]⟩ cMonomial_len (by decide) (by omega)) (aT (aC (lenm cStr ((x0.getD i0 ⟨0,[]⟩).Vars)) (aT (aC (pI i0 (by omega)) aN)))))) (by kernel_rfl)
 ·subst e0
  have H1:=aftE_brk H0
  refine bnd H1 fun y0 h5 H2 => ?_
  refine bsp H2 (fun c2 H3 => ?_) (fun c3 H4 => ?_)
  ·refine some_e H3 fun e2 => ?_
   subst e2
   exact p_ret mo 9 [r0 [.v,.c true (.bool y0),.v],.eqT 20 (.bool false),r0 [.v,.v]] [] [] (aC Tryz.call70 (aF (poly_Valid_c x0 y0 h5) (aT (aM c2 aN)))) (by kernel_rfl)
  ·obtain rfl:=sI H4
   exact p_ret mo 8 [r0 [.v,.c true (.bool y0),.v],.eqT 20 (.bool true),r0 [.v]] [] [] (aC Tryz.call70 (aF (poly_Valid_c x0 y0 h5) (aT (aM c3 aN)))) (by kernel_rfl)
end Go.Proofs.YtjfpcjnopbfekaaGreatDoor
