/- What functions of the program compute, walked: each as a plain function, with the theorem that the code computes it wherever that answers. Printed by a program (gen3.py), part 1. -/
import Derived.Test.YtjfpcjnopbfekaaGreatDoorLibC
import Derived.Test.YtjfpcjnopbfekaaGreatDoorAbN
import Derived.KernelRfl
import Derived.Test.YtjfpcjnopbfekaaGreatDoorProg
set_option linter.unusedSimpArgs false
set_option linter.unusedVariables false
namespace Go.Proofs.YtjfpcjnopbfekaaGreatDoor
open Go.RowKit Go.Ab Go.Sh
structure Coef where
  Var : Str
  C : Int
  deriving DecidableEq
def cCoef (x : Coef) : List AV := [.str x.Var, .int .i64 x.C]
theorem cCoef_len (x : Coef) : (cCoef x).length = 2 := rfl
theorem cCoef_ok (x : Coef) : (cCoef x).length = 2 ∧ (cCoef x).all (fun v => v.one && v.fl) = true := ⟨rfl, rfl⟩
structure Linear where
  Const : Int
  Terms : (List Coef)
  deriving DecidableEq
def cLinear (x : Linear) : List AV := [.int .i64 x.Const, .dslice (x.Terms.map cCoef)]
theorem cLinear_len (x : Linear) : (cLinear x).length = 2 := rfl
theorem cLinear_ok (x : Linear) : (cLinear x).length = 2 ∧ (cLinear x).all (fun v => v.one && v.fl) = true := ⟨rfl, rfl⟩
structure Shape where
  Row : Str
  Dims : (List Linear)
  deriving DecidableEq
def cShape (x : Shape) : List AV := [.str x.Row, .dslice (x.Dims.map cLinear)]
theorem cShape_len (x : Shape) : (cShape x).length = 2 := rfl
theorem cShape_ok (x : Shape) : (cShape x).length = 2 ∧ (cShape x).all (fun v => v.one && v.fl) = true := ⟨rfl, rfl⟩
def cByte (x : UInt8) : List AV := [.int .u8 ((x).toNat : Int)]
theorem cByte_len (x : UInt8) : (cByte x).length = 1 := rfl
theorem cByte_ok (x : UInt8) : (cByte x).length = 1 ∧ (cByte x).all (fun v => v.one && v.fl) = true := ⟨rfl, rfl⟩
def cStr (x : Str) : List AV := [.str x]
theorem cStr_len (x : Str) : (cStr x).length = 1 := rfl
theorem cStr_ok (x : Str) : (cStr x).length = 1 ∧ (cStr x).all (fun v => v.one && v.fl) = true := ⟨rfl, rfl⟩
structure Bind where
  Kind : Int
  Var : Str
  Dim : Linear
  Row : Shape
  Elem : Str
  deriving DecidableEq
def cBind (x : Bind) : List AV := [.int .i64 x.Kind, .str x.Var, .int .i64 x.Dim.Const, .dslice (x.Dim.Terms.map cCoef), .str x.Row.Row, .dslice (x.Row.Dims.map cLinear), .str x.Elem]
theorem cBind_len (x : Bind) : (cBind x).length = 7 := rfl
theorem cBind_ok (x : Bind) : (cBind x).length = 7 ∧ (cBind x).all (fun v => v.one && v.fl) = true := ⟨rfl, rfl⟩
def cInt_i64 (x : Int) : List AV := [.int .i64 x]
theorem cInt_i64_len (x : Int) : (cInt_i64 x).length = 1 := rfl
theorem cInt_i64_ok (x : Int) : (cInt_i64 x).length = 1 ∧ (cInt_i64 x).all (fun v => v.one && v.fl) = true := ⟨rfl, rfl⟩
structure Value where
  Var : Str
  N : Int
  deriving DecidableEq
def cValue (x : Value) : List AV := [.str x.Var, .int .i64 x.N]
theorem cValue_len (x : Value) : (cValue x).length = 2 := rfl
theorem cValue_ok (x : Value) : (cValue x).length = 2 ∧ (cValue x).all (fun v => v.one && v.fl) = true := ⟨rfl, rfl⟩
def cL_cLinear (x : (List Linear)) : List AV := [.dslice (x.map cLinear)]
theorem cL_cLinear_len (x : (List Linear)) : (cL_cLinear x).length = 1 := rfl
theorem cL_cLinear_ok (x : (List Linear)) : (cL_cLinear x).length = 1 ∧ (cL_cLinear x).all (fun v => v.one && v.fl) = true := ⟨rfl, rfl⟩
/-- framewise/framewiselaw11.dim -/
def law11_dim (x0 : Int) (x1 : Str) (x2 : Int) : Option Linear :=
  bif (x0 == 0) then (
    some (Linear.mk x2 [])
  ) else (
    some (Linear.mk x2 [(Coef.mk x1 x0)])
  )
theorem law11_dim_c (x0 : Int) (x1 : Str) (x2 : Int) (r : Linear) (H : law11_dim x0 x1 x2 = some r) : AFn Tryz.prog 79 [.int .i64 x0, .str x1, .int .i64 x2] (.agg [.int .i64 r.Const, .dslice (r.Terms.map cCoef)]) := by
  unfold law11_dim at H
  refine acallX Tryz.func79 17 [.cell 6 39] (by kernel_rfl) (by kernel_rfl) ?_
  refine bsp H (fun c1 H2 => ?_) (fun c3 H4 => ?_)
  · refine some_e H2 fun e5 => ?_
    subst e5
    exact p_ret Tryz.mo 10 [.rg 0 [] [.m], .rg 0 [] [.v, .v], .eqT 8 (.bool true), .rg 0 [] [.v, .b, .m]] [.wkH 6 1 []] [] (all_cons (congrArg (AV.bool) c1) all_nil) (by kernel_rfl)
  · refine some_e H4 fun e6 => ?_
    subst e6
    exact p_ret Tryz.mo 11 [.rg 0 [] [.m], .rg 0 [] [.v, .v], .eqT 8 (.bool false), .rg 0 [] [.v, .v, .v, .b, .b, .b, .m]] [] [] (all_cons (congrArg (AV.bool) c3) all_nil) (by kernel_rfl)
/-- internal/stringslite.HasPrefix -/
def internal_stringslite_HasPrefix (x0 : Str) (x1 : Str) : Option Bool :=
  bif decide (((x0.length : Nat) : Int) ≥ ((x1.length : Nat) : Int)) then (
    grd (x1.length ≤ x0.length) <|
    some ((x0.take x1.length) == x1)
  ) else (
    some false
  )
theorem internal_stringslite_HasPrefix_c (x0 : Str) (x1 : Str) (r : Bool) (H : internal_stringslite_HasPrefix x0 x1 = some r) : AFn Tryz.prog 220 [.str x0, .str x1] (.bool r) := by
  unfold internal_stringslite_HasPrefix at H
  refine acallX Tryz.func220 18 [.tmp 4] (by kernel_rfl) (by kernel_rfl) ?_
  refine bsp H (fun c3 H4 => ?_) (fun c5 H6 => ?_)
  · have c3p := of_decide_eq_true c3
    refine grd_e H4 fun g7 H8 => ?_
    refine some_e H8 fun e9 => ?_
    subst e9
    exact p_ret Tryz.mo 5 [.rg 0 [] [.v], .rg 0 [] [.v, .v, .v, .v, .e (.bool true), .v, .v, .v, .v, .e (.str (x0.take x1.length)), .v, .v, .v, .v]] [] [] (all_cons trivial (all_cons trivial (all_cons (congrArg (AV.bool) c3) (all_cons trivial (all_cons (show (0 : Int) ≤ 0 ∧ 0 ≤ ((x1.length : Nat) : Int) ∧ ((x1.length : Nat) : Int) ≤ (x0.length : Int) from by omega) (all_cons (sl_take x0 x1.length) all_nil)))))) (by kernel_rfl)
  · have c5p := of_decide_eq_false c5
    refine some_e H6 fun e10 => ?_
    subst e10
    exact p_ret Tryz.mo 5 [.rg 0 [] [.v], .rg 0 [] [.v, .v, .v, .v, .e (.bool false), .v, .s, .s, .s, .s, .s, .s, .v, .v]] [] [] (all_cons trivial (all_cons trivial (all_cons (congrArg (AV.bool) c5) all_nil))) (by kernel_rfl)
/-- strings.HasPrefix -/
def strings_HasPrefix (x0 : Str) (x1 : Str) : Option Bool :=
  (internal_stringslite_HasPrefix x0 x1).bind fun y1 =>
  some y1
theorem strings_HasPrefix_c (x0 : Str) (x1 : Str) (r : Bool) (H : strings_HasPrefix x0 x1 = some r) : AFn Tryz.prog 166 [.str x0, .str x1] (.bool r) := by
  unfold strings_HasPrefix at H
  refine acallX Tryz.func166 8 [.tmp 4] (by kernel_rfl) (by kernel_rfl) ?_
  refine bnd H fun y1 h2 H3 => ?_
  refine some_e H3 fun e4 => ?_
  subst e4
  exact p_ret Tryz.mo 5 [.rg 0 [] [.v], .rg 0 [] [.v, .v, .c true (.bool y1), .v]] [] [] (all_cons Tryz.call220 (all_cons (AFn.is (internal_stringslite_HasPrefix_c x0 x1 y1 h2)) all_nil)) (by kernel_rfl)
/-- framewise/linear.Name -/
def linear_Name (x0 : Str) : Option Bool :=
  (strings_HasPrefix x0 [95]).bind fun y1 =>
  bif y1 then (
    grd (1 ≤ x0.length) <|
    (lib_Atoi (x0.drop 1)).bind fun y51 =>
    bif y51.2 then (
      bif decide (y51.1 > 0) then (
        bif decide (((x0.length : Nat) : Int) ≤ 10) then (
          (lib_Itoa y51.1).bind fun y87 =>
          some (y87 == (x0.drop 1))
        ) else (
          some false
        )
      ) else (
        some false
      )
    ) else (
      some false
    )
  ) else (
    (cnt (σ := Unit) (ε := Unit) (ρ := Bool) (fun i214 s213 =>
      ((
        bif decide ((((x0.getD i214 0)).toNat : Int) < 97) then (
          bif (((i214 : Nat) : Int) == 0) then (
            some (.ret (.ret false))
          ) else (
            bif decide ((((x0.getD i214 0)).toNat : Int) < 48) then (
              some (.ret (.ret false))
            ) else (
              bif decide ((((x0.getD i214 0)).toNat : Int) > 57) then (
                some (.ret (.ret false))
              ) else (
                some (.brk ())
              )
            )
          )
        ) else (
          bif decide ((((x0.getD i214 0)).toNat : Int) > 122) then (
            bif (((i214 : Nat) : Int) == 0) then (
              some (.ret (.ret false))
            ) else (
              bif decide ((((x0.getD i214 0)).toNat : Int) < 48) then (
                some (.ret (.ret false))
              ) else (
                bif decide ((((x0.getD i214 0)).toNat : Int) > 57) then (
                  some (.ret (.ret false))
                ) else (
                  some (.brk ())
                )
              )
            )
          ) else (
            some (.brk ())
          )
        )
      ) : Option (Out Unit (Stp Unit Unit Bool))).bind (aft fun u389 =>
        some (.go ())
      )
    ) (fun i214 s213 => ()) (x0.length - 0) 0 ()).bind <| aft fun u468 =>
    bif (x0 == []) then (
      some false
    ) else (
      some (decide (((x0.length : Nat) : Int) ≤ 30))
    )
  )
def linear_Name_S1 (x0 : Str) (i214 : Nat) (s213 : Unit) : AS := ⟨67, [(0, .str x0), (2, .bool false), (34, .dslice (x0.map cByte)), (35, .int .i64 ((x0.length : Nat) : Int)), (36, .int .i64 ((i214 : Nat) : Int))], []⟩
def linear_Name_S2 (x0 : Str) (u320 : Unit) : AS := ⟨67, [(0, .str x0), (2, .bool false)], []⟩
def linear_Name_S3 (x0 : Str) (i214 : Nat) (u389 : Unit) : AS := ⟨67, [(0, .str x0), (2, .bool false), (5, .int .i64 ((i214 : Nat) : Int)), (6, .int .u8 (((x0.getD i214 0)).toNat : Int)), (34, .dslice (x0.map cByte)), (35, .int .i64 ((x0.length : Nat) : Int)), (36, .int .i64 ((i214 : Nat) : Int)), (37, .bool true), (58, .bool false)], []⟩
theorem linear_Name_c (x0 : Str) (r : Bool) (H : linear_Name x0 = some r) : AFn Tryz.prog 96 [.str x0] (.bool r) := by
  unfold linear_Name at H
  refine acallX Tryz.func96 67 [.tmp 2] (by kernel_rfl) (by kernel_rfl) ?_
  refine bnd H fun y1 h2 H3 => ?_
  refine bsp H3 (fun c45 H46 => ?_) (fun c47 H48 => ?_)
  · refine grd_e H46 fun g49 H50 => ?_
    refine bnd H50 fun y51 h52 H53 => ?_
    refine bsp H53 (fun c65 H66 => ?_) (fun c67 H68 => ?_)
    · refine bsp H66 (fun c76 H77 => ?_) (fun c78 H79 => ?_)
      · have c76p := of_decide_eq_true c76
        refine bsp H77 (fun c83 H84 => ?_) (fun c85 H86 => ?_)
        · have c83p := of_decide_eq_true c83
          refine bnd H84 fun y87 h88 H89 => ?_
          refine some_e H89 fun e90 => ?_
          subst e90
          exact p_ret Tryz.mo 13 [.rg 0 [] [.v], .rg 0 [] [.v, .c true (.bool y1)], .eqT 8 (.bool true), .rg 0 [] [.v, .e (.str (x0.drop 1)), .cf true (.tup [.int .i64 y51.1, errV 272 y51.2]), .v, .v, .v, .v, .v], .eqT 4 (.nilI), .rg 16 [.v, .v, .v, .v, .e (.bool true), .v, .v, .v, .v, .e (.bool true), .v, .v, .v, .c true (.str y87), .v, .e (.str (x0.drop 1))] [.v, .v, .v]] [] [] (all_cons Tryz.call166 (all_cons (AFn.is (strings_HasPrefix_c x0 [95] y1 h2)) (all_cons (congrArg (AV.bool) c45) (all_cons (show (0 : Int) ≤ 1 ∧ 1 ≤ (x0.length : Int) ∧ (x0.length : Int) ≤ (x0.length : Int) from by omega) (all_cons (sl_drop x0 1) (all_cons Tryz.call167 (all_cons (AFn.is (lib_Atoi_c (x0.drop 1) y51 h52)) (all_cons (show okRes true (.tup [.int .i64 y51.1, errV 272 y51.2]) = true from by cases h0 : y51.2 <;> rfl) (all_cons (congrArg (errV 272) c65) (all_cons (congrArg (AV.bool) c76) (all_cons trivial (all_cons (congrArg (AV.bool) c83) (all_cons Tryz.call168 (all_cons (AFn.is (lib_Itoa_c y51.1 y87 h88)) (all_cons (show (0 : Int) ≤ 1 ∧ 1 ≤ (x0.length : Int) ∧ (x0.length : Int) ≤ (x0.length : Int) from by omega) (all_cons (sl_drop x0 1) all_nil)))))))))))))))) (by kernel_rfl)
        · have c85p := of_decide_eq_false c85
          refine some_e H86 fun e91 => ?_
          subst e91
          exact p_ret Tryz.mo 13 [.rg 0 [] [.v], .rg 0 [] [.v, .c true (.bool y1)], .eqT 8 (.bool true), .rg 0 [] [.v, .e (.str (x0.drop 1)), .cf true (.tup [.int .i64 y51.1, errV 272 y51.2]), .v, .v, .v, .v, .v], .eqT 4 (.nilI), .rg 16 [.v, .v, .v, .v, .e (.bool true), .v, .v, .v, .v, .e (.bool false), .v, .v, .s, .s, .s, .s] [.s, .v, .v]] [] [] (all_cons Tryz.call166 (all_cons (AFn.is (strings_HasPrefix_c x0 [95] y1 h2)) (all_cons (congrArg (AV.bool) c45) (all_cons (show (0 : Int) ≤ 1 ∧ 1 ≤ (x0.length : Int) ∧ (x0.length : Int) ≤ (x0.length : Int) from by omega) (all_cons (sl_drop x0 1) (all_cons Tryz.call167 (all_cons (AFn.is (lib_Atoi_c (x0.drop 1) y51 h52)) (all_cons (show okRes true (.tup [.int .i64 y51.1, errV 272 y51.2]) = true from by cases h0 : y51.2 <;> rfl) (all_cons (congrArg (errV 272) c65) (all_cons (congrArg (AV.bool) c76) (all_cons trivial (all_cons (congrArg (AV.bool) c85) all_nil)))))))))))) (by kernel_rfl)
      · have c78p := of_decide_eq_false c78
        refine some_e H79 fun e92 => ?_
        subst e92
        exact p_ret Tryz.mo 13 [.rg 0 [] [.v], .rg 0 [] [.v, .c true (.bool y1)], .eqT 8 (.bool true), .rg 0 [] [.v, .e (.str (x0.drop 1)), .cf true (.tup [.int .i64 y51.1, errV 272 y51.2]), .v, .v, .v, .v, .v], .eqT 4 (.nilI), .rg 16 [.v, .v, .v, .v, .e (.bool false), .v, .v, .s, .s, .s, .v, .v, .s, .s, .s, .s] [.s, .v, .v]] [] [] (all_cons Tryz.call166 (all_cons (AFn.is (strings_HasPrefix_c x0 [95] y1 h2)) (all_cons (congrArg (AV.bool) c45) (all_cons (show (0 : Int) ≤ 1 ∧ 1 ≤ (x0.length : Int) ∧ (x0.length : Int) ≤ (x0.length : Int) from by omega) (all_cons (sl_drop x0 1) (all_cons Tryz.call167 (all_cons (AFn.is (lib_Atoi_c (x0.drop 1) y51 h52)) (all_cons (show okRes true (.tup [.int .i64 y51.1, errV 272 y51.2]) = true from by cases h0 : y51.2 <;> rfl) (all_cons (congrArg (errV 272) c65) (all_cons (congrArg (AV.bool) c78) all_nil)))))))))) (by kernel_rfl)
    · refine some_e H68 fun e93 => ?_
      subst e93
      exact p_ret Tryz.mo 13 [.rg 0 [] [.v], .rg 0 [] [.v, .c true (.bool y1)], .eqT 8 (.bool true), .rg 0 [] [.v, .e (.str (x0.drop 1)), .cf true (.tup [.int .i64 y51.1, errV 272 y51.2]), .v, .v, .v, .v, .v], .eqT 4 (.iface 272 (.any)), .rg 16 [.v, .v, .v, .s, .s, .v, .v, .s, .s, .s, .v, .v, .s, .s, .s, .s] [.s, .v, .v]] [] [] (all_cons Tryz.call166 (all_cons (AFn.is (strings_HasPrefix_c x0 [95] y1 h2)) (all_cons (congrArg (AV.bool) c45) (all_cons (show (0 : Int) ≤ 1 ∧ 1 ≤ (x0.length : Int) ∧ (x0.length : Int) ≤ (x0.length : Int) from by omega) (all_cons (sl_drop x0 1) (all_cons Tryz.call167 (all_cons (AFn.is (lib_Atoi_c (x0.drop 1) y51 h52)) (all_cons (show okRes true (.tup [.int .i64 y51.1, errV 272 y51.2]) = true from by cases h0 : y51.2 <;> rfl) (all_cons (congrArg (errV 272) c67) all_nil))))))))) (by kernel_rfl)
  · refine p_at Tryz.mo 12 [.rg 0 [] [.v], .rg 0 [] [.v, .c true (.bool y1)], .eqT 8 (.bool false), .rg 0 [] [.v, .m, .e (.int .i64 ((x0.length : Nat) : Int)), .v]] [.only [0, 2, 34, 35, 36] []] 11 [false] (linear_Name_S1 x0 0 ()) (all_cons Tryz.call166 (all_cons (AFn.is (strings_HasPrefix_c x0 [95] y1 h2)) (all_cons (congrArg (AV.bool) c47) (all_cons trivial (all_cons (lenm cByte x0) all_nil))))) (by kernel_rfl) ?_
    refine bnd H48 fun R317 h318 H319 => ?_
    refine p_joinO 1 (linear_Name_S2 x0) R317 (by kernel_rfl) ?_ (fun u468 e469 => ?_)
    · refine p_cnt (linear_Name_S1 x0) (by kernel_rfl) h318 (fun i214 s213 h321 e322 => ?_) (fun i214 s213 h329 q325 h326 h327 => ?_)
      · have c323 : decide (((i214 : Nat) : Int) < ((x0.length : Nat) : Int)) = false := decide_eq_false (by omega)
        subst e322
        exact p_bar Tryz.mo 5 [.rg 0 [] [.e (.bool false)]] [.only [0, 2] []] (linear_Name_S2 x0 ()) (all_cons (congrArg (AV.bool) c323) all_nil) (by kernel_rfl)
      · have c328 : decide (((i214 : Nat) : Int) < ((x0.length : Nat) : Int)) = true := decide_eq_true (by omega)
        refine p_at Tryz.mo 10 [.rg 0 [] [.e (.bool true)], .rg 0 [] [.v, .e (.dptr [.int .u8 (((x0.getD i214 0)).toNat : Int)]), .v, .v, .v]] [.only [0, 2, 5, 6, 34, 35, 36, 37] []] 10 [true] ⟨67, [(0, .str x0), (2, .bool false), (5, .int .i64 ((i214 : Nat) : Int)), (6, .int .u8 (((x0.getD i214 0)).toNat : Int)), (34, .dslice (x0.map cByte)), (35, .int .i64 ((x0.length : Nat) : Int)), (36, .int .i64 ((i214 : Nat) : Int)), (37, .bool true)], []⟩ (all_cons (congrArg (AV.bool) c328) (all_app (ix (f := cByte) (l := x0) (n := i214) 0 cByte_len (by decide) (by omega)) all_nil)) (by kernel_rfl) ?_
        refine bnd h326 fun v386 h387 H388 => ?_
        refine p_joinO 2 (linear_Name_S3 x0 i214) v386 (by kernel_rfl) ?_ (fun u389 e467 => ?_)
        · refine bsp h387 (fun c390 H391 => ?_) (fun c392 H393 => ?_)
          · have c390p := of_decide_eq_true c390
            refine bsp H391 (fun c394 H395 => ?_) (fun c396 H397 => ?_)
            · refine some_e H395 fun e398 => ?_
              subst e398
              have H399 := aft_ret H388
              refine some_e H399 fun e400 => ?_
              subst e400
              have e401 := out_ret h327
              subst e401
              have H402 := aft_ret H319
              refine some_e H402 fun e403 => ?_
              subst e403
              exact p_ret Tryz.mo 5 [.rg 0 [] [.v, .e (.bool true), .v, .s, .s, .v, .v, .v, .e (.bool true), .v, .s, .s, .v, .v, .s, .s, .v, .v], .rg 0 [] [.v]] [] [] (all_cons (congrArg (AV.bool) c390) (all_cons (congrArg (AV.bool) c394) all_nil)) (by kernel_rfl)
            · refine bsp H397 (fun c404 H405 => ?_) (fun c406 H407 => ?_)
              · have c404p := of_decide_eq_true c404
                refine some_e H405 fun e408 => ?_
                subst e408
                have H409 := aft_ret H388
                refine some_e H409 fun e410 => ?_
                subst e410
                have e411 := out_ret h327
                subst e411
                have H412 := aft_ret H319
                refine some_e H412 fun e413 => ?_
                subst e413
                exact p_ret Tryz.mo 5 [.rg 0 [] [.v, .e (.bool true), .v, .s, .s, .v, .v, .v, .e (.bool false), .v, .v, .e (.bool true), .v, .v, .s, .s, .v, .v], .rg 0 [] [.v]] [] [] (all_cons (congrArg (AV.bool) c390) (all_cons (congrArg (AV.bool) c396) (all_cons (congrArg (AV.bool) c404) all_nil))) (by kernel_rfl)
              · have c406p := of_decide_eq_false c406
                refine bsp H407 (fun c414 H415 => ?_) (fun c416 H417 => ?_)
                · have c414p := of_decide_eq_true c414
                  refine some_e H415 fun e418 => ?_
                  subst e418
                  have H419 := aft_ret H388
                  refine some_e H419 fun e420 => ?_
                  subst e420
                  have e421 := out_ret h327
                  subst e421
                  have H422 := aft_ret H319
                  refine some_e H422 fun e423 => ?_
                  subst e423
                  exact p_ret Tryz.mo 6 [.rg 0 [] [.v, .e (.bool true), .v, .s, .s, .v, .v, .v, .e (.bool false), .v, .v, .e (.bool false), .v, .v, .v, .v, .v, .v], .eqT 58 (.bool true), .rg 0 [] [.v]] [] [] (all_cons (congrArg (AV.bool) c390) (all_cons (congrArg (AV.bool) c396) (all_cons (congrArg (AV.bool) c406) (all_cons (congrArg (AV.bool) c414) all_nil)))) (by kernel_rfl)
                · have c416p := of_decide_eq_false c416
                  refine some_e H417 fun e424 => ?_
                  subst e424
                  exact p_bar Tryz.mo 4 [.rg 0 [] [.v, .e (.bool true), .v, .s, .s, .v, .v, .v, .e (.bool false), .v, .v, .e (.bool false), .v, .v, .v, .v, .v, .v], .eqT 58 (.bool false)] [.only [0, 2, 5, 6, 34, 35, 36, 37, 58] []] (linear_Name_S3 x0 i214 ()) (all_cons (congrArg (AV.bool) c390) (all_cons (congrArg (AV.bool) c396) (all_cons (congrArg (AV.bool) c406) (all_cons (congrArg (AV.bool) c416) all_nil)))) (by kernel_rfl)
          · have c392p := of_decide_eq_false c392
            refine bsp H393 (fun c425 H426 => ?_) (fun c427 H428 => ?_)
            · have c425p := of_decide_eq_true c425
              refine bsp H426 (fun c429 H430 => ?_) (fun c431 H432 => ?_)
              · refine some_e H430 fun e433 => ?_
                subst e433
                have H434 := aft_ret H388
                refine some_e H434 fun e435 => ?_
                subst e435
                have e436 := out_ret h327
                subst e436
                have H437 := aft_ret H319
                refine some_e H437 fun e438 => ?_
                subst e438
                exact p_ret Tryz.mo 5 [.rg 0 [] [.v, .e (.bool false), .v, .v, .e (.bool true), .v, .v, .v, .e (.bool true), .v, .s, .s, .v, .v, .s, .s, .v, .v], .rg 0 [] [.v]] [] [] (all_cons (congrArg (AV.bool) c392) (all_cons (congrArg (AV.bool) c425) (all_cons (congrArg (AV.bool) c429) all_nil))) (by kernel_rfl)
              · refine bsp H432 (fun c439 H440 => ?_) (fun c441 H442 => ?_)
                · have c439p := of_decide_eq_true c439
                  refine some_e H440 fun e443 => ?_
                  subst e443
                  have H444 := aft_ret H388
                  refine some_e H444 fun e445 => ?_
                  subst e445
                  have e446 := out_ret h327
                  subst e446
                  have H447 := aft_ret H319
                  refine some_e H447 fun e448 => ?_
                  subst e448
                  exact p_ret Tryz.mo 5 [.rg 0 [] [.v, .e (.bool false), .v, .v, .e (.bool true), .v, .v, .v, .e (.bool false), .v, .v, .e (.bool true), .v, .v, .s, .s, .v, .v], .rg 0 [] [.v]] [] [] (all_cons (congrArg (AV.bool) c392) (all_cons (congrArg (AV.bool) c425) (all_cons (congrArg (AV.bool) c431) (all_cons (congrArg (AV.bool) c439) all_nil)))) (by kernel_rfl)
                · have c441p := of_decide_eq_false c441
                  refine bsp H442 (fun c449 H450 => ?_) (fun c451 H452 => ?_)
                  · have c449p := of_decide_eq_true c449
                    refine some_e H450 fun e453 => ?_
                    subst e453
                    have H454 := aft_ret H388
                    refine some_e H454 fun e455 => ?_
                    subst e455
                    have e456 := out_ret h327
                    subst e456
                    have H457 := aft_ret H319
                    refine some_e H457 fun e458 => ?_
                    subst e458
                    exact p_ret Tryz.mo 6 [.rg 0 [] [.v, .e (.bool false), .v, .v, .e (.bool true), .v, .v, .v, .e (.bool false), .v, .v, .e (.bool false), .v, .v, .v, .v, .v, .v], .eqT 58 (.bool true), .rg 0 [] [.v]] [] [] (all_cons (congrArg (AV.bool) c392) (all_cons (congrArg (AV.bool) c425) (all_cons (congrArg (AV.bool) c431) (all_cons (congrArg (AV.bool) c441) (all_cons (congrArg (AV.bool) c449) all_nil))))) (by kernel_rfl)
                  · have c451p := of_decide_eq_false c451
                    refine some_e H452 fun e459 => ?_
                    subst e459
                    exact p_bar Tryz.mo 4 [.rg 0 [] [.v, .e (.bool false), .v, .v, .e (.bool true), .v, .v, .v, .e (.bool false), .v, .v, .e (.bool false), .v, .v, .v, .v, .v, .v], .eqT 58 (.bool false)] [.only [0, 2, 5, 6, 34, 35, 36, 37, 58] []] (linear_Name_S3 x0 i214 ()) (all_cons (congrArg (AV.bool) c392) (all_cons (congrArg (AV.bool) c425) (all_cons (congrArg (AV.bool) c431) (all_cons (congrArg (AV.bool) c441) (all_cons (congrArg (AV.bool) c451) all_nil))))) (by kernel_rfl)
            · have c427p := of_decide_eq_false c427
              refine some_e H428 fun e460 => ?_
              subst e460
              exact p_bar Tryz.mo 3 [.rg 0 [] [.v, .e (.bool false), .v, .v, .e (.bool false), .v, .v, .s, .s, .s, .s, .s, .s, .s, .s, .s, .s, .v]] [.only [0, 2, 5, 6, 34, 35, 36, 37, 58] []] (linear_Name_S3 x0 i214 ()) (all_cons (congrArg (AV.bool) c392) (all_cons (congrArg (AV.bool) c427) all_nil)) (by kernel_rfl)
        · subst e467
          have H461 := aft_brk H388
          refine t_lens 0 (ps := [x0.length ≤ 9223372036854775807]) (by kernel_rfl) (fun l464 => ?_)
          have l465 : x0.length ≤ 9223372036854775807 := by simpa only [All, List.length_map] using l464
          clear l464
          refine some_e H461 fun e466 => ?_
          subst e466
          exact p_bar Tryz.mo 1 [.rg 0 [] [.v, .v]] [.only [0, 2, 34, 35, 36] []] (linear_Name_S1 x0 (i214 + 1) ()) (all_cons (show I64 (((i214 : Nat) : Int) + 1) from by unfold I64; omega) all_nil) (by kernel_rfl)
    · subst e469
      have H470 := aft_brk H319
      refine bsp H470 (fun c471 H472 => ?_) (fun c473 H474 => ?_)
      · refine some_e H472 fun e475 => ?_
        subst e475
        exact p_ret Tryz.mo 3 [.rg 0 [] [.v, .e (.bool false), .v, .s, .s, .s, .v, .v]] [] [] (all_cons (congrArg (fun x => AV.bool (!x)) c471) all_nil) (by kernel_rfl)
      · refine some_e H474 fun e476 => ?_
        subst e476
        exact p_ret Tryz.mo 3 [.rg 0 [] [.v, .e (.bool true), .v, .v, .v, .v, .v, .v]] [] [] (all_cons (congrArg (fun x => AV.bool (!x)) c473) (all_cons trivial all_nil)) (by kernel_rfl)
/-- framewise/linear.in -/
def linear_in (x0 : Int) : Option Bool :=
  bif decide (x0 ≥ (-1000000)) then (
    some (decide (x0 ≤ 1000000))
  ) else (
    some false
  )
theorem linear_in_c (x0 : Int) (r : Bool) (H : linear_in x0 = some r) : AFn Tryz.prog 170 [.int .i64 x0] (.bool r) := by
  unfold linear_in at H
  refine acallX Tryz.func170 9 [.tmp 2] (by kernel_rfl) (by kernel_rfl) ?_
  refine bsp H (fun c1 H2 => ?_) (fun c3 H4 => ?_)
  · have c1p := of_decide_eq_true c1
    refine some_e H2 fun e5 => ?_
    subst e5
    exact p_ret Tryz.mo 5 [.rg 0 [] [.v], .rg 0 [] [.v, .e (.bool true), .v, .v, .v, .v, .v]] [] [] (all_cons (congrArg (AV.bool) c1) all_nil) (by kernel_rfl)
  · have c3p := of_decide_eq_false c3
    refine some_e H4 fun e6 => ?_
    subst e6
    exact p_ret Tryz.mo 5 [.rg 0 [] [.v], .rg 0 [] [.v, .e (.bool false), .v, .s, .s, .v, .v]] [] [] (all_cons (congrArg (AV.bool) c3) all_nil) (by kernel_rfl)
/-- framewise/linear.Valid -/
def linear_Valid (x0 : Linear) : Option Bool :=
  (cnt (σ := Unit) (ε := Unit) (ρ := Bool) (fun i127 s126 =>
    (linear_Name ((x0.Terms.getD i127 ⟨[], 0⟩).Var)).bind fun y225 =>
    ((
      bif y225 then (
        bif (((x0.Terms.getD i127 ⟨[], 0⟩).C) == 0) then (
          some (.ret (.ret false))
        ) else (
          (linear_in ((x0.Terms.getD i127 ⟨[], 0⟩).C)).bind fun y288 =>
          bif y288 then (
            bif decide (((i127 : Nat) : Int) > 0) then (
              grd (0 ≤ (w64 (((i127 : Nat) : Int) - 1)) ∧ (w64 (((i127 : Nat) : Int) - 1)) < (x0.Terms.length : Int)) <|
              bif (Op.bytesLess ((x0.Terms.getD (w64 (((i127 : Nat) : Int) - 1)).toNat ⟨[], 0⟩).Var) ((x0.Terms.getD i127 ⟨[], 0⟩).Var)) then (
                some (.brk ())
              ) else (
                some (.ret (.ret false))
              )
            ) else (
              some (.brk ())
            )
          ) else (
            some (.ret (.ret false))
          )
        )
      ) else (
        some (.ret (.ret false))
      )
    ) : Option (Out Unit (Stp Unit Unit Bool))).bind (aft fun u273 =>
      some (.go ())
    )
  ) (fun i127 s126 => ()) (x0.Terms.length - 0) 0 ()).bind <| aft fun u332 =>
  (linear_in x0.Const).bind fun y335 =>
  bif y335 then (
    some (decide (((x0.Terms.length : Nat) : Int) ≤ 12))
  ) else (
    some false
  )
def linear_Valid_S1 (x0 : Linear) (i127 : Nat) (s126 : Unit) : AS := ⟨54, [(1, .hptr 1 0), (2, .bool false), (6, .dslice (x0.Terms.map cCoef)), (7, .int .i64 ((x0.Terms.length : Nat) : Int)), (8, .int .i64 ((i127 : Nat) : Int))], [(1, .cells 39 [.int .i64 x0.Const, .dslice (x0.Terms.map cCoef)])]⟩
def linear_Valid_S2 (x0 : Linear) (u215 : Unit) : AS := ⟨54, [(1, .hptr 1 0), (2, .bool false)], [(1, .cells 39 [.int .i64 x0.Const, .dslice (x0.Terms.map cCoef)])]⟩
def linear_Valid_S3 (x0 : Linear) (i127 : Nat) (u273 : Unit) : AS := ⟨54, [(1, .hptr 1 0), (2, .bool false), (3, .int .i64 ((i127 : Nat) : Int)), (4, .hptr 4 0), (6, .dslice (x0.Terms.map cCoef)), (7, .int .i64 ((x0.Terms.length : Nat) : Int)), (8, .int .i64 ((i127 : Nat) : Int)), (9, .bool true), (43, .bool false)], [(1, .cells 39 [.int .i64 x0.Const, .dslice (x0.Terms.map cCoef)]), (4, .cells 44 [.str ((x0.Terms.getD i127 ⟨[], 0⟩).Var), .int .i64 ((x0.Terms.getD i127 ⟨[], 0⟩).C)])]⟩
theorem linear_Valid_c (x0 : Linear) (r : Bool) (H : linear_Valid x0 = some r) : AFn Tryz.prog 99 [.agg [.int .i64 x0.Const, .dslice (x0.Terms.map cCoef)]] (.bool r) := by
  unfold linear_Valid at H
  refine acallX Tryz.func99 54 [.tmp 2] (by kernel_rfl) (by kernel_rfl) ?_
  refine p_at Tryz.mo 6 [.rg 0 [] [.m, .v], .rg 0 [] [.v, .v, .e (.int .i64 ((x0.Terms.length : Nat) : Int)), .v]] [.only [1, 2, 6, 7, 8] [1]] 6 [] (linear_Valid_S1 x0 0 ()) (all_cons trivial (all_cons (lenm cCoef x0.Terms) all_nil)) (by kernel_rfl) ?_
  refine bnd H fun R212 h213 H214 => ?_
  refine p_joinO 1 (linear_Valid_S2 x0) R212 (by kernel_rfl) ?_ (fun u332 e333 => ?_)
  · refine p_cnt (linear_Valid_S1 x0) (by kernel_rfl) h213 (fun i127 s126 h216 e217 => ?_) (fun i127 s126 h224 q220 h221 h222 => ?_)
    · have c218 : decide (((i127 : Nat) : Int) < ((x0.Terms.length : Nat) : Int)) = false := decide_eq_false (by omega)
      subst e217
      exact p_bar Tryz.mo 5 [.rg 0 [] [.e (.bool false)]] [.only [1, 2] [1]] (linear_Valid_S2 x0 ()) (all_cons (congrArg (AV.bool) c218) all_nil) (by kernel_rfl)
    · have c223 : decide (((i127 : Nat) : Int) < ((x0.Terms.length : Nat) : Int)) = true := decide_eq_true (by omega)
      refine bnd h221 fun y225 h226 H227 => ?_
      refine p_at Tryz.mo 10 [.rg 0 [] [.e (.bool true)], .rg 0 [] [.v, .e (.dptr [.str ((x0.Terms.getD i127 ⟨[], 0⟩).Var), .int .i64 ((x0.Terms.getD i127 ⟨[], 0⟩).C)]), .v, .m, .v, .m]] [.only [1, 2, 3, 4, 6, 7, 8, 9] [1, 4]] 10 [true] ⟨54, [(1, .hptr 1 0), (2, .bool false), (3, .int .i64 ((i127 : Nat) : Int)), (4, .hptr 4 0), (6, .dslice (x0.Terms.map cCoef)), (7, .int .i64 ((x0.Terms.length : Nat) : Int)), (8, .int .i64 ((i127 : Nat) : Int)), (9, .bool true)], [(1, .cells 39 [.int .i64 x0.Const, .dslice (x0.Terms.map cCoef)]), (4, .cells 44 [.str ((x0.Terms.getD i127 ⟨[], 0⟩).Var), .int .i64 ((x0.Terms.getD i127 ⟨[], 0⟩).C)])]⟩ (all_cons (congrArg (AV.bool) c223) (all_app (ix (f := cCoef) (l := x0.Terms) (n := i127) ⟨[], 0⟩ cCoef_len (by decide) (by omega)) all_nil)) (by kernel_rfl) ?_
      refine bnd H227 fun v270 h271 H272 => ?_
      refine p_joinO 2 (linear_Valid_S3 x0 i127) v270 (by kernel_rfl) ?_ (fun u273 e331 => ?_)
      · refine bsp h271 (fun c274 H275 => ?_) (fun c276 H277 => ?_)
        · refine bsp H275 (fun c278 H279 => ?_) (fun c280 H281 => ?_)
          · refine some_e H279 fun e282 => ?_
            subst e282
            have H283 := aft_ret H272
            refine some_e H283 fun e284 => ?_
            subst e284
            have e285 := out_ret h222
            subst e285
            have H286 := aft_ret H214
            refine some_e H286 fun e287 => ?_
            subst e287
            exact p_ret Tryz.mo 5 [.rg 28 [.v, .v, .c true (.bool true), .v, .v, .v, .v, .e (.bool true), .v, .v, .s, .s, .s, .s, .v, .v, .s, .s, .s, .s, .s, .s, .s, .s, .s, .s, .s, .s] [.s, .s, .v], .rg 0 [] [.v]] [] [] (all_cons Tryz.call96 (all_cons (AFn.eq (linear_Name_c ((x0.Terms.getD i127 ⟨[], 0⟩).Var) y225 h226) (congrArg (AV.bool) c274)) (all_cons trivial (all_cons (congrArg (AV.bool) c278) all_nil)))) (by kernel_rfl)
          · refine bnd H281 fun y288 h289 H290 => ?_
            refine bsp H290 (fun c291 H292 => ?_) (fun c293 H294 => ?_)
            · refine bsp H292 (fun c295 H296 => ?_) (fun c297 H298 => ?_)
              · have c295p := of_decide_eq_true c295
                refine grd_e H296 fun g299 H300 => ?_
                refine bsp H300 (fun c301 H302 => ?_) (fun c303 H304 => ?_)
                · refine some_e H302 fun e305 => ?_
                  subst e305
                  exact p_bar Tryz.mo 4 [.rg 28 [.v, .v, .c true (.bool true), .v, .v, .v, .v, .e (.bool false), .v, .v, .v, .v, .c true (.bool true), .v, .v, .v, .v, .e (.bool true), .v, .v, .v, .v, .w, .e (.dptr [.str ((x0.Terms.getD (w64 (((i127 : Nat) : Int) - 1)).toNat ⟨[], 0⟩).Var), .int .i64 ((x0.Terms.getD (w64 (((i127 : Nat) : Int) - 1)).toNat ⟨[], 0⟩).C)]), .v, .v, .v, .v] [.v, .v, .v], .eqT 43 (.bool false)] [.only [1, 2, 3, 4, 6, 7, 8, 9, 43] [1, 4]] (linear_Valid_S3 x0 i127 ()) (all_cons Tryz.call96 (all_cons (AFn.eq (linear_Name_c ((x0.Terms.getD i127 ⟨[], 0⟩).Var) y225 h226) (congrArg (AV.bool) c274)) (all_cons trivial (all_cons (congrArg (AV.bool) c280) (all_cons Tryz.call170 (all_cons (AFn.eq (linear_in_c ((x0.Terms.getD i127 ⟨[], 0⟩).C) y288 h289) (congrArg (AV.bool) c291)) (all_cons trivial (all_cons (congrArg (AV.bool) c295) (all_app (ixz (f := cCoef) (l := x0.Terms) (n := (w64 (((i127 : Nat) : Int) - 1))) ⟨[], 0⟩ cCoef_len (by decide) (by exact g299)) (all_cons (congrArg (fun x => AV.bool (!x)) c301) all_nil)))))))))) (by kernel_rfl)
                · refine some_e H304 fun e306 => ?_
                  subst e306
                  have H307 := aft_ret H272
                  refine some_e H307 fun e308 => ?_
                  subst e308
                  have e309 := out_ret h222
                  subst e309
                  have H310 := aft_ret H214
                  refine some_e H310 fun e311 => ?_
                  subst e311
                  exact p_ret Tryz.mo 6 [.rg 28 [.v, .v, .c true (.bool true), .v, .v, .v, .v, .e (.bool false), .v, .v, .v, .v, .c true (.bool true), .v, .v, .v, .v, .e (.bool true), .v, .v, .v, .v, .w, .e (.dptr [.str ((x0.Terms.getD (w64 (((i127 : Nat) : Int) - 1)).toNat ⟨[], 0⟩).Var), .int .i64 ((x0.Terms.getD (w64 (((i127 : Nat) : Int) - 1)).toNat ⟨[], 0⟩).C)]), .v, .v, .v, .v] [.v, .v, .v], .eqT 43 (.bool true), .rg 0 [] [.v]] [] [] (all_cons Tryz.call96 (all_cons (AFn.eq (linear_Name_c ((x0.Terms.getD i127 ⟨[], 0⟩).Var) y225 h226) (congrArg (AV.bool) c274)) (all_cons trivial (all_cons (congrArg (AV.bool) c280) (all_cons Tryz.call170 (all_cons (AFn.eq (linear_in_c ((x0.Terms.getD i127 ⟨[], 0⟩).C) y288 h289) (congrArg (AV.bool) c291)) (all_cons trivial (all_cons (congrArg (AV.bool) c295) (all_app (ixz (f := cCoef) (l := x0.Terms) (n := (w64 (((i127 : Nat) : Int) - 1))) ⟨[], 0⟩ cCoef_len (by decide) (by exact g299)) (all_cons (congrArg (fun x => AV.bool (!x)) c303) all_nil)))))))))) (by kernel_rfl)
              · have c297p := of_decide_eq_false c297
                refine some_e H298 fun e312 => ?_
                subst e312
                exact p_bar Tryz.mo 3 [.rg 28 [.v, .v, .c true (.bool true), .v, .v, .v, .v, .e (.bool false), .v, .v, .v, .v, .c true (.bool true), .v, .v, .v, .v, .e (.bool false), .v, .s, .s, .s, .s, .s, .s, .s, .s, .s] [.s, .v, .v]] [.only [1, 2, 3, 4, 6, 7, 8, 9, 43] [1, 4]] (linear_Valid_S3 x0 i127 ()) (all_cons Tryz.call96 (all_cons (AFn.eq (linear_Name_c ((x0.Terms.getD i127 ⟨[], 0⟩).Var) y225 h226) (congrArg (AV.bool) c274)) (all_cons trivial (all_cons (congrArg (AV.bool) c280) (all_cons Tryz.call170 (all_cons (AFn.eq (linear_in_c ((x0.Terms.getD i127 ⟨[], 0⟩).C) y288 h289) (congrArg (AV.bool) c291)) (all_cons trivial (all_cons (congrArg (AV.bool) c297) all_nil)))))))) (by kernel_rfl)
            · refine some_e H294 fun e313 => ?_
              subst e313
              have H314 := aft_ret H272
              refine some_e H314 fun e315 => ?_
              subst e315
              have e316 := out_ret h222
              subst e316
              have H317 := aft_ret H214
              refine some_e H317 fun e318 => ?_
              subst e318
              exact p_ret Tryz.mo 5 [.rg 28 [.v, .v, .c true (.bool true), .v, .v, .v, .v, .e (.bool false), .v, .v, .v, .v, .c true (.bool false), .v, .v, .v, .s, .s, .s, .s, .s, .s, .s, .s, .s, .s, .s, .s] [.s, .s, .v], .rg 0 [] [.v]] [] [] (all_cons Tryz.call96 (all_cons (AFn.eq (linear_Name_c ((x0.Terms.getD i127 ⟨[], 0⟩).Var) y225 h226) (congrArg (AV.bool) c274)) (all_cons trivial (all_cons (congrArg (AV.bool) c280) (all_cons Tryz.call170 (all_cons (AFn.eq (linear_in_c ((x0.Terms.getD i127 ⟨[], 0⟩).C) y288 h289) (congrArg (AV.bool) c293)) (all_cons trivial all_nil))))))) (by kernel_rfl)
        · refine some_e H277 fun e319 => ?_
          subst e319
          have H320 := aft_ret H272
          refine some_e H320 fun e321 => ?_
          subst e321
          have e322 := out_ret h222
          subst e322
          have H323 := aft_ret H214
          refine some_e H323 fun e324 => ?_
          subst e324
          exact p_ret Tryz.mo 5 [.rg 28 [.v, .v, .c true (.bool false), .v, .v, .s, .s, .s, .v, .v, .s, .s, .s, .s, .v, .v, .s, .s, .s, .s, .s, .s, .s, .s, .s, .s, .s, .s] [.s, .s, .v], .rg 0 [] [.v]] [] [] (all_cons Tryz.call96 (all_cons (AFn.eq (linear_Name_c ((x0.Terms.getD i127 ⟨[], 0⟩).Var) y225 h226) (congrArg (AV.bool) c276)) (all_cons trivial all_nil))) (by kernel_rfl)
      · subst e331
        have H325 := aft_brk H272
        refine t_lens 6 (ps := [(x0.Terms.map cCoef).length ≤ 9223372036854775807]) (by kernel_rfl) (fun l328 => ?_)
        have l329 : x0.Terms.length ≤ 9223372036854775807 := by simpa only [All, List.length_map] using l328
        clear l328
        refine some_e H325 fun e330 => ?_
        subst e330
        exact p_bar Tryz.mo 1 [.rg 0 [] [.v, .v]] [.only [1, 2, 6, 7, 8] [1]] (linear_Valid_S1 x0 (i127 + 1) ()) (all_cons (show I64 (((i127 : Nat) : Int) + 1) from by unfold I64; omega) all_nil) (by kernel_rfl)
  · subst e333
    have H334 := aft_brk H214
    refine bnd H334 fun y335 h336 H337 => ?_
    refine bsp H337 (fun c338 H339 => ?_) (fun c340 H341 => ?_)
    · refine some_e H339 fun e342 => ?_
      subst e342
      exact p_ret Tryz.mo 3 [.rg 0 [] [.v, .v, .c true (.bool true), .v, .v, .v, .e (.int .i64 ((x0.Terms.length : Nat) : Int)), .v, .v, .v]] [] [] (all_cons Tryz.call170 (all_cons (AFn.eq (linear_in_c x0.Const y335 h336) (congrArg (AV.bool) c338)) (all_cons trivial (all_cons (lenm cCoef x0.Terms) all_nil)))) (by kernel_rfl)
    · refine some_e H341 fun e343 => ?_
      subst e343
      exact p_ret Tryz.mo 3 [.rg 0 [] [.v, .v, .c true (.bool false), .v, .s, .s, .s, .s, .v, .v]] [] [] (all_cons Tryz.call170 (all_cons (AFn.eq (linear_in_c x0.Const y335 h336) (congrArg (AV.bool) c340)) all_nil)) (by kernel_rfl)
/-- framewise/shape.Valid$1 -/
def shape_Valid_1 (x0 : Linear) : Option Bool :=
  (linear_Valid x0).bind fun y1 =>
  some (!y1)
theorem shape_Valid_1_c (x0 : Linear) (r : Bool) (H : shape_Valid_1 x0 = some r) : AFn Tryz.prog 98 [.agg [.int .i64 x0.Const, .dslice (x0.Terms.map cCoef)]] (.bool r) := by
  unfold shape_Valid_1 at H
  refine acallX Tryz.func98 6 [.tmp 2] (by kernel_rfl) (by kernel_rfl) ?_
  refine bnd H fun y1 h2 H3 => ?_
  refine some_e H3 fun e4 => ?_
  subst e4
  exact p_ret Tryz.mo 5 [.rg 0 [] [.m, .v], .rg 0 [] [.v, .c true (.bool y1), .v, .v]] [] [] (all_cons Tryz.call99 (all_cons (AFn.is (linear_Valid_c x0 y1 h2)) (all_cons trivial all_nil))) (by kernel_rfl)
/-- slices.IndexFunc[[]framewise/api.Linear,framewise/api.Linear] -/
def slices_IndexFunc_api_Linear (x0 : (List Linear)) : Option Int :=
  (cnt (σ := Unit) (ε := Unit) (ρ := Int) (fun i29 s28 =>
    (shape_Valid_1 (Linear.mk ((x0.getD i29 ⟨0, []⟩).Const) ((x0.getD i29 ⟨0, []⟩).Terms))).bind fun y58 =>
    bif y58 then (
      some (.ret ((i29 : Nat) : Int))
    ) else (
      some (.go ())
    )
  ) (fun i29 s28 => ()) (x0.length - 0) 0 ()).bind <| aft fun u74 =>
  some (-1)
def slices_IndexFunc_api_Linear_S1 (x0 : (List Linear)) (i29 : Nat) (s28 : Unit) : AS := ⟨19, [(0, .dslice (x0.map cLinear)), (1, .fn 98 []), (4, .int .i64 0), (7, .int .i64 ((x0.length : Nat) : Int)), (8, .int .i64 ((i29 : Nat) : Int))], []⟩
def slices_IndexFunc_api_Linear_S2 (u48 : Unit) : AS := ⟨19, [(4, .int .i64 0)], []⟩
theorem slices_IndexFunc_api_Linear_c (x0 : (List Linear)) (r : Int) (H : slices_IndexFunc_api_Linear x0 = some r) : AFn Tryz.prog 169 [.dslice (x0.map cLinear), .fn 98 []] (.int .i64 r) := by
  unfold slices_IndexFunc_api_Linear at H
  refine acallX Tryz.func169 19 [.tmp 4] (by kernel_rfl) (by kernel_rfl) ?_
  refine p_at Tryz.mo 6 [.rg 0 [] [.v], .rg 0 [] [.v, .e (.int .i64 ((x0.length : Nat) : Int)), .v]] [.only [0, 1, 4, 7, 8] []] 6 [] (slices_IndexFunc_api_Linear_S1 x0 0 ()) (all_cons trivial (all_cons (lenm cLinear x0) all_nil)) (by kernel_rfl) ?_
  refine bnd H fun R45 h46 H47 => ?_
  refine p_joinO 1 (slices_IndexFunc_api_Linear_S2) R45 (by kernel_rfl) ?_ (fun u74 e75 => ?_)
  · refine p_cnt (slices_IndexFunc_api_Linear_S1 x0) (by kernel_rfl) h46 (fun i29 s28 h49 e50 => ?_) (fun i29 s28 h57 q53 h54 h55 => ?_)
    · have c51 : decide (((i29 : Nat) : Int) < ((x0.length : Nat) : Int)) = false := decide_eq_false (by omega)
      subst e50
      exact p_bar Tryz.mo 5 [.rg 0 [] [.e (.bool false)]] [.only [4] []] (slices_IndexFunc_api_Linear_S2 ()) (all_cons (congrArg (AV.bool) c51) all_nil) (by kernel_rfl)
    · have c56 : decide (((i29 : Nat) : Int) < ((x0.length : Nat) : Int)) = true := decide_eq_true (by omega)
      refine bnd h54 fun y58 h59 H60 => ?_
      refine bsp H60 (fun c61 H62 => ?_) (fun c63 H64 => ?_)
      · refine some_e H62 fun e65 => ?_
        subst e65
        have e66 := out_ret h55
        subst e66
        have H67 := aft_ret H47
        refine some_e H67 fun e68 => ?_
        subst e68
        exact p_ret Tryz.mo 16 [.rg 0 [] [.e (.bool true)], .rg 0 [] [.v, .v], .rg 0 [] [.v, .v, .v, .e (.dptr [.int .i64 ((x0.getD i29 ⟨0, []⟩).Const), .dslice (((x0.getD i29 ⟨0, []⟩).Terms).map cCoef)]), .v, .c true (.bool y58)], .eqT 16 (.bool true), .rg 0 [] [.v, .v]] [] [] (all_cons (congrArg (AV.bool) c56) (all_app (ix (f := cLinear) (l := x0) (n := i29) ⟨0, []⟩ cLinear_len (by decide) (by omega)) (all_cons Tryz.call98 (all_cons (AFn.is (shape_Valid_1_c (Linear.mk ((x0.getD i29 ⟨0, []⟩).Const) ((x0.getD i29 ⟨0, []⟩).Terms)) y58 h59)) (all_cons (congrArg (AV.bool) c61) all_nil))))) (by kernel_rfl)
      · refine t_lens 0 (ps := [(x0.map cLinear).length ≤ 9223372036854775807]) (by kernel_rfl) (fun l71 => ?_)
        have l72 : x0.length ≤ 9223372036854775807 := by simpa only [All, List.length_map] using l71
        clear l71
        refine some_e H64 fun e73 => ?_
        subst e73
        exact p_bar Tryz.mo 15 [.rg 0 [] [.e (.bool true)], .rg 0 [] [.v, .v], .rg 0 [] [.v, .v, .v, .e (.dptr [.int .i64 ((x0.getD i29 ⟨0, []⟩).Const), .dslice (((x0.getD i29 ⟨0, []⟩).Terms).map cCoef)]), .v, .c true (.bool y58)], .eqT 16 (.bool false), .rg 0 [] [.v, .v]] [.only [0, 1, 4, 7, 8] []] (slices_IndexFunc_api_Linear_S1 x0 (i29 + 1) ()) (all_cons (congrArg (AV.bool) c56) (all_app (ix (f := cLinear) (l := x0) (n := i29) ⟨0, []⟩ cLinear_len (by decide) (by omega)) (all_cons Tryz.call98 (all_cons (AFn.is (shape_Valid_1_c (Linear.mk ((x0.getD i29 ⟨0, []⟩).Const) ((x0.getD i29 ⟨0, []⟩).Terms)) y58 h59)) (all_cons (congrArg (AV.bool) c63) (all_cons (show I64 (((i29 : Nat) : Int) + 1) from by unfold I64; omega) all_nil)))))) (by kernel_rfl)
  · subst e75
    have H76 := aft_brk H47
    refine some_e H76 fun e77 => ?_
    subst e77
    exact p_ret Tryz.mo 3 [.rg 0 [] [.v]] [] [] all_nil (by kernel_rfl)
/-- slices.ContainsFunc[[]framewise/api.Linear,framewise/api.Linear] -/
def slices_ContainsFunc_api_Linear (x0 : (List Linear)) : Option Bool :=
  (slices_IndexFunc_api_Linear x0).bind fun y1 =>
  some (decide (y1 ≥ 0))
theorem slices_ContainsFunc_api_Linear_c (x0 : (List Linear)) (r : Bool) (H : slices_ContainsFunc_api_Linear x0 = some r) : AFn Tryz.prog 97 [.dslice (x0.map cLinear), .fn 98 []] (.bool r) := by
  unfold slices_ContainsFunc_api_Linear at H
  refine acallX Tryz.func97 9 [.tmp 4] (by kernel_rfl) (by kernel_rfl) ?_
  refine bnd H fun y1 h2 H3 => ?_
  refine some_e H3 fun e4 => ?_
  subst e4
  exact p_ret Tryz.mo 5 [.rg 0 [] [.v], .rg 0 [] [.v, .v, .c true (.int .i64 y1), .v, .v]] [] [] (all_cons Tryz.call169 (all_cons (AFn.is (slices_IndexFunc_api_Linear_c x0 y1 h2)) all_nil)) (by kernel_rfl)
/-- framewise/shape.Valid -/
def shape_Valid (x0 : Shape) : Option Bool :=
  bif (x0.Row == []) then (
    bif decide (((x0.Dims.length : Nat) : Int) ≤ 6) then (
      (slices_ContainsFunc_api_Linear x0.Dims).bind fun y33 =>
      some (!y33)
    ) else (
      some false
    )
  ) else (
    (linear_Name x0.Row).bind fun y38 =>
    bif y38 then (
      bif decide (((x0.Dims.length : Nat) : Int) ≤ 6) then (
        (slices_ContainsFunc_api_Linear x0.Dims).bind fun y59 =>
        some (!y59)
      ) else (
        some false
      )
    ) else (
      some false
    )
  )
theorem shape_Valid_c (x0 : Shape) (r : Bool) (H : shape_Valid x0 = some r) : AFn Tryz.prog 31 [.agg [.str x0.Row, .dslice (x0.Dims.map cLinear)]] (.bool r) := by
  unfold shape_Valid at H
  refine acallX Tryz.func31 23 [.tmp 2] (by kernel_rfl) (by kernel_rfl) ?_
  refine bsp H (fun c22 H23 => ?_) (fun c24 H25 => ?_)
  · refine bsp H23 (fun c29 H30 => ?_) (fun c31 H32 => ?_)
    · have c29p := of_decide_eq_true c29
      refine bnd H30 fun y33 h34 H35 => ?_
      refine some_e H35 fun e36 => ?_
      subst e36
      exact p_ret Tryz.mo 5 [.rg 0 [] [.m, .v], .rg 0 [] [.v, .v, .e (.bool true), .v, .s, .s, .s, .v, .v, .v, .v, .e (.int .i64 ((x0.Dims.length : Nat) : Int)), .e (.bool true), .v, .v, .v, .v, .c true (.bool y33), .v, .v, .v]] [] [] (all_cons (congrArg (AV.bool) c22) (all_cons trivial (all_cons (lenm cLinear x0.Dims) (all_cons (congrArg (AV.bool) c29) (all_cons Tryz.call97 (all_cons (AFn.is (slices_ContainsFunc_api_Linear_c x0.Dims y33 h34)) (all_cons trivial all_nil))))))) (by kernel_rfl)
    · have c31p := of_decide_eq_false c31
      refine some_e H32 fun e37 => ?_
      subst e37
      exact p_ret Tryz.mo 5 [.rg 0 [] [.m, .v], .rg 0 [] [.v, .v, .e (.bool true), .v, .s, .s, .s, .v, .v, .v, .v, .e (.int .i64 ((x0.Dims.length : Nat) : Int)), .e (.bool false), .v, .v, .s, .s, .s, .s, .v, .v]] [] [] (all_cons (congrArg (AV.bool) c22) (all_cons trivial (all_cons (lenm cLinear x0.Dims) (all_cons (congrArg (AV.bool) c31) all_nil)))) (by kernel_rfl)
  · refine bnd H25 fun y38 h39 H40 => ?_
    refine bsp H40 (fun c48 H49 => ?_) (fun c50 H51 => ?_)
    · refine bsp H49 (fun c55 H56 => ?_) (fun c57 H58 => ?_)
      · have c55p := of_decide_eq_true c55
        refine bnd H56 fun y59 h60 H61 => ?_
        refine some_e H61 fun e62 => ?_
        subst e62
        exact p_ret Tryz.mo 5 [.rg 0 [] [.m, .v], .rg 0 [] [.v, .v, .e (.bool false), .v, .v, .v, .c true (.bool true), .v, .v, .v, .v, .e (.int .i64 ((x0.Dims.length : Nat) : Int)), .e (.bool true), .v, .v, .v, .v, .c true (.bool y59), .v, .v, .v]] [] [] (all_cons (congrArg (AV.bool) c24) (all_cons Tryz.call96 (all_cons (AFn.eq (linear_Name_c x0.Row y38 h39) (congrArg (AV.bool) c48)) (all_cons trivial (all_cons (lenm cLinear x0.Dims) (all_cons (congrArg (AV.bool) c55) (all_cons Tryz.call97 (all_cons (AFn.is (slices_ContainsFunc_api_Linear_c x0.Dims y59 h60)) (all_cons trivial all_nil))))))))) (by kernel_rfl)
      · have c57p := of_decide_eq_false c57
        refine some_e H58 fun e63 => ?_
        subst e63
        exact p_ret Tryz.mo 5 [.rg 0 [] [.m, .v], .rg 0 [] [.v, .v, .e (.bool false), .v, .v, .v, .c true (.bool true), .v, .v, .v, .v, .e (.int .i64 ((x0.Dims.length : Nat) : Int)), .e (.bool false), .v, .v, .s, .s, .s, .s, .v, .v]] [] [] (all_cons (congrArg (AV.bool) c24) (all_cons Tryz.call96 (all_cons (AFn.eq (linear_Name_c x0.Row y38 h39) (congrArg (AV.bool) c48)) (all_cons trivial (all_cons (lenm cLinear x0.Dims) (all_cons (congrArg (AV.bool) c57) all_nil)))))) (by kernel_rfl)
    · refine some_e H51 fun e64 => ?_
      subst e64
      exact p_ret Tryz.mo 5 [.rg 0 [] [.m, .v], .rg 0 [] [.v, .v, .e (.bool false), .v, .v, .v, .c true (.bool false), .v, .v, .s, .s, .s, .s, .v, .v, .s, .s, .s, .s, .v, .v]] [] [] (all_cons (congrArg (AV.bool) c24) (all_cons Tryz.call96 (all_cons (AFn.eq (linear_Name_c x0.Row y38 h39) (congrArg (AV.bool) c50)) all_nil))) (by kernel_rfl)
/-- internal/stringslite.HasSuffix -/
def internal_stringslite_HasSuffix (x0 : Str) (x1 : Str) : Option Bool :=
  bif decide (((x0.length : Nat) : Int) ≥ ((x1.length : Nat) : Int)) then (
    grd (0 ≤ (w64 (((x0.length : Nat) : Int) - ((x1.length : Nat) : Int))) ∧ (w64 (((x0.length : Nat) : Int) - ((x1.length : Nat) : Int))) ≤ (x0.length : Int)) <|
    some ((x0.drop ((w64 (((x0.length : Nat) : Int) - ((x1.length : Nat) : Int))).toNat)) == x1)
  ) else (
    some false
  )
theorem internal_stringslite_HasSuffix_c (x0 : Str) (x1 : Str) (r : Bool) (H : internal_stringslite_HasSuffix x0 x1 = some r) : AFn Tryz.prog 221 [.str x0, .str x1] (.bool r) := by
  unfold internal_stringslite_HasSuffix at H
  refine acallX Tryz.func221 21 [.tmp 4] (by kernel_rfl) (by kernel_rfl) ?_
  refine bsp H (fun c3 H4 => ?_) (fun c5 H6 => ?_)
  · have c3p := of_decide_eq_true c3
    refine grd_e H4 fun g7 H8 => ?_
    refine some_e H8 fun e9 => ?_
    subst e9
    exact p_ret Tryz.mo 5 [.rg 0 [] [.v], .rg 0 [] [.v, .v, .v, .v, .e (.bool true), .v, .v, .v, .v, .v, .v, .w, .e (.str (x0.drop ((w64 (((x0.length : Nat) : Int) - ((x1.length : Nat) : Int))).toNat))), .v, .v, .v, .v]] [] [] (all_cons trivial (all_cons trivial (all_cons (congrArg (AV.bool) c3) (all_cons trivial (all_cons trivial (all_cons (show (0 : Int) ≤ (w64 (((x0.length : Nat) : Int) - ((x1.length : Nat) : Int))) ∧ (w64 (((x0.length : Nat) : Int) - ((x1.length : Nat) : Int))) ≤ (x0.length : Int) ∧ (x0.length : Int) ≤ (x0.length : Int) from by omega) (all_cons (sl_drop x0 ((w64 (((x0.length : Nat) : Int) - ((x1.length : Nat) : Int))).toNat)) all_nil))))))) (by kernel_rfl)
  · have c5p := of_decide_eq_false c5
    refine some_e H6 fun e10 => ?_
    subst e10
    exact p_ret Tryz.mo 5 [.rg 0 [] [.v], .rg 0 [] [.v, .v, .v, .v, .e (.bool false), .v, .s, .s, .s, .s, .s, .s, .s, .s, .s, .v, .v]] [] [] (all_cons trivial (all_cons trivial (all_cons (congrArg (AV.bool) c5) all_nil))) (by kernel_rfl)
/-- internal/stringslite.TrimSuffix -/
def internal_stringslite_TrimSuffix (x0 : Str) (x1 : Str) : Option Str :=
  (internal_stringslite_HasSuffix x0 x1).bind fun y1 =>
  bif y1 then (
    grd (0 ≤ (w64 (((x0.length : Nat) : Int) - ((x1.length : Nat) : Int))) ∧ (w64 (((x0.length : Nat) : Int) - ((x1.length : Nat) : Int))) ≤ (x0.length : Int)) <|
    some (x0.take ((w64 (((x0.length : Nat) : Int) - ((x1.length : Nat) : Int))).toNat))
  ) else (
    some x0
  )
theorem internal_stringslite_TrimSuffix_c (x0 : Str) (x1 : Str) (r : Str) (H : internal_stringslite_TrimSuffix x0 x1 = some r) : AFn Tryz.prog 264 [.str x0, .str x1] (.str r) := by
  unfold internal_stringslite_TrimSuffix at H
  refine acallX Tryz.func264 16 [.tmp 4] (by kernel_rfl) (by kernel_rfl) ?_
  refine bnd H fun y1 h2 H3 => ?_
  refine bsp H3 (fun c6 H7 => ?_) (fun c8 H9 => ?_)
  · refine grd_e H7 fun g10 H11 => ?_
    refine some_e H11 fun e12 => ?_
    subst e12
    exact p_ret Tryz.mo 10 [.rg 0 [] [.v], .rg 0 [] [.v, .v, .c true (.bool y1)], .eqT 7 (.bool true), .rg 0 [] [.v, .v, .v, .v, .v, .w, .e (.str (x0.take ((w64 (((x0.length : Nat) : Int) - ((x1.length : Nat) : Int))).toNat))), .v]] [] [] (all_cons Tryz.call221 (all_cons (AFn.is (internal_stringslite_HasSuffix_c x0 x1 y1 h2)) (all_cons (congrArg (AV.bool) c6) (all_cons trivial (all_cons trivial (all_cons (show (0 : Int) ≤ 0 ∧ 0 ≤ (w64 (((x0.length : Nat) : Int) - ((x1.length : Nat) : Int))) ∧ (w64 (((x0.length : Nat) : Int) - ((x1.length : Nat) : Int))) ≤ (x0.length : Int) from by omega) (all_cons (sl_take x0 ((w64 (((x0.length : Nat) : Int) - ((x1.length : Nat) : Int))).toNat)) all_nil))))))) (by kernel_rfl)
  · refine some_e H9 fun e13 => ?_
    subst e13
    exact p_ret Tryz.mo 11 [.rg 0 [] [.v], .rg 0 [] [.v, .v, .c true (.bool y1)], .eqT 7 (.bool false), .rg 0 [] [.v, .v]] [] [] (all_cons Tryz.call221 (all_cons (AFn.is (internal_stringslite_HasSuffix_c x0 x1 y1 h2)) (all_cons (congrArg (AV.bool) c8) all_nil))) (by kernel_rfl)
/-- strings.TrimSuffix -/
def strings_TrimSuffix (x0 : Str) (x1 : Str) : Option Str :=
  (internal_stringslite_TrimSuffix x0 x1).bind fun y1 =>
  some y1
theorem strings_TrimSuffix_c (x0 : Str) (x1 : Str) (r : Str) (H : strings_TrimSuffix x0 x1 = some r) : AFn Tryz.prog 216 [.str x0, .str x1] (.str r) := by
  unfold strings_TrimSuffix at H
  refine acallX Tryz.func216 8 [.tmp 4] (by kernel_rfl) (by kernel_rfl) ?_
  refine bnd H fun y1 h2 H3 => ?_
  refine some_e H3 fun e4 => ?_
  subst e4
  exact p_ret Tryz.mo 5 [.rg 0 [] [.v], .rg 0 [] [.v, .v, .c true (.str y1), .v]] [] [] (all_cons Tryz.call264 (all_cons (AFn.is (internal_stringslite_TrimSuffix_c x0 x1 y1 h2)) all_nil)) (by kernel_rfl)
/-- framewise/linear.Print$1 -/
def linear_Print_1 (x0 : Int) (x1 : Str) (x2 : Str) : Option Str :=
  (lib_Itoa x0).bind fun y63 =>
  ((
    bif (x1 == []) then (
      some false
    ) else (
      bif (x0 == 1) then (
        some true
      ) else (
        some (x0 == (-1))
      )
    )
  ) : Option Bool).bind fun v74 =>
  ((
    bif v74 then (
      (strings_TrimSuffix y63 [49]).bind fun y101 =>
      some y101
    ) else (
      some y63
    )
  ) : Option Str).bind fun v94 =>
  ((
    bif decide (x0 ≥ 0) then (
      some (!(x2 == []))
    ) else (
      some false
    )
  ) : Option Bool).bind fun v106 =>
  ((
    bif v106 then (
      grd (x2.length + [43].length ≤ 9223372036854775807) <|
      some (x2 ++ [43])
    ) else (
      some x2
    )
  ) : Option Str).bind fun v119 =>
  grd (v94.length + x1.length ≤ 9223372036854775807) <|
  grd (v119.length + (v94 ++ x1).length ≤ 9223372036854775807) <|
  some (v119 ++ (v94 ++ x1))
def linear_Print_1_S1 (x0 : Int) (x1 : Str) (x2 : Str) (y63 : Str) (v74 : Bool) : AS := ⟨33, [(0, .int .i64 x0), (1, .str x1), (2, .hptr 1000 0), (5, .str y63), (17, .bool v74)], [(1000, .cells 9 [.str x2])]⟩
def linear_Print_1_S2 (x0 : Int) (x1 : Str) (x2 : Str) (v94 : Str) : AS := ⟨33, [(0, .int .i64 x0), (1, .str x1), (2, .hptr 1000 0), (5, .str v94)], [(1000, .cells 9 [.str x2])]⟩
def linear_Print_1_S3 (x1 : Str) (x2 : Str) (v94 : Str) (v106 : Bool) : AS := ⟨33, [(1, .str x1), (2, .hptr 1000 0), (5, .str v94), (25, .bool v106)], [(1000, .cells 9 [.str x2])]⟩
def linear_Print_1_S4 (x1 : Str) (v94 : Str) (v119 : Str) : AS := ⟨33, [(1, .str x1), (2, .hptr 1000 0), (5, .str v94)], [(1000, .cells 9 [.str v119])]⟩
theorem linear_Print_1_c (x0 : Int) (x1 : Str) (x2 : Str) (r : Str) (H : linear_Print_1 x0 x1 x2 = some r) : ACall Tryz.prog 215 [.int .i64 x0, .str x1, .hptr 1000 0] [(1000, .cells 9 [.str x2])] (fun r2 h2 => r2 = (.tup []) ∧ h2 = [(1000, .cells 9 [.str r])]) := by
  unfold linear_Print_1 at H
  refine acallX Tryz.func215 33 [] (by kernel_rfl) (by kernel_rfl) ?_
  refine bnd H fun y63 h64 H65 => ?_
  refine p_at Tryz.mo 4 [.rg 0 [] [.v, .c true (.str y63), .v]] [.only [0, 1, 2, 5] [1000]] 4 [] ⟨33, [(0, .int .i64 x0), (1, .str x1), (2, .hptr 1000 0), (5, .str y63)], [(1000, .cells 9 [.str x2])]⟩ (all_cons Tryz.call168 (all_cons (AFn.is (lib_Itoa_c x0 y63 h64)) all_nil)) (by kernel_rfl) ?_
  refine bnd H65 fun v74 h75 H76 => ?_
  refine p_join 0 (linear_Print_1_S1 x0 x1 x2 y63 v74) (by kernel_rfl) ?_ ?_
  · refine bsp h75 (fun c77 H78 => ?_) (fun c79 H80 => ?_)
    · refine some_e H78 fun e81 => ?_
      subst e81
      exact p_bar Tryz.mo 1 [.rg 0 [] [.v, .e (.bool false), .v, .s, .s, .s, .s, .s, .s, .v]] [.only [0, 1, 2, 5, 17] [1000]] (linear_Print_1_S1 x0 x1 x2 y63 false) (all_cons (congrArg (fun x => AV.bool (!x)) c77) all_nil) (by kernel_rfl)
    · refine bsp H80 (fun c82 H83 => ?_) (fun c84 H85 => ?_)
      · refine some_e H83 fun e86 => ?_
        subst e86
        exact p_bar Tryz.mo 1 [.rg 0 [] [.v, .e (.bool true), .v, .v, .e (.bool true), .v, .s, .s, .v, .v]] [.only [0, 1, 2, 5, 17] [1000]] (linear_Print_1_S1 x0 x1 x2 y63 true) (all_cons (congrArg (fun x => AV.bool (!x)) c79) (all_cons (congrArg (AV.bool) c82) all_nil)) (by kernel_rfl)
      · refine some_e H85 fun e87 => ?_
        subst e87
        exact p_bar Tryz.mo 1 [.rg 0 [] [.v, .e (.bool true), .v, .v, .e (.bool false), .v, .v, .v, .v, .v]] [.only [0, 1, 2, 5, 17] [1000]] (linear_Print_1_S1 x0 x1 x2 y63 (x0 == (-1))) (all_cons (congrArg (fun x => AV.bool (!x)) c79) (all_cons (congrArg (AV.bool) c84) all_nil)) (by kernel_rfl)
  · refine bnd H76 fun v94 h95 H96 => ?_
    refine p_join 0 (linear_Print_1_S2 x0 x1 x2 v94) (by kernel_rfl) ?_ ?_
    · refine bsp h95 (fun c97 H98 => ?_) (fun c99 H100 => ?_)
      · refine bnd H98 fun y101 h102 H103 => ?_
        refine some_e H103 fun e104 => ?_
        subst e104
        exact p_bar Tryz.mo 3 [.eqT 17 (.bool true), .rg 0 [] [.v, .c true (.str y101), .v]] [.only [0, 1, 2, 5] [1000]] (linear_Print_1_S2 x0 x1 x2 y101) (all_cons (congrArg (AV.bool) c97) (all_cons Tryz.call216 (all_cons (AFn.is (strings_TrimSuffix_c y63 [49] y101 h102)) all_nil))) (by kernel_rfl)
      · refine some_e H100 fun e105 => ?_
        subst e105
        exact p_bar Tryz.mo 3 [.eqT 17 (.bool false)] [.only [0, 1, 2, 5] [1000]] (linear_Print_1_S2 x0 x1 x2 y63) (all_cons (congrArg (AV.bool) c99) all_nil) (by kernel_rfl)
    · refine p_at Tryz.mo 2 [] [.only [0, 1, 2, 5] [1000]] 2 [] ⟨33, [(0, .int .i64 x0), (1, .str x1), (2, .hptr 1000 0), (5, .str v94)], [(1000, .cells 9 [.str x2])]⟩ all_nil (by kernel_rfl) ?_
      refine bnd H96 fun v106 h107 H108 => ?_
      refine p_join 0 (linear_Print_1_S3 x1 x2 v94 v106) (by kernel_rfl) ?_ ?_
      · refine bsp h107 (fun c109 H110 => ?_) (fun c111 H112 => ?_)
        · have c109p := of_decide_eq_true c109
          refine some_e H110 fun e113 => ?_
          subst e113
          exact p_bar Tryz.mo 1 [.rg 0 [] [.v, .e (.bool true), .v, .v, .v, .v]] [.only [1, 2, 5, 25] [1000]] (linear_Print_1_S3 x1 x2 v94 (!(x2 == []))) (all_cons (congrArg (AV.bool) c109) all_nil) (by kernel_rfl)
        · have c111p := of_decide_eq_false c111
          refine some_e H112 fun e114 => ?_
          subst e114
          exact p_bar Tryz.mo 1 [.rg 0 [] [.v, .e (.bool false), .v, .s, .s, .v]] [.only [1, 2, 5, 25] [1000]] (linear_Print_1_S3 x1 x2 v94 false) (all_cons (congrArg (AV.bool) c111) all_nil) (by kernel_rfl)
      · refine bnd H108 fun v119 h120 H121 => ?_
        refine p_join 0 (linear_Print_1_S4 x1 v94 v119) (by kernel_rfl) ?_ ?_
        · refine bsp h120 (fun c122 H123 => ?_) (fun c124 H125 => ?_)
          · refine grd_e H123 fun g126 H127 => ?_
            refine some_e H127 fun e128 => ?_
            subst e128
            exact p_bar Tryz.mo 3 [.eqT 25 (.bool true), .rg 0 [] [.v, .v, .m]] [.only [1, 2, 5] [1000]] (linear_Print_1_S4 x1 v94 (x2 ++ [43])) (all_cons (congrArg (AV.bool) c122) (all_cons (show x2.length + [43].length ≤ 9223372036854775807 from g126) all_nil)) (by kernel_rfl)
          · refine some_e H125 fun e129 => ?_
            subst e129
            exact p_bar Tryz.mo 3 [.eqT 25 (.bool false)] [.only [1, 2, 5] [1000]] (linear_Print_1_S4 x1 v94 x2) (all_cons (congrArg (AV.bool) c124) all_nil) (by kernel_rfl)
        · refine grd_e H121 fun g130 H131 => ?_
          refine grd_e H131 fun g132 H133 => ?_
          refine some_e H133 fun e134 => ?_
          subst e134
          exact p_ret Tryz.mo 1 [.rg 0 [] [.v, .v, .v, .v, .v, .m]] [] [1000] (all_cons (show v94.length + x1.length ≤ 9223372036854775807 from g130) (all_cons (show v119.length + (v94 ++ x1).length ≤ 9223372036854775807 from g132) all_nil)) (by kernel_rfl)
/-- framewise/linear.Print -/
def linear_Print (x0 : Linear) : Option Str :=
  (linear_Valid x0).bind fun y1 =>
  bif y1 then (
    (cnt (σ := Str) (ε := Str) (ρ := Empty) (fun i29 s28 =>
      (linear_Print_1 ((x0.Terms.getD i29 ⟨[], 0⟩).C) ((x0.Terms.getD i29 ⟨[], 0⟩).Var) s28).bind fun y54 =>
      some (.go y54)
    ) (fun i29 s28 => s28) (x0.Terms.length - 0) 0 []).bind <| aftE fun u62 =>
    ((
      bif (x0.Const == 0) then (
        some (u62 == [])
      ) else (
        some true
      )
    ) : Option Bool).bind fun v65 =>
    bif v65 then (
      (linear_Print_1 x0.Const [] u62).bind fun y81 =>
      some y81
    ) else (
      some u62
    )
  ) else (
    some []
  )
def linear_Print_S1 (x0 : Linear) (i29 : Nat) (s28 : Str) : AS := ⟨37, [(1, .hptr 1 0), (2, .str []), (3, .hptr 3 0), (4, .fn 215 [.hptr 3 0]), (12, .dslice (x0.Terms.map cCoef)), (13, .int .i64 ((x0.Terms.length : Nat) : Int)), (14, .int .i64 ((i29 : Nat) : Int))], [(1, .cells 39 [.int .i64 x0.Const, .dslice (x0.Terms.map cCoef)]), (3, .cells 9 [.str s28])]⟩
def linear_Print_S2 (x0 : Linear) (u44 : Str) : AS := ⟨37, [(1, .hptr 1 0), (2, .str []), (3, .hptr 3 0), (4, .fn 215 [.hptr 3 0])], [(1, .cells 39 [.int .i64 x0.Const, .dslice (x0.Terms.map cCoef)]), (3, .cells 9 [.str u44])]⟩
def linear_Print_S3 (x0 : Linear) (u62 : Str) (v65 : Bool) : AS := ⟨37, [(1, .hptr 1 0), (2, .str []), (3, .hptr 3 0), (4, .fn 215 [.hptr 3 0]), (31, .bool v65)], [(1, .cells 39 [.int .i64 x0.Const, .dslice (x0.Terms.map cCoef)]), (3, .cells 9 [.str u62])]⟩
theorem linear_Print_c (x0 : Linear) (r : Str) (H : linear_Print x0 = some r) : AFn Tryz.prog 152 [.agg [.int .i64 x0.Const, .dslice (x0.Terms.map cCoef)]] (.str r) := by
  unfold linear_Print at H
  refine acallX Tryz.func152 37 [.tmp 2] (by kernel_rfl) (by kernel_rfl) ?_
  refine bnd H fun y1 h2 H3 => ?_
  refine bsp H3 (fun c4 H5 => ?_) (fun c6 H7 => ?_)
  · refine p_at Tryz.mo 16 [.rg 0 [] [.m, .v], .rg 0 [] [.v, .c true (.bool y1), .v], .eqT 9 (.bool false), .rg 0 [] [.m, .m], .rg 0 [] [.v, .v], .rg 0 [] [.v, .v, .e (.int .i64 ((x0.Terms.length : Nat) : Int)), .v]] [.only [1, 2, 3, 4, 12, 13, 14] [1, 3]] 15 [false] (linear_Print_S1 x0 0 []) (all_cons Tryz.call99 (all_cons (AFn.is (linear_Valid_c x0 y1 h2)) (all_cons trivial (all_cons (congrArg (fun x => AV.bool (!x)) c4) (all_cons trivial (all_cons (lenm cCoef x0.Terms) all_nil)))))) (by kernel_rfl) ?_
    refine bnd H5 fun R41 h42 H43 => ?_
    refine p_joinO 1 (linear_Print_S2 x0) R41 (by kernel_rfl) ?_ (fun u62 e63 => ?_)
    · refine p_cnt (linear_Print_S1 x0) (by kernel_rfl) h42 (fun i29 s28 h45 e46 => ?_) (fun i29 s28 h53 q49 h50 h51 => ?_)
      · have c47 : decide (((i29 : Nat) : Int) < ((x0.Terms.length : Nat) : Int)) = false := decide_eq_false (by omega)
        subst e46
        exact p_bar Tryz.mo 5 [.rg 0 [] [.e (.bool false)]] [.only [1, 2, 3, 4] [1, 3]] (linear_Print_S2 x0 s28) (all_cons (congrArg (AV.bool) c47) all_nil) (by kernel_rfl)
      · have c52 : decide (((i29 : Nat) : Int) < ((x0.Terms.length : Nat) : Int)) = true := decide_eq_true (by omega)
        refine bnd h50 fun y54 h55 H56 => ?_
        refine t_lens 12 (ps := [(x0.Terms.map cCoef).length ≤ 9223372036854775807]) (by kernel_rfl) (fun l59 => ?_)
        have l60 : x0.Terms.length ≤ 9223372036854775807 := by simpa only [All, List.length_map] using l59
        clear l59
        refine some_e H56 fun e61 => ?_
        subst e61
        exact p_bar Tryz.mo 11 [.rg 0 [] [.e (.bool true)], .rg 0 [] [.e (.dptr [.str ((x0.Terms.getD i29 ⟨[], 0⟩).Var), .int .i64 ((x0.Terms.getD i29 ⟨[], 0⟩).C)]), .v, .m, .m], .rg 0 [] [.v, .v, .v, .v, .v, .hR [(3, 1000)] 23 (.tup []) [(1000, .cells 9 [.str y54])]], .rg 0 [] [.v, .v]] [.only [1, 2, 3, 4, 12, 13, 14] [1, 3]] (linear_Print_S1 x0 (i29 + 1) y54) (all_cons (congrArg (AV.bool) c52) (all_app (ix (f := cCoef) (l := x0.Terms) (n := i29) ⟨[], 0⟩ cCoef_len (by decide) (by omega)) (all_cons Tryz.call215 (all_cons (linear_Print_1_c ((x0.Terms.getD i29 ⟨[], 0⟩).C) ((x0.Terms.getD i29 ⟨[], 0⟩).Var) s28 y54 h55) (all_cons (show I64 (((i29 : Nat) : Int) + 1) from by unfold I64; omega) all_nil))))) (by kernel_rfl)
    · subst e63
      have H64 := aftE_brk H43
      refine p_at Tryz.mo 2 [] [.only [1, 2, 3, 4] [1, 3]] 2 [] ⟨37, [(1, .hptr 1 0), (2, .str []), (3, .hptr 3 0), (4, .fn 215 [.hptr 3 0])], [(1, .cells 39 [.int .i64 x0.Const, .dslice (x0.Terms.map cCoef)]), (3, .cells 9 [.str u62])]⟩ all_nil (by kernel_rfl) ?_
      refine bnd H64 fun v65 h66 H67 => ?_
      refine p_join 0 (linear_Print_S3 x0 u62 v65) (by kernel_rfl) ?_ ?_
      · refine bsp h66 (fun c68 H69 => ?_) (fun c70 H71 => ?_)
        · refine some_e H69 fun e72 => ?_
          subst e72
          exact p_bar Tryz.mo 1 [.rg 0 [] [.v, .v, .e (.bool false), .v, .v, .v, .v]] [.only [1, 2, 3, 4, 31] [1, 3]] (linear_Print_S3 x0 u62 (u62 == [])) (all_cons (congrArg (fun x => AV.bool (!x)) c68) all_nil) (by kernel_rfl)
        · refine some_e H71 fun e73 => ?_
          subst e73
          exact p_bar Tryz.mo 1 [.rg 0 [] [.v, .v, .e (.bool true), .v, .s, .s, .v]] [.only [1, 2, 3, 4, 31] [1, 3]] (linear_Print_S3 x0 u62 true) (all_cons (congrArg (fun x => AV.bool (!x)) c70) all_nil) (by kernel_rfl)
      · refine bsp H67 (fun c77 H78 => ?_) (fun c79 H80 => ?_)
        · refine bnd H78 fun y81 h82 H83 => ?_
          refine some_e H83 fun e84 => ?_
          subst e84
          exact p_ret Tryz.mo 6 [.eqT 31 (.bool true), .rg 0 [] [.v, .v, .v, .hR [(3, 1000)] 35 (.tup []) [(1000, .cells 9 [.str y81])]], .rg 0 [] [.v, .v]] [] [] (all_cons (congrArg (AV.bool) c77) (all_cons Tryz.call215 (all_cons (linear_Print_1_c x0.Const [] u62 y81 h82) all_nil))) (by kernel_rfl)
        · refine some_e H80 fun e85 => ?_
          subst e85
          exact p_ret Tryz.mo 6 [.eqT 31 (.bool false), .rg 0 [] [.v, .v]] [] [] (all_cons (congrArg (AV.bool) c79) all_nil) (by kernel_rfl)
  · refine some_e H7 fun e86 => ?_
    subst e86
    exact p_ret Tryz.mo 10 [.rg 0 [] [.m, .v], .rg 0 [] [.v, .c true (.bool y1), .v], .eqT 9 (.bool true), .rg 0 [] [.v]] [] [] (all_cons Tryz.call99 (all_cons (AFn.is (linear_Valid_c x0 y1 h2)) (all_cons trivial (all_cons (congrArg (fun x => AV.bool (!x)) c6) all_nil)))) (by kernel_rfl)
/-- framewise/shape.text -/
def shape_text (x0 : Shape) : Option Str :=
  ((
    bif (x0.Row == []) then (
      some []
    ) else (
      grd (x0.Row.length + [46, 46].length ≤ 9223372036854775807) <|
      some [(x0.Row ++ [46, 46])]
    )
  ) : Option (List Str)).bind fun v5 =>
  (cnt (σ := (List Str)) (ε := (List Str)) (ρ := Empty) (fun i41 s40 =>
    (linear_Print (Linear.mk ((x0.Dims.getD i41 ⟨0, []⟩).Const) ((x0.Dims.getD i41 ⟨0, []⟩).Terms))).bind fun y68 =>
    grd ((s40.length + 1) * 16 ≤ 140737488355328) <|
    some (.go (s40 ++ [y68]))
  ) (fun i41 s40 => s40) (x0.Dims.length - 0) 0 v5).bind <| aftE fun u78 =>
  (lib_Join u78 [44, 32]).bind fun y81 =>
  grd ([91].length + y81.length ≤ 9223372036854775807) <|
  grd (([91] ++ y81).length + [93].length ≤ 9223372036854775807) <|
  some (([91] ++ y81) ++ [93])
def shape_text_S1 (x0 : Shape) (v5 : (List Str)) : AS := ⟨32, [(1, .hptr 1 0), (2, .str []), (3, .rslice 14)], [(1, .cells 24 [.str x0.Row, .dslice (x0.Dims.map cLinear)]), (14, .row 9 1 (v5.map cStr))]⟩
def shape_text_S2 (x0 : Shape) (i41 : Nat) (s40 : (List Str)) : AS := ⟨32, [(2, .str []), (3, .rslice 26), (16, .dslice (x0.Dims.map cLinear)), (17, .int .i64 ((x0.Dims.length : Nat) : Int)), (18, .int .i64 ((i41 : Nat) : Int))], [(26, .row 9 1 (s40.map cStr))]⟩
def shape_text_S3 (u58 : (List Str)) : AS := ⟨32, [(2, .str []), (3, .rslice 26)], [(26, .row 9 1 (u58.map cStr))]⟩
theorem shape_text_c (x0 : Shape) (r : Str) (H : shape_text x0 = some r) : AFn Tryz.prog 88 [.agg [.str x0.Row, .dslice (x0.Dims.map cLinear)]] (.str r) := by
  unfold shape_text at H
  refine acallX Tryz.func88 32 [.tmp 2] (by kernel_rfl) (by kernel_rfl) ?_
  refine p_at Tryz.mo 7 [.rg 0 [] [.m, .v], .rg 0 [] [.v], .rg 0 [] [.v, .v, .v]] [.only [1, 2, 3, 8] [1]] 7 [] ⟨32, [(1, .hptr 1 0), (2, .str []), (3, .eslice), (8, .bool (!(x0.Row == [])))], [(1, .cells 24 [.str x0.Row, .dslice (x0.Dims.map cLinear)])]⟩ all_nil (by kernel_rfl) ?_
  refine bnd H fun v5 h6 H7 => ?_
  refine p_join 0 (shape_text_S1 x0 v5) (by kernel_rfl) ?_ ?_
  · refine bsp h6 (fun c8 H9 => ?_) (fun c10 H11 => ?_)
    · refine some_e H9 fun e12 => ?_
      subst e12
      exact p_bar Tryz.mo 3 [.eqT 8 (.bool false)] [.er 3 14 9 1, .only [1, 2, 3] [1, 14]] (shape_text_S1 x0 []) (all_cons (congrArg (fun x => AV.bool (!x)) c8) all_nil) (by kernel_rfl)
    · refine grd_e H11 fun g13 H14 => ?_
      refine some_e H14 fun e15 => ?_
      subst e15
      exact p_bar Tryz.mo 3 [.eqT 8 (.bool true), .rg 0 [] [.v, .v, .v, .v, .b, .er 9 14 9 1, .ap, .rwH 14 (.row 9 1 ([(x0.Row ++ [46, 46])].map cStr)), .v]] [.only [1, 2, 3] [1, 14]] (shape_text_S1 x0 [(x0.Row ++ [46, 46])]) (all_cons (congrArg (fun x => AV.bool (!x)) c10) (all_cons (show x0.Row.length + [46, 46].length ≤ 9223372036854775807 from g13) (all_app (apR (c := cStr) cStr_ok [] [(x0.Row ++ [46, 46])] 16 (by decide) (by simp)) (all_cons (apQ0 9 1 cStr [(x0.Row ++ [46, 46])]) all_nil)))) (by kernel_rfl)
  · refine p_at Tryz.mo 4 [.rg 0 [] [.v, .v, .e (.int .i64 ((x0.Dims.length : Nat) : Int)), .v]] [.ren [(14, 26)], .only [2, 3, 16, 17, 18] [26]] 4 [] (shape_text_S2 x0 0 v5) (all_cons trivial (all_cons (lenm cLinear x0.Dims) all_nil)) (by kernel_rfl) ?_
    refine bnd H7 fun R55 h56 H57 => ?_
    refine p_joinO 1 (shape_text_S3) R55 (by kernel_rfl) ?_ (fun u78 e79 => ?_)
    · refine p_cnt (shape_text_S2 x0) (by kernel_rfl) h56 (fun i41 s40 h59 e60 => ?_) (fun i41 s40 h67 q63 h64 h65 => ?_)
      · have c61 : decide (((i41 : Nat) : Int) < ((x0.Dims.length : Nat) : Int)) = false := decide_eq_false (by omega)
        subst e60
        exact p_bar Tryz.mo 5 [.rg 0 [] [.e (.bool false)]] [.only [2, 3] [26]] (shape_text_S3 s40) (all_cons (congrArg (AV.bool) c61) all_nil) (by kernel_rfl)
      · have c66 : decide (((i41 : Nat) : Int) < ((x0.Dims.length : Nat) : Int)) = true := decide_eq_true (by omega)
        refine bnd h64 fun y68 h69 H70 => ?_
        refine grd_e H70 fun g71 H72 => ?_
        refine t_lens 16 (ps := [(x0.Dims.map cLinear).length ≤ 9223372036854775807]) (by kernel_rfl) (fun l75 => ?_)
        have l76 : x0.Dims.length ≤ 9223372036854775807 := by simpa only [All, List.length_map] using l75
        clear l75
        refine some_e H72 fun e77 => ?_
        subst e77
        exact p_bar Tryz.mo 11 [.rg 0 [] [.e (.bool true)], .rg 0 [] [.e (.dptr [.int .i64 ((x0.Dims.getD i41 ⟨0, []⟩).Const), .dslice (((x0.Dims.getD i41 ⟨0, []⟩).Terms).map cCoef)]), .v, .m, .m], .rg 0 [] [.v, .v, .c true (.str y68), .b, .ap, .rwH 26 (.row 9 1 ((s40 ++ [y68]).map cStr)), .v], .rg 0 [] [.v, .v]] [.only [2, 3, 16, 17, 18] [26]] (shape_text_S2 x0 (i41 + 1) (s40 ++ [y68])) (all_cons (congrArg (AV.bool) c66) (all_app (ix (f := cLinear) (l := x0.Dims) (n := i41) ⟨0, []⟩ cLinear_len (by decide) (by omega)) (all_cons Tryz.call152 (all_cons (AFn.is (linear_Print_c (Linear.mk ((x0.Dims.getD i41 ⟨0, []⟩).Const) ((x0.Dims.getD i41 ⟨0, []⟩).Terms)) y68 h69)) (all_app (apR (c := cStr) cStr_ok s40 [y68] 16 (by decide) (by simpa using g71)) (all_cons (apQ 9 1 cStr s40 [y68]) (all_cons (show I64 (((i41 : Nat) : Int) + 1) from by unfold I64; omega) all_nil))))))) (by kernel_rfl)
    · subst e79
      have H80 := aftE_brk H57
      refine bnd H80 fun y81 h82 H83 => ?_
      refine grd_e H83 fun g84 H85 => ?_
      refine grd_e H85 fun g86 H87 => ?_
      refine some_e H87 fun e88 => ?_
      subst e88
      exact p_ret Tryz.mo 3 [.rg 0 [] [.v, .c false (.str y81), .v, .v, .v]] [] [] (all_cons Tryz.call153 (all_cons (AFn.is (lib_Join_c u78 [44, 32] y81 h82)) (all_cons (show [91].length + y81.length ≤ 9223372036854775807 from g84) (all_cons (show ([91] ++ y81).length + [93].length ≤ 9223372036854775807 from g86) all_nil)))) (by kernel_rfl)
/-- framewise/shape.Print -/
def shape_Print (x0 : Shape) : Option (Str × Int) :=
  (shape_Valid x0).bind fun y1 =>
  bif y1 then (
    (shape_text x0).bind fun y8 =>
    some (y8, 0)
  ) else (
    some ([], 1)
  )
theorem shape_Print_c (x0 : Shape) (r : (Str × Int)) (H : shape_Print x0 = some r) : AFn Tryz.prog 24 [.agg [.str x0.Row, .dslice (x0.Dims.map cLinear)]] (.tup [.str r.1, .int .i64 r.2]) := by
  unfold shape_Print at H
  refine acallX Tryz.func24 9 [.tmp 2, .tmp 3] (by kernel_rfl) (by kernel_rfl) ?_
  refine bnd H fun y1 h2 H3 => ?_
  refine bsp H3 (fun c4 H5 => ?_) (fun c6 H7 => ?_)
  · refine bnd H5 fun y8 h9 H10 => ?_
    refine some_e H10 fun e11 => ?_
    subst e11
    exact p_ret Tryz.mo 11 [.rg 0 [] [.m, .v, .v], .rg 0 [] [.v, .c true (.bool y1), .v], .eqT 6 (.bool false), .rg 0 [] [.v, .c true (.str y8), .v, .v]] [] [] (all_cons Tryz.call31 (all_cons (AFn.is (shape_Valid_c x0 y1 h2)) (all_cons trivial (all_cons (congrArg (fun x => AV.bool (!x)) c4) (all_cons Tryz.call88 (all_cons (AFn.is (shape_text_c x0 y8 h9)) all_nil)))))) (by kernel_rfl)
  · refine some_e H7 fun e12 => ?_
    subst e12
    exact p_ret Tryz.mo 10 [.rg 0 [] [.m, .v, .v], .rg 0 [] [.v, .c true (.bool y1), .v], .eqT 6 (.bool true), .rg 0 [] [.v, .v]] [] [] (all_cons Tryz.call31 (all_cons (AFn.is (shape_Valid_c x0 y1 h2)) (all_cons trivial (all_cons (congrArg (fun x => AV.bool (!x)) c6) all_nil)))) (by kernel_rfl)
/-- framewise/shape.ElemVar -/
def shape_ElemVar (x0 : Str) : Option Bool :=
  bif decide (((x0.length : Nat) : Int) < 1) then (
    some false
  ) else (
    bif decide (((x0.length : Nat) : Int) > 30) then (
      some false
    ) else (
      grd (0 < x0.length) <|
      bif decide (((x0.getD 0 0).toNat : Int) < 65) then (
        some false
      ) else (
        bif decide (((x0.getD 0 0).toNat : Int) > 90) then (
          some false
        ) else (
          grd (1 ≤ x0.length) <|
          (lib_Trim (x0.drop 1) [48, 49, 50, 51, 52, 53, 54, 55, 56, 57]).bind fun y53 =>
          some (y53 == [])
        )
      )
    )
  )
theorem shape_ElemVar_c (x0 : Str) (r : Bool) (H : shape_ElemVar x0 = some r) : AFn Tryz.prog 38 [.str x0] (.bool r) := by
  unfold shape_ElemVar at H
  refine acallX Tryz.func38 25 [.tmp 2] (by kernel_rfl) (by kernel_rfl) ?_
  refine bsp H (fun c15 H16 => ?_) (fun c17 H18 => ?_)
  · have c15p := of_decide_eq_true c15
    refine some_e H16 fun e19 => ?_
    subst e19
    exact p_ret Tryz.mo 9 [.rg 0 [] [.v], .rg 0 [] [.v, .v, .e (.bool true), .v, .s, .s, .s, .v, .v, .s, .s, .s, .v, .v, .s, .s, .s, .v], .rg 0 [] [.v]] [] [] (all_cons trivial (all_cons (congrArg (AV.bool) c15) all_nil)) (by kernel_rfl)
  · have c17p := of_decide_eq_false c17
    refine bsp H18 (fun c30 H31 => ?_) (fun c32 H33 => ?_)
    · have c30p := of_decide_eq_true c30
      refine some_e H31 fun e34 => ?_
      subst e34
      exact p_ret Tryz.mo 9 [.rg 0 [] [.v], .rg 0 [] [.v, .v, .e (.bool false), .v, .v, .v, .e (.bool true), .v, .v, .s, .s, .s, .v, .v, .s, .s, .s, .v], .rg 0 [] [.v]] [] [] (all_cons trivial (all_cons (congrArg (AV.bool) c17) (all_cons trivial (all_cons (congrArg (AV.bool) c30) all_nil)))) (by kernel_rfl)
    · have c32p := of_decide_eq_false c32
      refine grd_e H33 fun g35 H36 => ?_
      refine bsp H36 (fun c41 H42 => ?_) (fun c43 H44 => ?_)
      · have c41p := of_decide_eq_true c41
        refine some_e H42 fun e45 => ?_
        subst e45
        exact p_ret Tryz.mo 9 [.rg 0 [] [.v], .rg 0 [] [.v, .v, .e (.bool false), .v, .v, .v, .e (.bool false), .v, .v, .v, .v, .e (.bool true), .v, .v, .s, .s, .s, .v], .rg 0 [] [.v]] [] [] (all_cons trivial (all_cons (congrArg (AV.bool) c17) (all_cons trivial (all_cons (congrArg (AV.bool) c32) (all_cons (show (0 : Int) ≤ 0 ∧ 0 < (x0.length : Int) from by omega) (all_cons (congrArg (AV.bool) c41) all_nil)))))) (by kernel_rfl)
      · have c43p := of_decide_eq_false c43
        refine bsp H44 (fun c46 H47 => ?_) (fun c48 H49 => ?_)
        · have c46p := of_decide_eq_true c46
          refine some_e H47 fun e50 => ?_
          subst e50
          exact p_ret Tryz.mo 10 [.rg 0 [] [.v], .rg 0 [] [.v, .v, .e (.bool false), .v, .v, .v, .e (.bool false), .v, .v, .v, .v, .e (.bool false), .v, .v, .v, .v, .v, .v], .eqT 20 (.bool true), .rg 0 [] [.v]] [] [] (all_cons trivial (all_cons (congrArg (AV.bool) c17) (all_cons trivial (all_cons (congrArg (AV.bool) c32) (all_cons (show (0 : Int) ≤ 0 ∧ 0 < (x0.length : Int) from by omega) (all_cons (congrArg (AV.bool) c43) (all_cons (show (0 : Int) ≤ 0 ∧ 0 < (x0.length : Int) from by omega) (all_cons (congrArg (AV.bool) c46) all_nil)))))))) (by kernel_rfl)
        · have c48p := of_decide_eq_false c48
          refine grd_e H49 fun g51 H52 => ?_
          refine bnd H52 fun y53 h54 H55 => ?_
          refine some_e H55 fun e56 => ?_
          subst e56
          exact p_ret Tryz.mo 11 [.rg 0 [] [.v], .rg 0 [] [.v, .v, .e (.bool false), .v, .v, .v, .e (.bool false), .v, .v, .v, .v, .e (.bool false), .v, .v, .v, .v, .v, .v], .eqT 20 (.bool false), .rg 0 [] [.v, .e (.str (x0.drop 1)), .c true (.str y53), .v, .v]] [] [] (all_cons trivial (all_cons (congrArg (AV.bool) c17) (all_cons trivial (all_cons (congrArg (AV.bool) c32) (all_cons (show (0 : Int) ≤ 0 ∧ 0 < (x0.length : Int) from by omega) (all_cons (congrArg (AV.bool) c43) (all_cons (show (0 : Int) ≤ 0 ∧ 0 < (x0.length : Int) from by omega) (all_cons (congrArg (AV.bool) c48) (all_cons (show (0 : Int) ≤ 1 ∧ 1 ≤ (x0.length : Int) ∧ (x0.length : Int) ≤ (x0.length : Int) from by omega) (all_cons (sl_drop x0 1) (all_cons Tryz.call106 (all_cons (AFn.is (lib_Trim_c (x0.drop 1) [48, 49, 50, 51, 52, 53, 54, 55, 56, 57] y53 h54)) all_nil)))))))))))) (by kernel_rfl)
/-- framewise/shape.bound -/
def shape_bound (x0 : Bind) : Option Bool :=
  ((
    bif (x0.Dim.Const == 0) then (
      some (((x0.Dim.Terms.length : Nat) : Int) == 0)
    ) else (
      some false
    )
  ) : Option Bool).bind fun v1 =>
  ((
    bif (x0.Row.Row == []) then (
      some (((x0.Row.Dims.length : Nat) : Int) == 0)
    ) else (
      some false
    )
  ) : Option Bool).bind fun v10 =>
  bif (x0.Kind == 1) then (
    (linear_Name x0.Var).bind fun y200 =>
    bif y200 then (
      (linear_Valid x0.Dim).bind fun y218 =>
      bif y218 then (
        bif v10 then (
          some (x0.Elem == [])
        ) else (
          some false
        )
      ) else (
        some false
      )
    ) else (
      some false
    )
  ) else (
    bif (x0.Kind == 2) then (
      (linear_Name x0.Var).bind fun y381 =>
      bif y381 then (
        (shape_Valid x0.Row).bind fun y399 =>
        bif y399 then (
          bif v1 then (
            some (x0.Elem == [])
          ) else (
            some false
          )
        ) else (
          some false
        )
      ) else (
        some false
      )
    ) else (
      bif (x0.Kind == 3) then (
        (shape_ElemVar x0.Var).bind fun y525 =>
        bif y525 then (
          bif (x0.Elem == [105, 110, 116]) then (
            bif v1 then (
              some v10
            ) else (
              some false
            )
          ) else (
            bif (x0.Elem == [98, 111, 111, 108]) then (
              bif v1 then (
                some v10
              ) else (
                some false
              )
            ) else (
              (shape_ElemVar x0.Elem).bind fun y617 =>
              bif y617 then (
                bif v1 then (
                  some v10
                ) else (
                  some false
                )
              ) else (
                some false
              )
            )
          )
        ) else (
          some false
        )
      ) else (
        some false
      )
    )
  )
def shape_bound_S1 (x0 : Bind) (v1 : Bool) : AS := ⟨91, [(1, .hptr 1 0), (2, .bool false), (3, .bool v1)], [(1, .cells 41 [.int .i64 x0.Kind, .str x0.Var, .int .i64 x0.Dim.Const, .dslice (x0.Dim.Terms.map cCoef), .str x0.Row.Row, .dslice (x0.Row.Dims.map cLinear), .str x0.Elem])]⟩
def shape_bound_S2 (x0 : Bind) (v1 : Bool) (v10 : Bool) : AS := ⟨91, [(1, .hptr 1 0), (2, .bool false), (3, .bool v1), (4, .bool v10)], [(1, .cells 41 [.int .i64 x0.Kind, .str x0.Var, .int .i64 x0.Dim.Const, .dslice (x0.Dim.Terms.map cCoef), .str x0.Row.Row, .dslice (x0.Row.Dims.map cLinear), .str x0.Elem])]⟩
theorem shape_bound_c (x0 : Bind) (r : Bool) (H : shape_bound x0 = some r) : AFn Tryz.prog 104 [.agg [.int .i64 x0.Kind, .str x0.Var, .int .i64 x0.Dim.Const, .dslice (x0.Dim.Terms.map cCoef), .str x0.Row.Row, .dslice (x0.Row.Dims.map cLinear), .str x0.Elem]] (.bool r) := by
  unfold shape_bound at H
  refine acallX Tryz.func104 91 [.tmp 2] (by kernel_rfl) (by kernel_rfl) ?_
  refine p_at Tryz.mo 3 [.rg 0 [] [.m, .v]] [.only [1, 2] [1]] 3 [] ⟨91, [(1, .hptr 1 0), (2, .bool false)], [(1, .cells 41 [.int .i64 x0.Kind, .str x0.Var, .int .i64 x0.Dim.Const, .dslice (x0.Dim.Terms.map cCoef), .str x0.Row.Row, .dslice (x0.Row.Dims.map cLinear), .str x0.Elem])]⟩ all_nil (by kernel_rfl) ?_
  refine bnd H fun v1 h2 H3 => ?_
  refine p_join 0 (shape_bound_S1 x0 v1) (by kernel_rfl) ?_ ?_
  · refine bsp h2 (fun c4 H5 => ?_) (fun c6 H7 => ?_)
    · refine some_e H5 fun e8 => ?_
      subst e8
      exact p_bar Tryz.mo 1 [.rg 0 [] [.v, .v, .v, .e (.bool true), .v, .v, .v, .v, .e (.int .i64 ((x0.Dim.Terms.length : Nat) : Int)), .v, .v, .v]] [.only [1, 2, 3] [1]] (shape_bound_S1 x0 (((x0.Dim.Terms.length : Nat) : Int) == 0)) (all_cons (congrArg (AV.bool) c4) (all_cons trivial (all_cons (lenm cCoef x0.Dim.Terms) all_nil))) (by kernel_rfl)
    · refine some_e H7 fun e9 => ?_
      subst e9
      exact p_bar Tryz.mo 1 [.rg 0 [] [.v, .v, .v, .e (.bool false), .v, .s, .s, .s, .s, .s, .v, .v]] [.only [1, 2, 3] [1]] (shape_bound_S1 x0 false) (all_cons (congrArg (AV.bool) c6) all_nil) (by kernel_rfl)
  · refine p_at Tryz.mo 1 [] [.only [1, 2, 3] [1]] 1 [] ⟨91, [(1, .hptr 1 0), (2, .bool false), (3, .bool v1)], [(1, .cells 41 [.int .i64 x0.Kind, .str x0.Var, .int .i64 x0.Dim.Const, .dslice (x0.Dim.Terms.map cCoef), .str x0.Row.Row, .dslice (x0.Row.Dims.map cLinear), .str x0.Elem])]⟩ all_nil (by kernel_rfl) ?_
    refine bnd H3 fun v10 h11 H12 => ?_
    refine p_join 0 (shape_bound_S2 x0 v1 v10) (by kernel_rfl) ?_ ?_
    · refine bsp h11 (fun c13 H14 => ?_) (fun c15 H16 => ?_)
      · refine some_e H14 fun e17 => ?_
        subst e17
        exact p_bar Tryz.mo 1 [.rg 0 [] [.v, .v, .v, .e (.bool true), .v, .v, .v, .v, .e (.int .i64 ((x0.Row.Dims.length : Nat) : Int)), .v, .v, .v]] [.only [1, 2, 3, 4] [1]] (shape_bound_S2 x0 v1 (((x0.Row.Dims.length : Nat) : Int) == 0)) (all_cons (congrArg (AV.bool) c13) (all_cons trivial (all_cons (lenm cLinear x0.Row.Dims) all_nil))) (by kernel_rfl)
      · refine some_e H16 fun e18 => ?_
        subst e18
        exact p_bar Tryz.mo 1 [.rg 0 [] [.v, .v, .v, .e (.bool false), .v, .s, .s, .s, .s, .s, .v, .v]] [.only [1, 2, 3, 4] [1]] (shape_bound_S2 x0 v1 false) (all_cons (congrArg (AV.bool) c15) all_nil) (by kernel_rfl)
    · refine bsp H12 (fun c196 H197 => ?_) (fun c198 H199 => ?_)
      · refine bnd H197 fun y200 h201 H202 => ?_
        refine bsp H202 (fun c214 H215 => ?_) (fun c216 H217 => ?_)
        · refine bnd H215 fun y218 h219 H220 => ?_
          refine bsp H220 (fun c225 H226 => ?_) (fun c227 H228 => ?_)
          · refine bsp H226 (fun c229 H230 => ?_) (fun c231 H232 => ?_)
            · refine some_e H230 fun e233 => ?_
              subst e233
              exact p_ret Tryz.mo 12 [.rg 0 [] [.v, .v], .rg 0 [] [.v, .v], .eqT 29 (.bool true), .eqT 4 (.bool true), .rg 0 [] [.v, .v, .c true (.bool true), .v, .v, .v, .c true (.bool true), .v, .v, .v, .v, .v, .v, .v, .v, .v, .v]] [] [] (all_cons (congrArg (AV.bool) c196) (all_cons (congrArg (AV.bool) c229) (all_cons Tryz.call96 (all_cons (AFn.eq (linear_Name_c x0.Var y200 h201) (congrArg (AV.bool) c214)) (all_cons Tryz.call99 (all_cons (AFn.eq (linear_Valid_c x0.Dim y218 h219) (congrArg (AV.bool) c225)) all_nil)))))) (by kernel_rfl)
            · refine some_e H232 fun e234 => ?_
              subst e234
              exact p_ret Tryz.mo 12 [.rg 0 [] [.v, .v], .rg 0 [] [.v, .v], .eqT 29 (.bool true), .eqT 4 (.bool false), .rg 0 [] [.v, .v, .c true (.bool true), .v, .v, .v, .c true (.bool true), .v, .v, .v, .v, .v, .s, .s, .s, .v, .v]] [] [] (all_cons (congrArg (AV.bool) c196) (all_cons (congrArg (AV.bool) c231) (all_cons Tryz.call96 (all_cons (AFn.eq (linear_Name_c x0.Var y200 h201) (congrArg (AV.bool) c214)) (all_cons Tryz.call99 (all_cons (AFn.eq (linear_Valid_c x0.Dim y218 h219) (congrArg (AV.bool) c225)) all_nil)))))) (by kernel_rfl)
          · refine some_e H228 fun e235 => ?_
            subst e235
            exact p_ret Tryz.mo 11 [.rg 0 [] [.v, .v], .rg 0 [] [.v, .v], .eqT 29 (.bool true), .rg 0 [] [.v, .v, .c true (.bool true), .v, .v, .v, .c true (.bool false), .v, .v, .s, .v, .v, .s, .s, .s, .v, .v]] [] [] (all_cons (congrArg (AV.bool) c196) (all_cons Tryz.call96 (all_cons (AFn.eq (linear_Name_c x0.Var y200 h201) (congrArg (AV.bool) c214)) (all_cons Tryz.call99 (all_cons (AFn.eq (linear_Valid_c x0.Dim y218 h219) (congrArg (AV.bool) c227)) all_nil))))) (by kernel_rfl)
        · refine some_e H217 fun e236 => ?_
          subst e236
          exact p_ret Tryz.mo 11 [.rg 0 [] [.v, .v], .rg 0 [] [.v, .v], .eqT 29 (.bool true), .rg 0 [] [.v, .v, .c true (.bool false), .v, .s, .s, .s, .v, .v, .s, .v, .v, .s, .s, .s, .v, .v]] [] [] (all_cons (congrArg (AV.bool) c196) (all_cons Tryz.call96 (all_cons (AFn.eq (linear_Name_c x0.Var y200 h201) (congrArg (AV.bool) c216)) all_nil))) (by kernel_rfl)
      · refine bsp H199 (fun c377 H378 => ?_) (fun c379 H380 => ?_)
        · refine bnd H378 fun y381 h382 H383 => ?_
          refine bsp H383 (fun c395 H396 => ?_) (fun c397 H398 => ?_)
          · refine bnd H396 fun y399 h400 H401 => ?_
            refine bsp H401 (fun c406 H407 => ?_) (fun c408 H409 => ?_)
            · refine bsp H407 (fun c410 H411 => ?_) (fun c412 H413 => ?_)
              · refine some_e H411 fun e414 => ?_
                subst e414
                exact p_ret Tryz.mo 16 [.rg 0 [] [.v, .v], .rg 0 [] [.v, .v], .eqT 29 (.bool false), .rg 0 [] [.v, .v], .eqT 47 (.bool true), .eqT 3 (.bool true), .rg 0 [] [.v, .v, .c true (.bool true), .v, .v, .v, .c true (.bool true), .v, .v, .v, .v, .v, .v, .v, .v, .v, .v]] [] [] (all_cons (congrArg (AV.bool) c198) (all_cons (congrArg (AV.bool) c377) (all_cons (congrArg (AV.bool) c410) (all_cons Tryz.call96 (all_cons (AFn.eq (linear_Name_c x0.Var y381 h382) (congrArg (AV.bool) c395)) (all_cons Tryz.call31 (all_cons (AFn.eq (shape_Valid_c x0.Row y399 h400) (congrArg (AV.bool) c406)) all_nil))))))) (by kernel_rfl)
              · refine some_e H413 fun e415 => ?_
                subst e415
                exact p_ret Tryz.mo 16 [.rg 0 [] [.v, .v], .rg 0 [] [.v, .v], .eqT 29 (.bool false), .rg 0 [] [.v, .v], .eqT 47 (.bool true), .eqT 3 (.bool false), .rg 0 [] [.v, .v, .c true (.bool true), .v, .v, .v, .c true (.bool true), .v, .v, .v, .v, .v, .s, .s, .s, .v, .v]] [] [] (all_cons (congrArg (AV.bool) c198) (all_cons (congrArg (AV.bool) c377) (all_cons (congrArg (AV.bool) c412) (all_cons Tryz.call96 (all_cons (AFn.eq (linear_Name_c x0.Var y381 h382) (congrArg (AV.bool) c395)) (all_cons Tryz.call31 (all_cons (AFn.eq (shape_Valid_c x0.Row y399 h400) (congrArg (AV.bool) c406)) all_nil))))))) (by kernel_rfl)
            · refine some_e H409 fun e416 => ?_
              subst e416
              exact p_ret Tryz.mo 15 [.rg 0 [] [.v, .v], .rg 0 [] [.v, .v], .eqT 29 (.bool false), .rg 0 [] [.v, .v], .eqT 47 (.bool true), .rg 0 [] [.v, .v, .c true (.bool true), .v, .v, .v, .c true (.bool false), .v, .v, .s, .v, .v, .s, .s, .s, .v, .v]] [] [] (all_cons (congrArg (AV.bool) c198) (all_cons (congrArg (AV.bool) c377) (all_cons Tryz.call96 (all_cons (AFn.eq (linear_Name_c x0.Var y381 h382) (congrArg (AV.bool) c395)) (all_cons Tryz.call31 (all_cons (AFn.eq (shape_Valid_c x0.Row y399 h400) (congrArg (AV.bool) c408)) all_nil)))))) (by kernel_rfl)
          · refine some_e H398 fun e417 => ?_
            subst e417
            exact p_ret Tryz.mo 15 [.rg 0 [] [.v, .v], .rg 0 [] [.v, .v], .eqT 29 (.bool false), .rg 0 [] [.v, .v], .eqT 47 (.bool true), .rg 0 [] [.v, .v, .c true (.bool false), .v, .s, .s, .s, .v, .v, .s, .v, .v, .s, .s, .s, .v, .v]] [] [] (all_cons (congrArg (AV.bool) c198) (all_cons (congrArg (AV.bool) c377) (all_cons Tryz.call96 (all_cons (AFn.eq (linear_Name_c x0.Var y381 h382) (congrArg (AV.bool) c397)) all_nil)))) (by kernel_rfl)
        · refine bsp H380 (fun c521 H522 => ?_) (fun c523 H524 => ?_)
          · refine bnd H522 fun y525 h526 H527 => ?_
            refine bsp H527 (fun c555 H556 => ?_) (fun c557 H558 => ?_)
            · refine bsp H556 (fun c582 H583 => ?_) (fun c584 H585 => ?_)
              · refine bsp H583 (fun c586 H587 => ?_) (fun c588 H589 => ?_)
                · refine some_e H587 fun e590 => ?_
                  subst e590
                  exact p_ret Tryz.mo 20 [.rg 0 [] [.v, .v], .rg 0 [] [.v, .v], .eqT 29 (.bool false), .rg 0 [] [.v, .v], .eqT 47 (.bool false), .rg 0 [] [.v, .v], .eqT 65 (.bool true), .eqT 3 (.bool true), .rg 0 [] [.v, .v, .c true (.bool true), .v, .v, .v, .e (.bool true), .v, .s, .s, .s, .v, .v, .s, .s, .s, .v, .v, .v, .v, .v, .v, .v, .v, .v]] [] [] (all_cons (congrArg (AV.bool) c198) (all_cons (congrArg (AV.bool) c379) (all_cons (congrArg (AV.bool) c521) (all_cons (congrArg (AV.bool) c586) (all_cons Tryz.call38 (all_cons (AFn.eq (shape_ElemVar_c x0.Var y525 h526) (congrArg (AV.bool) c555)) (all_cons (congrArg (AV.bool) c582) all_nil))))))) (by kernel_rfl)
                · refine some_e H589 fun e591 => ?_
                  subst e591
                  exact p_ret Tryz.mo 20 [.rg 0 [] [.v, .v], .rg 0 [] [.v, .v], .eqT 29 (.bool false), .rg 0 [] [.v, .v], .eqT 47 (.bool false), .rg 0 [] [.v, .v], .eqT 65 (.bool true), .eqT 3 (.bool false), .rg 0 [] [.v, .v, .c true (.bool true), .v, .v, .v, .e (.bool true), .v, .s, .s, .s, .v, .v, .s, .s, .s, .v, .v, .v, .v, .v, .v, .s, .v, .v]] [] [] (all_cons (congrArg (AV.bool) c198) (all_cons (congrArg (AV.bool) c379) (all_cons (congrArg (AV.bool) c521) (all_cons (congrArg (AV.bool) c588) (all_cons Tryz.call38 (all_cons (AFn.eq (shape_ElemVar_c x0.Var y525 h526) (congrArg (AV.bool) c555)) (all_cons (congrArg (AV.bool) c582) all_nil))))))) (by kernel_rfl)
              · refine bsp H585 (fun c607 H608 => ?_) (fun c609 H610 => ?_)
                · refine bsp H608 (fun c611 H612 => ?_) (fun c613 H614 => ?_)
                  · refine some_e H612 fun e615 => ?_
                    subst e615
                    exact p_ret Tryz.mo 20 [.rg 0 [] [.v, .v], .rg 0 [] [.v, .v], .eqT 29 (.bool false), .rg 0 [] [.v, .v], .eqT 47 (.bool false), .rg 0 [] [.v, .v], .eqT 65 (.bool true), .eqT 3 (.bool true), .rg 0 [] [.v, .v, .c true (.bool true), .v, .v, .v, .e (.bool false), .v, .v, .v, .e (.bool true), .v, .v, .s, .s, .s, .v, .v, .v, .v, .v, .v, .v, .v, .v]] [] [] (all_cons (congrArg (AV.bool) c198) (all_cons (congrArg (AV.bool) c379) (all_cons (congrArg (AV.bool) c521) (all_cons (congrArg (AV.bool) c611) (all_cons Tryz.call38 (all_cons (AFn.eq (shape_ElemVar_c x0.Var y525 h526) (congrArg (AV.bool) c555)) (all_cons (congrArg (AV.bool) c584) (all_cons (congrArg (AV.bool) c607) all_nil)))))))) (by kernel_rfl)
                  · refine some_e H614 fun e616 => ?_
                    subst e616
                    exact p_ret Tryz.mo 20 [.rg 0 [] [.v, .v], .rg 0 [] [.v, .v], .eqT 29 (.bool false), .rg 0 [] [.v, .v], .eqT 47 (.bool false), .rg 0 [] [.v, .v], .eqT 65 (.bool true), .eqT 3 (.bool false), .rg 0 [] [.v, .v, .c true (.bool true), .v, .v, .v, .e (.bool false), .v, .v, .v, .e (.bool true), .v, .v, .s, .s, .s, .v, .v, .v, .v, .v, .v, .s, .v, .v]] [] [] (all_cons (congrArg (AV.bool) c198) (all_cons (congrArg (AV.bool) c379) (all_cons (congrArg (AV.bool) c521) (all_cons (congrArg (AV.bool) c613) (all_cons Tryz.call38 (all_cons (AFn.eq (shape_ElemVar_c x0.Var y525 h526) (congrArg (AV.bool) c555)) (all_cons (congrArg (AV.bool) c584) (all_cons (congrArg (AV.bool) c607) all_nil)))))))) (by kernel_rfl)
                · refine bnd H610 fun y617 h618 H619 => ?_
                  refine bsp H619 (fun c624 H625 => ?_) (fun c626 H627 => ?_)
                  · refine bsp H625 (fun c628 H629 => ?_) (fun c630 H631 => ?_)
                    · refine some_e H629 fun e632 => ?_
                      subst e632
                      exact p_ret Tryz.mo 20 [.rg 0 [] [.v, .v], .rg 0 [] [.v, .v], .eqT 29 (.bool false), .rg 0 [] [.v, .v], .eqT 47 (.bool false), .rg 0 [] [.v, .v], .eqT 65 (.bool true), .eqT 3 (.bool true), .rg 0 [] [.v, .v, .c true (.bool true), .v, .v, .v, .e (.bool false), .v, .v, .v, .e (.bool false), .v, .v, .v, .v, .c true (.bool true), .v, .v, .v, .v, .v, .v, .v, .v, .v]] [] [] (all_cons (congrArg (AV.bool) c198) (all_cons (congrArg (AV.bool) c379) (all_cons (congrArg (AV.bool) c521) (all_cons (congrArg (AV.bool) c628) (all_cons Tryz.call38 (all_cons (AFn.eq (shape_ElemVar_c x0.Var y525 h526) (congrArg (AV.bool) c555)) (all_cons (congrArg (AV.bool) c584) (all_cons (congrArg (AV.bool) c609) (all_cons Tryz.call38 (all_cons (AFn.eq (shape_ElemVar_c x0.Elem y617 h618) (congrArg (AV.bool) c624)) all_nil)))))))))) (by kernel_rfl)
                    · refine some_e H631 fun e633 => ?_
                      subst e633
                      exact p_ret Tryz.mo 20 [.rg 0 [] [.v, .v], .rg 0 [] [.v, .v], .eqT 29 (.bool false), .rg 0 [] [.v, .v], .eqT 47 (.bool false), .rg 0 [] [.v, .v], .eqT 65 (.bool true), .eqT 3 (.bool false), .rg 0 [] [.v, .v, .c true (.bool true), .v, .v, .v, .e (.bool false), .v, .v, .v, .e (.bool false), .v, .v, .v, .v, .c true (.bool true), .v, .v, .v, .v, .v, .v, .s, .v, .v]] [] [] (all_cons (congrArg (AV.bool) c198) (all_cons (congrArg (AV.bool) c379) (all_cons (congrArg (AV.bool) c521) (all_cons (congrArg (AV.bool) c630) (all_cons Tryz.call38 (all_cons (AFn.eq (shape_ElemVar_c x0.Var y525 h526) (congrArg (AV.bool) c555)) (all_cons (congrArg (AV.bool) c584) (all_cons (congrArg (AV.bool) c609) (all_cons Tryz.call38 (all_cons (AFn.eq (shape_ElemVar_c x0.Elem y617 h618) (congrArg (AV.bool) c624)) all_nil)))))))))) (by kernel_rfl)
                  · refine some_e H627 fun e634 => ?_
                    subst e634
                    exact p_ret Tryz.mo 19 [.rg 0 [] [.v, .v], .rg 0 [] [.v, .v], .eqT 29 (.bool false), .rg 0 [] [.v, .v], .eqT 47 (.bool false), .rg 0 [] [.v, .v], .eqT 65 (.bool true), .rg 0 [] [.v, .v, .c true (.bool true), .v, .v, .v, .e (.bool false), .v, .v, .v, .e (.bool false), .v, .v, .v, .v, .c true (.bool false), .v, .v, .v, .s, .v, .v, .s, .v, .v]] [] [] (all_cons (congrArg (AV.bool) c198) (all_cons (congrArg (AV.bool) c379) (all_cons (congrArg (AV.bool) c521) (all_cons Tryz.call38 (all_cons (AFn.eq (shape_ElemVar_c x0.Var y525 h526) (congrArg (AV.bool) c555)) (all_cons (congrArg (AV.bool) c584) (all_cons (congrArg (AV.bool) c609) (all_cons Tryz.call38 (all_cons (AFn.eq (shape_ElemVar_c x0.Elem y617 h618) (congrArg (AV.bool) c626)) all_nil))))))))) (by kernel_rfl)
            · refine some_e H558 fun e635 => ?_
              subst e635
              exact p_ret Tryz.mo 19 [.rg 0 [] [.v, .v], .rg 0 [] [.v, .v], .eqT 29 (.bool false), .rg 0 [] [.v, .v], .eqT 47 (.bool false), .rg 0 [] [.v, .v], .eqT 65 (.bool true), .rg 0 [] [.v, .v, .c true (.bool false), .v, .s, .s, .s, .s, .s, .s, .s, .s, .s, .s, .s, .s, .s, .v, .v, .s, .v, .v, .s, .v, .v]] [] [] (all_cons (congrArg (AV.bool) c198) (all_cons (congrArg (AV.bool) c379) (all_cons (congrArg (AV.bool) c521) (all_cons Tryz.call38 (all_cons (AFn.eq (shape_ElemVar_c x0.Var y525 h526) (congrArg (AV.bool) c557)) all_nil))))) (by kernel_rfl)
          · refine some_e H524 fun e636 => ?_
            subst e636
            exact p_ret Tryz.mo 20 [.rg 0 [] [.v, .v], .rg 0 [] [.v, .v], .eqT 29 (.bool false), .rg 0 [] [.v, .v], .eqT 47 (.bool false), .rg 0 [] [.v, .v], .eqT 65 (.bool false), .rg 0 [] [.v]] [] [] (all_cons (congrArg (AV.bool) c198) (all_cons (congrArg (AV.bool) c379) (all_cons (congrArg (AV.bool) c523) all_nil))) (by kernel_rfl)
/-- framewise/shape.find$1 -/
def shape_find_1 (x0 : Bind) (x1 : Int) (x2 : Str) : Option Bool :=
  bif (x0.Kind == x1) then (
    some (x0.Var == x2)
  ) else (
    some false
  )
theorem shape_find_1_c (x0 : Bind) (x1 : Int) (x2 : Str) (r : Bool) (H : shape_find_1 x0 x1 x2 = some r) : AFn Tryz.prog 145 [.agg [.int .i64 x0.Kind, .str x0.Var, .int .i64 x0.Dim.Const, .dslice (x0.Dim.Terms.map cCoef), .str x0.Row.Row, .dslice (x0.Row.Dims.map cLinear), .str x0.Elem], .dptr [.int .i64 x1], .dptr [.str x2]] (.bool r) := by
  unfold shape_find_1 at H
  refine acallX Tryz.func145 15 [.tmp 4] (by kernel_rfl) (by kernel_rfl) ?_
  refine bsp H (fun c1 H2 => ?_) (fun c3 H4 => ?_)
  · refine some_e H2 fun e5 => ?_
    subst e5
    exact p_ret Tryz.mo 5 [.rg 0 [] [.m, .v], .rg 0 [] [.v, .v, .v, .e (.bool true), .v, .v, .v, .v, .v, .v, .v]] [] [] (all_cons (congrArg (AV.bool) c1) all_nil) (by kernel_rfl)
  · refine some_e H4 fun e6 => ?_
    subst e6
    exact p_ret Tryz.mo 5 [.rg 0 [] [.m, .v], .rg 0 [] [.v, .v, .v, .e (.bool false), .v, .s, .s, .s, .s, .v, .v]] [] [] (all_cons (congrArg (AV.bool) c3) all_nil) (by kernel_rfl)
/-- slices.IndexFunc[[]framewise/api.Bind,framewise/api.Bind] -/
def slices_IndexFunc_api_Bind (x0 : (List Bind)) (x1 : Int) (x2 : Str) : Option Int :=
  (cnt (σ := Unit) (ε := Unit) (ρ := Int) (fun i90 s89 =>
    (shape_find_1 (Bind.mk ((x0.getD i90 (⟨0, [], ⟨0, []⟩, ⟨[], []⟩, []⟩)).Kind) ((x0.getD i90 (⟨0, [], ⟨0, []⟩, ⟨[], []⟩, []⟩)).Var) (Linear.mk (((x0.getD i90 (⟨0, [], ⟨0, []⟩, ⟨[], []⟩, []⟩)).Dim).Const) (((x0.getD i90 (⟨0, [], ⟨0, []⟩, ⟨[], []⟩, []⟩)).Dim).Terms)) (Shape.mk (((x0.getD i90 (⟨0, [], ⟨0, []⟩, ⟨[], []⟩, []⟩)).Row).Row) (((x0.getD i90 (⟨0, [], ⟨0, []⟩, ⟨[], []⟩, []⟩)).Row).Dims)) ((x0.getD i90 (⟨0, [], ⟨0, []⟩, ⟨[], []⟩, []⟩)).Elem)) x1 x2).bind fun y119 =>
    bif y119 then (
      some (.ret ((i90 : Nat) : Int))
    ) else (
      some (.go ())
    )
  ) (fun i90 s89 => ()) (x0.length - 0) 0 ()).bind <| aft fun u135 =>
  some (-1)
def slices_IndexFunc_api_Bind_S1 (x0 : (List Bind)) (x1 : Int) (x2 : Str) (i90 : Nat) (s89 : Unit) : AS := ⟨19, [(0, .dslice (x0.map cBind)), (1, .fn 145 [.hptr 1000 0, .hptr 1001 0]), (4, .int .i64 0), (7, .int .i64 ((x0.length : Nat) : Int)), (8, .int .i64 ((i90 : Nat) : Int))], [(1000, .cells 3 [.int .i64 x1]), (1001, .cells 9 [.str x2])]⟩
def slices_IndexFunc_api_Bind_S2 (x1 : Int) (x2 : Str) (u109 : Unit) : AS := ⟨19, [(4, .int .i64 0)], [(1000, .cells 3 [.int .i64 x1]), (1001, .cells 9 [.str x2])]⟩
theorem slices_IndexFunc_api_Bind_c (x0 : (List Bind)) (x1 : Int) (x2 : Str) (r : Int) (H : slices_IndexFunc_api_Bind x0 x1 x2 = some r) : ACall Tryz.prog 144 [.dslice (x0.map cBind), .fn 145 [.hptr 1000 0, .hptr 1001 0]] [(1000, .cells 3 [.int .i64 x1]), (1001, .cells 9 [.str x2])] (fun r2 h2 => r2 = (.int .i64 r) ∧ h2 = [(1000, .cells 3 [.int .i64 x1]), (1001, .cells 9 [.str x2])]) := by
  unfold slices_IndexFunc_api_Bind at H
  refine acallX Tryz.func144 19 [.tmp 4] (by kernel_rfl) (by kernel_rfl) ?_
  refine p_at Tryz.mo 6 [.rg 0 [] [.v], .rg 0 [] [.v, .e (.int .i64 ((x0.length : Nat) : Int)), .v]] [.only [0, 1, 4, 7, 8] [1000, 1001]] 6 [] (slices_IndexFunc_api_Bind_S1 x0 x1 x2 0 ()) (all_cons trivial (all_cons (lenm cBind x0) all_nil)) (by kernel_rfl) ?_
  refine bnd H fun R106 h107 H108 => ?_
  refine p_joinO 1 (slices_IndexFunc_api_Bind_S2 x1 x2) R106 (by kernel_rfl) ?_ (fun u135 e136 => ?_)
  · refine p_cnt (slices_IndexFunc_api_Bind_S1 x0 x1 x2) (by kernel_rfl) h107 (fun i90 s89 h110 e111 => ?_) (fun i90 s89 h118 q114 h115 h116 => ?_)
    · have c112 : decide (((i90 : Nat) : Int) < ((x0.length : Nat) : Int)) = false := decide_eq_false (by omega)
      subst e111
      exact p_bar Tryz.mo 5 [.rg 0 [] [.e (.bool false)]] [.only [4] [1000, 1001]] (slices_IndexFunc_api_Bind_S2 x1 x2 ()) (all_cons (congrArg (AV.bool) c112) all_nil) (by kernel_rfl)
    · have c117 : decide (((i90 : Nat) : Int) < ((x0.length : Nat) : Int)) = true := decide_eq_true (by omega)
      refine bnd h115 fun y119 h120 H121 => ?_
      refine bsp H121 (fun c122 H123 => ?_) (fun c124 H125 => ?_)
      · refine some_e H123 fun e126 => ?_
        subst e126
        have e127 := out_ret h116
        subst e127
        have H128 := aft_ret H108
        refine some_e H128 fun e129 => ?_
        subst e129
        exact p_ret Tryz.mo 16 [.rg 0 [] [.e (.bool true)], .rg 0 [] [.v, .v], .rg 0 [] [.v, .v, .v, .e (.dptr [.int .i64 ((x0.getD i90 (⟨0, [], ⟨0, []⟩, ⟨[], []⟩, []⟩)).Kind), .str ((x0.getD i90 (⟨0, [], ⟨0, []⟩, ⟨[], []⟩, []⟩)).Var), .int .i64 (((x0.getD i90 (⟨0, [], ⟨0, []⟩, ⟨[], []⟩, []⟩)).Dim).Const), .dslice ((((x0.getD i90 (⟨0, [], ⟨0, []⟩, ⟨[], []⟩, []⟩)).Dim).Terms).map cCoef), .str (((x0.getD i90 (⟨0, [], ⟨0, []⟩, ⟨[], []⟩, []⟩)).Row).Row), .dslice ((((x0.getD i90 (⟨0, [], ⟨0, []⟩, ⟨[], []⟩, []⟩)).Row).Dims).map cLinear), .str ((x0.getD i90 (⟨0, [], ⟨0, []⟩, ⟨[], []⟩, []⟩)).Elem)]), .v, .c false (.bool y119)], .eqT 16 (.bool true), .rg 0 [] [.v, .v]] [] [1000, 1001] (all_cons (congrArg (AV.bool) c117) (all_app (ix (f := cBind) (l := x0) (n := i90) (⟨0, [], ⟨0, []⟩, ⟨[], []⟩, []⟩) cBind_len (by decide) (by omega)) (all_cons Tryz.call145 (all_cons (AFn.is (shape_find_1_c (Bind.mk ((x0.getD i90 (⟨0, [], ⟨0, []⟩, ⟨[], []⟩, []⟩)).Kind) ((x0.getD i90 (⟨0, [], ⟨0, []⟩, ⟨[], []⟩, []⟩)).Var) (Linear.mk (((x0.getD i90 (⟨0, [], ⟨0, []⟩, ⟨[], []⟩, []⟩)).Dim).Const) (((x0.getD i90 (⟨0, [], ⟨0, []⟩, ⟨[], []⟩, []⟩)).Dim).Terms)) (Shape.mk (((x0.getD i90 (⟨0, [], ⟨0, []⟩, ⟨[], []⟩, []⟩)).Row).Row) (((x0.getD i90 (⟨0, [], ⟨0, []⟩, ⟨[], []⟩, []⟩)).Row).Dims)) ((x0.getD i90 (⟨0, [], ⟨0, []⟩, ⟨[], []⟩, []⟩)).Elem)) x1 x2 y119 h120)) (all_cons (congrArg (AV.bool) c122) all_nil))))) (by kernel_rfl)
      · refine t_lens 0 (ps := [(x0.map cBind).length ≤ 9223372036854775807]) (by kernel_rfl) (fun l132 => ?_)
        have l133 : x0.length ≤ 9223372036854775807 := by simpa only [All, List.length_map] using l132
        clear l132
        refine some_e H125 fun e134 => ?_
        subst e134
        exact p_bar Tryz.mo 15 [.rg 0 [] [.e (.bool true)], .rg 0 [] [.v, .v], .rg 0 [] [.v, .v, .v, .e (.dptr [.int .i64 ((x0.getD i90 (⟨0, [], ⟨0, []⟩, ⟨[], []⟩, []⟩)).Kind), .str ((x0.getD i90 (⟨0, [], ⟨0, []⟩, ⟨[], []⟩, []⟩)).Var), .int .i64 (((x0.getD i90 (⟨0, [], ⟨0, []⟩, ⟨[], []⟩, []⟩)).Dim).Const), .dslice ((((x0.getD i90 (⟨0, [], ⟨0, []⟩, ⟨[], []⟩, []⟩)).Dim).Terms).map cCoef), .str (((x0.getD i90 (⟨0, [], ⟨0, []⟩, ⟨[], []⟩, []⟩)).Row).Row), .dslice ((((x0.getD i90 (⟨0, [], ⟨0, []⟩, ⟨[], []⟩, []⟩)).Row).Dims).map cLinear), .str ((x0.getD i90 (⟨0, [], ⟨0, []⟩, ⟨[], []⟩, []⟩)).Elem)]), .v, .c false (.bool y119)], .eqT 16 (.bool false), .rg 0 [] [.v, .v]] [.only [0, 1, 4, 7, 8] [1000, 1001]] (slices_IndexFunc_api_Bind_S1 x0 x1 x2 (i90 + 1) ()) (all_cons (congrArg (AV.bool) c117) (all_app (ix (f := cBind) (l := x0) (n := i90) (⟨0, [], ⟨0, []⟩, ⟨[], []⟩, []⟩) cBind_len (by decide) (by omega)) (all_cons Tryz.call145 (all_cons (AFn.is (shape_find_1_c (Bind.mk ((x0.getD i90 (⟨0, [], ⟨0, []⟩, ⟨[], []⟩, []⟩)).Kind) ((x0.getD i90 (⟨0, [], ⟨0, []⟩, ⟨[], []⟩, []⟩)).Var) (Linear.mk (((x0.getD i90 (⟨0, [], ⟨0, []⟩, ⟨[], []⟩, []⟩)).Dim).Const) (((x0.getD i90 (⟨0, [], ⟨0, []⟩, ⟨[], []⟩, []⟩)).Dim).Terms)) (Shape.mk (((x0.getD i90 (⟨0, [], ⟨0, []⟩, ⟨[], []⟩, []⟩)).Row).Row) (((x0.getD i90 (⟨0, [], ⟨0, []⟩, ⟨[], []⟩, []⟩)).Row).Dims)) ((x0.getD i90 (⟨0, [], ⟨0, []⟩, ⟨[], []⟩, []⟩)).Elem)) x1 x2 y119 h120)) (all_cons (congrArg (AV.bool) c124) (all_cons (show I64 (((i90 : Nat) : Int) + 1) from by unfold I64; omega) all_nil)))))) (by kernel_rfl)
  · subst e136
    have H137 := aft_brk H108
    refine some_e H137 fun e138 => ?_
    subst e138
    exact p_ret Tryz.mo 3 [.rg 0 [] [.v]] [] [1000, 1001] all_nil (by kernel_rfl)
/-- framewise/shape.find -/
def shape_find (x0 : (List Bind)) (x1 : Int) (x2 : Str) : Option Int :=
  (slices_IndexFunc_api_Bind x0 x1 x2).bind fun y1 =>
  some y1
theorem shape_find_c (x0 : (List Bind)) (x1 : Int) (x2 : Str) (r : Int) (H : shape_find x0 x1 x2 = some r) : AFn Tryz.prog 81 [.dslice (x0.map cBind), .int .i64 x1, .str x2] (.int .i64 r) := by
  unfold shape_find at H
  refine acallX Tryz.func81 10 [.tmp 6] (by kernel_rfl) (by kernel_rfl) ?_
  refine bnd H fun y1 h2 H3 => ?_
  refine some_e H3 fun e4 => ?_
  subst e4
  exact p_ret Tryz.mo 5 [.rg 0 [] [.m, .m, .v], .rg 0 [] [.v, .v, .hR [(4, 1000), (5, 1001)] 9 (.int .i64 y1) [(1000, .cells 3 [.int .i64 x1]), (1001, .cells 9 [.str x2])], .v]] [] [] (all_cons Tryz.call144 (all_cons (slices_IndexFunc_api_Bind_c x0 x1 x2 y1 h2) all_nil)) (by kernel_rfl)
/-- framewise/shape.ValidBinds -/
def shape_ValidBinds (x0 : (List Bind)) : Option Bool :=
  (cnt (σ := Unit) (ε := Unit) (ρ := Bool) (fun i57 s56 =>
    (shape_bound (Bind.mk ((x0.getD i57 (⟨0, [], ⟨0, []⟩, ⟨[], []⟩, []⟩)).Kind) ((x0.getD i57 (⟨0, [], ⟨0, []⟩, ⟨[], []⟩, []⟩)).Var) (Linear.mk (((x0.getD i57 (⟨0, [], ⟨0, []⟩, ⟨[], []⟩, []⟩)).Dim).Const) (((x0.getD i57 (⟨0, [], ⟨0, []⟩, ⟨[], []⟩, []⟩)).Dim).Terms)) (Shape.mk (((x0.getD i57 (⟨0, [], ⟨0, []⟩, ⟨[], []⟩, []⟩)).Row).Row) (((x0.getD i57 (⟨0, [], ⟨0, []⟩, ⟨[], []⟩, []⟩)).Row).Dims)) ((x0.getD i57 (⟨0, [], ⟨0, []⟩, ⟨[], []⟩, []⟩)).Elem))).bind fun y100 =>
    bif y100 then (
      (shape_find (x0.take i57) ((x0.getD i57 (⟨0, [], ⟨0, []⟩, ⟨[], []⟩, []⟩)).Kind) ((x0.getD i57 (⟨0, [], ⟨0, []⟩, ⟨[], []⟩, []⟩)).Var)).bind fun y114 =>
      bif decide (y114 ≥ 0) then (
        some (.ret false)
      ) else (
        some (.go ())
      )
    ) else (
      some (.ret false)
    )
  ) (fun i57 s56 => ()) (x0.length - 0) 0 ()).bind <| aft fun u134 =>
  some true
def shape_ValidBinds_S1 (x0 : (List Bind)) (i57 : Nat) (s56 : Unit) : AS := ⟨27, [(0, .dslice (x0.map cBind)), (2, .bool false), (5, .dslice (x0.map cBind)), (6, .int .i64 ((x0.length : Nat) : Int)), (7, .int .i64 ((i57 : Nat) : Int))], []⟩
def shape_ValidBinds_S2 (u90 : Unit) : AS := ⟨27, [(2, .bool false)], []⟩
theorem shape_ValidBinds_c (x0 : (List Bind)) (r : Bool) (H : shape_ValidBinds x0 = some r) : AFn Tryz.prog 36 [.dslice (x0.map cBind)] (.bool r) := by
  unfold shape_ValidBinds at H
  refine acallX Tryz.func36 27 [.tmp 2] (by kernel_rfl) (by kernel_rfl) ?_
  refine p_at Tryz.mo 6 [.rg 0 [] [.v], .rg 0 [] [.v, .e (.int .i64 ((x0.length : Nat) : Int)), .v]] [.only [0, 2, 5, 6, 7] []] 6 [] (shape_ValidBinds_S1 x0 0 ()) (all_cons trivial (all_cons (lenm cBind x0) all_nil)) (by kernel_rfl) ?_
  refine bnd H fun R87 h88 H89 => ?_
  refine p_joinO 1 (shape_ValidBinds_S2) R87 (by kernel_rfl) ?_ (fun u134 e135 => ?_)
  · refine p_cnt (shape_ValidBinds_S1 x0) (by kernel_rfl) h88 (fun i57 s56 h91 e92 => ?_) (fun i57 s56 h99 q95 h96 h97 => ?_)
    · have c93 : decide (((i57 : Nat) : Int) < ((x0.length : Nat) : Int)) = false := decide_eq_false (by omega)
      subst e92
      exact p_bar Tryz.mo 5 [.rg 0 [] [.e (.bool false)]] [.only [2] []] (shape_ValidBinds_S2 ()) (all_cons (congrArg (AV.bool) c93) all_nil) (by kernel_rfl)
    · have c98 : decide (((i57 : Nat) : Int) < ((x0.length : Nat) : Int)) = true := decide_eq_true (by omega)
      refine bnd h96 fun y100 h101 H102 => ?_
      refine bsp H102 (fun c110 H111 => ?_) (fun c112 H113 => ?_)
      · refine bnd H111 fun y114 h115 H116 => ?_
        refine bsp H116 (fun c117 H118 => ?_) (fun c119 H120 => ?_)
        · have c117p := of_decide_eq_true c117
          refine some_e H118 fun e121 => ?_
          subst e121
          have e122 := out_ret h97
          subst e122
          have H123 := aft_ret H89
          refine some_e H123 fun e124 => ?_
          subst e124
          exact p_ret Tryz.mo 16 [.rg 0 [] [.e (.bool true)], .rg 0 [] [.v, .e (.dptr [.int .i64 ((x0.getD i57 (⟨0, [], ⟨0, []⟩, ⟨[], []⟩, []⟩)).Kind), .str ((x0.getD i57 (⟨0, [], ⟨0, []⟩, ⟨[], []⟩, []⟩)).Var), .int .i64 (((x0.getD i57 (⟨0, [], ⟨0, []⟩, ⟨[], []⟩, []⟩)).Dim).Const), .dslice ((((x0.getD i57 (⟨0, [], ⟨0, []⟩, ⟨[], []⟩, []⟩)).Dim).Terms).map cCoef), .str (((x0.getD i57 (⟨0, [], ⟨0, []⟩, ⟨[], []⟩, []⟩)).Row).Row), .dslice ((((x0.getD i57 (⟨0, [], ⟨0, []⟩, ⟨[], []⟩, []⟩)).Row).Dims).map cLinear), .str ((x0.getD i57 (⟨0, [], ⟨0, []⟩, ⟨[], []⟩, []⟩)).Elem)]), .v, .m, .v, .m], .rg 11 [.v, .c true (.bool true), .v, .v, .v, .v, .e (.dslice ((x0.take i57).map cBind)), .v, .v, .v, .v] [.c true (.int .i64 y114), .v, .v], .eqT 25 (.bool true), .rg 0 [] [.v]] [] [] (all_cons (congrArg (AV.bool) c98) (all_app (ix (f := cBind) (l := x0) (n := i57) (⟨0, [], ⟨0, []⟩, ⟨[], []⟩, []⟩) cBind_len (by decide) (by omega)) (all_cons Tryz.call104 (all_cons (AFn.eq (shape_bound_c (Bind.mk ((x0.getD i57 (⟨0, [], ⟨0, []⟩, ⟨[], []⟩, []⟩)).Kind) ((x0.getD i57 (⟨0, [], ⟨0, []⟩, ⟨[], []⟩, []⟩)).Var) (Linear.mk (((x0.getD i57 (⟨0, [], ⟨0, []⟩, ⟨[], []⟩, []⟩)).Dim).Const) (((x0.getD i57 (⟨0, [], ⟨0, []⟩, ⟨[], []⟩, []⟩)).Dim).Terms)) (Shape.mk (((x0.getD i57 (⟨0, [], ⟨0, []⟩, ⟨[], []⟩, []⟩)).Row).Row) (((x0.getD i57 (⟨0, [], ⟨0, []⟩, ⟨[], []⟩, []⟩)).Row).Dims)) ((x0.getD i57 (⟨0, [], ⟨0, []⟩, ⟨[], []⟩, []⟩)).Elem)) y100 h101) (congrArg (AV.bool) c110)) (all_cons trivial (all_cons (show ((0 : Int) ≤ 0 ∧ 0 ≤ ((i57 : Nat) : Int) ∧ ((i57 : Nat) : Int) ≤ ((x0.map cBind).length : Int)) ∧ UL 7 (x0.map cBind) from ⟨by first | omega | (simp only [List.length_map]; omega), UL.map cBind_len _⟩) (all_cons (slm_take cBind x0 i57) (all_cons Tryz.call81 (all_cons (AFn.is (shape_find_c (x0.take i57) ((x0.getD i57 (⟨0, [], ⟨0, []⟩, ⟨[], []⟩, []⟩)).Kind) ((x0.getD i57 (⟨0, [], ⟨0, []⟩, ⟨[], []⟩, []⟩)).Var) y114 h115)) (all_cons (congrArg (AV.bool) c117) all_nil)))))))))) (by kernel_rfl)
        · have c119p := of_decide_eq_false c119
          refine t_lens 0 (ps := [(x0.map cBind).length ≤ 9223372036854775807]) (by kernel_rfl) (fun l127 => ?_)
          have l128 : x0.length ≤ 9223372036854775807 := by simpa only [All, List.length_map] using l127
          clear l127
          refine some_e H120 fun e129 => ?_
          subst e129
          exact p_bar Tryz.mo 15 [.rg 0 [] [.e (.bool true)], .rg 0 [] [.v, .e (.dptr [.int .i64 ((x0.getD i57 (⟨0, [], ⟨0, []⟩, ⟨[], []⟩, []⟩)).Kind), .str ((x0.getD i57 (⟨0, [], ⟨0, []⟩, ⟨[], []⟩, []⟩)).Var), .int .i64 (((x0.getD i57 (⟨0, [], ⟨0, []⟩, ⟨[], []⟩, []⟩)).Dim).Const), .dslice ((((x0.getD i57 (⟨0, [], ⟨0, []⟩, ⟨[], []⟩, []⟩)).Dim).Terms).map cCoef), .str (((x0.getD i57 (⟨0, [], ⟨0, []⟩, ⟨[], []⟩, []⟩)).Row).Row), .dslice ((((x0.getD i57 (⟨0, [], ⟨0, []⟩, ⟨[], []⟩, []⟩)).Row).Dims).map cLinear), .str ((x0.getD i57 (⟨0, [], ⟨0, []⟩, ⟨[], []⟩, []⟩)).Elem)]), .v, .m, .v, .m], .rg 11 [.v, .c true (.bool true), .v, .v, .v, .v, .e (.dslice ((x0.take i57).map cBind)), .v, .v, .v, .v] [.c true (.int .i64 y114), .v, .v], .eqT 25 (.bool false), .rg 0 [] [.v, .v]] [.only [0, 2, 5, 6, 7] []] (shape_ValidBinds_S1 x0 (i57 + 1) ()) (all_cons (congrArg (AV.bool) c98) (all_app (ix (f := cBind) (l := x0) (n := i57) (⟨0, [], ⟨0, []⟩, ⟨[], []⟩, []⟩) cBind_len (by decide) (by omega)) (all_cons Tryz.call104 (all_cons (AFn.eq (shape_bound_c (Bind.mk ((x0.getD i57 (⟨0, [], ⟨0, []⟩, ⟨[], []⟩, []⟩)).Kind) ((x0.getD i57 (⟨0, [], ⟨0, []⟩, ⟨[], []⟩, []⟩)).Var) (Linear.mk (((x0.getD i57 (⟨0, [], ⟨0, []⟩, ⟨[], []⟩, []⟩)).Dim).Const) (((x0.getD i57 (⟨0, [], ⟨0, []⟩, ⟨[], []⟩, []⟩)).Dim).Terms)) (Shape.mk (((x0.getD i57 (⟨0, [], ⟨0, []⟩, ⟨[], []⟩, []⟩)).Row).Row) (((x0.getD i57 (⟨0, [], ⟨0, []⟩, ⟨[], []⟩, []⟩)).Row).Dims)) ((x0.getD i57 (⟨0, [], ⟨0, []⟩, ⟨[], []⟩, []⟩)).Elem)) y100 h101) (congrArg (AV.bool) c110)) (all_cons trivial (all_cons (show ((0 : Int) ≤ 0 ∧ 0 ≤ ((i57 : Nat) : Int) ∧ ((i57 : Nat) : Int) ≤ ((x0.map cBind).length : Int)) ∧ UL 7 (x0.map cBind) from ⟨by first | omega | (simp only [List.length_map]; omega), UL.map cBind_len _⟩) (all_cons (slm_take cBind x0 i57) (all_cons Tryz.call81 (all_cons (AFn.is (shape_find_c (x0.take i57) ((x0.getD i57 (⟨0, [], ⟨0, []⟩, ⟨[], []⟩, []⟩)).Kind) ((x0.getD i57 (⟨0, [], ⟨0, []⟩, ⟨[], []⟩, []⟩)).Var) y114 h115)) (all_cons (congrArg (AV.bool) c119) (all_cons (show I64 (((i57 : Nat) : Int) + 1) from by unfold I64; omega) all_nil))))))))))) (by kernel_rfl)
      · refine some_e H113 fun e130 => ?_
        subst e130
        have e131 := out_ret h97
        subst e131
        have H132 := aft_ret H89
        refine some_e H132 fun e133 => ?_
        subst e133
        exact p_ret Tryz.mo 15 [.rg 0 [] [.e (.bool true)], .rg 0 [] [.v, .e (.dptr [.int .i64 ((x0.getD i57 (⟨0, [], ⟨0, []⟩, ⟨[], []⟩, []⟩)).Kind), .str ((x0.getD i57 (⟨0, [], ⟨0, []⟩, ⟨[], []⟩, []⟩)).Var), .int .i64 (((x0.getD i57 (⟨0, [], ⟨0, []⟩, ⟨[], []⟩, []⟩)).Dim).Const), .dslice ((((x0.getD i57 (⟨0, [], ⟨0, []⟩, ⟨[], []⟩, []⟩)).Dim).Terms).map cCoef), .str (((x0.getD i57 (⟨0, [], ⟨0, []⟩, ⟨[], []⟩, []⟩)).Row).Row), .dslice ((((x0.getD i57 (⟨0, [], ⟨0, []⟩, ⟨[], []⟩, []⟩)).Row).Dims).map cLinear), .str ((x0.getD i57 (⟨0, [], ⟨0, []⟩, ⟨[], []⟩, []⟩)).Elem)]), .v, .m, .v, .m], .rg 11 [.v, .c true (.bool false), .v, .v, .s, .s, .s, .s, .s, .s, .s] [.s, .s, .v], .rg 0 [] [.v]] [] [] (all_cons (congrArg (AV.bool) c98) (all_app (ix (f := cBind) (l := x0) (n := i57) (⟨0, [], ⟨0, []⟩, ⟨[], []⟩, []⟩) cBind_len (by decide) (by omega)) (all_cons Tryz.call104 (all_cons (AFn.eq (shape_bound_c (Bind.mk ((x0.getD i57 (⟨0, [], ⟨0, []⟩, ⟨[], []⟩, []⟩)).Kind) ((x0.getD i57 (⟨0, [], ⟨0, []⟩, ⟨[], []⟩, []⟩)).Var) (Linear.mk (((x0.getD i57 (⟨0, [], ⟨0, []⟩, ⟨[], []⟩, []⟩)).Dim).Const) (((x0.getD i57 (⟨0, [], ⟨0, []⟩, ⟨[], []⟩, []⟩)).Dim).Terms)) (Shape.mk (((x0.getD i57 (⟨0, [], ⟨0, []⟩, ⟨[], []⟩, []⟩)).Row).Row) (((x0.getD i57 (⟨0, [], ⟨0, []⟩, ⟨[], []⟩, []⟩)).Row).Dims)) ((x0.getD i57 (⟨0, [], ⟨0, []⟩, ⟨[], []⟩, []⟩)).Elem)) y100 h101) (congrArg (AV.bool) c112)) (all_cons trivial all_nil))))) (by kernel_rfl)
  · subst e135
    have H136 := aft_brk H89
    refine some_e H136 fun e137 => ?_
    subst e137
    exact p_ret Tryz.mo 3 [.rg 0 [] [.v]] [] [] all_nil (by kernel_rfl)
/-- slices.Clone[[]framewise/api.Coef,framewise/api.Coef] -/
noncomputable def slices_Clone_api_Coef (x0 : (List Coef)) : Option (List Coef) :=
  nilc (α := Coef) x0 (
    some []
  ) (
    grd (x0.length * 24 ≤ 140737488355328) <|
    some x0
  )
theorem slices_Clone_api_Coef_c (x0 : (List Coef)) (r : (List Coef)) (H : slices_Clone_api_Coef x0 = some r) : AFn Tryz.prog 146 [.dslice (x0.map cCoef)] (.dslice (r.map cCoef)) := by
  unfold slices_Clone_api_Coef at H
  refine acallX Tryz.func146 8 [.tmp 2] (by kernel_rfl) (by kernel_rfl) ?_
  refine p_at Tryz.mo 4 [.rg 0 [] [.v]] [.only [0, 2] []] 4 [] ⟨8, [(0, .dslice (x0.map cCoef)), (2, .eslice)], []⟩ all_nil (by kernel_rfl) ?_
  refine nilc_e H (fun H1 H2 => ?_)
  refine p_isnil [.v] (l := (x0.map cCoef)) (k := 4) (q := true) (S := ⟨8, [(0, .dslice (x0.map cCoef)), (2, .eslice), (3, .dslice (x0.map cCoef))], []⟩) all_nil (by kernel_rfl) (fun b3 h4 => ?_)
  cases b3 with
  | true =>
    have H5 := H1 (List.map_eq_nil_iff.1 (h4 rfl))
    refine some_e H5 fun e6 => ?_
    subst e6
    exact p_ret Tryz.mo 4 [.rg 0 [] [.v]] [.wk 2 []] [] all_nil (by kernel_rfl)
  | false =>
    refine grd_e H2 fun g7 H8 => ?_
    refine some_e H8 fun e9 => ?_
    subst e9
    exact p_ret Tryz.mo 5 [.rg 0 [] [.b, .v, .er 5 7 44 2, .ap, .rwH 7 (.row 44 2 (x0.map cCoef)), .v]] [.fz 7] [] (all_app (apR (c := cCoef) cCoef_ok [] x0 24 (by decide) (by simpa using g7)) (all_cons (apQ0 44 2 cCoef x0) all_nil)) (by kernel_rfl)
/-- framewise/shape.clones -/
noncomputable def shape_clones (x0 : (List Linear)) : Option (List Linear) :=
  (cnt (σ := (List Linear)) (ε := (List Linear)) (ρ := Empty) (fun i77 s76 =>
    (slices_Clone_api_Coef ((x0.getD i77 ⟨0, []⟩).Terms)).bind fun y104 =>
    grd ((s76.length + 1) * 32 ≤ 140737488355328) <|
    some (.go (s76 ++ [(Linear.mk ((x0.getD i77 ⟨0, []⟩).Const) y104)]))
  ) (fun i77 s76 => s76) (x0.length - 0) 0 []).bind <| aftE fun u114 =>
  some u114
def shape_clones_S1 (x0 : (List Linear)) (i77 : Nat) (s76 : (List Linear)) : AS := ⟨23, [(2, .eslice), (3, .rslice 20), (6, .dslice (x0.map cLinear)), (7, .int .i64 ((x0.length : Nat) : Int)), (8, .int .i64 ((i77 : Nat) : Int))], [(20, .row 39 2 (s76.map cLinear))]⟩
def shape_clones_S2 (u94 : (List Linear)) : AS := ⟨23, [(2, .eslice), (3, .rslice 20)], [(20, .row 39 2 (u94.map cLinear))]⟩
theorem shape_clones_c (x0 : (List Linear)) (r : (List Linear)) (H : shape_clones x0 = some r) : ACall Tryz.prog 82 [.dslice (x0.map cLinear)] [] (fun r2 h2 => r2 = (.rslice 0) ∧ h2 = [(0, .row 39 2 (r.map cLinear))]) := by
  unfold shape_clones at H
  refine acallX Tryz.func82 23 [.tmp 2] (by kernel_rfl) (by kernel_rfl) ?_
  refine p_at Tryz.mo 8 [.rg 0 [] [.v], .rg 0 [] [.v], .rg 0 [] [.v, .e (.int .i64 ((x0.length : Nat) : Int)), .v]] [.er 3 20 39 2, .only [2, 3, 6, 7, 8] [20]] 8 [] (shape_clones_S1 x0 0 []) (all_cons trivial (all_cons (lenm cLinear x0) all_nil)) (by kernel_rfl) ?_
  refine bnd H fun R91 h92 H93 => ?_
  refine p_joinO 1 (shape_clones_S2) R91 (by kernel_rfl) ?_ (fun u114 e115 => ?_)
  · refine p_cnt (shape_clones_S1 x0) (by kernel_rfl) h92 (fun i77 s76 h95 e96 => ?_) (fun i77 s76 h103 q99 h100 h101 => ?_)
    · have c97 : decide (((i77 : Nat) : Int) < ((x0.length : Nat) : Int)) = false := decide_eq_false (by omega)
      subst e96
      exact p_bar Tryz.mo 5 [.rg 0 [] [.e (.bool false)]] [.only [2, 3] [20]] (shape_clones_S2 s76) (all_cons (congrArg (AV.bool) c97) all_nil) (by kernel_rfl)
    · have c102 : decide (((i77 : Nat) : Int) < ((x0.length : Nat) : Int)) = true := decide_eq_true (by omega)
      refine bnd h100 fun y104 h105 H106 => ?_
      refine grd_e H106 fun g107 H108 => ?_
      refine t_lens 6 (ps := [(x0.map cLinear).length ≤ 9223372036854775807]) (by kernel_rfl) (fun l111 => ?_)
      have l112 : x0.length ≤ 9223372036854775807 := by simpa only [All, List.length_map] using l111
      clear l111
      refine some_e H108 fun e113 => ?_
      subst e113
      exact p_bar Tryz.mo 11 [.rg 0 [] [.e (.bool true)], .rg 0 [] [.e (.dptr [.int .i64 ((x0.getD i77 ⟨0, []⟩).Const), .dslice (((x0.getD i77 ⟨0, []⟩).Terms).map cCoef)]), .v, .m, .m], .rg 8 [.v, .v, .v, .v, .v, .c true (.dslice (y104.map cCoef)), .b, .b] [.ap, .rwH 20 (.row 39 2 ((s76 ++ [(Linear.mk ((x0.getD i77 ⟨0, []⟩).Const) y104)]).map cLinear)), .v], .rg 0 [] [.v, .v]] [.only [2, 3, 6, 7, 8] [20]] (shape_clones_S1 x0 (i77 + 1) (s76 ++ [(Linear.mk ((x0.getD i77 ⟨0, []⟩).Const) y104)])) (all_cons (congrArg (AV.bool) c102) (all_app (ix (f := cLinear) (l := x0) (n := i77) ⟨0, []⟩ cLinear_len (by decide) (by omega)) (all_cons Tryz.call146 (all_cons (AFn.is (slices_Clone_api_Coef_c ((x0.getD i77 ⟨0, []⟩).Terms) y104 h105)) (all_app (apR (c := cLinear) cLinear_ok s76 [(Linear.mk ((x0.getD i77 ⟨0, []⟩).Const) y104)] 32 (by decide) (by simpa using g107)) (all_cons (apQ 39 2 cLinear s76 [(Linear.mk ((x0.getD i77 ⟨0, []⟩).Const) y104)]) (all_cons (show I64 (((i77 : Nat) : Int) + 1) from by unfold I64; omega) all_nil))))))) (by kernel_rfl)
  · subst e115
    have H116 := aftE_brk H93
    refine some_e H116 fun e117 => ?_
    subst e117
    exact p_ret Tryz.mo 3 [.rg 0 [] [.v, .v]] [.ren [(20, 0)]] [0] all_nil (by kernel_rfl)
/-- framewise/linear.Subst$1 -/
def linear_Subst_1 (x0 : Bind) (x1 : Coef) : Option Bool :=
  bif (x0.Kind == 1) then (
    some (x0.Var == x1.Var)
  ) else (
    some false
  )
theorem linear_Subst_1_c (x0 : Bind) (x1 : Coef) (r : Bool) (H : linear_Subst_1 x0 x1 = some r) : AFn Tryz.prog 147 [.agg [.int .i64 x0.Kind, .str x0.Var, .int .i64 x0.Dim.Const, .dslice (x0.Dim.Terms.map cCoef), .str x0.Row.Row, .dslice (x0.Row.Dims.map cLinear), .str x0.Elem], .dptr [.str x1.Var, .int .i64 x1.C]] (.bool r) := by
  unfold linear_Subst_1 at H
  refine acallX Tryz.func147 14 [.tmp 3] (by kernel_rfl) (by kernel_rfl) ?_
  refine bsp H (fun c1 H2 => ?_) (fun c3 H4 => ?_)
  · refine some_e H2 fun e5 => ?_
    subst e5
    exact p_ret Tryz.mo 5 [.rg 0 [] [.m, .v], .rg 0 [] [.v, .v, .e (.bool true), .v, .v, .v, .v, .v, .v, .v, .v]] [] [] (all_cons (congrArg (AV.bool) c1) all_nil) (by kernel_rfl)
  · refine some_e H4 fun e6 => ?_
    subst e6
    exact p_ret Tryz.mo 5 [.rg 0 [] [.m, .v], .rg 0 [] [.v, .v, .e (.bool false), .v, .s, .s, .s, .s, .s, .v, .v]] [] [] (all_cons (congrArg (AV.bool) c3) all_nil) (by kernel_rfl)
/-- slices.IndexFunc[[]framewise/api.Bind,framewise/api.Bind] -/
def slices_IndexFunc_api_Bind_2 (x0 : (List Bind)) (x1 : Str) (x2 : Int) : Option Int :=
  (cnt (σ := Unit) (ε := Unit) (ρ := Int) (fun i90 s89 =>
    (linear_Subst_1 (Bind.mk ((x0.getD i90 (⟨0, [], ⟨0, []⟩, ⟨[], []⟩, []⟩)).Kind) ((x0.getD i90 (⟨0, [], ⟨0, []⟩, ⟨[], []⟩, []⟩)).Var) (Linear.mk (((x0.getD i90 (⟨0, [], ⟨0, []⟩, ⟨[], []⟩, []⟩)).Dim).Const) (((x0.getD i90 (⟨0, [], ⟨0, []⟩, ⟨[], []⟩, []⟩)).Dim).Terms)) (Shape.mk (((x0.getD i90 (⟨0, [], ⟨0, []⟩, ⟨[], []⟩, []⟩)).Row).Row) (((x0.getD i90 (⟨0, [], ⟨0, []⟩, ⟨[], []⟩, []⟩)).Row).Dims)) ((x0.getD i90 (⟨0, [], ⟨0, []⟩, ⟨[], []⟩, []⟩)).Elem)) (Coef.mk x1 x2)).bind fun y119 =>
    bif y119 then (
      some (.ret ((i90 : Nat) : Int))
    ) else (
      some (.go ())
    )
  ) (fun i90 s89 => ()) (x0.length - 0) 0 ()).bind <| aft fun u135 =>
  some (-1)
def slices_IndexFunc_api_Bind_2_S1 (x0 : (List Bind)) (x1 : Str) (x2 : Int) (i90 : Nat) (s89 : Unit) : AS := ⟨19, [(0, .dslice (x0.map cBind)), (1, .fn 147 [.hptr 1000 0]), (4, .int .i64 0), (7, .int .i64 ((x0.length : Nat) : Int)), (8, .int .i64 ((i90 : Nat) : Int))], [(1000, .cells 44 [.str x1, .int .i64 x2])]⟩
def slices_IndexFunc_api_Bind_2_S2 (x1 : Str) (x2 : Int) (u109 : Unit) : AS := ⟨19, [(4, .int .i64 0)], [(1000, .cells 44 [.str x1, .int .i64 x2])]⟩
theorem slices_IndexFunc_api_Bind_2_c (x0 : (List Bind)) (x1 : Str) (x2 : Int) (r : Int) (H : slices_IndexFunc_api_Bind_2 x0 x1 x2 = some r) : ACall Tryz.prog 144 [.dslice (x0.map cBind), .fn 147 [.hptr 1000 0]] [(1000, .cells 44 [.str x1, .int .i64 x2])] (fun r2 h2 => r2 = (.int .i64 r) ∧ h2 = [(1000, .cells 44 [.str x1, .int .i64 x2])]) := by
  unfold slices_IndexFunc_api_Bind_2 at H
  refine acallX Tryz.func144 19 [.tmp 4] (by kernel_rfl) (by kernel_rfl) ?_
  refine p_at Tryz.mo 6 [.rg 0 [] [.v], .rg 0 [] [.v, .e (.int .i64 ((x0.length : Nat) : Int)), .v]] [.only [0, 1, 4, 7, 8] [1000]] 6 [] (slices_IndexFunc_api_Bind_2_S1 x0 x1 x2 0 ()) (all_cons trivial (all_cons (lenm cBind x0) all_nil)) (by kernel_rfl) ?_
  refine bnd H fun R106 h107 H108 => ?_
  refine p_joinO 1 (slices_IndexFunc_api_Bind_2_S2 x1 x2) R106 (by kernel_rfl) ?_ (fun u135 e136 => ?_)
  · refine p_cnt (slices_IndexFunc_api_Bind_2_S1 x0 x1 x2) (by kernel_rfl) h107 (fun i90 s89 h110 e111 => ?_) (fun i90 s89 h118 q114 h115 h116 => ?_)
    · have c112 : decide (((i90 : Nat) : Int) < ((x0.length : Nat) : Int)) = false := decide_eq_false (by omega)
      subst e111
      exact p_bar Tryz.mo 5 [.rg 0 [] [.e (.bool false)]] [.only [4] [1000]] (slices_IndexFunc_api_Bind_2_S2 x1 x2 ()) (all_cons (congrArg (AV.bool) c112) all_nil) (by kernel_rfl)
    · have c117 : decide (((i90 : Nat) : Int) < ((x0.length : Nat) : Int)) = true := decide_eq_true (by omega)
      refine bnd h115 fun y119 h120 H121 => ?_
      refine bsp H121 (fun c122 H123 => ?_) (fun c124 H125 => ?_)
      · refine some_e H123 fun e126 => ?_
        subst e126
        have e127 := out_ret h116
        subst e127
        have H128 := aft_ret H108
        refine some_e H128 fun e129 => ?_
        subst e129
        exact p_ret Tryz.mo 16 [.rg 0 [] [.e (.bool true)], .rg 0 [] [.v, .v], .rg 0 [] [.v, .v, .v, .e (.dptr [.int .i64 ((x0.getD i90 (⟨0, [], ⟨0, []⟩, ⟨[], []⟩, []⟩)).Kind), .str ((x0.getD i90 (⟨0, [], ⟨0, []⟩, ⟨[], []⟩, []⟩)).Var), .int .i64 (((x0.getD i90 (⟨0, [], ⟨0, []⟩, ⟨[], []⟩, []⟩)).Dim).Const), .dslice ((((x0.getD i90 (⟨0, [], ⟨0, []⟩, ⟨[], []⟩, []⟩)).Dim).Terms).map cCoef), .str (((x0.getD i90 (⟨0, [], ⟨0, []⟩, ⟨[], []⟩, []⟩)).Row).Row), .dslice ((((x0.getD i90 (⟨0, [], ⟨0, []⟩, ⟨[], []⟩, []⟩)).Row).Dims).map cLinear), .str ((x0.getD i90 (⟨0, [], ⟨0, []⟩, ⟨[], []⟩, []⟩)).Elem)]), .v, .c false (.bool y119)], .eqT 16 (.bool true), .rg 0 [] [.v, .v]] [] [1000] (all_cons (congrArg (AV.bool) c117) (all_app (ix (f := cBind) (l := x0) (n := i90) (⟨0, [], ⟨0, []⟩, ⟨[], []⟩, []⟩) cBind_len (by decide) (by omega)) (all_cons Tryz.call147 (all_cons (AFn.is (linear_Subst_1_c (Bind.mk ((x0.getD i90 (⟨0, [], ⟨0, []⟩, ⟨[], []⟩, []⟩)).Kind) ((x0.getD i90 (⟨0, [], ⟨0, []⟩, ⟨[], []⟩, []⟩)).Var) (Linear.mk (((x0.getD i90 (⟨0, [], ⟨0, []⟩, ⟨[], []⟩, []⟩)).Dim).Const) (((x0.getD i90 (⟨0, [], ⟨0, []⟩, ⟨[], []⟩, []⟩)).Dim).Terms)) (Shape.mk (((x0.getD i90 (⟨0, [], ⟨0, []⟩, ⟨[], []⟩, []⟩)).Row).Row) (((x0.getD i90 (⟨0, [], ⟨0, []⟩, ⟨[], []⟩, []⟩)).Row).Dims)) ((x0.getD i90 (⟨0, [], ⟨0, []⟩, ⟨[], []⟩, []⟩)).Elem)) (Coef.mk x1 x2) y119 h120)) (all_cons (congrArg (AV.bool) c122) all_nil))))) (by kernel_rfl)
      · refine t_lens 0 (ps := [(x0.map cBind).length ≤ 9223372036854775807]) (by kernel_rfl) (fun l132 => ?_)
        have l133 : x0.length ≤ 9223372036854775807 := by simpa only [All, List.length_map] using l132
        clear l132
        refine some_e H125 fun e134 => ?_
        subst e134
        exact p_bar Tryz.mo 15 [.rg 0 [] [.e (.bool true)], .rg 0 [] [.v, .v], .rg 0 [] [.v, .v, .v, .e (.dptr [.int .i64 ((x0.getD i90 (⟨0, [], ⟨0, []⟩, ⟨[], []⟩, []⟩)).Kind), .str ((x0.getD i90 (⟨0, [], ⟨0, []⟩, ⟨[], []⟩, []⟩)).Var), .int .i64 (((x0.getD i90 (⟨0, [], ⟨0, []⟩, ⟨[], []⟩, []⟩)).Dim).Const), .dslice ((((x0.getD i90 (⟨0, [], ⟨0, []⟩, ⟨[], []⟩, []⟩)).Dim).Terms).map cCoef), .str (((x0.getD i90 (⟨0, [], ⟨0, []⟩, ⟨[], []⟩, []⟩)).Row).Row), .dslice ((((x0.getD i90 (⟨0, [], ⟨0, []⟩, ⟨[], []⟩, []⟩)).Row).Dims).map cLinear), .str ((x0.getD i90 (⟨0, [], ⟨0, []⟩, ⟨[], []⟩, []⟩)).Elem)]), .v, .c false (.bool y119)], .eqT 16 (.bool false), .rg 0 [] [.v, .v]] [.only [0, 1, 4, 7, 8] [1000]] (slices_IndexFunc_api_Bind_2_S1 x0 x1 x2 (i90 + 1) ()) (all_cons (congrArg (AV.bool) c117) (all_app (ix (f := cBind) (l := x0) (n := i90) (⟨0, [], ⟨0, []⟩, ⟨[], []⟩, []⟩) cBind_len (by decide) (by omega)) (all_cons Tryz.call147 (all_cons (AFn.is (linear_Subst_1_c (Bind.mk ((x0.getD i90 (⟨0, [], ⟨0, []⟩, ⟨[], []⟩, []⟩)).Kind) ((x0.getD i90 (⟨0, [], ⟨0, []⟩, ⟨[], []⟩, []⟩)).Var) (Linear.mk (((x0.getD i90 (⟨0, [], ⟨0, []⟩, ⟨[], []⟩, []⟩)).Dim).Const) (((x0.getD i90 (⟨0, [], ⟨0, []⟩, ⟨[], []⟩, []⟩)).Dim).Terms)) (Shape.mk (((x0.getD i90 (⟨0, [], ⟨0, []⟩, ⟨[], []⟩, []⟩)).Row).Row) (((x0.getD i90 (⟨0, [], ⟨0, []⟩, ⟨[], []⟩, []⟩)).Row).Dims)) ((x0.getD i90 (⟨0, [], ⟨0, []⟩, ⟨[], []⟩, []⟩)).Elem)) (Coef.mk x1 x2) y119 h120)) (all_cons (congrArg (AV.bool) c124) (all_cons (show I64 (((i90 : Nat) : Int) + 1) from by unfold I64; omega) all_nil)))))) (by kernel_rfl)
  · subst e136
    have H137 := aft_brk H108
    refine some_e H137 fun e138 => ?_
    subst e138
    exact p_ret Tryz.mo 3 [.rg 0 [] [.v]] [] [1000] all_nil (by kernel_rfl)
/-- (*framewise/linear.sum).add -/
def linear_sum_add (x0 : Linear) (x1 : Int) (x2 : Int) (x3 : (List (Str × Int))) : Option (Int × (List (Str × Int))) :=
  (cnt (σ := (List (Str × Int))) (ε := (Int × (List (Str × Int)))) (ρ := (Int × (List (Str × Int)))) (fun i42 s41 =>
    some (.go (mput ((x0.Terms.getD i42 ⟨[], 0⟩).Var) (w64 ((mget 0 ((x0.Terms.getD i42 ⟨[], 0⟩).Var) s41) + (w64 (x1 * ((x0.Terms.getD i42 ⟨[], 0⟩).C))))) s41))
  ) (fun i42 s41 => ((w64 (x2 + (w64 (x1 * x0.Const)))), s41)) (x0.Terms.length - 0) 0 x3).bind <| aft some
def linear_sum_add_S1 (x0 : Linear) (x1 : Int) (x2 : Int) (i42 : Nat) (s41 : (List (Str × Int))) : AS := ⟨39, [(0, .hptr 1000 0), (2, .int .i64 x1), (20, .dslice (x0.Terms.map cCoef)), (21, .int .i64 ((x0.Terms.length : Nat) : Int)), (22, .int .i64 ((i42 : Nat) : Int))], [(1000, .cells 158 [.int .i64 (w64 (x2 + (w64 (x1 * x0.Const)))), .amap 1001]), (1001, .smap 9 3 (s41.map (mapV cInt_i64)))]⟩
theorem linear_sum_add_c (x0 : Linear) (x1 : Int) (x2 : Int) (x3 : (List (Str × Int))) (r : (Int × (List (Str × Int)))) (H : linear_sum_add x0 x1 x2 x3 = some r) : ACall Tryz.prog 148 [.hptr 1000 0, .agg [.int .i64 x0.Const, .dslice (x0.Terms.map cCoef)], .int .i64 x1] [(1000, .cells 158 [.int .i64 x2, .amap 1001]), (1001, .smap 9 3 (x3.map (mapV cInt_i64)))] (fun r2 h2 => r2 = (.tup []) ∧ h2 = [(1000, .cells 158 [.int .i64 r.1, .amap 1001]), (1001, .smap 9 3 (r.2.map (mapV cInt_i64)))]) := by
  unfold linear_sum_add at H
  refine acallX Tryz.func148 39 [] (by kernel_rfl) (by kernel_rfl) ?_
  refine p_at Tryz.mo 7 [.rg 0 [] [.m], .rg 8 [.v, .v, .v, .v, .v, .v, .v, .w] [.w, .v, .v, .m], .rg 0 [] [.v, .v, .e (.int .i64 ((x0.Terms.length : Nat) : Int)), .v]] [.only [0, 2, 20, 21, 22] [1000, 1001]] 7 [] (linear_sum_add_S1 x0 x1 x2 0 x3) (all_cons trivial (all_cons (lenm cCoef x0.Terms) all_nil)) (by kernel_rfl) ?_
  refine bnd H fun R43 h44 H45 => ?_
  refine p_cnt (linear_sum_add_S1 x0 x1 x2) (by kernel_rfl) h44 (fun i42 s41 h46 e47 => ?_) (fun i42 s41 h56 q52 h53 h54 => ?_)
  · have c48 : decide (((i42 : Nat) : Int) < ((x0.Terms.length : Nat) : Int)) = false := decide_eq_false (by omega)
    subst e47
    have H50 := aft_brk H45
    refine some_e H50 fun e51 => ?_
    subst e51
    exact p_ret Tryz.mo 5 [.rg 0 [] [.e (.bool false)]] [] [1000, 1001] (all_cons (congrArg (AV.bool) c48) all_nil) (by kernel_rfl)
  · have c55 : decide (((i42 : Nat) : Int) < ((x0.Terms.length : Nat) : Int)) = true := decide_eq_true (by omega)
    refine t_lens 20 (ps := [(x0.Terms.map cCoef).length ≤ 9223372036854775807]) (by kernel_rfl) (fun l59 => ?_)
    have l60 : x0.Terms.length ≤ 9223372036854775807 := by simpa only [All, List.length_map] using l59
    clear l59
    refine some_e h53 fun e61 => ?_
    subst e61
    exact p_bar Tryz.mo 11 [.rg 0 [] [.e (.bool true)], .rg 0 [] [.e (.dptr [.str ((x0.Terms.getD i42 ⟨[], 0⟩).Var), .int .i64 ((x0.Terms.getD i42 ⟨[], 0⟩).C)]), .v, .m, .m], .rg 11 [.v, .v, .v, .v, .v, .v, .l (.int .i64 (mget 0 ((x0.Terms.getD i42 ⟨[], 0⟩).Var) s41)), .v, .v, .v, .w] [.w, .m, .rwH 1001 (.smap 9 3 ((mput ((x0.Terms.getD i42 ⟨[], 0⟩).Var) (w64 ((mget 0 ((x0.Terms.getD i42 ⟨[], 0⟩).Var) s41) + (w64 (x1 * ((x0.Terms.getD i42 ⟨[], 0⟩).C))))) s41).map (mapV cInt_i64)))], .rg 0 [] [.v, .v]] [.only [0, 2, 20, 21, 22] [1000, 1001]] (linear_sum_add_S1 x0 x1 x2 (i42 + 1) (mput ((x0.Terms.getD i42 ⟨[], 0⟩).Var) (w64 ((mget 0 ((x0.Terms.getD i42 ⟨[], 0⟩).Var) s41) + (w64 (x1 * ((x0.Terms.getD i42 ⟨[], 0⟩).C))))) s41)) (all_cons (congrArg (AV.bool) c55) (all_app (ix (f := cCoef) (l := x0.Terms) (n := i42) ⟨[], 0⟩ cCoef_len (by decide) (by omega)) (all_cons (aget_mapV (c := cInt_i64) ((x0.Terms.getD i42 ⟨[], 0⟩).Var) 0 s41) (all_cons (congrArg (AO.smap 9 3) (aput_mapV (c := cInt_i64) ((x0.Terms.getD i42 ⟨[], 0⟩).Var) (w64 ((mget 0 ((x0.Terms.getD i42 ⟨[], 0⟩).Var) s41) + (w64 (x1 * ((x0.Terms.getD i42 ⟨[], 0⟩).C))))) s41)) (all_cons (show I64 (((i42 : Nat) : Int) + 1) from by unfold I64; omega) all_nil))))) (by kernel_rfl)
/-- (*framewise/linear.sum).result -/
noncomputable def linear_sum_result (x0 : Int) (x1 : (List (Str × Int))) : Option (Linear × Int) :=
  mrngK (σ := (List Str)) (ε := Empty) (β := (Linear × Int)) x1 (fun e164 s94 =>
    bif (e164.2 == 0) then (
      some (.go s94)
    ) else (
      grd ((s94.length + 1) * 16 ≤ 140737488355328) <|
      some (.go (s94 ++ [e164.1]))
    )
  ) [] (fun s94 =>
    (lib_Sort s94).bind fun y97 =>
    (cnt (σ := (List Coef)) (ε := (List Coef)) (ρ := Empty) (fun i117 s116 =>
      grd ((s116.length + 1) * 24 ≤ 140737488355328) <|
      some (.go (s116 ++ [(Coef.mk (y97.getD i117 []) (mget 0 (y97.getD i117 []) x1))]))
    ) (fun i117 s116 => s116) (y97.length - 0) 0 []).bind <| aftE fun u148 =>
    (linear_Valid (Linear.mk x0 u148)).bind fun y151 =>
    bif y151 then (
      some ((Linear.mk x0 u148), 0)
    ) else (
      some ((Linear.mk 0 []), 3)
    )
  )
def linear_sum_result_S1 (x0 : Int) (x1 : (List (Str × Int))) (i95 : (List Nat)) (s94 : (List Str)) : AS := ⟨58, [(0, .hptr 1000 0), (2, .hptr 2 0), (3, .int .i64 0), (4, .hptr 4 0), (5, .rslice 30), (19, .hptr 19 0)], [(2, .cells 39 [.int .i64 0, .eslice]), (4, .cells 39 [.int .i64 x0, .eslice]), (19, .iter (x1.map (mapV cInt_i64)) i95), (30, .row 9 1 (s94.map cStr)), (1000, .cells 158 [.int .i64 x0, .dmap (x1.map (mapV cInt_i64))])]⟩
def linear_sum_result_S2 (x0 : Int) (x1 : (List (Str × Int))) (y97 : (List Str)) (i117 : Nat) (s116 : (List Coef)) : AS := ⟨58, [(0, .hptr 1000 0), (2, .hptr 2 0), (3, .int .i64 0), (4, .hptr 4 0), (33, .rslice 30), (34, .int .i64 ((y97.length : Nat) : Int)), (35, .int .i64 ((i117 : Nat) : Int))], [(2, .cells 39 [.int .i64 0, .eslice]), (4, .cells 39 [.int .i64 x0, .rslice 50]), (30, .row 9 1 (y97.map cStr)), (50, .row 44 2 (s116.map cCoef)), (1000, .cells 158 [.int .i64 x0, .dmap (x1.map (mapV cInt_i64))])]⟩
def linear_sum_result_S3 (x0 : Int) (x1 : (List (Str × Int))) (u131 : (List Coef)) : AS := ⟨58, [(2, .hptr 2 0), (3, .int .i64 0), (4, .hptr 4 0)], [(2, .cells 39 [.int .i64 0, .eslice]), (4, .cells 39 [.int .i64 x0, .rslice 50]), (50, .row 44 2 (u131.map cCoef)), (1000, .cells 158 [.int .i64 x0, .dmap (x1.map (mapV cInt_i64))])]⟩
theorem linear_sum_result_c (x0 : Int) (x1 : (List (Str × Int))) (r : (Linear × Int)) (H : linear_sum_result x0 x1 = some r) : ACall Tryz.prog 149 [.hptr 1000 0] [(1000, .cells 158 [.int .i64 x0, .amap 1001]), (1001, .smap 9 3 (x1.map (mapV cInt_i64)))] (fun r2 h2 => r2 = (.tup [.agg [.int .i64 r.1.Const, .dslice (r.1.Terms.map cCoef)], .int .i64 r.2]) ∧ h2 = []) := by
  unfold linear_sum_result at H
  refine acallX Tryz.func149 58 [.cell 2 39, .tmp 3] (by kernel_rfl) (by kernel_rfl) ?_
  refine p_at Tryz.mo 10 [.rg 0 [] [.m, .v], .rg 0 [] [.v, .v, .v, .v, .b, .m, .m], .rg 0 [] [.v], .rg 0 [] [.v, .v, .v, .v, .fm 1001, .m]] [.er 5 30 9 1, .only [0, 2, 3, 4, 5, 19] [2, 4, 19, 30, 1000]] 10 [] (linear_sum_result_S1 x0 x1 [] []) (all_cons (mapV_fl cInt_i64_ok x1) all_nil) (by kernel_rfl) ?_
  refine p_mrngX (cc := cInt_i64) 19 (linear_sum_result_S1 x0 x1) (by kernel_rfl) H [.v] (fun i95 s94 => ⟨by kernel_rfl, by kernel_rfl⟩) (fun i95 s94 => ⟨58, [(0, .hptr 1000 0), (2, .hptr 2 0), (3, .int .i64 0), (4, .hptr 4 0), (5, .rslice 30), (19, .hptr 19 0), (20, .tup [.bool false]), (21, .bool false)], [(2, .cells 39 [.int .i64 0, .eslice]), (4, .cells 39 [.int .i64 x0, .eslice]), (19, .iter (x1.map (mapV cInt_i64)) i95), (30, .row 9 1 (s94.map cStr)), (1000, .cells 158 [.int .i64 x0, .dmap (x1.map (mapV cInt_i64))])]⟩) (fun i95 s94 => by kernel_rfl) (fun i95 s94 n163 e164 => ⟨58, [(0, .hptr 1000 0), (2, .hptr 2 0), (3, .int .i64 0), (4, .hptr 4 0), (5, .rslice 30), (19, .hptr 19 0), (20, .tup [.bool true, .str e164.1, .int .i64 e164.2]), (21, .bool true)], [(2, .cells 39 [.int .i64 0, .eslice]), (4, .cells 39 [.int .i64 x0, .eslice]), (19, .iter (x1.map (mapV cInt_i64)) (i95 ++ [n163])), (30, .row 9 1 (s94.map cStr)), (1000, .cells 158 [.int .i64 x0, .dmap (x1.map (mapV cInt_i64))])]⟩) (fun i95 s94 n163 e164 => by kernel_rfl) (fun i95 s94 H96 => ?_) (fun i95 s94 n163 e164 h165 q160 h161 h162 => ?_)
  · refine bnd H96 fun y97 h98 H99 => ?_
    refine p_at Tryz.mo 9 [.rg 0 [] [.v, .hR [(30, 1000)] 32 (.tup []) [(1000, .row 9 1 (y97.map cStr))]], .rg 0 [] [.v, .e (.int .i64 ((y97.length : Nat) : Int)), .v]] [.erH 4 1 50 44 2, .only [0, 2, 3, 4, 33, 34, 35] [2, 4, 30, 50, 1000]] 9 [false] (linear_sum_result_S2 x0 x1 y97 0 []) (all_cons Tryz.call138 (all_cons (lib_Sort_c s94 y97 h98) (all_cons trivial (all_cons (lenm cStr y97) all_nil)))) (by kernel_rfl) ?_
    refine bnd H99 fun R128 h129 H130 => ?_
    refine p_joinO 1 (linear_sum_result_S3 x0 x1) R128 (by kernel_rfl) ?_ (fun u148 e149 => ?_)
    · refine p_cnt (linear_sum_result_S2 x0 x1 y97) (by kernel_rfl) h129 (fun i117 s116 h132 e133 => ?_) (fun i117 s116 h140 q136 h137 h138 => ?_)
      · have c134 : decide (((i117 : Nat) : Int) < ((y97.length : Nat) : Int)) = false := decide_eq_false (by omega)
        subst e133
        exact p_bar Tryz.mo 5 [.rg 0 [] [.e (.bool false)]] [.only [2, 3, 4] [2, 4, 50, 1000]] (linear_sum_result_S3 x0 x1 s116) (all_cons (congrArg (AV.bool) c134) all_nil) (by kernel_rfl)
      · have c139 : decide (((i117 : Nat) : Int) < ((y97.length : Nat) : Int)) = true := decide_eq_true (by omega)
        refine grd_e h137 fun g141 H142 => ?_
        refine t_lensR 30 (n := (y97.map cStr).length) (by kernel_rfl) (fun l145 => ?_)
        have l146 : y97.length ≤ 9223372036854775807 := by simpa only [List.length_map] using l145
        clear l145
        refine some_e H142 fun e147 => ?_
        subst e147
        exact p_bar Tryz.mo 11 [.rg 0 [] [.e (.bool true)], .rg 0 [] [.v, .rl i117 0 (.str (y97.getD i117 [])), .v], .rg 11 [.v, .v, .v, .v, .v, .v, .v, .v, .l (.int .i64 (mget 0 (y97.getD i117 []) x1)), .b, .b] [.ap, .rwH 50 (.row 44 2 ((s116 ++ [(Coef.mk (y97.getD i117 []) (mget 0 (y97.getD i117 []) x1))]).map cCoef)), .v, .m], .rg 0 [] [.v, .v]] [.only [0, 2, 3, 4, 33, 34, 35] [2, 4, 30, 50, 1000]] (linear_sum_result_S2 x0 x1 y97 (i117 + 1) (s116 ++ [(Coef.mk (y97.getD i117 []) (mget 0 (y97.getD i117 []) x1))])) (all_cons (congrArg (AV.bool) c139) (all_cons (show (0 : Int) ≤ ((i117 : Nat) : Int) ∧ ((i117 : Nat) : Int) < ((y97.map cStr).length : Int) from by rw [List.length_map]; omega) (all_cons (rlP (f := cStr) (l := y97) (n := i117) 1 0 1 (by omega) (by decide)) (all_cons (rl1 (f := cStr) (l := y97) (n := i117) [] 0 (by omega)) (all_cons (aget_mapV (c := cInt_i64) (y97.getD i117 []) 0 x1) (all_app (apR (c := cCoef) cCoef_ok s116 [(Coef.mk (y97.getD i117 []) (mget 0 (y97.getD i117 []) x1))] 24 (by decide) (by simpa using g141)) (all_cons (apQ 44 2 cCoef s116 [(Coef.mk (y97.getD i117 []) (mget 0 (y97.getD i117 []) x1))]) (all_cons (show I64 (((i117 : Nat) : Int) + 1) from by unfold I64; omega) all_nil)))))))) (by kernel_rfl)
    · subst e149
      have H150 := aftE_brk H130
      refine bnd H150 fun y151 h152 H153 => ?_
      refine bsp H153 (fun c154 H155 => ?_) (fun c156 H157 => ?_)
      · refine some_e H155 fun e158 => ?_
        subst e158
        exact p_ret Tryz.mo 9 [.rg 0 [] [.v, .c false (.bool y151), .v], .eqT 55 (.bool false), .rg 0 [] [.v, .m, .v]] [.fz 50] [] (all_cons Tryz.call99 (all_cons (AFn.is (linear_Valid_c (Linear.mk x0 u148) y151 h152)) (all_cons trivial (all_cons (congrArg (fun x => AV.bool (!x)) c154) all_nil)))) (by kernel_rfl)
      · refine some_e H157 fun e159 => ?_
        subst e159
        exact p_ret Tryz.mo 8 [.rg 0 [] [.v, .c false (.bool y151), .v], .eqT 55 (.bool true), .rg 0 [] [.b, .m, .v]] [.wkH 2 1 []] [] (all_cons Tryz.call99 (all_cons (AFn.is (linear_Valid_c (Linear.mk x0 u148) y151 h152)) (all_cons trivial (all_cons (congrArg (fun x => AV.bool (!x)) c156) all_nil)))) (by kernel_rfl)
  · refine bsp h161 (fun c166 H167 => ?_) (fun c168 H169 => ?_)
    · refine some_e H167 fun e170 => ?_
      subst e170
      exact p_bar Tryz.mo 11 [.rg 0 [] [.en n163 (.tup [.str e164.1, .int .i64 e164.2]), .v, .v, .v, .v], .rg 0 [] [.v, .v], .eqT 26 (.bool false)] [.only [0, 2, 3, 4, 5, 19] [2, 4, 19, 30, 1000]] (linear_sum_result_S1 x0 x1 (i95 ++ [n163]) s94) (all_cons (seen_last i95 n163) (all_cons (en_eq (cc := cInt_i64) h165) (all_cons (congrArg (fun x => AV.bool (!x)) c166) all_nil))) (by kernel_rfl)
    · refine grd_e H169 fun g171 H172 => ?_
      refine some_e H172 fun e173 => ?_
      subst e173
      exact p_bar Tryz.mo 11 [.rg 0 [] [.en n163 (.tup [.str e164.1, .int .i64 e164.2]), .v, .v, .v, .v], .rg 0 [] [.v, .v], .eqT 26 (.bool true), .rg 0 [] [.v, .v, .b, .ap, .rwH 30 (.row 9 1 ((s94 ++ [e164.1]).map cStr)), .v]] [.only [0, 2, 3, 4, 5, 19] [2, 4, 19, 30, 1000]] (linear_sum_result_S1 x0 x1 (i95 ++ [n163]) (s94 ++ [e164.1])) (all_cons (seen_last i95 n163) (all_cons (en_eq (cc := cInt_i64) h165) (all_cons (congrArg (fun x => AV.bool (!x)) c168) (all_app (apR (c := cStr) cStr_ok s94 [e164.1] 16 (by decide) (by simpa using g171)) (all_cons (apQ 9 1 cStr s94 [e164.1]) all_nil))))) (by kernel_rfl)
/-- framewise/linear.Subst -/
noncomputable def linear_Subst (x0 : Linear) (x1 : (List Bind)) : Option (Linear × Int) :=
  (linear_Valid x0).bind fun y1 =>
  bif y1 then (
    (cnt (σ := (Int × (List (Str × Int)))) (ε := (Int × (List (Str × Int)))) (ρ := (Linear × Int)) (fun i122 s121 =>
      (slices_IndexFunc_api_Bind_2 x1 ((x0.Terms.getD i122 ⟨[], 0⟩).Var) ((x0.Terms.getD i122 ⟨[], 0⟩).C)).bind fun y193 =>
      ((
        bif decide (y193 < 0) then (
          some (.brk (true, s121.1, (mput ((x0.Terms.getD i122 ⟨[], 0⟩).Var) (w64 ((mget 0 ((x0.Terms.getD i122 ⟨[], 0⟩).Var) s121.2) + ((x0.Terms.getD i122 ⟨[], 0⟩).C))) s121.2)))
        ) else (
          grd (0 ≤ y193 ∧ y193 < (x1.length : Int)) <|
          (linear_Valid (Linear.mk (((x1.getD y193.toNat (⟨0, [], ⟨0, []⟩, ⟨[], []⟩, []⟩)).Dim).Const) (((x1.getD y193.toNat (⟨0, [], ⟨0, []⟩, ⟨[], []⟩, []⟩)).Dim).Terms))).bind fun y231 =>
          bif y231 then (
            (linear_sum_add (Linear.mk (((x1.getD y193.toNat (⟨0, [], ⟨0, []⟩, ⟨[], []⟩, []⟩)).Dim).Const) (((x1.getD y193.toNat (⟨0, [], ⟨0, []⟩, ⟨[], []⟩, []⟩)).Dim).Terms)) ((x0.Terms.getD i122 ⟨[], 0⟩).C) s121.1 s121.2).bind fun y238 =>
            some (.brk (false, y238.1, y238.2))
          ) else (
            some (.ret (.ret ((Linear.mk 0 []), 1)))
          )
        )
      ) : Option (Out (Bool × Int × (List (Str × Int))) (Stp (Int × (List (Str × Int))) (Int × (List (Str × Int))) (Linear × Int)))).bind (aft fun u223 =>
        some (.go (u223.2.1, u223.2.2))
      )
    ) (fun i122 s121 => (s121.1, s121.2)) (x0.Terms.length - 0) 0 (x0.Const, [])).bind <| aft fun u255 =>
    (linear_sum_result u255.1 u255.2).bind fun y258 =>
    some (y258.1, y258.2)
  ) else (
    some ((Linear.mk 0 []), 1)
  )
def linear_Subst_S1 (x0 : Linear) (x1 : (List Bind)) (i122 : Nat) (s121 : (Int × (List (Str × Int)))) : AS := ⟨60, [(1, .dslice (x1.map cBind)), (4, .hptr 4 0), (5, .int .i64 0), (6, .hptr 6 0), (19, .dslice (x0.Terms.map cCoef)), (20, .int .i64 ((x0.Terms.length : Nat) : Int)), (21, .int .i64 ((i122 : Nat) : Int))], [(4, .cells 39 [.int .i64 0, .eslice]), (6, .cells 158 [.int .i64 s121.1, .amap 16]), (16, .smap 9 3 (s121.2.map (mapV cInt_i64)))]⟩
def linear_Subst_S2 (u183 : (Int × (List (Str × Int)))) : AS := ⟨60, [(4, .hptr 4 0), (5, .int .i64 0), (6, .hptr 6 0)], [(4, .cells 39 [.int .i64 0, .eslice]), (6, .cells 158 [.int .i64 u183.1, .amap 16]), (16, .smap 9 3 (u183.2.map (mapV cInt_i64)))]⟩
def linear_Subst_S3 (x0 : Linear) (x1 : (List Bind)) (i122 : Nat) (y193 : Int) (u223 : (Bool × Int × (List (Str × Int)))) : AS := ⟨60, [(1, .dslice (x1.map cBind)), (4, .hptr 4 0), (5, .int .i64 0), (6, .hptr 6 0), (8, .hptr 8 0), (9, .int .i64 y193), (19, .dslice (x0.Terms.map cCoef)), (20, .int .i64 ((x0.Terms.length : Nat) : Int)), (21, .int .i64 ((i122 : Nat) : Int)), (22, .bool true), (36, .bool u223.1)], [(4, .cells 39 [.int .i64 0, .eslice]), (6, .cells 158 [.int .i64 u223.2.1, .amap 16]), (8, .cells 44 [.str ((x0.Terms.getD i122 ⟨[], 0⟩).Var), .int .i64 ((x0.Terms.getD i122 ⟨[], 0⟩).C)]), (16, .smap 9 3 (u223.2.2.map (mapV cInt_i64)))]⟩
theorem linear_Subst_c (x0 : Linear) (x1 : (List Bind)) (r : (Linear × Int)) (H : linear_Subst x0 x1 = some r) : AFn Tryz.prog 83 [.agg [.int .i64 x0.Const, .dslice (x0.Terms.map cCoef)], .dslice (x1.map cBind)] (.tup [.agg [.int .i64 r.1.Const, .dslice (r.1.Terms.map cCoef)], .int .i64 r.2]) := by
  unfold linear_Subst at H
  refine acallX Tryz.func83 60 [.cell 4 39, .tmp 5] (by kernel_rfl) (by kernel_rfl) ?_
  refine bnd H fun y1 h2 H3 => ?_
  refine bsp H3 (fun c4 H5 => ?_) (fun c6 H7 => ?_)
  · refine p_at Tryz.mo 14 [.rg 0 [] [.m, .m, .v], .rg 0 [] [.v, .c true (.bool y1), .v], .eqT 12 (.bool false), .rg 0 [] [.v, .v, .m, .b, .m, .m], .rg 0 [] [.v, .v, .e (.int .i64 ((x0.Terms.length : Nat) : Int)), .v]] [.only [1, 4, 5, 6, 19, 20, 21] [4, 6, 16]] 13 [false] (linear_Subst_S1 x0 x1 0 (x0.Const, [])) (all_cons Tryz.call99 (all_cons (AFn.is (linear_Valid_c x0 y1 h2)) (all_cons trivial (all_cons (congrArg (fun x => AV.bool (!x)) c4) (all_cons trivial (all_cons (lenm cCoef x0.Terms) all_nil)))))) (by kernel_rfl) ?_
    refine bnd H5 fun R180 h181 H182 => ?_
    refine p_joinO 1 (linear_Subst_S2) R180 (by kernel_rfl) ?_ (fun u255 e256 => ?_)
    · refine p_cnt (linear_Subst_S1 x0 x1) (by kernel_rfl) h181 (fun i122 s121 h184 e185 => ?_) (fun i122 s121 h192 q188 h189 h190 => ?_)
      · have c186 : decide (((i122 : Nat) : Int) < ((x0.Terms.length : Nat) : Int)) = false := decide_eq_false (by omega)
        subst e185
        exact p_bar Tryz.mo 5 [.rg 0 [] [.e (.bool false)]] [.only [4, 5, 6] [4, 6, 16]] (linear_Subst_S2 (s121.1, s121.2)) (all_cons (congrArg (AV.bool) c186) all_nil) (by kernel_rfl)
      · have c191 : decide (((i122 : Nat) : Int) < ((x0.Terms.length : Nat) : Int)) = true := decide_eq_true (by omega)
        refine bnd h189 fun y193 h194 H195 => ?_
        refine p_at Tryz.mo 14 [.rg 0 [] [.e (.bool true)], .rg 0 [] [.e (.dptr [.str ((x0.Terms.getD i122 ⟨[], 0⟩).Var), .int .i64 ((x0.Terms.getD i122 ⟨[], 0⟩).C)]), .v, .m, .m], .rg 0 [] [.v, .v, .hR [(8, 1000)] 27 (.int .i64 y193) [(1000, .cells 44 [.str ((x0.Terms.getD i122 ⟨[], 0⟩).Var), .int .i64 ((x0.Terms.getD i122 ⟨[], 0⟩).C)])], .v], .rg 0 [] [.v, .v, .v]] [.only [1, 4, 5, 6, 8, 9, 19, 20, 21, 22, 36] [4, 6, 8, 16]] 14 [true] ⟨60, [(1, .dslice (x1.map cBind)), (4, .hptr 4 0), (5, .int .i64 0), (6, .hptr 6 0), (8, .hptr 8 0), (9, .int .i64 y193), (19, .dslice (x0.Terms.map cCoef)), (20, .int .i64 ((x0.Terms.length : Nat) : Int)), (21, .int .i64 ((i122 : Nat) : Int)), (22, .bool true), (36, .bool (decide (y193 < 0)))], [(4, .cells 39 [.int .i64 0, .eslice]), (6, .cells 158 [.int .i64 s121.1, .amap 16]), (8, .cells 44 [.str ((x0.Terms.getD i122 ⟨[], 0⟩).Var), .int .i64 ((x0.Terms.getD i122 ⟨[], 0⟩).C)]), (16, .smap 9 3 (s121.2.map (mapV cInt_i64)))]⟩ (all_cons (congrArg (AV.bool) c191) (all_app (ix (f := cCoef) (l := x0.Terms) (n := i122) ⟨[], 0⟩ cCoef_len (by decide) (by omega)) (all_cons Tryz.call144 (all_cons (slices_IndexFunc_api_Bind_2_c x1 ((x0.Terms.getD i122 ⟨[], 0⟩).Var) ((x0.Terms.getD i122 ⟨[], 0⟩).C) y193 h194) all_nil)))) (by kernel_rfl) ?_
        refine bnd H195 fun v220 h221 H222 => ?_
        refine p_joinO 2 (linear_Subst_S3 x0 x1 i122 y193) v220 (by kernel_rfl) ?_ (fun u223 e254 => ?_)
        · refine bsp h221 (fun c224 H225 => ?_) (fun c226 H227 => ?_)
          · have c224p := of_decide_eq_true c224
            refine some_e H225 fun e228 => ?_
            subst e228
            exact p_bar Tryz.mo 3 [.eqT 36 (.bool true), .rg 0 [] [.v, .v, .v, .v, .l (.int .i64 (mget 0 ((x0.Terms.getD i122 ⟨[], 0⟩).Var) s121.2)), .v, .v, .w, .m, .rwH 16 (.smap 9 3 ((mput ((x0.Terms.getD i122 ⟨[], 0⟩).Var) (w64 ((mget 0 ((x0.Terms.getD i122 ⟨[], 0⟩).Var) s121.2) + ((x0.Terms.getD i122 ⟨[], 0⟩).C))) s121.2).map (mapV cInt_i64)))]] [.only [1, 4, 5, 6, 8, 9, 19, 20, 21, 22, 36] [4, 6, 8, 16]] (linear_Subst_S3 x0 x1 i122 y193 (true, s121.1, (mput ((x0.Terms.getD i122 ⟨[], 0⟩).Var) (w64 ((mget 0 ((x0.Terms.getD i122 ⟨[], 0⟩).Var) s121.2) + ((x0.Terms.getD i122 ⟨[], 0⟩).C))) s121.2))) (all_cons (congrArg (AV.bool) c224) (all_cons (aget_mapV (c := cInt_i64) ((x0.Terms.getD i122 ⟨[], 0⟩).Var) 0 s121.2) (all_cons (congrArg (AO.smap 9 3) (aput_mapV (c := cInt_i64) ((x0.Terms.getD i122 ⟨[], 0⟩).Var) (w64 ((mget 0 ((x0.Terms.getD i122 ⟨[], 0⟩).Var) s121.2) + ((x0.Terms.getD i122 ⟨[], 0⟩).C))) s121.2)) all_nil))) (by kernel_rfl)
          · have c226p := of_decide_eq_false c226
            refine grd_e H227 fun g229 H230 => ?_
            refine bnd H230 fun y231 h232 H233 => ?_
            refine bsp H233 (fun c234 H235 => ?_) (fun c236 H237 => ?_)
            · refine bnd H235 fun y238 h239 H240 => ?_
              refine some_e H240 fun e241 => ?_
              subst e241
              exact p_bar Tryz.mo 7 [.eqT 36 (.bool false), .rg 0 [] [.v, .v, .e (.dptr [.int .i64 ((x1.getD y193.toNat (⟨0, [], ⟨0, []⟩, ⟨[], []⟩, []⟩)).Kind), .str ((x1.getD y193.toNat (⟨0, [], ⟨0, []⟩, ⟨[], []⟩, []⟩)).Var), .int .i64 (((x1.getD y193.toNat (⟨0, [], ⟨0, []⟩, ⟨[], []⟩, []⟩)).Dim).Const), .dslice ((((x1.getD y193.toNat (⟨0, [], ⟨0, []⟩, ⟨[], []⟩, []⟩)).Dim).Terms).map cCoef), .str (((x1.getD y193.toNat (⟨0, [], ⟨0, []⟩, ⟨[], []⟩, []⟩)).Row).Row), .dslice ((((x1.getD y193.toNat (⟨0, [], ⟨0, []⟩, ⟨[], []⟩, []⟩)).Row).Dims).map cLinear), .str ((x1.getD y193.toNat (⟨0, [], ⟨0, []⟩, ⟨[], []⟩, []⟩)).Elem)]), .v, .v, .c true (.bool y231), .v, .v], .eqT 47 (.bool false), .rg 7 [.v, .v, .e (.dptr [.int .i64 ((x1.getD y193.toNat (⟨0, [], ⟨0, []⟩, ⟨[], []⟩, []⟩)).Kind), .str ((x1.getD y193.toNat (⟨0, [], ⟨0, []⟩, ⟨[], []⟩, []⟩)).Var), .int .i64 (((x1.getD y193.toNat (⟨0, [], ⟨0, []⟩, ⟨[], []⟩, []⟩)).Dim).Const), .dslice ((((x1.getD y193.toNat (⟨0, [], ⟨0, []⟩, ⟨[], []⟩, []⟩)).Dim).Terms).map cCoef), .str (((x1.getD y193.toNat (⟨0, [], ⟨0, []⟩, ⟨[], []⟩, []⟩)).Row).Row), .dslice ((((x1.getD y193.toNat (⟨0, [], ⟨0, []⟩, ⟨[], []⟩, []⟩)).Row).Dims).map cLinear), .str ((x1.getD y193.toNat (⟨0, [], ⟨0, []⟩, ⟨[], []⟩, []⟩)).Elem)]), .v, .v, .v, .v] [.hR [(6, 1000), (16, 1001)] 35 (.tup []) [(1000, .cells 158 [.int .i64 y238.1, .amap 1001]), (1001, .smap 9 3 (y238.2.map (mapV cInt_i64)))]]] [.only [1, 4, 5, 6, 8, 9, 19, 20, 21, 22, 36] [4, 6, 8, 16]] (linear_Subst_S3 x0 x1 i122 y193 (false, y238.1, y238.2)) (all_cons (congrArg (AV.bool) c226) (all_app (ixz (f := cBind) (l := x1) (n := y193) (⟨0, [], ⟨0, []⟩, ⟨[], []⟩, []⟩) cBind_len (by decide) (by exact g229)) (all_cons Tryz.call99 (all_cons (AFn.is (linear_Valid_c (Linear.mk (((x1.getD y193.toNat (⟨0, [], ⟨0, []⟩, ⟨[], []⟩, []⟩)).Dim).Const) (((x1.getD y193.toNat (⟨0, [], ⟨0, []⟩, ⟨[], []⟩, []⟩)).Dim).Terms)) y231 h232)) (all_cons trivial (all_cons (congrArg (fun x => AV.bool (!x)) c234) (all_app (ixz (f := cBind) (l := x1) (n := y193) (⟨0, [], ⟨0, []⟩, ⟨[], []⟩, []⟩) cBind_len (by decide) (by exact g229)) (all_cons Tryz.call148 (all_cons (linear_sum_add_c (Linear.mk (((x1.getD y193.toNat (⟨0, [], ⟨0, []⟩, ⟨[], []⟩, []⟩)).Dim).Const) (((x1.getD y193.toNat (⟨0, [], ⟨0, []⟩, ⟨[], []⟩, []⟩)).Dim).Terms)) ((x0.Terms.getD i122 ⟨[], 0⟩).C) s121.1 s121.2 y238 h239) all_nil))))))))) (by kernel_rfl)
            · refine some_e H237 fun e242 => ?_
              subst e242
              have H243 := aft_ret H222
              refine some_e H243 fun e244 => ?_
              subst e244
              have e245 := out_ret h190
              subst e245
              have H246 := aft_ret H182
              refine some_e H246 fun e247 => ?_
              subst e247
              exact p_ret Tryz.mo 9 [.eqT 36 (.bool false), .rg 0 [] [.v, .v, .e (.dptr [.int .i64 ((x1.getD y193.toNat (⟨0, [], ⟨0, []⟩, ⟨[], []⟩, []⟩)).Kind), .str ((x1.getD y193.toNat (⟨0, [], ⟨0, []⟩, ⟨[], []⟩, []⟩)).Var), .int .i64 (((x1.getD y193.toNat (⟨0, [], ⟨0, []⟩, ⟨[], []⟩, []⟩)).Dim).Const), .dslice ((((x1.getD y193.toNat (⟨0, [], ⟨0, []⟩, ⟨[], []⟩, []⟩)).Dim).Terms).map cCoef), .str (((x1.getD y193.toNat (⟨0, [], ⟨0, []⟩, ⟨[], []⟩, []⟩)).Row).Row), .dslice ((((x1.getD y193.toNat (⟨0, [], ⟨0, []⟩, ⟨[], []⟩, []⟩)).Row).Dims).map cLinear), .str ((x1.getD y193.toNat (⟨0, [], ⟨0, []⟩, ⟨[], []⟩, []⟩)).Elem)]), .v, .v, .c true (.bool y231), .v, .v], .eqT 47 (.bool true), .rg 0 [] [.b, .m, .v]] [.wkH 4 1 []] [] (all_cons (congrArg (AV.bool) c226) (all_app (ixz (f := cBind) (l := x1) (n := y193) (⟨0, [], ⟨0, []⟩, ⟨[], []⟩, []⟩) cBind_len (by decide) (by exact g229)) (all_cons Tryz.call99 (all_cons (AFn.is (linear_Valid_c (Linear.mk (((x1.getD y193.toNat (⟨0, [], ⟨0, []⟩, ⟨[], []⟩, []⟩)).Dim).Const) (((x1.getD y193.toNat (⟨0, [], ⟨0, []⟩, ⟨[], []⟩, []⟩)).Dim).Terms)) y231 h232)) (all_cons trivial (all_cons (congrArg (fun x => AV.bool (!x)) c236) all_nil)))))) (by kernel_rfl)
        · subst e254
          have H248 := aft_brk H222
          refine t_lens 19 (ps := [(x0.Terms.map cCoef).length ≤ 9223372036854775807]) (by kernel_rfl) (fun l251 => ?_)
          have l252 : x0.Terms.length ≤ 9223372036854775807 := by simpa only [All, List.length_map] using l251
          clear l251
          refine some_e H248 fun e253 => ?_
          subst e253
          exact p_bar Tryz.mo 1 [.rg 0 [] [.v, .v]] [.only [1, 4, 5, 6, 19, 20, 21] [4, 6, 16]] (linear_Subst_S1 x0 x1 (i122 + 1) (u223.2.1, u223.2.2)) (all_cons (show I64 (((i122 : Nat) : Int) + 1) from by unfold I64; omega) all_nil) (by kernel_rfl)
    · subst e256
      have H257 := aft_brk H182
      refine bnd H257 fun y258 h259 H260 => ?_
      refine some_e H260 fun e261 => ?_
      subst e261
      exact p_ret Tryz.mo 3 [.rg 0 [] [.hR [(6, 1000), (16, 1001)] 57 (.tup [.agg [.int .i64 y258.1.Const, .dslice (y258.1.Terms.map cCoef)], .int .i64 y258.2]) [], .v, .v, .m, .v]] [] [] (all_cons Tryz.call149 (all_cons (linear_sum_result_c u255.1 u255.2 y258 h259) all_nil)) (by kernel_rfl)
  · refine some_e H7 fun e262 => ?_
    subst e262
    exact p_ret Tryz.mo 10 [.rg 0 [] [.m, .m, .v], .rg 0 [] [.v, .c true (.bool y1), .v], .eqT 12 (.bool true), .rg 0 [] [.b, .m, .v]] [.wkH 4 1 []] [] (all_cons Tryz.call99 (all_cons (AFn.is (linear_Valid_c x0 y1 h2)) (all_cons trivial (all_cons (congrArg (fun x => AV.bool (!x)) c6) all_nil)))) (by kernel_rfl)
/-- framewise/shape.made -/
noncomputable def shape_made (x0 : Str) (x1 : (List Linear)) : Option (Shape × Int) :=
  bif decide (((x1.length : Nat) : Int) > 6) then (
    some ((Shape.mk [] []), 3)
  ) else (
    (shape_clones x1).bind fun y6 =>
    some ((Shape.mk x0 y6), 0)
  )
theorem shape_made_c (x0 : Str) (x1 : (List Linear)) (r : (Shape × Int)) (H : shape_made x0 x1 = some r) : AFn Tryz.prog 84 [.str x0, .dslice (x1.map cLinear)] (.tup [.agg [.str r.1.Row, .dslice (r.1.Dims.map cLinear)], .int .i64 r.2]) := by
  unfold shape_made at H
  refine acallX Tryz.func84 14 [.cell 4 24, .tmp 5] (by kernel_rfl) (by kernel_rfl) ?_
  refine bsp H (fun c1 H2 => ?_) (fun c3 H4 => ?_)
  · have c1p := of_decide_eq_true c1
    refine some_e H2 fun e5 => ?_
    subst e5
    exact p_ret Tryz.mo 10 [.rg 0 [] [.m, .v], .rg 0 [] [.v, .e (.int .i64 ((x1.length : Nat) : Int)), .v], .eqT 8 (.bool true), .rg 0 [] [.b, .m, .v]] [.wkH 4 1 []] [] (all_cons trivial (all_cons (lenm cLinear x1) (all_cons (congrArg (AV.bool) c1) all_nil))) (by kernel_rfl)
  · have c3p := of_decide_eq_false c3
    refine bnd H4 fun y6 h7 H8 => ?_
    refine some_e H8 fun e9 => ?_
    subst e9
    exact p_ret Tryz.mo 11 [.rg 0 [] [.m, .v], .rg 0 [] [.v, .e (.int .i64 ((x1.length : Nat) : Int)), .v], .eqT 8 (.bool false), .rg 0 [] [.v, .v, .hR [] 12 (.rslice 0) [(0, .row 39 2 (y6.map cLinear))], .b, .m, .v]] [.fz 12] [] (all_cons trivial (all_cons (lenm cLinear x1) (all_cons (congrArg (AV.bool) c3) (all_cons Tryz.call82 (all_cons (shape_clones_c x1 y6 h7) all_nil))))) (by kernel_rfl)
/-- framewise/shape.Subst -/
noncomputable def shape_Subst (x0 : Shape) (x1 : (List Bind)) : Option (Shape × Int) :=
  (shape_Valid x0).bind fun y1 =>
  bif y1 then (
    (shape_ValidBinds x1).bind fun y15 =>
    bif y15 then (
      (shape_find x1 2 x0.Row).bind fun y22 =>
      ((
        bif (x0.Row == []) then (
          some false
        ) else (
          some (decide (y22 ≥ 0))
        )
      ) : Option Bool).bind fun v25 =>
      ((
        bif v25 then (
          grd (0 ≤ y22 ∧ y22 < (x1.length : Int)) <|
          (shape_clones (((x1.getD y22.toNat (⟨0, [], ⟨0, []⟩, ⟨[], []⟩, []⟩)).Row).Dims)).bind fun y53 =>
          some ((((x1.getD y22.toNat (⟨0, [], ⟨0, []⟩, ⟨[], []⟩, []⟩)).Row).Row), y53)
        ) else (
          some (x0.Row, [])
        )
      ) : Option (Str × (List Linear))).bind fun v44 =>
      (cnt (σ := (List Linear)) (ε := (List Linear)) (ρ := (Shape × Int)) (fun i91 s90 =>
        (linear_Subst (Linear.mk ((x0.Dims.getD i91 ⟨0, []⟩).Const) ((x0.Dims.getD i91 ⟨0, []⟩).Terms)) x1).bind fun y122 =>
        bif (y122.2 == 0) then (
          grd ((s90.length + 1) * 32 ≤ 140737488355328) <|
          some (.go (s90 ++ [y122.1]))
        ) else (
          some (.ret ((Shape.mk [] []), y122.2))
        )
      ) (fun i91 s90 => s90) (x0.Dims.length - 0) 0 v44.2).bind <| aft fun u140 =>
      (shape_made v44.1 u140).bind fun y143 =>
      some (y143.1, y143.2)
    ) else (
      some ((Shape.mk [] []), 1)
    )
  ) else (
    some ((Shape.mk [] []), 1)
  )
def shape_Subst_S1 (x0 : Shape) (x1 : (List Bind)) (y22 : Int) (v25 : Bool) : AS := ⟨75, [(1, .dslice (x1.map cBind)), (2, .hptr 2 0), (4, .hptr 4 0), (5, .int .i64 0), (6, .str x0.Row), (7, .eslice), (8, .int .i64 y22), (34, .bool v25)], [(2, .cells 24 [.str x0.Row, .dslice (x0.Dims.map cLinear)]), (4, .cells 24 [.str [], .eslice])]⟩
def shape_Subst_S2 (x0 : Shape) (x1 : (List Bind)) (v44 : (Str × (List Linear))) : AS := ⟨75, [(1, .dslice (x1.map cBind)), (2, .hptr 2 0), (4, .hptr 4 0), (5, .int .i64 0), (6, .str v44.1), (7, .rslice 47)], [(2, .cells 24 [.str x0.Row, .dslice (x0.Dims.map cLinear)]), (4, .cells 24 [.str [], .eslice]), (47, .row 39 2 (v44.2.map cLinear))]⟩
def shape_Subst_S3 (x0 : Shape) (x1 : (List Bind)) (v44 : (Str × (List Linear))) (i91 : Nat) (s90 : (List Linear)) : AS := ⟨75, [(1, .dslice (x1.map cBind)), (4, .hptr 4 0), (5, .int .i64 0), (6, .str v44.1), (7, .rslice 68), (49, .dslice (x0.Dims.map cLinear)), (50, .int .i64 ((x0.Dims.length : Nat) : Int)), (51, .int .i64 ((i91 : Nat) : Int))], [(4, .cells 24 [.str [], .eslice]), (68, .row 39 2 (s90.map cLinear))]⟩
def shape_Subst_S4 (v44 : (Str × (List Linear))) (u112 : (List Linear)) : AS := ⟨75, [(4, .hptr 4 0), (5, .int .i64 0), (6, .str v44.1), (7, .rslice 68)], [(4, .cells 24 [.str [], .eslice]), (68, .row 39 2 (u112.map cLinear))]⟩
theorem shape_Subst_c (x0 : Shape) (x1 : (List Bind)) (r : (Shape × Int)) (H : shape_Subst x0 x1 = some r) : AFn Tryz.prog 18 [.agg [.str x0.Row, .dslice (x0.Dims.map cLinear)], .dslice (x1.map cBind)] (.tup [.agg [.str r.1.Row, .dslice (r.1.Dims.map cLinear)], .int .i64 r.2]) := by
  unfold shape_Subst at H
  refine acallX Tryz.func18 75 [.cell 4 24, .tmp 5] (by kernel_rfl) (by kernel_rfl) ?_
  refine bnd H fun y1 h2 H3 => ?_
  refine bsp H3 (fun c11 H12 => ?_) (fun c13 H14 => ?_)
  · refine bnd H12 fun y15 h16 H17 => ?_
    refine bsp H17 (fun c18 H19 => ?_) (fun c20 H21 => ?_)
    · refine bnd H19 fun y22 h23 H24 => ?_
      refine p_at Tryz.mo 16 [.rg 0 [] [.m, .m, .v], .rg 0 [] [.v, .c true (.bool true), .v, .v, .v, .c true (.bool y15), .v, .v], .eqT 20 (.bool false), .rg 0 [] [.v, .v, .v], .rg 0 [] [.v], .rg 0 [] [.v, .v, .v, .c true (.int .i64 y22), .v]] [.only [1, 2, 4, 5, 6, 7, 8] [2, 4]] 15 [false] ⟨75, [(1, .dslice (x1.map cBind)), (2, .hptr 2 0), (4, .hptr 4 0), (5, .int .i64 0), (6, .str x0.Row), (7, .eslice), (8, .int .i64 y22)], [(2, .cells 24 [.str x0.Row, .dslice (x0.Dims.map cLinear)]), (4, .cells 24 [.str [], .eslice])]⟩ (all_cons Tryz.call31 (all_cons (AFn.eq (shape_Valid_c x0 y1 h2) (congrArg (AV.bool) c11)) (all_cons trivial (all_cons Tryz.call36 (all_cons (AFn.is (shape_ValidBinds_c x1 y15 h16)) (all_cons trivial (all_cons (congrArg (fun x => AV.bool (!x)) c18) (all_cons Tryz.call81 (all_cons (AFn.is (shape_find_c x1 2 x0.Row y22 h23)) all_nil))))))))) (by kernel_rfl) ?_
      refine bnd H24 fun v25 h26 H27 => ?_
      refine p_join 0 (shape_Subst_S1 x0 x1 y22 v25) (by kernel_rfl) ?_ ?_
      · refine bsp h26 (fun c28 H29 => ?_) (fun c30 H31 => ?_)
        · refine some_e H29 fun e32 => ?_
          subst e32
          exact p_bar Tryz.mo 1 [.rg 0 [] [.v, .v, .e (.bool false), .v, .s, .s, .v]] [.only [1, 2, 4, 5, 6, 7, 8, 34] [2, 4]] (shape_Subst_S1 x0 x1 y22 false) (all_cons (congrArg (fun x => AV.bool (!x)) c28) all_nil) (by kernel_rfl)
        · refine some_e H31 fun e33 => ?_
          subst e33
          exact p_bar Tryz.mo 1 [.rg 0 [] [.v, .v, .e (.bool true), .v, .v, .v, .v]] [.only [1, 2, 4, 5, 6, 7, 8, 34] [2, 4]] (shape_Subst_S1 x0 x1 y22 (decide (y22 ≥ 0))) (all_cons (congrArg (fun x => AV.bool (!x)) c30) all_nil) (by kernel_rfl)
      · refine bnd H27 fun v44 h45 H46 => ?_
        refine p_join 0 (shape_Subst_S2 x0 x1 v44) (by kernel_rfl) ?_ ?_
        · refine bsp h45 (fun c47 H48 => ?_) (fun c49 H50 => ?_)
          · refine grd_e H48 fun g51 H52 => ?_
            refine bnd H52 fun y53 h54 H55 => ?_
            refine some_e H55 fun e56 => ?_
            subst e56
            exact p_bar Tryz.mo 3 [.eqT 34 (.bool true), .rg 13 [.v, .v, .e (.dptr [.int .i64 ((x1.getD y22.toNat (⟨0, [], ⟨0, []⟩, ⟨[], []⟩, []⟩)).Kind), .str ((x1.getD y22.toNat (⟨0, [], ⟨0, []⟩, ⟨[], []⟩, []⟩)).Var), .int .i64 (((x1.getD y22.toNat (⟨0, [], ⟨0, []⟩, ⟨[], []⟩, []⟩)).Dim).Const), .dslice ((((x1.getD y22.toNat (⟨0, [], ⟨0, []⟩, ⟨[], []⟩, []⟩)).Dim).Terms).map cCoef), .str (((x1.getD y22.toNat (⟨0, [], ⟨0, []⟩, ⟨[], []⟩, []⟩)).Row).Row), .dslice ((((x1.getD y22.toNat (⟨0, [], ⟨0, []⟩, ⟨[], []⟩, []⟩)).Row).Dims).map cLinear), .str ((x1.getD y22.toNat (⟨0, [], ⟨0, []⟩, ⟨[], []⟩, []⟩)).Elem)]), .v, .v, .v, .v, .v, .e (.dptr [.int .i64 ((x1.getD y22.toNat (⟨0, [], ⟨0, []⟩, ⟨[], []⟩, []⟩)).Kind), .str ((x1.getD y22.toNat (⟨0, [], ⟨0, []⟩, ⟨[], []⟩, []⟩)).Var), .int .i64 (((x1.getD y22.toNat (⟨0, [], ⟨0, []⟩, ⟨[], []⟩, []⟩)).Dim).Const), .dslice ((((x1.getD y22.toNat (⟨0, [], ⟨0, []⟩, ⟨[], []⟩, []⟩)).Dim).Terms).map cCoef), .str (((x1.getD y22.toNat (⟨0, [], ⟨0, []⟩, ⟨[], []⟩, []⟩)).Row).Row), .dslice ((((x1.getD y22.toNat (⟨0, [], ⟨0, []⟩, ⟨[], []⟩, []⟩)).Row).Dims).map cLinear), .str ((x1.getD y22.toNat (⟨0, [], ⟨0, []⟩, ⟨[], []⟩, []⟩)).Elem)]), .v, .v, .v, .hN (.rslice 0) [(0, .row 39 2 (y53.map cLinear))]] [.v, .v]] [.only [1, 2, 4, 5, 6, 7] [2, 4, 47]] (shape_Subst_S2 x0 x1 ((((x1.getD y22.toNat (⟨0, [], ⟨0, []⟩, ⟨[], []⟩, []⟩)).Row).Row), y53)) (all_cons (congrArg (AV.bool) c47) (all_app (ixz (f := cBind) (l := x1) (n := y22) (⟨0, [], ⟨0, []⟩, ⟨[], []⟩, []⟩) cBind_len (by decide) (by exact g51)) (all_app (ixz (f := cBind) (l := x1) (n := y22) (⟨0, [], ⟨0, []⟩, ⟨[], []⟩, []⟩) cBind_len (by decide) (by exact g51)) (all_cons Tryz.call82 (all_cons (shape_clones_c (((x1.getD y22.toNat (⟨0, [], ⟨0, []⟩, ⟨[], []⟩, []⟩)).Row).Dims) y53 h54) all_nil))))) (by kernel_rfl)
          · refine some_e H50 fun e57 => ?_
            subst e57
            exact p_bar Tryz.mo 3 [.eqT 34 (.bool false)] [.er 7 47 39 2, .only [1, 2, 4, 5, 6, 7] [2, 4, 47]] (shape_Subst_S2 x0 x1 (x0.Row, [])) (all_cons (congrArg (AV.bool) c49) all_nil) (by kernel_rfl)
        · refine p_at Tryz.mo 4 [.rg 0 [] [.v, .v, .e (.int .i64 ((x0.Dims.length : Nat) : Int)), .v]] [.ren [(4, 4), (47, 68)], .only [1, 4, 5, 6, 7, 49, 50, 51] [4, 68]] 4 [] (shape_Subst_S3 x0 x1 v44 0 v44.2) (all_cons trivial (all_cons (lenm cLinear x0.Dims) all_nil)) (by kernel_rfl) ?_
          refine bnd H46 fun R109 h110 H111 => ?_
          refine p_joinO 1 (shape_Subst_S4 v44) R109 (by kernel_rfl) ?_ (fun u140 e141 => ?_)
          · refine p_cnt (shape_Subst_S3 x0 x1 v44) (by kernel_rfl) h110 (fun i91 s90 h113 e114 => ?_) (fun i91 s90 h121 q117 h118 h119 => ?_)
            · have c115 : decide (((i91 : Nat) : Int) < ((x0.Dims.length : Nat) : Int)) = false := decide_eq_false (by omega)
              subst e114
              exact p_bar Tryz.mo 5 [.rg 0 [] [.e (.bool false)]] [.only [4, 5, 6, 7] [4, 68]] (shape_Subst_S4 v44 s90) (all_cons (congrArg (AV.bool) c115) all_nil) (by kernel_rfl)
            · have c120 : decide (((i91 : Nat) : Int) < ((x0.Dims.length : Nat) : Int)) = true := decide_eq_true (by omega)
              refine bnd h118 fun y122 h123 H124 => ?_
              refine bsp H124 (fun c125 H126 => ?_) (fun c127 H128 => ?_)
              · refine grd_e H126 fun g129 H130 => ?_
                refine t_lens 49 (ps := [(x0.Dims.map cLinear).length ≤ 9223372036854775807]) (by kernel_rfl) (fun l133 => ?_)
                have l134 : x0.Dims.length ≤ 9223372036854775807 := by simpa only [All, List.length_map] using l133
                clear l133
                refine some_e H130 fun e135 => ?_
                subst e135
                exact p_bar Tryz.mo 19 [.rg 0 [] [.e (.bool true)], .rg 0 [] [.e (.dptr [.int .i64 ((x0.Dims.getD i91 ⟨0, []⟩).Const), .dslice (((x0.Dims.getD i91 ⟨0, []⟩).Terms).map cCoef)]), .v, .m, .m], .rg 0 [] [.v, .v, .c true (.tup [.agg [.int .i64 y122.1.Const, .dslice (y122.1.Terms.map cCoef)], .int .i64 y122.2]), .v, .v, .v, .m, .m, .v], .rg 0 [] [.v, .v], .eqT 62 (.bool false), .rg 0 [] [.v, .v, .b, .ap, .rwH 68 (.row 39 2 ((s90 ++ [y122.1]).map cLinear)), .v], .rg 0 [] [.v, .v]] [.only [1, 4, 5, 6, 7, 49, 50, 51] [4, 68]] (shape_Subst_S3 x0 x1 v44 (i91 + 1) (s90 ++ [y122.1])) (all_cons (congrArg (AV.bool) c120) (all_app (ix (f := cLinear) (l := x0.Dims) (n := i91) ⟨0, []⟩ cLinear_len (by decide) (by omega)) (all_cons Tryz.call83 (all_cons (AFn.is (linear_Subst_c (Linear.mk ((x0.Dims.getD i91 ⟨0, []⟩).Const) ((x0.Dims.getD i91 ⟨0, []⟩).Terms)) x1 y122 h123)) (all_cons (congrArg (fun x => AV.bool (!x)) c125) (all_app (apR (c := cLinear) cLinear_ok s90 [y122.1] 32 (by decide) (by simpa using g129)) (all_cons (apQ 39 2 cLinear s90 [y122.1]) (all_cons (show I64 (((i91 : Nat) : Int) + 1) from by unfold I64; omega) all_nil)))))))) (by kernel_rfl)
              · refine some_e H128 fun e136 => ?_
                subst e136
                have e137 := out_ret h119
                subst e137
                have H138 := aft_ret H111
                refine some_e H138 fun e139 => ?_
                subst e139
                exact p_ret Tryz.mo 19 [.rg 0 [] [.e (.bool true)], .rg 0 [] [.e (.dptr [.int .i64 ((x0.Dims.getD i91 ⟨0, []⟩).Const), .dslice (((x0.Dims.getD i91 ⟨0, []⟩).Terms).map cCoef)]), .v, .m, .m], .rg 0 [] [.v, .v, .c true (.tup [.agg [.int .i64 y122.1.Const, .dslice (y122.1.Terms.map cCoef)], .int .i64 y122.2]), .v, .v, .v, .m, .m, .v], .rg 0 [] [.v, .v], .eqT 62 (.bool true), .rg 0 [] [.b, .v, .m, .v]] [.wkH 4 1 []] [] (all_cons (congrArg (AV.bool) c120) (all_app (ix (f := cLinear) (l := x0.Dims) (n := i91) ⟨0, []⟩ cLinear_len (by decide) (by omega)) (all_cons Tryz.call83 (all_cons (AFn.is (linear_Subst_c (Linear.mk ((x0.Dims.getD i91 ⟨0, []⟩).Const) ((x0.Dims.getD i91 ⟨0, []⟩).Terms)) x1 y122 h123)) (all_cons (congrArg (fun x => AV.bool (!x)) c127) all_nil))))) (by kernel_rfl)
          · subst e141
            have H142 := aft_brk H111
            refine bnd H142 fun y143 h144 H145 => ?_
            refine some_e H145 fun e146 => ?_
            subst e146
            exact p_ret Tryz.mo 3 [.rg 0 [] [.v, .v, .fz 68, .c true (.tup [.agg [.str y143.1.Row, .dslice (y143.1.Dims.map cLinear)], .int .i64 y143.2]), .v, .v, .m, .v]] [] [] (all_cons Tryz.call84 (all_cons (AFn.is (shape_made_c v44.1 u140 y143 h144)) all_nil)) (by kernel_rfl)
    · refine some_e H21 fun e147 => ?_
      subst e147
      exact p_ret Tryz.mo 10 [.rg 0 [] [.m, .m, .v], .rg 0 [] [.v, .c true (.bool true), .v, .v, .v, .c true (.bool y15), .v, .v], .eqT 20 (.bool true), .rg 0 [] [.b, .m, .v]] [.wkH 4 1 []] [] (all_cons Tryz.call31 (all_cons (AFn.eq (shape_Valid_c x0 y1 h2) (congrArg (AV.bool) c11)) (all_cons trivial (all_cons Tryz.call36 (all_cons (AFn.is (shape_ValidBinds_c x1 y15 h16)) (all_cons trivial (all_cons (congrArg (fun x => AV.bool (!x)) c20) all_nil))))))) (by kernel_rfl)
  · refine some_e H14 fun e148 => ?_
    subst e148
    exact p_ret Tryz.mo 9 [.rg 0 [] [.m, .m, .v], .rg 0 [] [.v, .c true (.bool false), .v, .v, .s, .s, .s, .v], .rg 0 [] [.b, .m, .v]] [.wkH 4 1 []] [] (all_cons Tryz.call31 (all_cons (AFn.eq (shape_Valid_c x0 y1 h2) (congrArg (AV.bool) c13)) (all_cons trivial all_nil))) (by kernel_rfl)
/-- internal/stringslite.CutPrefix -/
def internal_stringslite_CutPrefix (x0 : Str) (x1 : Str) : Option (Str × Bool) :=
  (internal_stringslite_HasPrefix x0 x1).bind fun y1 =>
  bif y1 then (
    grd (x1.length ≤ x0.length) <|
    some ((x0.drop x1.length), true)
  ) else (
    some (x0, false)
  )
theorem internal_stringslite_CutPrefix_c (x0 : Str) (x1 : Str) (r : (Str × Bool)) (H : internal_stringslite_CutPrefix x0 x1 = some r) : AFn Tryz.prog 154 [.str x0, .str x1] (.tup [.str r.1, .bool r.2]) := by
  unfold internal_stringslite_CutPrefix at H
  refine acallX Tryz.func154 15 [.tmp 4, .tmp 5] (by kernel_rfl) (by kernel_rfl) ?_
  refine bnd H fun y1 h2 H3 => ?_
  refine bsp H3 (fun c4 H5 => ?_) (fun c6 H7 => ?_)
  · refine grd_e H5 fun g8 H9 => ?_
    refine some_e H9 fun e10 => ?_
    subst e10
    exact p_ret Tryz.mo 11 [.rg 0 [] [.v, .v], .rg 0 [] [.v, .v, .c true (.bool y1), .v], .eqT 9 (.bool false), .rg 0 [] [.v, .v, .v, .e (.str (x0.drop x1.length)), .v, .v]] [] [] (all_cons Tryz.call220 (all_cons (AFn.is (internal_stringslite_HasPrefix_c x0 x1 y1 h2)) (all_cons trivial (all_cons (congrArg (fun x => AV.bool (!x)) c4) (all_cons trivial (all_cons (show (0 : Int) ≤ ((x1.length : Nat) : Int) ∧ ((x1.length : Nat) : Int) ≤ (x0.length : Int) ∧ (x0.length : Int) ≤ (x0.length : Int) from by omega) (all_cons (sl_drop x0 x1.length) all_nil))))))) (by kernel_rfl)
  · refine some_e H7 fun e11 => ?_
    subst e11
    exact p_ret Tryz.mo 10 [.rg 0 [] [.v, .v], .rg 0 [] [.v, .v, .c true (.bool y1), .v], .eqT 9 (.bool true), .rg 0 [] [.v, .v, .v]] [] [] (all_cons Tryz.call220 (all_cons (AFn.is (internal_stringslite_HasPrefix_c x0 x1 y1 h2)) (all_cons trivial (all_cons (congrArg (fun x => AV.bool (!x)) c6) all_nil)))) (by kernel_rfl)
/-- strings.CutPrefix -/
def strings_CutPrefix (x0 : Str) (x1 : Str) : Option (Str × Bool) :=
  (internal_stringslite_CutPrefix x0 x1).bind fun y1 =>
  some (y1.1, y1.2)
theorem strings_CutPrefix_c (x0 : Str) (x1 : Str) (r : (Str × Bool)) (H : strings_CutPrefix x0 x1 = some r) : AFn Tryz.prog 90 [.str x0, .str x1] (.tup [.str r.1, .bool r.2]) := by
  unfold strings_CutPrefix at H
  refine acallX Tryz.func90 11 [.tmp 4, .tmp 5] (by kernel_rfl) (by kernel_rfl) ?_
  refine bnd H fun y1 h2 H3 => ?_
  refine some_e H3 fun e4 => ?_
  subst e4
  exact p_ret Tryz.mo 5 [.rg 0 [] [.v, .v], .rg 0 [] [.v, .v, .c true (.tup [.str y1.1, .bool y1.2]), .v, .v, .v, .v]] [] [] (all_cons Tryz.call154 (all_cons (AFn.is (internal_stringslite_CutPrefix_c x0 x1 y1 h2)) all_nil)) (by kernel_rfl)
/-- internal/stringslite.CutSuffix -/
def internal_stringslite_CutSuffix (x0 : Str) (x1 : Str) : Option (Str × Bool) :=
  (internal_stringslite_HasSuffix x0 x1).bind fun y1 =>
  bif y1 then (
    grd (0 ≤ (w64 (((x0.length : Nat) : Int) - ((x1.length : Nat) : Int))) ∧ (w64 (((x0.length : Nat) : Int) - ((x1.length : Nat) : Int))) ≤ (x0.length : Int)) <|
    some ((x0.take ((w64 (((x0.length : Nat) : Int) - ((x1.length : Nat) : Int))).toNat)), true)
  ) else (
    some (x0, false)
  )
theorem internal_stringslite_CutSuffix_c (x0 : Str) (x1 : Str) (r : (Str × Bool)) (H : internal_stringslite_CutSuffix x0 x1 = some r) : AFn Tryz.prog 155 [.str x0, .str x1] (.tup [.str r.1, .bool r.2]) := by
  unfold internal_stringslite_CutSuffix at H
  refine acallX Tryz.func155 18 [.tmp 4, .tmp 5] (by kernel_rfl) (by kernel_rfl) ?_
  refine bnd H fun y1 h2 H3 => ?_
  refine bsp H3 (fun c4 H5 => ?_) (fun c6 H7 => ?_)
  · refine grd_e H5 fun g8 H9 => ?_
    refine some_e H9 fun e10 => ?_
    subst e10
    exact p_ret Tryz.mo 11 [.rg 0 [] [.v, .v], .rg 0 [] [.v, .v, .c true (.bool y1), .v], .eqT 9 (.bool false), .rg 0 [] [.v, .v, .v, .v, .v, .w, .e (.str (x0.take ((w64 (((x0.length : Nat) : Int) - ((x1.length : Nat) : Int))).toNat))), .v, .v]] [] [] (all_cons Tryz.call221 (all_cons (AFn.is (internal_stringslite_HasSuffix_c x0 x1 y1 h2)) (all_cons trivial (all_cons (congrArg (fun x => AV.bool (!x)) c4) (all_cons trivial (all_cons trivial (all_cons (show (0 : Int) ≤ 0 ∧ 0 ≤ (w64 (((x0.length : Nat) : Int) - ((x1.length : Nat) : Int))) ∧ (w64 (((x0.length : Nat) : Int) - ((x1.length : Nat) : Int))) ≤ (x0.length : Int) from by omega) (all_cons (sl_take x0 ((w64 (((x0.length : Nat) : Int) - ((x1.length : Nat) : Int))).toNat)) all_nil)))))))) (by kernel_rfl)
  · refine some_e H7 fun e11 => ?_
    subst e11
    exact p_ret Tryz.mo 10 [.rg 0 [] [.v, .v], .rg 0 [] [.v, .v, .c true (.bool y1), .v], .eqT 9 (.bool true), .rg 0 [] [.v, .v, .v]] [] [] (all_cons Tryz.call221 (all_cons (AFn.is (internal_stringslite_HasSuffix_c x0 x1 y1 h2)) (all_cons trivial (all_cons (congrArg (fun x => AV.bool (!x)) c6) all_nil)))) (by kernel_rfl)
/-- strings.CutSuffix -/
def strings_CutSuffix (x0 : Str) (x1 : Str) : Option (Str × Bool) :=
  (internal_stringslite_CutSuffix x0 x1).bind fun y1 =>
  some (y1.1, y1.2)
theorem strings_CutSuffix_c (x0 : Str) (x1 : Str) (r : (Str × Bool)) (H : strings_CutSuffix x0 x1 = some r) : AFn Tryz.prog 91 [.str x0, .str x1] (.tup [.str r.1, .bool r.2]) := by
  unfold strings_CutSuffix at H
  refine acallX Tryz.func91 11 [.tmp 4, .tmp 5] (by kernel_rfl) (by kernel_rfl) ?_
  refine bnd H fun y1 h2 H3 => ?_
  refine some_e H3 fun e4 => ?_
  subst e4
  exact p_ret Tryz.mo 5 [.rg 0 [] [.v, .v], .rg 0 [] [.v, .v, .c true (.tup [.str y1.1, .bool y1.2]), .v, .v, .v, .v]] [] [] (all_cons Tryz.call155 (all_cons (AFn.is (internal_stringslite_CutSuffix_c x0 x1 y1 h2)) all_nil)) (by kernel_rfl)
/-- strings.trimLeftByte -/
def strings_trimLeftByte (x0 : Str) (x1 : UInt8) : Option Str :=
  (whl (σ := Str) (ε := Str) (ρ := Empty) (fun s30 =>
    bif decide (((s30.length : Nat) : Int) > 0) then (
      bif (((s30.getD 0 0).toNat : Int) == ((x1).toNat : Int)) then (
        grd (1 ≤ s30.length) <|
        some (.go (s30.drop 1))
      ) else (
        some (.brk s30)
      )
    ) else (
      some (.brk s30)
    )
  ) 4294967296 x0).bind <| aftE fun u72 =>
  some u72
def strings_trimLeftByte_S1 (x1 : UInt8) (s30 : Str) : AS := ⟨17, [(0, .str s30), (1, .int .u8 ((x1).toNat : Int)), (4, .str [])], []⟩
def strings_trimLeftByte_S2 (u49 : Str) : AS := ⟨17, [(0, .str u49), (4, .str [])], []⟩
theorem strings_trimLeftByte_c (x0 : Str) (x1 : UInt8) (r : Str) (H : strings_trimLeftByte x0 x1 = some r) : AFn Tryz.prog 176 [.str x0, .int .u8 ((x1).toNat : Int)] (.str r) := by
  unfold strings_trimLeftByte at H
  refine acallX Tryz.func176 17 [.tmp 4] (by kernel_rfl) (by kernel_rfl) ?_
  refine p_at Tryz.mo 4 [.rg 0 [] [.v]] [.only [0, 1, 4] []] 4 [] (strings_trimLeftByte_S1 x1 x0) all_nil (by kernel_rfl) ?_
  refine bnd H fun R46 h47 H48 => ?_
  refine p_joinO 1 (strings_trimLeftByte_S2) R46 (by kernel_rfl) ?_ (fun u72 e73 => ?_)
  · refine p_whl (strings_trimLeftByte_S1 x1) (by kernel_rfl) h47 (fun s30 q50 h51 h52 => ?_)
    · refine bsp h51 (fun c57 H58 => ?_) (fun c59 H60 => ?_)
      · have c57p := of_decide_eq_true c57
        refine bsp H58 (fun c61 H62 => ?_) (fun c63 H64 => ?_)
        · refine grd_e H62 fun g65 H66 => ?_
          refine some_e H66 fun e67 => ?_
          subst e67
          exact p_bar Tryz.mo 8 [.rg 0 [] [.v, .v, .e (.bool true), .v, .v, .v, .v, .v, .v], .eqT 13 (.bool true), .rg 0 [] [.v, .e (.str (s30.drop 1)), .v]] [.only [0, 1, 4] []] (strings_trimLeftByte_S1 x1 (s30.drop 1)) (all_cons trivial (all_cons (congrArg (AV.bool) c57) (all_cons (show (0 : Int) ≤ 0 ∧ 0 < (s30.length : Int) from by omega) (all_cons (congrArg (AV.bool) c61) (all_cons (show (0 : Int) ≤ 1 ∧ 1 ≤ (s30.length : Int) ∧ (s30.length : Int) ≤ (s30.length : Int) from by omega) (all_cons (sl_drop s30 1) all_nil)))))) (by kernel_rfl)
        · refine some_e H64 fun e68 => ?_
          subst e68
          have e69 := out_brk h52
          subst e69
          exact p_bar Tryz.mo 6 [.rg 0 [] [.v, .v, .e (.bool true), .v, .v, .v, .v, .v, .v], .eqT 13 (.bool false)] [.only [0, 4] []] (strings_trimLeftByte_S2 s30) (all_cons trivial (all_cons (congrArg (AV.bool) c57) (all_cons (show (0 : Int) ≤ 0 ∧ 0 < (s30.length : Int) from by omega) (all_cons (congrArg (AV.bool) c63) all_nil)))) (by kernel_rfl)
      · have c59p := of_decide_eq_false c59
        refine some_e H60 fun e70 => ?_
        subst e70
        have e71 := out_brk h52
        subst e71
        exact p_bar Tryz.mo 5 [.rg 0 [] [.v, .v, .e (.bool false), .v, .s, .s, .s, .s, .v]] [.only [0, 4] []] (strings_trimLeftByte_S2 s30) (all_cons trivial (all_cons (congrArg (AV.bool) c59) all_nil)) (by kernel_rfl)
  · subst e73
    have H74 := aftE_brk H48
    refine some_e H74 fun e75 => ?_
    subst e75
    exact p_ret Tryz.mo 3 [.rg 0 [] [.v, .v]] [] [] all_nil (by kernel_rfl)
/-- strings.TrimLeft -/
def strings_TrimLeft (x0 : Str) (x1 : Str) : Option Str :=
  bif (x0 == []) then (
    some x0
  ) else (
    bif (x1 == []) then (
      some x0
    ) else (
      ((
        bif (((x1.length : Nat) : Int) == 1) then (
          grd (0 < x1.length) <|
          some (decide (((x1.getD 0 0).toNat : Int) < 128))
        ) else (
          some false
        )
      ) : Option Bool).bind fun v19 =>
      bif v19 then (
        grd (0 < x1.length) <|
        (strings_trimLeftByte x0 (x1.getD 0 0)).bind fun y41 =>
        some y41
      ) else (
        none
      )
    )
  )
def strings_TrimLeft_S1 (x0 : Str) (x1 : Str) (v19 : Bool) : AS := ⟨37, [(0, .str x0), (1, .str x1), (4, .str []), (21, .bool v19)], []⟩
theorem strings_TrimLeft_c (x0 : Str) (x1 : Str) (r : Str) (H : strings_TrimLeft x0 x1 = some r) : AFn Tryz.prog 228 [.str x0, .str x1] (.str r) := by
  unfold strings_TrimLeft at H
  refine acallX Tryz.func228 37 [.tmp 4] (by kernel_rfl) (by kernel_rfl) ?_
  refine bsp H (fun c5 H6 => ?_) (fun c7 H8 => ?_)
  · refine some_e H6 fun e9 => ?_
    subst e9
    exact p_ret Tryz.mo 9 [.rg 0 [] [.v], .rg 0 [] [.v, .e (.bool true), .v, .s, .s, .v], .rg 0 [] [.v, .v]] [] [] (all_cons (congrArg (AV.bool) c5) all_nil) (by kernel_rfl)
  · refine bsp H8 (fun c10 H11 => ?_) (fun c12 H13 => ?_)
    · refine some_e H11 fun e14 => ?_
      subst e14
      exact p_ret Tryz.mo 10 [.rg 0 [] [.v], .rg 0 [] [.v, .e (.bool false), .v, .v, .v, .v], .eqT 12 (.bool true), .rg 0 [] [.v, .v]] [] [] (all_cons (congrArg (AV.bool) c7) (all_cons (congrArg (AV.bool) c10) all_nil)) (by kernel_rfl)
    · refine p_at Tryz.mo 10 [.rg 0 [] [.v], .rg 0 [] [.v, .e (.bool false), .v, .v, .v, .v], .eqT 12 (.bool false)] [.only [0, 1, 4] []] 9 [false] ⟨37, [(0, .str x0), (1, .str x1), (4, .str [])], []⟩ (all_cons (congrArg (AV.bool) c7) (all_cons (congrArg (AV.bool) c12) all_nil)) (by kernel_rfl) ?_
      refine bnd H13 fun v19 h20 H21 => ?_
      refine p_join 0 (strings_TrimLeft_S1 x0 x1 v19) (by kernel_rfl) ?_ ?_
      · refine bsp h20 (fun c22 H23 => ?_) (fun c24 H25 => ?_)
        · refine grd_e H23 fun g26 H27 => ?_
          refine some_e H27 fun e28 => ?_
          subst e28
          exact p_bar Tryz.mo 1 [.rg 0 [] [.v, .v, .e (.bool true), .v, .v, .v, .v, .v]] [.only [0, 1, 4, 21] []] (strings_TrimLeft_S1 x0 x1 (decide (((x1.getD 0 0).toNat : Int) < 128))) (all_cons trivial (all_cons (congrArg (AV.bool) c22) (all_cons (show (0 : Int) ≤ 0 ∧ 0 < (x1.length : Int) from by omega) all_nil))) (by kernel_rfl)
        · refine some_e H25 fun e29 => ?_
          subst e29
          exact p_bar Tryz.mo 1 [.rg 0 [] [.v, .v, .e (.bool false), .v, .s, .s, .s, .v]] [.only [0, 1, 4, 21] []] (strings_TrimLeft_S1 x0 x1 false) (all_cons trivial (all_cons (congrArg (AV.bool) c24) all_nil)) (by kernel_rfl)
      · refine bsp H21 (fun c35 H36 => ?_) (fun c37 H38 => ?_)
        · refine grd_e H36 fun g39 H40 => ?_
          refine bnd H40 fun y41 h42 H43 => ?_
          refine some_e H43 fun e44 => ?_
          subst e44
          exact p_ret Tryz.mo 5 [.eqT 21 (.bool true), .rg 0 [] [.v, .v, .v, .c true (.str y41), .v]] [] [] (all_cons (congrArg (AV.bool) c35) (all_cons (show (0 : Int) ≤ 0 ∧ 0 < (x1.length : Int) from by omega) (all_cons Tryz.call176 (all_cons (AFn.is (strings_trimLeftByte_c x0 (x1.getD 0 0) y41 h42)) all_nil)))) (by kernel_rfl)
        · cases H38
/-- (*framewise/linear.reader).spaces -/
def linear_reader_spaces (x0 : Str) (x1 : Int) (x2 : (List (Str × Int))) : Option Str :=
  (strings_TrimLeft x0 [32]).bind fun y4 =>
  some y4
theorem linear_reader_spaces_c (x0 : Str) (x1 : Int) (x2 : (List (Str × Int))) (r : Str) (H : linear_reader_spaces x0 x1 x2 = some r) : ACall Tryz.prog 158 [.hptr 1000 0] [(1000, .cells 165 [.str x0, .int .i64 x1, .amap 1001]), (1001, .smap 9 3 (x2.map (mapV cInt_i64)))] (fun r2 h2 => r2 = (.tup []) ∧ h2 = [(1000, .cells 165 [.str r, .int .i64 x1, .amap 1001]), (1001, .smap 9 3 (x2.map (mapV cInt_i64)))]) := by
  unfold linear_reader_spaces at H
  refine acallX Tryz.func158 10 [] (by kernel_rfl) (by kernel_rfl) ?_
  refine bnd H fun y4 h5 H6 => ?_
  refine some_e H6 fun e7 => ?_
  subst e7
  exact p_ret Tryz.mo 1 [.rg 0 [] [.v, .v, .v, .v, .v, .c true (.str y4), .v, .v, .m]] [] [1000, 1001] (all_cons Tryz.call228 (all_cons (AFn.is (strings_TrimLeft_c x0 [32] y4 h5)) all_nil)) (by kernel_rfl)
/-- (*framewise/linear.reader).sign -/
def linear_reader_sign (x0 : Str) (x1 : Int) (x2 : (List (Str × Int))) : Option ((Int × Bool) × Str) :=
  (cnt (σ := Unit) (ε := Unit) (ρ := ((Int × Bool) × Str)) (fun i90 s89 =>
    (strings_HasPrefix x0 ([[43], [45]].getD i90 [])).bind fun y119 =>
    bif y119 then (
      grd (1 ≤ x0.length) <|
      some (.ret (((w64 (1 - (w64 (2 * ((i90 : Nat) : Int))))), true), (x0.drop 1)))
    ) else (
      some (.go ())
    )
  ) (fun i90 s89 => ()) (2 - 0) 0 ()).bind <| aft fun u135 =>
  some ((1, false), x0)
def linear_reader_sign_S1 (x0 : Str) (x1 : Int) (x2 : (List (Str × Int))) (i90 : Nat) (s89 : Unit) : AS := ⟨29, [(0, .hptr 1000 0), (2, .int .i64 0), (3, .bool false), (6, .agg [.str [43], .str [45]]), (7, .int .i64 ((i90 : Nat) : Int))], [(1000, .cells 165 [.str x0, .int .i64 x1, .amap 1001]), (1001, .smap 9 3 (x2.map (mapV cInt_i64)))]⟩
def linear_reader_sign_S2 (x0 : Str) (x1 : Int) (x2 : (List (Str × Int))) (u109 : Unit) : AS := ⟨29, [(2, .int .i64 0), (3, .bool false)], [(1000, .cells 165 [.str x0, .int .i64 x1, .amap 1001]), (1001, .smap 9 3 (x2.map (mapV cInt_i64)))]⟩
theorem linear_reader_sign_c (x0 : Str) (x1 : Int) (x2 : (List (Str × Int))) (r : ((Int × Bool) × Str)) (H : linear_reader_sign x0 x1 x2 = some r) : ACall Tryz.prog 159 [.hptr 1000 0] [(1000, .cells 165 [.str x0, .int .i64 x1, .amap 1001]), (1001, .smap 9 3 (x2.map (mapV cInt_i64)))] (fun r2 h2 => r2 = (.tup [.int .i64 r.1.1, .bool r.1.2]) ∧ h2 = [(1000, .cells 165 [.str r.2, .int .i64 x1, .amap 1001]), (1001, .smap 9 3 (x2.map (mapV cInt_i64)))]) := by
  unfold linear_reader_sign at H
  refine acallX Tryz.func159 29 [.tmp 2, .tmp 3] (by kernel_rfl) (by kernel_rfl) ?_
  refine p_at Tryz.mo 6 [.rg 0 [] [.v, .v], .rg 0 [] [.b, .v]] [.only [0, 2, 3, 6, 7] [1000, 1001]] 6 [] (linear_reader_sign_S1 x0 x1 x2 0 ()) all_nil (by kernel_rfl) ?_
  refine bnd H fun R106 h107 H108 => ?_
  refine p_joinO 1 (linear_reader_sign_S2 x0 x1 x2) R106 (by kernel_rfl) ?_ (fun u135 e136 => ?_)
  · refine p_cnt (linear_reader_sign_S1 x0 x1 x2) (by kernel_rfl) h107 (fun i90 s89 h110 e111 => ?_) (fun i90 s89 h118 q114 h115 h116 => ?_)
    · have c112 : decide (((i90 : Nat) : Int) < 2) = false := decide_eq_false (by omega)
      subst e111
      exact p_bar Tryz.mo 5 [.rg 0 [] [.e (.bool false)]] [.only [2, 3] [1000, 1001]] (linear_reader_sign_S2 x0 x1 x2 ()) (all_cons (congrArg (AV.bool) c112) all_nil) (by kernel_rfl)
    · have c117 : decide (((i90 : Nat) : Int) < 2) = true := decide_eq_true (by omega)
      refine bnd h115 fun y119 h120 H121 => ?_
      refine bsp H121 (fun c124 H125 => ?_) (fun c126 H127 => ?_)
      · refine grd_e H125 fun g128 H129 => ?_
        refine some_e H129 fun e130 => ?_
        subst e130
        have e131 := out_ret h116
        subst e131
        have H132 := aft_ret H108
        refine some_e H132 fun e133 => ?_
        subst e133
        exact p_ret Tryz.mo 18 [.rg 0 [] [.e (.bool true)], .rg 0 [] [.v, .we (.str ([[43], [45]].getD i90 [])), .v, .v], .rg 0 [] [.v, .v, .v, .v, .v, .c true (.bool y119)], .eqT 16 (.bool true), .rg 0 [] [.v, .v, .v, .v, .v, .e (.str (x0.drop 1)), .v, .v, .m], .rg 0 [] [.v, .w, .w, .v, .v]] [] [1000, 1001] (all_cons (congrArg (AV.bool) c117) (all_cons (show (0 : Int) ≤ ((i90 : Nat) : Int) ∧ ((i90 : Nat) : Int) < (2 : Int) ∧ ((i90 : Nat) : Int) < (2 : Int) from by omega) (all_cons (ag_str [[43], [45]] i90 (by omega)) (all_cons Tryz.call166 (all_cons (AFn.is (strings_HasPrefix_c x0 ([[43], [45]].getD i90 []) y119 h120)) (all_cons (congrArg (AV.bool) c124) (all_cons (show (0 : Int) ≤ 1 ∧ 1 ≤ (x0.length : Int) ∧ (x0.length : Int) ≤ (x0.length : Int) from by omega) (all_cons (sl_drop x0 1) all_nil)))))))) (by kernel_rfl)
      · refine some_e H127 fun e134 => ?_
        subst e134
        exact p_bar Tryz.mo 15 [.rg 0 [] [.e (.bool true)], .rg 0 [] [.v, .we (.str ([[43], [45]].getD i90 [])), .v, .v], .rg 0 [] [.v, .v, .v, .v, .v, .c true (.bool y119)], .eqT 16 (.bool false), .rg 0 [] [.v, .v]] [.only [0, 2, 3, 6, 7] [1000, 1001]] (linear_reader_sign_S1 x0 x1 x2 (i90 + 1) ()) (all_cons (congrArg (AV.bool) c117) (all_cons (show (0 : Int) ≤ ((i90 : Nat) : Int) ∧ ((i90 : Nat) : Int) < (2 : Int) ∧ ((i90 : Nat) : Int) < (2 : Int) from by omega) (all_cons (ag_str [[43], [45]] i90 (by omega)) (all_cons Tryz.call166 (all_cons (AFn.is (strings_HasPrefix_c x0 ([[43], [45]].getD i90 []) y119 h120)) (all_cons (congrArg (AV.bool) c126) (all_cons (show I64 (((i90 : Nat) : Int) + 1) from by unfold I64; omega) all_nil))))))) (by kernel_rfl)
  · subst e136
    have H137 := aft_brk H108
    refine some_e H137 fun e138 => ?_
    subst e138
    exact p_ret Tryz.mo 3 [.rg 0 [] [.v, .v]] [] [1000, 1001] all_nil (by kernel_rfl)
/-- framewise/linear.digit -/
def linear_digit (x0 : UInt8) : Option Bool :=
  bif decide (((x0).toNat : Int) ≥ 48) then (
    some (decide (((x0).toNat : Int) ≤ 57))
  ) else (
    some false
  )
theorem linear_digit_c (x0 : UInt8) (r : Bool) (H : linear_digit x0 = some r) : AFn Tryz.prog 225 [.int .u8 ((x0).toNat : Int)] (.bool r) := by
  unfold linear_digit at H
  refine acallX Tryz.func225 9 [.tmp 2] (by kernel_rfl) (by kernel_rfl) ?_
  refine bsp H (fun c1 H2 => ?_) (fun c3 H4 => ?_)
  · have c1p := of_decide_eq_true c1
    refine some_e H2 fun e5 => ?_
    subst e5
    exact p_ret Tryz.mo 5 [.rg 0 [] [.v], .rg 0 [] [.v, .e (.bool true), .v, .v, .v, .v, .v]] [] [] (all_cons (congrArg (AV.bool) c1) all_nil) (by kernel_rfl)
  · have c3p := of_decide_eq_false c3
    refine some_e H4 fun e6 => ?_
    subst e6
    exact p_ret Tryz.mo 5 [.rg 0 [] [.v], .rg 0 [] [.v, .e (.bool false), .v, .s, .s, .v, .v]] [] [] (all_cons (congrArg (AV.bool) c3) all_nil) (by kernel_rfl)
/-- framewise/linear.letter -/
def linear_letter (x0 : UInt8) : Option Bool :=
  bif decide (((x0).toNat : Int) ≥ 97) then (
    bif decide (((x0).toNat : Int) ≤ 122) then (
      some true
    ) else (
      bif (((x0).toNat : Int) == 95) then (
        some true
      ) else (
        (linear_digit x0).bind fun y43 =>
        some y43
      )
    )
  ) else (
    bif (((x0).toNat : Int) == 95) then (
      some true
    ) else (
      (linear_digit x0).bind fun y55 =>
      some y55
    )
  )
theorem linear_letter_c (x0 : UInt8) (r : Bool) (H : linear_letter x0 = some r) : AFn Tryz.prog 229 [.int .u8 ((x0).toNat : Int)] (.bool r) := by
  unfold linear_letter at H
  refine acallX Tryz.func229 17 [.tmp 2] (by kernel_rfl) (by kernel_rfl) ?_
  refine bsp H (fun c19 H20 => ?_) (fun c21 H22 => ?_)
  · have c19p := of_decide_eq_true c19
    refine bsp H20 (fun c30 H31 => ?_) (fun c32 H33 => ?_)
    · have c30p := of_decide_eq_true c30
      refine some_e H31 fun e34 => ?_
      subst e34
      exact p_ret Tryz.mo 5 [.rg 0 [] [.v], .rg 0 [] [.v, .e (.bool true), .v, .v, .e (.bool true), .v, .v, .s, .s, .v, .v, .s, .s, .v, .v]] [] [] (all_cons (congrArg (AV.bool) c19) (all_cons (congrArg (AV.bool) c30) all_nil)) (by kernel_rfl)
    · have c32p := of_decide_eq_false c32
      refine bsp H33 (fun c38 H39 => ?_) (fun c40 H41 => ?_)
      · refine some_e H39 fun e42 => ?_
        subst e42
        exact p_ret Tryz.mo 5 [.rg 0 [] [.v], .rg 0 [] [.v, .e (.bool true), .v, .v, .e (.bool false), .v, .v, .v, .e (.bool true), .v, .v, .s, .s, .v, .v]] [] [] (all_cons (congrArg (AV.bool) c19) (all_cons (congrArg (AV.bool) c32) (all_cons (congrArg (AV.bool) c38) all_nil))) (by kernel_rfl)
      · refine bnd H41 fun y43 h44 H45 => ?_
        refine some_e H45 fun e46 => ?_
        subst e46
        exact p_ret Tryz.mo 5 [.rg 0 [] [.v], .rg 0 [] [.v, .e (.bool true), .v, .v, .e (.bool false), .v, .v, .v, .e (.bool false), .v, .v, .v, .c true (.bool y43), .v, .v]] [] [] (all_cons (congrArg (AV.bool) c19) (all_cons (congrArg (AV.bool) c32) (all_cons (congrArg (AV.bool) c40) (all_cons Tryz.call225 (all_cons (AFn.is (linear_digit_c x0 y43 h44)) all_nil))))) (by kernel_rfl)
  · have c21p := of_decide_eq_false c21
    refine bsp H22 (fun c50 H51 => ?_) (fun c52 H53 => ?_)
    · refine some_e H51 fun e54 => ?_
      subst e54
      exact p_ret Tryz.mo 5 [.rg 0 [] [.v], .rg 0 [] [.v, .e (.bool false), .v, .s, .s, .v, .v, .v, .e (.bool true), .v, .v, .s, .s, .v, .v]] [] [] (all_cons (congrArg (AV.bool) c21) (all_cons (congrArg (AV.bool) c50) all_nil)) (by kernel_rfl)
    · refine bnd H53 fun y55 h56 H57 => ?_
      refine some_e H57 fun e58 => ?_
      subst e58
      exact p_ret Tryz.mo 5 [.rg 0 [] [.v], .rg 0 [] [.v, .e (.bool false), .v, .s, .s, .v, .v, .v, .e (.bool false), .v, .v, .v, .c true (.bool y55), .v, .v]] [] [] (all_cons (congrArg (AV.bool) c21) (all_cons (congrArg (AV.bool) c52) (all_cons Tryz.call225 (all_cons (AFn.is (linear_digit_c x0 y55 h56)) all_nil)))) (by kernel_rfl)
/-- (*framewise/linear.reader).take -/
def linear_reader_take (x0 : Str) (x1 : Int) (x2 : (List (Str × Int))) : Option (Str × Str) :=
  (cnt (σ := Unit) (ε := Nat) (ρ := Empty) (fun i134 s133 =>
    (linear_letter (x0.getD i134 0)).bind fun y170 =>
    bif y170 then (
      some (.go ())
    ) else (
      some (.brk i134)
    )
  ) (fun i134 s133 => i134) (x0.length - 0) 0 ()).bind <| aftE fun u184 =>
  grd (u184 ≤ x0.length) <|
  some ((x0.take u184), (x0.drop u184))
def linear_reader_take_S1 (x0 : Str) (x1 : Int) (x2 : (List (Str × Int))) (i134 : Nat) (s133 : Unit) : AS := ⟨42, [(0, .hptr 1000 0), (1, .fn 229 []), (4, .str []), (5, .int .i64 ((i134 : Nat) : Int))], [(1000, .cells 165 [.str x0, .int .i64 x1, .amap 1001]), (1001, .smap 9 3 (x2.map (mapV cInt_i64)))]⟩
def linear_reader_take_S2 (x0 : Str) (x1 : Int) (x2 : (List (Str × Int))) (u160 : Nat) : AS := ⟨42, [(0, .hptr 1000 0), (4, .str []), (5, .int .i64 ((u160 : Nat) : Int))], [(1000, .cells 165 [.str x0, .int .i64 x1, .amap 1001]), (1001, .smap 9 3 (x2.map (mapV cInt_i64)))]⟩
theorem linear_reader_take_c (x0 : Str) (x1 : Int) (x2 : (List (Str × Int))) (r : (Str × Str)) (H : linear_reader_take x0 x1 x2 = some r) : ACall Tryz.prog 270 [.hptr 1000 0, .fn 229 []] [(1000, .cells 165 [.str x0, .int .i64 x1, .amap 1001]), (1001, .smap 9 3 (x2.map (mapV cInt_i64)))] (fun r2 h2 => r2 = (.str r.1) ∧ h2 = [(1000, .cells 165 [.str r.2, .int .i64 x1, .amap 1001]), (1001, .smap 9 3 (x2.map (mapV cInt_i64)))]) := by
  unfold linear_reader_take at H
  refine acallX Tryz.func270 42 [.tmp 4] (by kernel_rfl) (by kernel_rfl) ?_
  refine p_at Tryz.mo 6 [.rg 0 [] [.v], .rg 0 [] [.v]] [.only [0, 1, 4, 5] [1000, 1001]] 6 [] (linear_reader_take_S1 x0 x1 x2 0 ()) all_nil (by kernel_rfl) ?_
  refine bnd H fun R157 h158 H159 => ?_
  refine p_joinO 1 (linear_reader_take_S2 x0 x1 x2) R157 (by kernel_rfl) ?_ (fun u184 e185 => ?_)
  · refine p_cnt (linear_reader_take_S1 x0 x1 x2) (by kernel_rfl) h158 (fun i134 s133 h161 e162 => ?_) (fun i134 s133 h169 q165 h166 h167 => ?_)
    · have c163 : decide (((i134 : Nat) : Int) < ((x0.length : Nat) : Int)) = false := decide_eq_false (by omega)
      subst e162
      exact p_bar Tryz.mo 5 [.rg 0 [] [.v, .v, .v, .v, .v, .v, .e (.bool false), .v, .s, .s, .s, .s, .s, .s, .s, .s, .v]] [.only [0, 4, 5] [1000, 1001]] (linear_reader_take_S2 x0 x1 x2 i134) (all_cons trivial (all_cons (congrArg (AV.bool) c163) all_nil)) (by kernel_rfl)
    · have c168 : decide (((i134 : Nat) : Int) < ((x0.length : Nat) : Int)) = true := decide_eq_true (by omega)
      refine bnd h166 fun y170 h171 H172 => ?_
      refine bsp H172 (fun c173 H174 => ?_) (fun c175 H176 => ?_)
      · refine t_lensH 1000 0 (ps := [x0.length ≤ 9223372036854775807]) (by kernel_rfl) (fun l179 => ?_)
        have l180 : x0.length ≤ 9223372036854775807 := by simpa only [All, List.length_map] using l179
        clear l179
        refine some_e H174 fun e181 => ?_
        subst e181
        exact p_bar Tryz.mo 8 [.rg 0 [] [.v, .v, .v, .v, .v, .v, .e (.bool true), .v, .v, .v, .v, .v, .v, .v, .v, .c true (.bool y170), .v], .eqT 23 (.bool true), .rg 0 [] [.v, .v, .v]] [.only [0, 1, 4, 5] [1000, 1001]] (linear_reader_take_S1 x0 x1 x2 (i134 + 1) ()) (all_cons trivial (all_cons (congrArg (AV.bool) c168) (all_cons (show (0 : Int) ≤ ((i134 : Nat) : Int) ∧ ((i134 : Nat) : Int) < (x0.length : Int) from by omega) (all_cons Tryz.call229 (all_cons (AFn.is (linear_letter_c (x0.getD i134 0) y170 h171)) (all_cons (congrArg (AV.bool) c173) (all_cons (show I64 (((i134 : Nat) : Int) + 1) from by unfold I64; omega) all_nil))))))) (by kernel_rfl)
      · refine some_e H176 fun e182 => ?_
        subst e182
        have e183 := out_brk h167
        subst e183
        exact p_bar Tryz.mo 6 [.rg 0 [] [.v, .v, .v, .v, .v, .v, .e (.bool true), .v, .v, .v, .v, .v, .v, .v, .v, .c true (.bool y170), .v], .eqT 23 (.bool false)] [.only [0, 4, 5] [1000, 1001]] (linear_reader_take_S2 x0 x1 x2 i134) (all_cons trivial (all_cons (congrArg (AV.bool) c168) (all_cons (show (0 : Int) ≤ ((i134 : Nat) : Int) ∧ ((i134 : Nat) : Int) < (x0.length : Int) from by omega) (all_cons Tryz.call229 (all_cons (AFn.is (linear_letter_c (x0.getD i134 0) y170 h171)) (all_cons (congrArg (AV.bool) c175) all_nil)))))) (by kernel_rfl)
  · subst e185
    have H186 := aftE_brk H159
    refine grd_e H186 fun g187 H188 => ?_
    refine some_e H188 fun e189 => ?_
    subst e189
    exact p_ret Tryz.mo 7 [.rg 0 [] [.v, .v, .v, .v, .v, .e (.str (x0.take u184)), .v], .rg 0 [] [.v, .v, .v, .v, .v, .v, .e (.str (x0.drop u184)), .v, .v, .m], .rg 0 [] [.v, .v]] [] [1000, 1001] (all_cons (show (0 : Int) ≤ 0 ∧ 0 ≤ ((u184 : Nat) : Int) ∧ ((u184 : Nat) : Int) ≤ (x0.length : Int) from by omega) (all_cons (sl_take x0 u184) (all_cons (show (0 : Int) ≤ ((u184 : Nat) : Int) ∧ ((u184 : Nat) : Int) ≤ (x0.length : Int) ∧ (x0.length : Int) ≤ (x0.length : Int) from by omega) (all_cons (sl_drop x0 u184) all_nil)))) (by kernel_rfl)
/-- (*framewise/linear.reader).variable -/
def linear_reader_variable (x0 : Str) (x1 : Int) (x2 : (List (Str × Int))) : Option ((Str × Bool) × Str) :=
  (linear_reader_take x0 x1 x2).bind fun y7 =>
  (linear_Name y7.1).bind fun y10 =>
  some ((y7.1, y10), y7.2)
theorem linear_reader_variable_c (x0 : Str) (x1 : Int) (x2 : (List (Str × Int))) (r : ((Str × Bool) × Str)) (H : linear_reader_variable x0 x1 x2 = some r) : ACall Tryz.prog 226 [.hptr 1000 0] [(1000, .cells 165 [.str x0, .int .i64 x1, .amap 1001]), (1001, .smap 9 3 (x2.map (mapV cInt_i64)))] (fun r2 h2 => r2 = (.tup [.str r.1.1, .bool r.1.2]) ∧ h2 = [(1000, .cells 165 [.str r.2, .int .i64 x1, .amap 1001]), (1001, .smap 9 3 (x2.map (mapV cInt_i64)))]) := by
  unfold linear_reader_variable at H
  refine acallX Tryz.func226 10 [.tmp 2, .tmp 3] (by kernel_rfl) (by kernel_rfl) ?_
  refine bnd H fun y7 h8 H9 => ?_
  refine bnd H9 fun y10 h11 H12 => ?_
  refine some_e H12 fun e13 => ?_
  subst e13
  exact p_ret Tryz.mo 7 [.rg 0 [] [.v, .v], .rg 0 [] [.v, .hR [(1000, 1000), (1001, 1001)] 6 (.str y7.1) [(1000, .cells 165 [.str y7.2, .int .i64 x1, .amap 1001]), (1001, .smap 9 3 (x2.map (mapV cInt_i64)))], .v], .rg 0 [] [.v, .v, .c true (.bool y10), .v, .v]] [] [1000, 1001] (all_cons Tryz.call270 (all_cons (linear_reader_take_c x0 x1 x2 y7 h8) (all_cons Tryz.call96 (all_cons (AFn.is (linear_Name_c y7.1 y10 h11)) all_nil)))) (by kernel_rfl)

end Go.Proofs.YtjfpcjnopbfekaaGreatDoor
