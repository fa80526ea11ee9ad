/- What functions of the program compute, walked: each as a plain function, with the theorem that the code computes it wherever that answers. Printed by a program, part 1. -/
import Derived.Test.YtjfpcjnopbfekaaGreatDoorFrdPolyRing
import Derived.KernelRfl
import Derived.Test.YtjfpcjnopbfekaaGreatDoorProg
set_option linter.unusedSimpArgs false
set_option linter.unusedVariables false
namespace Go.Proofs.YtjfpcjnopbfekaaGreatDoor
open Go.RowKit Go.Ab Go.Sh
structure Monomial where
  Coef : Int
  Vars : (List Str)
  deriving DecidableEq
def cStr (x : Str) : List AV := [.str x]
theorem cStr_len (x : Str) : (cStr x).length = 1 := rfl
theorem cStr_ok (x : Str) : (cStr x).length = 1 ∧ (cStr x).all (fun v => v.one && v.fl) = true := ⟨rfl, rfl⟩
def cMonomial (x : Monomial) : List AV := [.int .i64 x.Coef, .dslice (x.Vars.map cStr)]
theorem cMonomial_len (x : Monomial) : (cMonomial x).length = 2 := rfl
theorem cMonomial_ok (x : Monomial) : (cMonomial x).length = 2 ∧ (cMonomial x).all (fun v => v.one && v.fl) = true := ⟨rfl, rfl⟩
structure Coef where
  Var : Str
  C : Int
  deriving DecidableEq
def cCoef (x : Coef) : List AV := [.str x.Var, .int .i64 x.C]
theorem cCoef_len (x : Coef) : (cCoef x).length = 2 := rfl
theorem cCoef_ok (x : Coef) : (cCoef x).length = 2 ∧ (cCoef x).all (fun v => v.one && v.fl) = true := ⟨rfl, rfl⟩
structure Linear where
  Const : Int
  Terms : (List Coef)
  deriving DecidableEq
def cLinear (x : Linear) : List AV := [.int .i64 x.Const, .dslice (x.Terms.map cCoef)]
theorem cLinear_len (x : Linear) : (cLinear x).length = 2 := rfl
theorem cLinear_ok (x : Linear) : (cLinear x).length = 2 ∧ (cLinear x).all (fun v => v.one && v.fl) = true := ⟨rfl, rfl⟩
def cByte (x : UInt8) : List AV := [.int .u8 ((x).toNat : Int)]
theorem cByte_len (x : UInt8) : (cByte x).length = 1 := rfl
theorem cByte_ok (x : UInt8) : (cByte x).length = 1 ∧ (cByte x).all (fun v => v.one && v.fl) = true := ⟨rfl, rfl⟩
def cL_cStr (x : (List Str)) : List AV := [.dslice (x.map cStr)]
theorem cL_cStr_len (x : (List Str)) : (cL_cStr x).length = 1 := rfl
theorem cL_cStr_ok (x : (List Str)) : (cL_cStr x).length = 1 ∧ (cL_cStr x).all (fun v => v.one && v.fl) = true := ⟨rfl, rfl⟩
def cInt_i64 (x : Int) : List AV := [.int .i64 x]
theorem cInt_i64_len (x : Int) : (cInt_i64 x).length = 1 := rfl
theorem cInt_i64_ok (x : Int) : (cInt_i64 x).length = 1 ∧ (cInt_i64 x).all (fun v => v.one && v.fl) = true := ⟨rfl, rfl⟩
def cL_cInt_i64 (x : (List Int)) : List AV := [.dslice (x.map cInt_i64)]
theorem cL_cInt_i64_len (x : (List Int)) : (cL_cInt_i64 x).length = 1 := rfl
theorem cL_cInt_i64_ok (x : (List Int)) : (cL_cInt_i64 x).length = 1 ∧ (cL_cInt_i64 x).all (fun v => v.one && v.fl) = true := ⟨rfl, rfl⟩
def cL_cMonomial (x : (List Monomial)) : List AV := [.dslice (x.map cMonomial)]
theorem cL_cMonomial_len (x : (List Monomial)) : (cL_cMonomial x).length = 1 := rfl
theorem cL_cMonomial_ok (x : (List Monomial)) : (cL_cMonomial x).length = 1 ∧ (cL_cMonomial x).all (fun v => v.one && v.fl) = true := ⟨rfl, rfl⟩
structure Value where
  Var : Str
  N : Int
  deriving DecidableEq
def cValue (x : Value) : List AV := [.str x.Var, .int .i64 x.N]
theorem cValue_len (x : Value) : (cValue x).length = 2 := rfl
theorem cValue_ok (x : Value) : (cValue x).length = 2 ∧ (cValue x).all (fun v => v.one && v.fl) = true := ⟨rfl, rfl⟩
/-- internal/stringslite.HasPrefix -/
def internal_stringslite_HasPrefix (x0 : Str) (x1 : Str) : Option Bool :=
  bif decide (((x0.length : Nat) : Int) ≥ ((x1.length : Nat) : Int)) then (
    grd (x1.length ≤ x0.length) <|
    some ((x0.take x1.length) == x1)
  ) else (
    some false
  )
theorem internal_stringslite_HasPrefix_c (x0 : Str) (x1 : Str) (r : Bool) (H : internal_stringslite_HasPrefix x0 x1 = some r) : AFn Tryz.prog 220 [.str x0, .str x1] (.bool r) := by
  unfold internal_stringslite_HasPrefix at H
  refine acallX Tryz.func220 18 [.tmp 4] (by kernel_rfl) (by kernel_rfl) ?_
  refine bsp H (fun c3 H4 => ?_) (fun c5 H6 => ?_)
  · have c3p := of_decide_eq_true c3
    refine grd_e H4 fun g7 H8 => ?_
    refine some_e H8 fun e9 => ?_
    subst e9
    exact p_ret Tryz.mo 5 [.rg 0 [] [.v], .rg 0 [] [.v, .v, .v, .v, .e (.bool true), .v, .v, .v, .v, .e (.str (x0.take x1.length)), .v, .v, .v, .v]] [] [] (all_cons trivial (all_cons trivial (all_cons (congrArg (AV.bool) c3) (all_cons trivial (all_cons (show (0 : Int) ≤ 0 ∧ 0 ≤ ((x1.length : Nat) : Int) ∧ ((x1.length : Nat) : Int) ≤ (x0.length : Int) from by omega) (all_cons (sl_take x0 x1.length) all_nil)))))) (by kernel_rfl)
  · have c5p := of_decide_eq_false c5
    refine some_e H6 fun e10 => ?_
    subst e10
    exact p_ret Tryz.mo 5 [.rg 0 [] [.v], .rg 0 [] [.v, .v, .v, .v, .e (.bool false), .v, .s, .s, .s, .s, .s, .s, .v, .v]] [] [] (all_cons trivial (all_cons trivial (all_cons (congrArg (AV.bool) c5) all_nil))) (by kernel_rfl)
/-- strings.HasPrefix -/
def strings_HasPrefix (x0 : Str) (x1 : Str) : Option Bool :=
  (internal_stringslite_HasPrefix x0 x1).bind fun y1 =>
  some y1
theorem strings_HasPrefix_c (x0 : Str) (x1 : Str) (r : Bool) (H : strings_HasPrefix x0 x1 = some r) : AFn Tryz.prog 166 [.str x0, .str x1] (.bool r) := by
  unfold strings_HasPrefix at H
  refine acallX Tryz.func166 8 [.tmp 4] (by kernel_rfl) (by kernel_rfl) ?_
  refine bnd H fun y1 h2 H3 => ?_
  refine some_e H3 fun e4 => ?_
  subst e4
  exact p_ret Tryz.mo 5 [.rg 0 [] [.v], .rg 0 [] [.v, .v, .c true (.bool y1), .v]] [] [] (all_cons Tryz.call220 (all_cons (AFn.is (internal_stringslite_HasPrefix_c x0 x1 y1 h2)) all_nil)) (by kernel_rfl)
/-- framewise/linear.Name -/
def linear_Name (x0 : Str) : Option Bool :=
  (strings_HasPrefix x0 [95]).bind fun y1 =>
  bif y1 then (
    grd (1 ≤ x0.length) <|
    (lib_Atoi (x0.drop 1)).bind fun y51 =>
    bif y51.2 then (
      bif decide (y51.1 > 0) then (
        bif decide (((x0.length : Nat) : Int) ≤ 10) then (
          (lib_Itoa y51.1).bind fun y87 =>
          some (y87 == (x0.drop 1))
        ) else (
          some false
        )
      ) else (
        some false
      )
    ) else (
      some false
    )
  ) else (
    (cnt (σ := Unit) (ε := Unit) (ρ := Bool) (fun i214 s213 =>
      ((
        bif decide ((((x0.getD i214 0)).toNat : Int) < 97) then (
          bif (((i214 : Nat) : Int) == 0) then (
            some (.ret (.ret false))
          ) else (
            bif decide ((((x0.getD i214 0)).toNat : Int) < 48) then (
              some (.ret (.ret false))
            ) else (
              bif decide ((((x0.getD i214 0)).toNat : Int) > 57) then (
                some (.ret (.ret false))
              ) else (
                some (.brk ())
              )
            )
          )
        ) else (
          bif decide ((((x0.getD i214 0)).toNat : Int) > 122) then (
            bif (((i214 : Nat) : Int) == 0) then (
              some (.ret (.ret false))
            ) else (
              bif decide ((((x0.getD i214 0)).toNat : Int) < 48) then (
                some (.ret (.ret false))
              ) else (
                bif decide ((((x0.getD i214 0)).toNat : Int) > 57) then (
                  some (.ret (.ret false))
                ) else (
                  some (.brk ())
                )
              )
            )
          ) else (
            some (.brk ())
          )
        )
      ) : Option (Out Unit (Stp Unit Unit Bool))).bind (aft fun u389 =>
        some (.go ())
      )
    ) (fun i214 s213 => ()) (x0.length - 0) 0 ()).bind <| aft fun u468 =>
    bif (x0 == []) then (
      some false
    ) else (
      some (decide (((x0.length : Nat) : Int) ≤ 30))
    )
  )
def linear_Name_S1 (x0 : Str) (i214 : Nat) (s213 : Unit) : AS := ⟨67, [(0, .str x0), (2, .bool false), (34, .dslice (x0.map cByte)), (35, .int .i64 ((x0.length : Nat) : Int)), (36, .int .i64 ((i214 : Nat) : Int))], []⟩
def linear_Name_S2 (x0 : Str) (u320 : Unit) : AS := ⟨67, [(0, .str x0), (2, .bool false)], []⟩
def linear_Name_S3 (x0 : Str) (i214 : Nat) (u389 : Unit) : AS := ⟨67, [(0, .str x0), (2, .bool false), (34, .dslice (x0.map cByte)), (35, .int .i64 ((x0.length : Nat) : Int)), (36, .int .i64 ((i214 : Nat) : Int))], []⟩
theorem linear_Name_c (x0 : Str) (r : Bool) (H : linear_Name x0 = some r) : AFn Tryz.prog 96 [.str x0] (.bool r) := by
  unfold linear_Name at H
  refine acallX Tryz.func96 67 [.tmp 2] (by kernel_rfl) (by kernel_rfl) ?_
  refine bnd H fun y1 h2 H3 => ?_
  refine bsp H3 (fun c45 H46 => ?_) (fun c47 H48 => ?_)
  · refine grd_e H46 fun g49 H50 => ?_
    refine bnd H50 fun y51 h52 H53 => ?_
    refine p_at Tryz.mo 10 [.rg 0 [] [.v], .rg 0 [] [.v, .c true (.bool y1)], .eqT 8 (.bool true), .rg 0 [] [.v, .e (.str (x0.drop 1)), .cf true (.tup [.int .i64 y51.1, errV 272 y51.2]), .v, .v, .v, .v, .v]] [.only [0, 2, 3, 4] []] 9 [true] ⟨67, [(0, .str x0), (2, .bool false), (3, .int .i64 y51.1), (4, errV 272 y51.2)], []⟩ (all_cons Tryz.call166 (all_cons (AFn.is (strings_HasPrefix_c x0 [95] y1 h2)) (all_cons (congrArg (AV.bool) c45) (all_cons (show (0 : Int) ≤ 1 ∧ 1 ≤ (x0.length : Int) ∧ (x0.length : Int) ≤ (x0.length : Int) from by omega) (all_cons (sl_drop x0 1) (all_cons Tryz.call167 (all_cons (AFn.is (lib_Atoi_c (x0.drop 1) y51 h52)) (all_cons (show okRes true (.tup [.int .i64 y51.1, errV 272 y51.2]) = true from by cases h0 : y51.2 <;> rfl) all_nil)))))))) (by kernel_rfl) ?_
    refine bsp H53 (fun c65 H66 => ?_) (fun c67 H68 => ?_)
    · refine bsp H66 (fun c76 H77 => ?_) (fun c78 H79 => ?_)
      · have c76p := of_decide_eq_true c76
        refine bsp H77 (fun c83 H84 => ?_) (fun c85 H86 => ?_)
        · have c83p := of_decide_eq_true c83
          refine bnd H84 fun y87 h88 H89 => ?_
          refine some_e H89 fun e90 => ?_
          subst e90
          exact p_ret Tryz.mo 3 [.eqT 4 (.nilI), .rg 16 [.v, .v, .v, .v, .e (.bool true), .v, .v, .v, .v, .e (.bool true), .v, .v, .v, .c true (.str y87), .v, .e (.str (x0.drop 1))] [.v, .v, .v]] [] [] (all_cons (congrArg (errV 272) c65) (all_cons (congrArg (AV.bool) c76) (all_cons trivial (all_cons (congrArg (AV.bool) c83) (all_cons Tryz.call168 (all_cons (AFn.is (lib_Itoa_c y51.1 y87 h88)) (all_cons (show (0 : Int) ≤ 1 ∧ 1 ≤ (x0.length : Int) ∧ (x0.length : Int) ≤ (x0.length : Int) from by omega) (all_cons (sl_drop x0 1) all_nil)))))))) (by kernel_rfl)
        · have c85p := of_decide_eq_false c85
          refine some_e H86 fun e91 => ?_
          subst e91
          exact p_ret Tryz.mo 3 [.eqT 4 (.nilI), .rg 16 [.v, .v, .v, .v, .e (.bool true), .v, .v, .v, .v, .e (.bool false), .v, .v, .s, .s, .s, .s] [.s, .v, .v]] [] [] (all_cons (congrArg (errV 272) c65) (all_cons (congrArg (AV.bool) c76) (all_cons trivial (all_cons (congrArg (AV.bool) c85) all_nil)))) (by kernel_rfl)
      · have c78p := of_decide_eq_false c78
        refine some_e H79 fun e92 => ?_
        subst e92
        exact p_ret Tryz.mo 3 [.eqT 4 (.nilI), .rg 16 [.v, .v, .v, .v, .e (.bool false), .v, .v, .s, .s, .s, .v, .v, .s, .s, .s, .s] [.s, .v, .v]] [] [] (all_cons (congrArg (errV 272) c65) (all_cons (congrArg (AV.bool) c78) all_nil)) (by kernel_rfl)
    · refine some_e H68 fun e93 => ?_
      subst e93
      exact p_ret Tryz.mo 3 [.eqT 4 (.iface 272 (.any)), .rg 16 [.v, .v, .v, .s, .s, .v, .v, .s, .s, .s, .v, .v, .s, .s, .s, .s] [.s, .v, .v]] [] [] (all_cons (congrArg (errV 272) c67) all_nil) (by kernel_rfl)
  · refine p_at Tryz.mo 12 [.rg 0 [] [.v], .rg 0 [] [.v, .c true (.bool y1)], .eqT 8 (.bool false), .rg 0 [] [.v, .m, .e (.int .i64 ((x0.length : Nat) : Int)), .v]] [.only [0, 2, 34, 35, 36] []] 11 [false] (linear_Name_S1 x0 0 ()) (all_cons Tryz.call166 (all_cons (AFn.is (strings_HasPrefix_c x0 [95] y1 h2)) (all_cons (congrArg (AV.bool) c47) (all_cons trivial (all_cons (lenm cByte x0) all_nil))))) (by kernel_rfl) ?_
    refine bnd H48 fun R317 h318 H319 => ?_
    refine p_joinO 1 (linear_Name_S2 x0) R317 (by kernel_rfl) ?_ (fun u468 e469 => ?_)
    · refine p_cnt (linear_Name_S1 x0) (by kernel_rfl) h318 (fun i214 s213 h321 e322 => ?_) (fun i214 s213 h329 q325 h326 h327 => ?_)
      · have c323 : decide (((i214 : Nat) : Int) < ((x0.length : Nat) : Int)) = false := decide_eq_false (by omega)
        subst e322
        exact p_bar Tryz.mo 5 [.rg 0 [] [.e (.bool false)]] [.only [0, 2] []] (linear_Name_S2 x0 ()) (all_cons (congrArg (AV.bool) c323) all_nil) (by kernel_rfl)
      · have c328 : decide (((i214 : Nat) : Int) < ((x0.length : Nat) : Int)) = true := decide_eq_true (by omega)
        refine p_at Tryz.mo 10 [.rg 0 [] [.e (.bool true)], .rg 0 [] [.v, .e (.dptr [.int .u8 (((x0.getD i214 0)).toNat : Int)]), .v, .v, .v]] [.only [0, 2, 5, 6, 34, 35, 36] []] 10 [true] ⟨67, [(0, .str x0), (2, .bool false), (5, .int .i64 ((i214 : Nat) : Int)), (6, .int .u8 (((x0.getD i214 0)).toNat : Int)), (34, .dslice (x0.map cByte)), (35, .int .i64 ((x0.length : Nat) : Int)), (36, .int .i64 ((i214 : Nat) : Int))], []⟩ (all_cons (congrArg (AV.bool) c328) (all_app (ix (f := cByte) (l := x0) (n := i214) 0 cByte_len (by decide) (by omega)) all_nil)) (by kernel_rfl) ?_
        refine bnd h326 fun v386 h387 H388 => ?_
        refine p_joinO 2 (linear_Name_S3 x0 i214) v386 (by kernel_rfl) ?_ (fun u389 e467 => ?_)
        · refine bsp h387 (fun c390 H391 => ?_) (fun c392 H393 => ?_)
          · have c390p := of_decide_eq_true c390
            refine bsp H391 (fun c394 H395 => ?_) (fun c396 H397 => ?_)
            · refine some_e H395 fun e398 => ?_
              subst e398
              have H399 := aft_ret H388
              refine some_e H399 fun e400 => ?_
              subst e400
              have e401 := out_ret h327
              subst e401
              have H402 := aft_ret H319
              refine some_e H402 fun e403 => ?_
              subst e403
              exact p_ret Tryz.mo 5 [.rg 0 [] [.v, .e (.bool true), .v, .s, .s, .v, .v, .v, .e (.bool true), .v, .s, .s, .v, .v, .s, .s, .v, .v], .rg 0 [] [.v]] [] [] (all_cons (congrArg (AV.bool) c390) (all_cons (congrArg (AV.bool) c394) all_nil)) (by kernel_rfl)
            · refine bsp H397 (fun c404 H405 => ?_) (fun c406 H407 => ?_)
              · have c404p := of_decide_eq_true c404
                refine some_e H405 fun e408 => ?_
                subst e408
                have H409 := aft_ret H388
                refine some_e H409 fun e410 => ?_
                subst e410
                have e411 := out_ret h327
                subst e411
                have H412 := aft_ret H319
                refine some_e H412 fun e413 => ?_
                subst e413
                exact p_ret Tryz.mo 5 [.rg 0 [] [.v, .e (.bool true), .v, .s, .s, .v, .v, .v, .e (.bool false), .v, .v, .e (.bool true), .v, .v, .s, .s, .v, .v], .rg 0 [] [.v]] [] [] (all_cons (congrArg (AV.bool) c390) (all_cons (congrArg (AV.bool) c396) (all_cons (congrArg (AV.bool) c404) all_nil))) (by kernel_rfl)
              · have c406p := of_decide_eq_false c406
                refine bsp H407 (fun c414 H415 => ?_) (fun c416 H417 => ?_)
                · have c414p := of_decide_eq_true c414
                  refine some_e H415 fun e418 => ?_
                  subst e418
                  have H419 := aft_ret H388
                  refine some_e H419 fun e420 => ?_
                  subst e420
                  have e421 := out_ret h327
                  subst e421
                  have H422 := aft_ret H319
                  refine some_e H422 fun e423 => ?_
                  subst e423
                  exact p_ret Tryz.mo 6 [.rg 0 [] [.v, .e (.bool true), .v, .s, .s, .v, .v, .v, .e (.bool false), .v, .v, .e (.bool false), .v, .v, .v, .v, .v, .v], .eqT 58 (.bool true), .rg 0 [] [.v]] [] [] (all_cons (congrArg (AV.bool) c390) (all_cons (congrArg (AV.bool) c396) (all_cons (congrArg (AV.bool) c406) (all_cons (congrArg (AV.bool) c414) all_nil)))) (by kernel_rfl)
                · have c416p := of_decide_eq_false c416
                  refine some_e H417 fun e424 => ?_
                  subst e424
                  exact p_bar Tryz.mo 4 [.rg 0 [] [.v, .e (.bool true), .v, .s, .s, .v, .v, .v, .e (.bool false), .v, .v, .e (.bool false), .v, .v, .v, .v, .v, .v], .eqT 58 (.bool false)] [.only [0, 2, 34, 35, 36] []] (linear_Name_S3 x0 i214 ()) (all_cons (congrArg (AV.bool) c390) (all_cons (congrArg (AV.bool) c396) (all_cons (congrArg (AV.bool) c406) (all_cons (congrArg (AV.bool) c416) all_nil)))) (by kernel_rfl)
          · have c392p := of_decide_eq_false c392
            refine bsp H393 (fun c425 H426 => ?_) (fun c427 H428 => ?_)
            · have c425p := of_decide_eq_true c425
              refine bsp H426 (fun c429 H430 => ?_) (fun c431 H432 => ?_)
              · refine some_e H430 fun e433 => ?_
                subst e433
                have H434 := aft_ret H388
                refine some_e H434 fun e435 => ?_
                subst e435
                have e436 := out_ret h327
                subst e436
                have H437 := aft_ret H319
                refine some_e H437 fun e438 => ?_
                subst e438
                exact p_ret Tryz.mo 5 [.rg 0 [] [.v, .e (.bool false), .v, .v, .e (.bool true), .v, .v, .v, .e (.bool true), .v, .s, .s, .v, .v, .s, .s, .v, .v], .rg 0 [] [.v]] [] [] (all_cons (congrArg (AV.bool) c392) (all_cons (congrArg (AV.bool) c425) (all_cons (congrArg (AV.bool) c429) all_nil))) (by kernel_rfl)
              · refine bsp H432 (fun c439 H440 => ?_) (fun c441 H442 => ?_)
                · have c439p := of_decide_eq_true c439
                  refine some_e H440 fun e443 => ?_
                  subst e443
                  have H444 := aft_ret H388
                  refine some_e H444 fun e445 => ?_
                  subst e445
                  have e446 := out_ret h327
                  subst e446
                  have H447 := aft_ret H319
                  refine some_e H447 fun e448 => ?_
                  subst e448
                  exact p_ret Tryz.mo 5 [.rg 0 [] [.v, .e (.bool false), .v, .v, .e (.bool true), .v, .v, .v, .e (.bool false), .v, .v, .e (.bool true), .v, .v, .s, .s, .v, .v], .rg 0 [] [.v]] [] [] (all_cons (congrArg (AV.bool) c392) (all_cons (congrArg (AV.bool) c425) (all_cons (congrArg (AV.bool) c431) (all_cons (congrArg (AV.bool) c439) all_nil)))) (by kernel_rfl)
                · have c441p := of_decide_eq_false c441
                  refine bsp H442 (fun c449 H450 => ?_) (fun c451 H452 => ?_)
                  · have c449p := of_decide_eq_true c449
                    refine some_e H450 fun e453 => ?_
                    subst e453
                    have H454 := aft_ret H388
                    refine some_e H454 fun e455 => ?_
                    subst e455
                    have e456 := out_ret h327
                    subst e456
                    have H457 := aft_ret H319
                    refine some_e H457 fun e458 => ?_
                    subst e458
                    exact p_ret Tryz.mo 6 [.rg 0 [] [.v, .e (.bool false), .v, .v, .e (.bool true), .v, .v, .v, .e (.bool false), .v, .v, .e (.bool false), .v, .v, .v, .v, .v, .v], .eqT 58 (.bool true), .rg 0 [] [.v]] [] [] (all_cons (congrArg (AV.bool) c392) (all_cons (congrArg (AV.bool) c425) (all_cons (congrArg (AV.bool) c431) (all_cons (congrArg (AV.bool) c441) (all_cons (congrArg (AV.bool) c449) all_nil))))) (by kernel_rfl)
                  · have c451p := of_decide_eq_false c451
                    refine some_e H452 fun e459 => ?_
                    subst e459
                    exact p_bar Tryz.mo 4 [.rg 0 [] [.v, .e (.bool false), .v, .v, .e (.bool true), .v, .v, .v, .e (.bool false), .v, .v, .e (.bool false), .v, .v, .v, .v, .v, .v], .eqT 58 (.bool false)] [.only [0, 2, 34, 35, 36] []] (linear_Name_S3 x0 i214 ()) (all_cons (congrArg (AV.bool) c392) (all_cons (congrArg (AV.bool) c425) (all_cons (congrArg (AV.bool) c431) (all_cons (congrArg (AV.bool) c441) (all_cons (congrArg (AV.bool) c451) all_nil))))) (by kernel_rfl)
            · have c427p := of_decide_eq_false c427
              refine some_e H428 fun e460 => ?_
              subst e460
              exact p_bar Tryz.mo 3 [.rg 0 [] [.v, .e (.bool false), .v, .v, .e (.bool false), .v, .v, .s, .s, .s, .s, .s, .s, .s, .s, .s, .s, .v]] [.only [0, 2, 34, 35, 36] []] (linear_Name_S3 x0 i214 ()) (all_cons (congrArg (AV.bool) c392) (all_cons (congrArg (AV.bool) c427) all_nil)) (by kernel_rfl)
        · subst e467
          have H461 := aft_brk H388
          refine t_lens 0 (ps := [x0.length ≤ 9223372036854775807]) (by kernel_rfl) (fun l464 => ?_)
          have l465 : x0.length ≤ 9223372036854775807 := by simpa only [All, List.length_map] using l464
          clear l464
          refine some_e H461 fun e466 => ?_
          subst e466
          exact p_bar Tryz.mo 1 [.rg 0 [] [.v, .v]] [.only [0, 2, 34, 35, 36] []] (linear_Name_S1 x0 (i214 + 1) ()) (all_cons (show I64 (((i214 : Nat) : Int) + 1) from by unfold I64; omega) all_nil) (by kernel_rfl)
    · subst e469
      have H470 := aft_brk H319
      refine bsp H470 (fun c471 H472 => ?_) (fun c473 H474 => ?_)
      · refine some_e H472 fun e475 => ?_
        subst e475
        exact p_ret Tryz.mo 3 [.rg 0 [] [.v, .e (.bool false), .v, .s, .s, .s, .v, .v]] [] [] (all_cons (congrArg (fun x => AV.bool (!x)) c471) all_nil) (by kernel_rfl)
      · refine some_e H474 fun e476 => ?_
        subst e476
        exact p_ret Tryz.mo 3 [.rg 0 [] [.v, .e (.bool true), .v, .v, .v, .v, .v, .v]] [] [] (all_cons (congrArg (fun x => AV.bool (!x)) c473) (all_cons trivial all_nil)) (by kernel_rfl)
/-- framewise/linear.in -/
def linear_in (x0 : Int) : Option Bool :=
  bif decide (x0 ≥ (-1000000)) then (
    some (decide (x0 ≤ 1000000))
  ) else (
    some false
  )
theorem linear_in_c (x0 : Int) (r : Bool) (H : linear_in x0 = some r) : AFn Tryz.prog 170 [.int .i64 x0] (.bool r) := by
  unfold linear_in at H
  refine acallX Tryz.func170 9 [.tmp 2] (by kernel_rfl) (by kernel_rfl) ?_
  refine bsp H (fun c1 H2 => ?_) (fun c3 H4 => ?_)
  · have c1p := of_decide_eq_true c1
    refine some_e H2 fun e5 => ?_
    subst e5
    exact p_ret Tryz.mo 5 [.rg 0 [] [.v], .rg 0 [] [.v, .e (.bool true), .v, .v, .v, .v, .v]] [] [] (all_cons (congrArg (AV.bool) c1) all_nil) (by kernel_rfl)
  · have c3p := of_decide_eq_false c3
    refine some_e H4 fun e6 => ?_
    subst e6
    exact p_ret Tryz.mo 5 [.rg 0 [] [.v], .rg 0 [] [.v, .e (.bool false), .v, .s, .s, .v, .v]] [] [] (all_cons (congrArg (AV.bool) c3) all_nil) (by kernel_rfl)
/-- framewise/linear.Valid -/
def linear_Valid (x0 : Linear) : Option Bool :=
  (cnt (σ := Unit) (ε := Unit) (ρ := Bool) (fun i127 s126 =>
    (linear_Name ((x0.Terms.getD i127 ⟨[], 0⟩).Var)).bind fun y225 =>
    ((
      bif y225 then (
        bif (((x0.Terms.getD i127 ⟨[], 0⟩).C) == 0) then (
          some (.ret (.ret false))
        ) else (
          (linear_in ((x0.Terms.getD i127 ⟨[], 0⟩).C)).bind fun y288 =>
          bif y288 then (
            bif decide (((i127 : Nat) : Int) > 0) then (
              grd (0 ≤ (w64 (((i127 : Nat) : Int) - 1)) ∧ (w64 (((i127 : Nat) : Int) - 1)) < (x0.Terms.length : Int)) <|
              bif (Op.bytesLess ((x0.Terms.getD (w64 (((i127 : Nat) : Int) - 1)).toNat ⟨[], 0⟩).Var) ((x0.Terms.getD i127 ⟨[], 0⟩).Var)) then (
                some (.brk ())
              ) else (
                some (.ret (.ret false))
              )
            ) else (
              some (.brk ())
            )
          ) else (
            some (.ret (.ret false))
          )
        )
      ) else (
        some (.ret (.ret false))
      )
    ) : Option (Out Unit (Stp Unit Unit Bool))).bind (aft fun u273 =>
      some (.go ())
    )
  ) (fun i127 s126 => ()) (x0.Terms.length - 0) 0 ()).bind <| aft fun u332 =>
  (linear_in x0.Const).bind fun y335 =>
  bif y335 then (
    some (decide (((x0.Terms.length : Nat) : Int) ≤ 12))
  ) else (
    some false
  )
def linear_Valid_S1 (x0 : Linear) (i127 : Nat) (s126 : Unit) : AS := ⟨54, [(1, .hptr 1 0), (2, .bool false), (6, .dslice (x0.Terms.map cCoef)), (7, .int .i64 ((x0.Terms.length : Nat) : Int)), (8, .int .i64 ((i127 : Nat) : Int))], [(1, .cells 39 [.int .i64 x0.Const, .dslice (x0.Terms.map cCoef)])]⟩
def linear_Valid_S2 (x0 : Linear) (u215 : Unit) : AS := ⟨54, [(1, .hptr 1 0), (2, .bool false)], [(1, .cells 39 [.int .i64 x0.Const, .dslice (x0.Terms.map cCoef)])]⟩
def linear_Valid_S3 (x0 : Linear) (i127 : Nat) (u273 : Unit) : AS := ⟨54, [(1, .hptr 1 0), (2, .bool false), (6, .dslice (x0.Terms.map cCoef)), (7, .int .i64 ((x0.Terms.length : Nat) : Int)), (8, .int .i64 ((i127 : Nat) : Int))], [(1, .cells 39 [.int .i64 x0.Const, .dslice (x0.Terms.map cCoef)])]⟩
theorem linear_Valid_c (x0 : Linear) (r : Bool) (H : linear_Valid x0 = some r) : AFn Tryz.prog 99 [.agg [.int .i64 x0.Const, .dslice (x0.Terms.map cCoef)]] (.bool r) := by
  unfold linear_Valid at H
  refine acallX Tryz.func99 54 [.tmp 2] (by kernel_rfl) (by kernel_rfl) ?_
  refine p_at Tryz.mo 6 [.rg 0 [] [.m, .v], .rg 0 [] [.v, .v, .e (.int .i64 ((x0.Terms.length : Nat) : Int)), .v]] [.only [1, 2, 6, 7, 8] [1]] 6 [] (linear_Valid_S1 x0 0 ()) (all_cons trivial (all_cons (lenm cCoef x0.Terms) all_nil)) (by kernel_rfl) ?_
  refine bnd H fun R212 h213 H214 => ?_
  refine p_joinO 1 (linear_Valid_S2 x0) R212 (by kernel_rfl) ?_ (fun u332 e333 => ?_)
  · refine p_cnt (linear_Valid_S1 x0) (by kernel_rfl) h213 (fun i127 s126 h216 e217 => ?_) (fun i127 s126 h224 q220 h221 h222 => ?_)
    · have c218 : decide (((i127 : Nat) : Int) < ((x0.Terms.length : Nat) : Int)) = false := decide_eq_false (by omega)
      subst e217
      exact p_bar Tryz.mo 5 [.rg 0 [] [.e (.bool false)]] [.only [1, 2] [1]] (linear_Valid_S2 x0 ()) (all_cons (congrArg (AV.bool) c218) all_nil) (by kernel_rfl)
    · have c223 : decide (((i127 : Nat) : Int) < ((x0.Terms.length : Nat) : Int)) = true := decide_eq_true (by omega)
      refine bnd h221 fun y225 h226 H227 => ?_
      refine p_at Tryz.mo 10 [.rg 0 [] [.e (.bool true)], .rg 0 [] [.v, .e (.dptr [.str ((x0.Terms.getD i127 ⟨[], 0⟩).Var), .int .i64 ((x0.Terms.getD i127 ⟨[], 0⟩).C)]), .v, .m, .v, .m]] [.only [1, 2, 3, 4, 6, 7, 8] [1, 4]] 10 [true] ⟨54, [(1, .hptr 1 0), (2, .bool false), (3, .int .i64 ((i127 : Nat) : Int)), (4, .hptr 4 0), (6, .dslice (x0.Terms.map cCoef)), (7, .int .i64 ((x0.Terms.length : Nat) : Int)), (8, .int .i64 ((i127 : Nat) : Int))], [(1, .cells 39 [.int .i64 x0.Const, .dslice (x0.Terms.map cCoef)]), (4, .cells 44 [.str ((x0.Terms.getD i127 ⟨[], 0⟩).Var), .int .i64 ((x0.Terms.getD i127 ⟨[], 0⟩).C)])]⟩ (all_cons (congrArg (AV.bool) c223) (all_app (ix (f := cCoef) (l := x0.Terms) (n := i127) ⟨[], 0⟩ cCoef_len (by decide) (by omega)) all_nil)) (by kernel_rfl) ?_
      refine bnd H227 fun v270 h271 H272 => ?_
      refine p_joinO 2 (linear_Valid_S3 x0 i127) v270 (by kernel_rfl) ?_ (fun u273 e331 => ?_)
      · refine bsp h271 (fun c274 H275 => ?_) (fun c276 H277 => ?_)
        · refine bsp H275 (fun c278 H279 => ?_) (fun c280 H281 => ?_)
          · refine some_e H279 fun e282 => ?_
            subst e282
            have H283 := aft_ret H272
            refine some_e H283 fun e284 => ?_
            subst e284
            have e285 := out_ret h222
            subst e285
            have H286 := aft_ret H214
            refine some_e H286 fun e287 => ?_
            subst e287
            exact p_ret Tryz.mo 5 [.rg 28 [.v, .v, .c true (.bool true), .v, .v, .v, .v, .e (.bool true), .v, .v, .s, .s, .s, .s, .v, .v, .s, .s, .s, .s, .s, .s, .s, .s, .s, .s, .s, .s] [.s, .s, .v], .rg 0 [] [.v]] [] [] (all_cons Tryz.call96 (all_cons (AFn.eq (linear_Name_c ((x0.Terms.getD i127 ⟨[], 0⟩).Var) y225 h226) (congrArg (AV.bool) c274)) (all_cons trivial (all_cons (congrArg (AV.bool) c278) all_nil)))) (by kernel_rfl)
          · refine bnd H281 fun y288 h289 H290 => ?_
            refine bsp H290 (fun c291 H292 => ?_) (fun c293 H294 => ?_)
            · refine bsp H292 (fun c295 H296 => ?_) (fun c297 H298 => ?_)
              · have c295p := of_decide_eq_true c295
                refine grd_e H296 fun g299 H300 => ?_
                refine p_at Tryz.mo 1 [.rg 28 [.v, .v, .c true (.bool true), .v, .v, .v, .v, .e (.bool false), .v, .v, .v, .v, .c true (.bool true), .v, .v, .v, .v, .e (.bool true), .v, .v, .v, .v, .w, .e (.dptr [.str ((x0.Terms.getD (w64 (((i127 : Nat) : Int) - 1)).toNat ⟨[], 0⟩).Var), .int .i64 ((x0.Terms.getD (w64 (((i127 : Nat) : Int) - 1)).toNat ⟨[], 0⟩).C)]), .v, .v, .v, .v] [.v, .v, .v]] [.only [1, 2, 6, 7, 8, 43] [1]] 1 [] ⟨54, [(1, .hptr 1 0), (2, .bool false), (6, .dslice (x0.Terms.map cCoef)), (7, .int .i64 ((x0.Terms.length : Nat) : Int)), (8, .int .i64 ((i127 : Nat) : Int)), (43, .bool (!(Op.bytesLess ((x0.Terms.getD (w64 (((i127 : Nat) : Int) - 1)).toNat ⟨[], 0⟩).Var) ((x0.Terms.getD i127 ⟨[], 0⟩).Var))))], [(1, .cells 39 [.int .i64 x0.Const, .dslice (x0.Terms.map cCoef)])]⟩ (all_cons Tryz.call96 (all_cons (AFn.eq (linear_Name_c ((x0.Terms.getD i127 ⟨[], 0⟩).Var) y225 h226) (congrArg (AV.bool) c274)) (all_cons trivial (all_cons (congrArg (AV.bool) c280) (all_cons Tryz.call170 (all_cons (AFn.eq (linear_in_c ((x0.Terms.getD i127 ⟨[], 0⟩).C) y288 h289) (congrArg (AV.bool) c291)) (all_cons trivial (all_cons (congrArg (AV.bool) c295) (all_app (ixz (f := cCoef) (l := x0.Terms) (n := (w64 (((i127 : Nat) : Int) - 1))) ⟨[], 0⟩ cCoef_len (by decide) (by exact g299)) all_nil))))))))) (by kernel_rfl) ?_
                refine bsp H300 (fun c301 H302 => ?_) (fun c303 H304 => ?_)
                · refine some_e H302 fun e305 => ?_
                  subst e305
                  exact p_bar Tryz.mo 3 [.eqT 43 (.bool false)] [.only [1, 2, 6, 7, 8] [1]] (linear_Valid_S3 x0 i127 ()) (all_cons (congrArg (fun x => AV.bool (!x)) c301) all_nil) (by kernel_rfl)
                · refine some_e H304 fun e306 => ?_
                  subst e306
                  have H307 := aft_ret H272
                  refine some_e H307 fun e308 => ?_
                  subst e308
                  have e309 := out_ret h222
                  subst e309
                  have H310 := aft_ret H214
                  refine some_e H310 fun e311 => ?_
                  subst e311
                  exact p_ret Tryz.mo 5 [.eqT 43 (.bool true), .rg 0 [] [.v]] [] [] (all_cons (congrArg (fun x => AV.bool (!x)) c303) all_nil) (by kernel_rfl)
              · have c297p := of_decide_eq_false c297
                refine some_e H298 fun e312 => ?_
                subst e312
                exact p_bar Tryz.mo 3 [.rg 28 [.v, .v, .c true (.bool true), .v, .v, .v, .v, .e (.bool false), .v, .v, .v, .v, .c true (.bool true), .v, .v, .v, .v, .e (.bool false), .v, .s, .s, .s, .s, .s, .s, .s, .s, .s] [.s, .v, .v]] [.only [1, 2, 6, 7, 8] [1]] (linear_Valid_S3 x0 i127 ()) (all_cons Tryz.call96 (all_cons (AFn.eq (linear_Name_c ((x0.Terms.getD i127 ⟨[], 0⟩).Var) y225 h226) (congrArg (AV.bool) c274)) (all_cons trivial (all_cons (congrArg (AV.bool) c280) (all_cons Tryz.call170 (all_cons (AFn.eq (linear_in_c ((x0.Terms.getD i127 ⟨[], 0⟩).C) y288 h289) (congrArg (AV.bool) c291)) (all_cons trivial (all_cons (congrArg (AV.bool) c297) all_nil)))))))) (by kernel_rfl)
            · refine some_e H294 fun e313 => ?_
              subst e313
              have H314 := aft_ret H272
              refine some_e H314 fun e315 => ?_
              subst e315
              have e316 := out_ret h222
              subst e316
              have H317 := aft_ret H214
              refine some_e H317 fun e318 => ?_
              subst e318
              exact p_ret Tryz.mo 5 [.rg 28 [.v, .v, .c true (.bool true), .v, .v, .v, .v, .e (.bool false), .v, .v, .v, .v, .c true (.bool false), .v, .v, .v, .s, .s, .s, .s, .s, .s, .s, .s, .s, .s, .s, .s] [.s, .s, .v], .rg 0 [] [.v]] [] [] (all_cons Tryz.call96 (all_cons (AFn.eq (linear_Name_c ((x0.Terms.getD i127 ⟨[], 0⟩).Var) y225 h226) (congrArg (AV.bool) c274)) (all_cons trivial (all_cons (congrArg (AV.bool) c280) (all_cons Tryz.call170 (all_cons (AFn.eq (linear_in_c ((x0.Terms.getD i127 ⟨[], 0⟩).C) y288 h289) (congrArg (AV.bool) c293)) (all_cons trivial all_nil))))))) (by kernel_rfl)
        · refine some_e H277 fun e319 => ?_
          subst e319
          have H320 := aft_ret H272
          refine some_e H320 fun e321 => ?_
          subst e321
          have e322 := out_ret h222
          subst e322
          have H323 := aft_ret H214
          refine some_e H323 fun e324 => ?_
          subst e324
          exact p_ret Tryz.mo 5 [.rg 28 [.v, .v, .c true (.bool false), .v, .v, .s, .s, .s, .v, .v, .s, .s, .s, .s, .v, .v, .s, .s, .s, .s, .s, .s, .s, .s, .s, .s, .s, .s] [.s, .s, .v], .rg 0 [] [.v]] [] [] (all_cons Tryz.call96 (all_cons (AFn.eq (linear_Name_c ((x0.Terms.getD i127 ⟨[], 0⟩).Var) y225 h226) (congrArg (AV.bool) c276)) (all_cons trivial all_nil))) (by kernel_rfl)
      · subst e331
        have H325 := aft_brk H272
        refine t_lens 6 (ps := [(x0.Terms.map cCoef).length ≤ 9223372036854775807]) (by kernel_rfl) (fun l328 => ?_)
        have l329 : x0.Terms.length ≤ 9223372036854775807 := by simpa only [All, List.length_map] using l328
        clear l328
        refine some_e H325 fun e330 => ?_
        subst e330
        exact p_bar Tryz.mo 1 [.rg 0 [] [.v, .v]] [.only [1, 2, 6, 7, 8] [1]] (linear_Valid_S1 x0 (i127 + 1) ()) (all_cons (show I64 (((i127 : Nat) : Int) + 1) from by unfold I64; omega) all_nil) (by kernel_rfl)
  · subst e333
    have H334 := aft_brk H214
    refine bnd H334 fun y335 h336 H337 => ?_
    refine bsp H337 (fun c338 H339 => ?_) (fun c340 H341 => ?_)
    · refine some_e H339 fun e342 => ?_
      subst e342
      exact p_ret Tryz.mo 3 [.rg 0 [] [.v, .v, .c true (.bool true), .v, .v, .v, .e (.int .i64 ((x0.Terms.length : Nat) : Int)), .v, .v, .v]] [] [] (all_cons Tryz.call170 (all_cons (AFn.eq (linear_in_c x0.Const y335 h336) (congrArg (AV.bool) c338)) (all_cons trivial (all_cons (lenm cCoef x0.Terms) all_nil)))) (by kernel_rfl)
    · refine some_e H341 fun e343 => ?_
      subst e343
      exact p_ret Tryz.mo 3 [.rg 0 [] [.v, .v, .c true (.bool false), .v, .s, .s, .s, .s, .v, .v]] [] [] (all_cons Tryz.call170 (all_cons (AFn.eq (linear_in_c x0.Const y335 h336) (congrArg (AV.bool) c340)) all_nil)) (by kernel_rfl)
/-- framewise/poly.newSum -/
def poly_newSum  : Option ((List (Str × (List Str))) × (List (Str × (List Int))) × (List (Str × (List Int)))) :=
  some ([], [], [])
theorem poly_newSum_c  (r : ((List (Str × (List Str))) × (List (Str × (List Int))) × (List (Str × (List Int))))) (H : poly_newSum  = some r) : ACall Tryz.prog 131 [] [] (fun r2 h2 => r2 = (.agg [.amap 1, .amap 2, .amap 3]) ∧ h2 = [(1, .smap 9 90 (r.1.map (mapV cL_cStr))), (2, .rmap 3 1 (rcm cInt_i64 r.2.1)), (3, .rmap 3 1 (rcm cInt_i64 r.2.2))]) := by
  unfold poly_newSum at H
  refine acallX Tryz.func131 5 [.cell 0 144] (by kernel_rfl) (by kernel_rfl) ?_
  refine some_e H fun e1 => ?_
  subst e1
  exact p_ret Tryz.mo 5 [.rg 0 [] [.m], .rg 0 [] [.m, .m, .tr 2 3 1, .m, .tr 3 3 1, .b, .m]] [] [1, 2, 3] all_nil (by kernel_rfl)
/-- (framewise/poly.sum).add -/
def poly_sum_add (x0 : (List Str)) (x1 : Int) (x2 : Int) (x3 : (List (Str × (List Str)))) (x4 : (List (Str × (List Int)))) (x5 : (List (Str × (List Int)))) : Option ((List (Str × (List Str))) × (List (Str × (List Int))) × (List (Str × (List Int)))) :=
  (lib_ValuesS x0).bind fun y18 =>
  (lib_SortedS y18).bind fun y21 =>
  (lib_Join y21 [42]).bind fun y24 =>
  grd (((mget [] y24 x4).length + [x1].length) * 8 ≤ 140737488355328) <|
  grd (((mget [] y24 x5).length + [x2].length) * 8 ≤ 140737488355328) <|
  grd (x4.length + 1 < 1000000) <|
  grd (x5.length + 1 < 1000000) <|
  some ((mput y24 y21 x3), (mput y24 ((mget [] y24 x4) ++ [x1]) x4), (mput y24 ((mget [] y24 x5) ++ [x2]) x5))
theorem poly_sum_add_c (x0 : (List Str)) (x1 : Int) (x2 : Int) (x3 : (List (Str × (List Str)))) (x4 : (List (Str × (List Int)))) (x5 : (List (Str × (List Int)))) (r : ((List (Str × (List Str))) × (List (Str × (List Int))) × (List (Str × (List Int))))) (H : poly_sum_add x0 x1 x2 x3 x4 x5 = some r) : ACall Tryz.prog 132 [.agg [.amap 1000, .amap 1001, .amap 1002], .dslice (x0.map cStr), .int .i64 x1, .int .i64 x2] [(1000, .smap 9 90 (x3.map (mapV cL_cStr))), (1001, .rmap 3 1 (rcm cInt_i64 x4)), (1002, .rmap 3 1 (rcm cInt_i64 x5))] (fun r2 h2 => r2 = (.tup []) ∧ h2 = [(1000, .smap 9 90 (r.1.map (mapV cL_cStr))), (1001, .rmap 3 1 (rcm cInt_i64 r.2.1)), (1002, .rmap 3 1 (rcm cInt_i64 r.2.2))]) := by
  unfold poly_sum_add at H
  refine acallX Tryz.func132 40 [] (by kernel_rfl) (by kernel_rfl) ?_
  refine bnd H fun y18 h19 H20 => ?_
  refine bnd H20 fun y21 h22 H23 => ?_
  refine bnd H23 fun y24 h25 H26 => ?_
  refine grd_e H26 fun g27 H28 => ?_
  refine grd_e H28 fun g29 H30 => ?_
  refine grd_e H30 fun g31 H32 => ?_
  refine grd_e H32 fun g33 H34 => ?_
  refine some_e H34 fun e35 => ?_
  subst e35
  exact p_ret Tryz.mo 9 [.rg 0 [] [.m], .rg 0 [] [.v, .c true (.fn 251 [.dptr [.dslice (y18.map cStr)]]), .c true (.dslice (y21.map cStr)), .v], .rg 0 [] [.v, .c true (.str y24), .v], .rg 0 [] [.v, .v, .v, .v, .m, .rwH 1000 (.smap 9 90 ((mput y24 y21 x3).map (mapV cL_cStr)))], .rg 23 [.ent ⟨142, 1001, y24, 38, 39, 20, 21, 22⟩, .v, .v, .v, .v, .v, .v, .v, .v, .v, .lk ((mget [] y24 x4).map cInt_i64) (rhole y24 (rcm cInt_i64 x4)), .v, .b, .apx (((mget [] y24 x4) ++ [x1]).map cInt_i64), .v, .v, .v, .lk ((mget [] y24 x5).map cInt_i64) (rhole y24 (rcm cInt_i64 x5)), .v, .b, .apx (((mget [] y24 x5) ++ [x2]).map cInt_i64), .e1 (rent y24 (rhole y24 (rcm cInt_i64 x4))), .e2, .e3 (rcm cInt_i64 (mput y24 ((mget [] y24 x4) ++ [x1]) x4))] [.ms (rcm cInt_i64 (mput y24 ((mget [] y24 x5) ++ [x2]) x5))]] [] [1000, 1001, 1002] (all_cons Tryz.call206 (all_cons (AFn.is (lib_ValuesS_c x0 y18 h19)) (all_cons Tryz.call205 (all_cons (AFn.is (lib_SortedS_c y18 y21 h22)) (all_cons Tryz.call153 (all_cons (AFn.is (lib_Join_c y21 [42] y24 h25)) (all_cons (congrArg (AO.smap 9 90) (aput_mapV (c := cL_cStr) y24 y21 x3)) (all_cons (rcm_ok cInt_i64 y24 x4) (all_cons (rcm_get cInt_i64 y24 x4) (all_cons (Eq.refl (rhole y24 (rcm cInt_i64 x4))) (all_app (apXP (c := cInt_i64) cInt_i64_ok (mget [] y24 x4) [x1] 8 (by decide) (by simpa using g27) List.map_append.symm) (all_cons (rcm_ok cInt_i64 y24 x5) (all_cons (rcm_get cInt_i64 y24 x5) (all_cons (Eq.refl (rhole y24 (rcm cInt_i64 x5))) (all_app (apXP (c := cInt_i64) cInt_i64_ok (mget [] y24 x5) [x2] 8 (by decide) (by simpa using g29) List.map_append.symm) (all_cons (Eq.refl y24) (all_cons (rcm_lenh cInt_i64 y24 x4 g31) (all_cons (Eq.refl (rent y24 (rhole y24 (rcm cInt_i64 x4)))) (all_cons (rcm_lene cInt_i64 y24 x4 g31) (all_cons (rcm_pute cInt_i64 y24 ((mget [] y24 x4) ++ [x1]) x4) (all_cons (rcm_lenh cInt_i64 y24 x5 g33) (all_cons (rcm_puth cInt_i64 y24 ((mget [] y24 x5) ++ [x2]) x5) all_nil)))))))))))))))))))))) (by kernel_rfl)
/-- framewise/intmath.in -/
def intmath_in (x0 : (List Int)) : Option Bool :=
  (cnt (σ := Unit) (ε := Unit) (ρ := Bool) (fun i39 s38 =>
    bif decide ((x0.getD i39 0) < (-4611686018427387904)) then (
      some (.ret false)
    ) else (
      bif decide ((x0.getD i39 0) > 4611686018427387904) then (
        some (.ret false)
      ) else (
        some (.go ())
      )
    )
  ) (fun i39 s38 => ()) (x0.length - 0) 0 ()).bind <| aft fun u98 =>
  some true
def intmath_in_S1 (x0 : (List Int)) (i39 : Nat) (s38 : Unit) : AS := ⟨18, [(2, .bool false), (5, .dslice (x0.map cInt_i64)), (6, .int .i64 ((x0.length : Nat) : Int)), (7, .int .i64 ((i39 : Nat) : Int))], []⟩
def intmath_in_S2 (u63 : Unit) : AS := ⟨18, [(2, .bool false)], []⟩
theorem intmath_in_c (x0 : (List Int)) (r : Bool) (H : intmath_in x0 = some r) : AFn Tryz.prog 189 [.dslice (x0.map cInt_i64)] (.bool r) := by
  unfold intmath_in at H
  refine acallX Tryz.func189 18 [.tmp 2] (by kernel_rfl) (by kernel_rfl) ?_
  refine p_at Tryz.mo 6 [.rg 0 [] [.v], .rg 0 [] [.v, .e (.int .i64 ((x0.length : Nat) : Int)), .v]] [.only [2, 5, 6, 7] []] 6 [] (intmath_in_S1 x0 0 ()) (all_cons trivial (all_cons (lenm cInt_i64 x0) all_nil)) (by kernel_rfl) ?_
  refine bnd H fun R60 h61 H62 => ?_
  refine p_joinO 1 (intmath_in_S2) R60 (by kernel_rfl) ?_ (fun u98 e99 => ?_)
  · refine p_cnt (intmath_in_S1 x0) (by kernel_rfl) h61 (fun i39 s38 h64 e65 => ?_) (fun i39 s38 h72 q68 h69 h70 => ?_)
    · have c66 : decide (((i39 : Nat) : Int) < ((x0.length : Nat) : Int)) = false := decide_eq_false (by omega)
      subst e65
      exact p_bar Tryz.mo 5 [.rg 0 [] [.e (.bool false)]] [.only [2] []] (intmath_in_S2 ()) (all_cons (congrArg (AV.bool) c66) all_nil) (by kernel_rfl)
    · have c71 : decide (((i39 : Nat) : Int) < ((x0.length : Nat) : Int)) = true := decide_eq_true (by omega)
      refine bsp h69 (fun c77 H78 => ?_) (fun c79 H80 => ?_)
      · have c77p := of_decide_eq_true c77
        refine some_e H78 fun e81 => ?_
        subst e81
        have e82 := out_ret h70
        subst e82
        have H83 := aft_ret H62
        refine some_e H83 fun e84 => ?_
        subst e84
        exact p_ret Tryz.mo 15 [.rg 0 [] [.e (.bool true)], .rg 0 [] [.e (.dptr [.int .i64 (x0.getD i39 0)]), .v, .v], .rg 0 [] [.v, .e (.bool true), .v, .s, .s, .v], .rg 0 [] [.v]] [] [] (all_cons (congrArg (AV.bool) c71) (all_app (ix (f := cInt_i64) (l := x0) (n := i39) 0 cInt_i64_len (by decide) (by omega)) (all_cons (congrArg (AV.bool) c77) all_nil))) (by kernel_rfl)
      · have c79p := of_decide_eq_false c79
        refine bsp H80 (fun c85 H86 => ?_) (fun c87 H88 => ?_)
        · have c85p := of_decide_eq_true c85
          refine some_e H86 fun e89 => ?_
          subst e89
          have e90 := out_ret h70
          subst e90
          have H91 := aft_ret H62
          refine some_e H91 fun e92 => ?_
          subst e92
          exact p_ret Tryz.mo 16 [.rg 0 [] [.e (.bool true)], .rg 0 [] [.e (.dptr [.int .i64 (x0.getD i39 0)]), .v, .v], .rg 0 [] [.v, .e (.bool false), .v, .v, .v, .v], .eqT 16 (.bool true), .rg 0 [] [.v]] [] [] (all_cons (congrArg (AV.bool) c71) (all_app (ix (f := cInt_i64) (l := x0) (n := i39) 0 cInt_i64_len (by decide) (by omega)) (all_cons (congrArg (AV.bool) c79) (all_cons (congrArg (AV.bool) c85) all_nil)))) (by kernel_rfl)
        · have c87p := of_decide_eq_false c87
          refine t_lens 5 (ps := [(x0.map cInt_i64).length ≤ 9223372036854775807]) (by kernel_rfl) (fun l95 => ?_)
          have l96 : x0.length ≤ 9223372036854775807 := by simpa only [All, List.length_map] using l95
          clear l95
          refine some_e H88 fun e97 => ?_
          subst e97
          exact p_bar Tryz.mo 15 [.rg 0 [] [.e (.bool true)], .rg 0 [] [.e (.dptr [.int .i64 (x0.getD i39 0)]), .v, .v], .rg 0 [] [.v, .e (.bool false), .v, .v, .v, .v], .eqT 16 (.bool false), .rg 0 [] [.v, .v]] [.only [2, 5, 6, 7] []] (intmath_in_S1 x0 (i39 + 1) ()) (all_cons (congrArg (AV.bool) c71) (all_app (ix (f := cInt_i64) (l := x0) (n := i39) 0 cInt_i64_len (by decide) (by omega)) (all_cons (congrArg (AV.bool) c79) (all_cons (congrArg (AV.bool) c87) (all_cons (show I64 (((i39 : Nat) : Int) + 1) from by unfold I64; omega) all_nil))))) (by kernel_rfl)
  · subst e99
    have H100 := aft_brk H62
    refine some_e H100 fun e101 => ?_
    subst e101
    exact p_ret Tryz.mo 3 [.rg 0 [] [.v]] [] [] all_nil (by kernel_rfl)
/-- framewise/intmath.abs -/
def intmath_abs (x0 : Int) : Option Int :=
  bif decide (x0 < 0) then (
    some (w64 (0 - x0))
  ) else (
    some x0
  )
theorem intmath_abs_c (x0 : Int) (r : Int) (H : intmath_abs x0 = some r) : AFn Tryz.prog 239 [.int .i64 x0] (.int .i64 r) := by
  unfold intmath_abs at H
  refine acallX Tryz.func239 8 [.tmp 2] (by kernel_rfl) (by kernel_rfl) ?_
  refine bsp H (fun c1 H2 => ?_) (fun c3 H4 => ?_)
  · have c1p := of_decide_eq_true c1
    refine some_e H2 fun e5 => ?_
    subst e5
    exact p_ret Tryz.mo 10 [.rg 0 [] [.v], .rg 0 [] [.v, .v], .eqT 4 (.bool true), .rg 0 [] [.v, .w, .v]] [] [] (all_cons (congrArg (AV.bool) c1) all_nil) (by kernel_rfl)
  · have c3p := of_decide_eq_false c3
    refine some_e H4 fun e6 => ?_
    subst e6
    exact p_ret Tryz.mo 11 [.rg 0 [] [.v], .rg 0 [] [.v, .v], .eqT 4 (.bool false), .rg 0 [] [.v, .v]] [] [] (all_cons (congrArg (AV.bool) c3) all_nil) (by kernel_rfl)
/-- (*framewise/intmath.total).add -/
def intmath_total_add (x0 : Int) (x1 : Int) (x2 : Int) (x3 : Int) (x4 : Int) (x5 : Int) (x6 : Int) (x7 : Int) : Option (Int × Int × Int × Int × Int × Int) :=
  bif (decide (x0 < 0) == decide (x1 < 0)) then (
    (intmath_abs x0).bind fun y45 =>
    (intmath_abs x1).bind fun y48 =>
    (lib_Mul64 (IntKind.wrap .u64 y45) (IntKind.wrap .u64 y48)).bind fun y51 =>
    (lib_Add64 x2 y51.2 0).bind fun y54 =>
    (lib_Add64 x3 y51.1 y54.2).bind fun y57 =>
    (lib_Add64 x4 0 y57.2).bind fun y60 =>
    some (y54.1, y57.1, y60.1, x5, x6, x7)
  ) else (
    (intmath_abs x0).bind fun y64 =>
    (intmath_abs x1).bind fun y67 =>
    (lib_Mul64 (IntKind.wrap .u64 y64) (IntKind.wrap .u64 y67)).bind fun y70 =>
    (lib_Add64 x5 y70.2 0).bind fun y73 =>
    (lib_Add64 x6 y70.1 y73.2).bind fun y76 =>
    (lib_Add64 x7 0 y76.2).bind fun y79 =>
    some (x2, x3, x4, y73.1, y76.1, y79.1)
  )
theorem intmath_total_add_c (x0 : Int) (x1 : Int) (x2 : Int) (x3 : Int) (x4 : Int) (x5 : Int) (x6 : Int) (x7 : Int) (r : (Int × Int × Int × Int × Int × Int)) (H : intmath_total_add x0 x1 x2 x3 x4 x5 x6 x7 = some r) : ACall Tryz.prog 190 [.hptr 1000 0, .int .i64 x0, .int .i64 x1] [(1000, .cells 202 [.int .u64 x2, .int .u64 x3, .int .u64 x4, .int .u64 x5, .int .u64 x6, .int .u64 x7])] (fun r2 h2 => r2 = (.tup []) ∧ h2 = [(1000, .cells 202 [.int .u64 r.1, .int .u64 r.2.1, .int .u64 r.2.2.1, .int .u64 r.2.2.2.1, .int .u64 r.2.2.2.2.1, .int .u64 r.2.2.2.2.2])]) := by
  unfold intmath_total_add at H
  refine acallX Tryz.func190 54 [] (by kernel_rfl) (by kernel_rfl) ?_
  refine bsp H (fun c41 H42 => ?_) (fun c43 H44 => ?_)
  · refine bnd H42 fun y45 h46 H47 => ?_
    refine bnd H47 fun y48 h49 H50 => ?_
    refine bnd H50 fun y51 h52 H53 => ?_
    refine bnd H53 fun y54 h55 H56 => ?_
    refine bnd H56 fun y57 h58 H59 => ?_
    refine bnd H59 fun y60 h61 H62 => ?_
    refine some_e H62 fun e63 => ?_
    subst e63
    exact p_ret Tryz.mo 57 [.rg 0 [] [.v], .rg 0 [] [.v, .v, .v, .v, .v], .eqT 16 (.bool false), .rg 0 [] [.v, .c true (.int .i64 y45), .v, .v, .c true (.int .i64 y48), .v, .c true (.tup [.int .u64 y51.1, .int .u64 y51.2]), .v, .v, .v, .v, .v], .rg 0 [] [.v], .rg 0 [] [.v, .v, .b, .v], .un, .rg 0 [] [.v], .rg 0 [] [.v, .v, .v, .v], .rg 20 [.v, .v, .v, .v, .v, .v, .v, .v, .v, .v, .v, .v, .xc (.tup [.int .u64 y54.1, .int .u64 y54.2]), .v, .v, .v, .v, .v, .v, .m] [.v], .rg 0 [] [.v, .v], .cv [.only [0, 6, 9, 29, 30] [1000]], .rg 0 [] [.v], .rg 0 [] [.v, .v, .v, .v], .rg 20 [.v, .v, .v, .v, .v, .v, .v, .v, .v, .v, .v, .v, .xc (.tup [.int .u64 y57.1, .int .u64 y57.2]), .v, .v, .v, .v, .v, .v, .m] [.v], .rg 0 [] [.v, .v], .cv [.only [0, 6, 9, 29, 30] [1000]], .rg 0 [] [.v], .rg 0 [] [.v, .v, .v, .v], .rg 20 [.v, .v, .v, .v, .v, .v, .v, .v, .v, .v, .v, .v, .xc (.tup [.int .u64 y60.1, .int .u64 y60.2]), .v, .v, .v, .v, .v, .v, .m] [.v], .rg 0 [] [.v, .v], .cv [.only [0, 6, 9, 29, 30] [1000]], .rg 0 [] [.v]] [] [1000] (all_cons (congrArg (fun x => AV.bool (!x)) c41) (all_cons Tryz.call239 (all_cons (AFn.is (intmath_abs_c x0 y45 h46)) (all_cons trivial (all_cons Tryz.call239 (all_cons (AFn.is (intmath_abs_c x1 y48 h49)) (all_cons trivial (all_cons Tryz.call238 (all_cons (AFn.is (lib_Mul64_c (IntKind.wrap .u64 y45) (IntKind.wrap .u64 y48) y51 h52)) (all_cons trivial (all_cons trivial (all_cons trivial (all_cons (lib_Add64_c x2 y51.2 0 y54 h55) (all_cons trivial (all_cons trivial (all_cons (show I64 (0 + 1) from by unfold I64; omega) (all_cons trivial (all_cons trivial (all_cons trivial (all_cons (lib_Add64_c x3 y51.1 y54.2 y57 h58) (all_cons trivial (all_cons trivial (all_cons (show I64 (1 + 1) from by unfold I64; omega) (all_cons trivial (all_cons trivial (all_cons trivial (all_cons (lib_Add64_c x4 0 y57.2 y60 h61) (all_cons trivial (all_cons trivial (all_cons (show I64 (2 + 1) from by unfold I64; omega) all_nil)))))))))))))))))))))))))))))) (by kernel_rfl)
  · refine bnd H44 fun y64 h65 H66 => ?_
    refine bnd H66 fun y67 h68 H69 => ?_
    refine bnd H69 fun y70 h71 H72 => ?_
    refine bnd H72 fun y73 h74 H75 => ?_
    refine bnd H75 fun y76 h77 H78 => ?_
    refine bnd H78 fun y79 h80 H81 => ?_
    refine some_e H81 fun e82 => ?_
    subst e82
    exact p_ret Tryz.mo 57 [.rg 0 [] [.v], .rg 0 [] [.v, .v, .v, .v, .v], .eqT 16 (.bool true), .rg 0 [] [.v], .rg 0 [] [.v, .c true (.int .i64 y64), .v, .v, .c true (.int .i64 y67), .v, .c true (.tup [.int .u64 y70.1, .int .u64 y70.2]), .v, .v, .v, .v, .v], .rg 0 [] [.v], .rg 0 [] [.v, .v, .b, .v], .un, .rg 0 [] [.v], .rg 0 [] [.v, .v, .v, .v], .rg 20 [.v, .v, .v, .v, .v, .v, .v, .v, .v, .v, .v, .v, .xc (.tup [.int .u64 y73.1, .int .u64 y73.2]), .v, .v, .v, .v, .v, .v, .m] [.v], .rg 0 [] [.v, .v], .cv [.only [0, 6, 9, 29, 30] [1000]], .rg 0 [] [.v], .rg 0 [] [.v, .v, .v, .v], .rg 20 [.v, .v, .v, .v, .v, .v, .v, .v, .v, .v, .v, .v, .xc (.tup [.int .u64 y76.1, .int .u64 y76.2]), .v, .v, .v, .v, .v, .v, .m] [.v], .rg 0 [] [.v, .v], .cv [.only [0, 6, 9, 29, 30] [1000]], .rg 0 [] [.v], .rg 0 [] [.v, .v, .v, .v], .rg 20 [.v, .v, .v, .v, .v, .v, .v, .v, .v, .v, .v, .v, .xc (.tup [.int .u64 y79.1, .int .u64 y79.2]), .v, .v, .v, .v, .v, .v, .m] [.v], .rg 0 [] [.v, .v], .cv [.only [0, 6, 9, 29, 30] [1000]], .rg 0 [] [.v]] [] [1000] (all_cons (congrArg (fun x => AV.bool (!x)) c43) (all_cons Tryz.call239 (all_cons (AFn.is (intmath_abs_c x0 y64 h65)) (all_cons trivial (all_cons Tryz.call239 (all_cons (AFn.is (intmath_abs_c x1 y67 h68)) (all_cons trivial (all_cons Tryz.call238 (all_cons (AFn.is (lib_Mul64_c (IntKind.wrap .u64 y64) (IntKind.wrap .u64 y67) y70 h71)) (all_cons trivial (all_cons trivial (all_cons trivial (all_cons (lib_Add64_c x5 y70.2 0 y73 h74) (all_cons trivial (all_cons trivial (all_cons (show I64 (0 + 1) from by unfold I64; omega) (all_cons trivial (all_cons trivial (all_cons trivial (all_cons (lib_Add64_c x6 y70.1 y73.2 y76 h77) (all_cons trivial (all_cons trivial (all_cons (show I64 (1 + 1) from by unfold I64; omega) (all_cons trivial (all_cons trivial (all_cons trivial (all_cons (lib_Add64_c x7 0 y76.2 y79 h80) (all_cons trivial (all_cons trivial (all_cons (show I64 (2 + 1) from by unfold I64; omega) all_nil)))))))))))))))))))))))))))))) (by kernel_rfl)
/-- (*framewise/intmath.total).value$1 -/
def intmath_total_value_1 (x0 : (Int × Int × Int)) (x1 : (Int × Int × Int)) : Option ((Int × Int × Int) × Bool) :=
  (lib_Sub64 x0.1 x1.1 0).bind fun y1 =>
  (lib_Sub64 x0.2.1 x1.2.1 y1.2).bind fun y4 =>
  (lib_Sub64 x0.2.2 x1.2.2 y4.2).bind fun y7 =>
  some ((y1.1, y4.1, y7.1), (y7.2 == 0))
theorem intmath_total_value_1_c (x0 : (Int × Int × Int)) (x1 : (Int × Int × Int)) (r : ((Int × Int × Int) × Bool)) (H : intmath_total_value_1 x0 x1 = some r) : AFn Tryz.prog 241 [.agg [.int .u64 x0.1, .int .u64 x0.2.1, .int .u64 x0.2.2], .agg [.int .u64 x1.1, .int .u64 x1.2.1, .int .u64 x1.2.2]] (.tup [.agg [.int .u64 r.1.1, .int .u64 r.1.2.1, .int .u64 r.1.2.2], .bool r.2]) := by
  unfold intmath_total_value_1 at H
  refine acallX Tryz.func241 29 [.cell 4 200, .tmp 5] (by kernel_rfl) (by kernel_rfl) ?_
  refine bnd H fun y1 h2 H3 => ?_
  refine bnd H3 fun y4 h5 H6 => ?_
  refine bnd H6 fun y7 h8 H9 => ?_
  refine some_e H9 fun e10 => ?_
  subst e10
  exact p_ret Tryz.mo 55 [.rg 0 [] [.m, .m, .m, .v], .rg 0 [] [.m], .rg 0 [] [.v], .rg 0 [] [.v], .un, .rg 0 [] [.v], .rg 0 [] [.v, .v], .rg 14 [.v, .v, .v, .v, .v, .v, .v, .v, .xc (.tup [.int .u64 y1.1, .int .u64 y1.2]), .v, .v, .v, .v, .m] [.v], .rg 0 [] [.v, .v], .cv [.only [2, 3, 4, 5, 6, 7, 9] [2, 3, 4, 6]], .rg 0 [] [.v], .rg 0 [] [.v, .v], .rg 14 [.v, .v, .v, .v, .v, .v, .v, .v, .xc (.tup [.int .u64 y4.1, .int .u64 y4.2]), .v, .v, .v, .v, .m] [.v], .rg 0 [] [.v, .v], .cv [.only [2, 3, 4, 5, 6, 7, 9] [2, 3, 4, 6]], .rg 0 [] [.v], .rg 0 [] [.v, .v], .rg 14 [.v, .v, .v, .v, .v, .v, .v, .v, .xc (.tup [.int .u64 y7.1, .int .u64 y7.2]), .v, .v, .v, .v, .m] [.v], .rg 0 [] [.v, .v], .cv [.only [2, 3, 4, 5, 6, 7, 9] [2, 3, 4, 6]], .rg 0 [] [.v], .rg 0 [] [.v, .v, .v, .m, .v]] [] [] (all_cons trivial (all_cons trivial (all_cons (lib_Sub64_c x0.1 x1.1 0 y1 h2) (all_cons trivial (all_cons (show I64 (0 + 1) from by unfold I64; omega) (all_cons trivial (all_cons trivial (all_cons (lib_Sub64_c x0.2.1 x1.2.1 y1.2 y4 h5) (all_cons trivial (all_cons (show I64 (1 + 1) from by unfold I64; omega) (all_cons trivial (all_cons trivial (all_cons (lib_Sub64_c x0.2.2 x1.2.2 y4.2 y7 h8) (all_cons trivial (all_cons (show I64 (2 + 1) from by unfold I64; omega) all_nil))))))))))))))) (by kernel_rfl)
/-- framewise/intmath.checked -/
def intmath_checked (x0 : Int) : Option (Int × Int) :=
  (intmath_in [x0]).bind fun y1 =>
  bif y1 then (
    some (x0, 0)
  ) else (
    some (0, 2)
  )
theorem intmath_checked_c (x0 : Int) (r : (Int × Int)) (H : intmath_checked x0 = some r) : AFn Tryz.prog 243 [.int .i64 x0] (.tup [.int .i64 r.1, .int .i64 r.2]) := by
  unfold intmath_checked at H
  refine acallX Tryz.func243 9 [.tmp 2, .tmp 3] (by kernel_rfl) (by kernel_rfl) ?_
  refine bnd H fun y1 h2 H3 => ?_
  refine bsp H3 (fun c4 H5 => ?_) (fun c6 H7 => ?_)
  · refine some_e H5 fun e8 => ?_
    subst e8
    exact p_ret Tryz.mo 11 [.rg 0 [] [.v, .v], .rg 0 [] [.v, .b, .c true (.bool y1), .v], .eqT 7 (.bool false), .rg 0 [] [.v, .v, .v]] [] [] (all_cons Tryz.call189 (all_cons (AFn.is (intmath_in_c [x0] y1 h2)) (all_cons trivial (all_cons (congrArg (fun x => AV.bool (!x)) c4) all_nil)))) (by kernel_rfl)
  · refine some_e H7 fun e9 => ?_
    subst e9
    exact p_ret Tryz.mo 10 [.rg 0 [] [.v, .v], .rg 0 [] [.v, .b, .c true (.bool y1), .v], .eqT 7 (.bool true), .rg 0 [] [.v, .v]] [] [] (all_cons Tryz.call189 (all_cons (AFn.is (intmath_in_c [x0] y1 h2)) (all_cons trivial (all_cons (congrArg (fun x => AV.bool (!x)) c6) all_nil)))) (by kernel_rfl)
/-- (*framewise/intmath.total).value -/
def intmath_total_value (x0 : Int) (x1 : Int) (x2 : Int) (x3 : Int) (x4 : Int) (x5 : Int) : Option (Int × Int) :=
  (intmath_total_value_1 (x0, x1, x2) (x3, x4, x5)).bind fun y45 =>
  bif y45.2 then (
    bif decide (y45.1.2.1 > 0) then (
      some (0, 2)
    ) else (
      bif decide (y45.1.2.2 > 0) then (
        some (0, 2)
      ) else (
        bif decide (y45.1.1 > 4611686018427387904) then (
          some (0, 2)
        ) else (
          (intmath_checked (w64 (1 * (IntKind.wrap .i64 y45.1.1)))).bind fun y67 =>
          some (y67.1, y67.2)
        )
      )
    )
  ) else (
    (intmath_total_value_1 (x3, x4, x5) (x0, x1, x2)).bind fun y71 =>
    bif y71.2 then (
      bif decide (y71.1.2.1 > 0) then (
        some (0, 2)
      ) else (
        bif decide (y71.1.2.2 > 0) then (
          some (0, 2)
        ) else (
          bif decide (y71.1.1 > 4611686018427387904) then (
            some (0, 2)
          ) else (
            (intmath_checked (w64 ((-1) * (IntKind.wrap .i64 y71.1.1)))).bind fun y93 =>
            some (y93.1, y93.2)
          )
        )
      )
    ) else (
      some (0, 2)
    )
  )
theorem intmath_total_value_c (x0 : Int) (x1 : Int) (x2 : Int) (x3 : Int) (x4 : Int) (x5 : Int) (r : (Int × Int)) (H : intmath_total_value x0 x1 x2 x3 x4 x5 = some r) : ACall Tryz.prog 191 [.hptr 1000 0] [(1000, .cells 202 [.int .u64 x0, .int .u64 x1, .int .u64 x2, .int .u64 x3, .int .u64 x4, .int .u64 x5])] (fun r2 h2 => r2 = (.tup [.int .i64 r.1, .int .i64 r.2]) ∧ h2 = [(1000, .cells 202 [.int .u64 x0, .int .u64 x1, .int .u64 x2, .int .u64 x3, .int .u64 x4, .int .u64 x5])]) := by
  unfold intmath_total_value at H
  refine acallX Tryz.func191 53 [.tmp 2, .tmp 3] (by kernel_rfl) (by kernel_rfl) ?_
  refine bnd H fun y45 h46 H47 => ?_
  refine p_at Tryz.mo 22 [.rg 0 [] [.v, .v], .rg 0 [] [.v], .rg 0 [] [.b, .v], .un, .rg 0 [] [.v], .rg 0 [] [.v, .v, .v, .v], .rg 18 [.v, .v, .v, .v, .v, .v, .v, .v, .v, .v, .v, .v, .c true (.tup [.agg [.int .u64 y45.1.1, .int .u64 y45.1.2.1, .int .u64 y45.1.2.2], .bool y45.2]), .v, .v, .v, .m, .m] [.v], .rg 0 [] [.v]] [.only [0, 2, 3, 4, 6, 7, 9, 10, 30] [7, 1000]] 22 [true] ⟨53, [(0, .hptr 1000 0), (2, .int .i64 0), (3, .int .i64 0), (4, .fn 241 []), (6, .int .i64 1), (7, .hptr 7 0), (9, .agg [.int .i64 1, .int .i64 (-1)]), (10, .int .i64 0), (30, .bool y45.2)], [(7, .cells 200 [.int .u64 y45.1.1, .int .u64 y45.1.2.1, .int .u64 y45.1.2.2]), (1000, .cells 202 [.int .u64 x0, .int .u64 x1, .int .u64 x2, .int .u64 x3, .int .u64 x4, .int .u64 x5])]⟩ (all_cons trivial (all_cons trivial (all_cons (show I64 (1 - 0) from by unfold I64; omega) (all_cons trivial (all_cons Tryz.call241 (all_cons (AFn.is (intmath_total_value_1_c (x0, x1, x2) (x3, x4, x5) y45 h46)) all_nil)))))) (by kernel_rfl) ?_
  refine bsp H47 (fun c48 H49 => ?_) (fun c50 H51 => ?_)
  · refine bsp H49 (fun c52 H53 => ?_) (fun c54 H55 => ?_)
    · have c52p := of_decide_eq_true c52
      refine some_e H53 fun e56 => ?_
      subst e56
      exact p_ret Tryz.mo 9 [.eqT 30 (.bool true), .rg 0 [] [.v, .v, .e (.bool true), .v, .s, .s, .s, .v, .v, .s, .s, .s, .v], .rg 0 [] [.v, .v]] [] [1000] (all_cons (congrArg (AV.bool) c48) (all_cons trivial (all_cons (congrArg (AV.bool) c52) all_nil))) (by kernel_rfl)
    · have c54p := of_decide_eq_false c54
      refine bsp H55 (fun c57 H58 => ?_) (fun c59 H60 => ?_)
      · have c57p := of_decide_eq_true c57
        refine some_e H58 fun e61 => ?_
        subst e61
        exact p_ret Tryz.mo 9 [.eqT 30 (.bool true), .rg 0 [] [.v, .v, .e (.bool false), .v, .v, .v, .e (.bool true), .v, .v, .s, .s, .s, .v], .rg 0 [] [.v, .v]] [] [1000] (all_cons (congrArg (AV.bool) c48) (all_cons trivial (all_cons (congrArg (AV.bool) c54) (all_cons trivial (all_cons (congrArg (AV.bool) c57) all_nil))))) (by kernel_rfl)
      · have c59p := of_decide_eq_false c59
        refine bsp H60 (fun c62 H63 => ?_) (fun c64 H65 => ?_)
        · have c62p := of_decide_eq_true c62
          refine some_e H63 fun e66 => ?_
          subst e66
          exact p_ret Tryz.mo 10 [.eqT 30 (.bool true), .rg 0 [] [.v, .v, .e (.bool false), .v, .v, .v, .e (.bool false), .v, .v, .v, .v, .v, .v], .eqT 43 (.bool true), .rg 0 [] [.v, .v]] [] [1000] (all_cons (congrArg (AV.bool) c48) (all_cons trivial (all_cons (congrArg (AV.bool) c54) (all_cons trivial (all_cons (congrArg (AV.bool) c59) (all_cons trivial (all_cons (congrArg (AV.bool) c62) all_nil))))))) (by kernel_rfl)
        · have c64p := of_decide_eq_false c64
          refine bnd H65 fun y67 h68 H69 => ?_
          refine some_e H69 fun e70 => ?_
          subst e70
          exact p_ret Tryz.mo 11 [.eqT 30 (.bool true), .rg 0 [] [.v, .v, .e (.bool false), .v, .v, .v, .e (.bool false), .v, .v, .v, .v, .v, .v], .eqT 43 (.bool false), .rg 0 [] [.v, .v, .v, .v, .w, .c true (.tup [.int .i64 y67.1, .int .i64 y67.2]), .v, .v, .v, .v]] [] [1000] (all_cons (congrArg (AV.bool) c48) (all_cons trivial (all_cons (congrArg (AV.bool) c54) (all_cons trivial (all_cons (congrArg (AV.bool) c59) (all_cons trivial (all_cons (congrArg (AV.bool) c64) (all_cons trivial (all_cons trivial (all_cons Tryz.call243 (all_cons (AFn.is (intmath_checked_c (w64 (1 * (IntKind.wrap .i64 y45.1.1))) y67 h68)) all_nil))))))))))) (by kernel_rfl)
  · refine bnd H51 fun y71 h72 H73 => ?_
    refine p_at Tryz.mo 18 [.eqT 30 (.bool false), .rg 0 [] [.v, .v], .cv [.only [0, 2, 3, 4, 9, 10] [1000]], .rg 0 [] [.v], .rg 0 [] [.v, .v, .v, .v], .rg 18 [.v, .v, .v, .v, .v, .v, .v, .v, .v, .v, .v, .v, .c true (.tup [.agg [.int .u64 y71.1.1, .int .u64 y71.1.2.1, .int .u64 y71.1.2.2], .bool y71.2]), .v, .v, .v, .m, .m] [.v], .rg 0 [] [.v]] [.only [0, 2, 3, 4, 6, 7, 9, 10, 30] [7, 1000]] 16 [false, true] ⟨53, [(0, .hptr 1000 0), (2, .int .i64 0), (3, .int .i64 0), (4, .fn 241 []), (6, .int .i64 (-1)), (7, .hptr 7 0), (9, .agg [.int .i64 1, .int .i64 (-1)]), (10, .int .i64 1), (30, .bool y71.2)], [(7, .cells 200 [.int .u64 y71.1.1, .int .u64 y71.1.2.1, .int .u64 y71.1.2.2]), (1000, .cells 202 [.int .u64 x0, .int .u64 x1, .int .u64 x2, .int .u64 x3, .int .u64 x4, .int .u64 x5])]⟩ (all_cons (congrArg (AV.bool) c50) (all_cons (show I64 (0 + 1) from by unfold I64; omega) (all_cons trivial (all_cons trivial (all_cons (show I64 (1 - 1) from by unfold I64; omega) (all_cons trivial (all_cons Tryz.call241 (all_cons (AFn.is (intmath_total_value_1_c (x3, x4, x5) (x0, x1, x2) y71 h72)) all_nil)))))))) (by kernel_rfl) ?_
    refine bsp H73 (fun c74 H75 => ?_) (fun c76 H77 => ?_)
    · refine bsp H75 (fun c78 H79 => ?_) (fun c80 H81 => ?_)
      · have c78p := of_decide_eq_true c78
        refine some_e H79 fun e82 => ?_
        subst e82
        exact p_ret Tryz.mo 9 [.eqT 30 (.bool true), .rg 0 [] [.v, .v, .e (.bool true), .v, .s, .s, .s, .v, .v, .s, .s, .s, .v], .rg 0 [] [.v, .v]] [] [1000] (all_cons (congrArg (AV.bool) c74) (all_cons trivial (all_cons (congrArg (AV.bool) c78) all_nil))) (by kernel_rfl)
      · have c80p := of_decide_eq_false c80
        refine bsp H81 (fun c83 H84 => ?_) (fun c85 H86 => ?_)
        · have c83p := of_decide_eq_true c83
          refine some_e H84 fun e87 => ?_
          subst e87
          exact p_ret Tryz.mo 9 [.eqT 30 (.bool true), .rg 0 [] [.v, .v, .e (.bool false), .v, .v, .v, .e (.bool true), .v, .v, .s, .s, .s, .v], .rg 0 [] [.v, .v]] [] [1000] (all_cons (congrArg (AV.bool) c74) (all_cons trivial (all_cons (congrArg (AV.bool) c80) (all_cons trivial (all_cons (congrArg (AV.bool) c83) all_nil))))) (by kernel_rfl)
        · have c85p := of_decide_eq_false c85
          refine bsp H86 (fun c88 H89 => ?_) (fun c90 H91 => ?_)
          · have c88p := of_decide_eq_true c88
            refine some_e H89 fun e92 => ?_
            subst e92
            exact p_ret Tryz.mo 10 [.eqT 30 (.bool true), .rg 0 [] [.v, .v, .e (.bool false), .v, .v, .v, .e (.bool false), .v, .v, .v, .v, .v, .v], .eqT 43 (.bool true), .rg 0 [] [.v, .v]] [] [1000] (all_cons (congrArg (AV.bool) c74) (all_cons trivial (all_cons (congrArg (AV.bool) c80) (all_cons trivial (all_cons (congrArg (AV.bool) c85) (all_cons trivial (all_cons (congrArg (AV.bool) c88) all_nil))))))) (by kernel_rfl)
          · have c90p := of_decide_eq_false c90
            refine bnd H91 fun y93 h94 H95 => ?_
            refine some_e H95 fun e96 => ?_
            subst e96
            exact p_ret Tryz.mo 11 [.eqT 30 (.bool true), .rg 0 [] [.v, .v, .e (.bool false), .v, .v, .v, .e (.bool false), .v, .v, .v, .v, .v, .v], .eqT 43 (.bool false), .rg 0 [] [.v, .v, .v, .v, .w, .c true (.tup [.int .i64 y93.1, .int .i64 y93.2]), .v, .v, .v, .v]] [] [1000] (all_cons (congrArg (AV.bool) c74) (all_cons trivial (all_cons (congrArg (AV.bool) c80) (all_cons trivial (all_cons (congrArg (AV.bool) c85) (all_cons trivial (all_cons (congrArg (AV.bool) c90) (all_cons trivial (all_cons trivial (all_cons Tryz.call243 (all_cons (AFn.is (intmath_checked_c (w64 ((-1) * (IntKind.wrap .i64 y71.1.1))) y93 h94)) all_nil))))))))))) (by kernel_rfl)
    · refine some_e H77 fun e97 => ?_
      subst e97
      exact p_ret Tryz.mo 13 [.eqT 30 (.bool false), .rg 0 [] [.v, .v], .cv [.only [0, 2, 3, 4, 9, 10] [1000]], .rg 0 [] [.v], .rg 0 [] [.v, .v]] [] [1000] (all_cons (congrArg (AV.bool) c76) (all_cons (show I64 (1 + 1) from by unfold I64; omega) all_nil)) (by kernel_rfl)
/-- framewise/intmath.Dot -/
def intmath_Dot (x0 : (List Int)) (x1 : (List Int)) : Option (Int × Int) :=
  bif (((x0.length : Nat) : Int) == ((x1.length : Nat) : Int)) then (
    bif decide (((x0.length : Nat) : Int) > 10000) then (
      some (0, 3)
    ) else (
      (intmath_in x0).bind fun y42 =>
      bif y42 then (
        (intmath_in x1).bind fun y56 =>
        bif y56 then (
          (cnt (σ := (Int × Int × Int × Int × Int × Int)) (ε := (Int × Int × Int × Int × Int × Int)) (ρ := Empty) (fun i93 s92 =>
            grd (i93 < x1.length) <|
            (intmath_total_add (x0.getD i93 0) (x1.getD i93 0) s92.1 s92.2.1 s92.2.2.1 s92.2.2.2.1 s92.2.2.2.2.1 s92.2.2.2.2.2).bind fun y122 =>
            some (.go (y122.1, y122.2.1, y122.2.2.1, y122.2.2.2.1, y122.2.2.2.2.1, y122.2.2.2.2.2))
          ) (fun i93 s92 => (s92.1, s92.2.1, s92.2.2.1, s92.2.2.2.1, s92.2.2.2.2.1, s92.2.2.2.2.2)) (x0.length - 0) 0 (0, 0, 0, 0, 0, 0)).bind <| aftE fun u130 =>
          (intmath_total_value u130.1 u130.2.1 u130.2.2.1 u130.2.2.2.1 u130.2.2.2.2.1 u130.2.2.2.2.2).bind fun y133 =>
          some (y133.1, y133.2)
        ) else (
          some (0, 2)
        )
      ) else (
        some (0, 2)
      )
    )
  ) else (
    some (0, 1)
  )
def intmath_Dot_S1 (x0 : (List Int)) (x1 : (List Int)) (i93 : Nat) (s92 : (Int × Int × Int × Int × Int × Int)) : AS := ⟨45, [(1, .dslice (x1.map cInt_i64)), (4, .int .i64 0), (5, .int .i64 0), (6, .hptr 6 0), (28, .dslice (x0.map cInt_i64)), (29, .int .i64 ((x0.length : Nat) : Int)), (30, .int .i64 ((i93 : Nat) : Int))], [(6, .cells 202 [.int .u64 s92.1, .int .u64 s92.2.1, .int .u64 s92.2.2.1, .int .u64 s92.2.2.2.1, .int .u64 s92.2.2.2.2.1, .int .u64 s92.2.2.2.2.2])]⟩
def intmath_Dot_S2 (u110 : (Int × Int × Int × Int × Int × Int)) : AS := ⟨45, [(4, .int .i64 0), (5, .int .i64 0), (6, .hptr 6 0)], [(6, .cells 202 [.int .u64 u110.1, .int .u64 u110.2.1, .int .u64 u110.2.2.1, .int .u64 u110.2.2.2.1, .int .u64 u110.2.2.2.2.1, .int .u64 u110.2.2.2.2.2])]⟩
theorem intmath_Dot_c (x0 : (List Int)) (x1 : (List Int)) (r : (Int × Int)) (H : intmath_Dot x0 x1 = some r) : AFn Tryz.prog 207 [.dslice (x0.map cInt_i64), .dslice (x1.map cInt_i64)] (.tup [.int .i64 r.1, .int .i64 r.2]) := by
  unfold intmath_Dot at H
  refine acallX Tryz.func207 45 [.tmp 4, .tmp 5] (by kernel_rfl) (by kernel_rfl) ?_
  refine bsp H (fun c19 H20 => ?_) (fun c21 H22 => ?_)
  · refine p_at Tryz.mo 10 [.rg 0 [] [.v, .v], .rg 0 [] [.v, .e (.int .i64 ((x0.length : Nat) : Int)), .v, .e (.int .i64 ((x1.length : Nat) : Int)), .v, .v], .eqT 9 (.bool false), .rg 0 [] [.v, .e (.int .i64 ((x0.length : Nat) : Int)), .v, .v]] [.only [0, 1, 4, 5, 15] []] 9 [false] ⟨45, [(0, .dslice (x0.map cInt_i64)), (1, .dslice (x1.map cInt_i64)), (4, .int .i64 0), (5, .int .i64 0), (15, .bool (decide (((x0.length : Nat) : Int) > 10000)))], []⟩ (all_cons trivial (all_cons (lenm cInt_i64 x0) (all_cons trivial (all_cons (lenm cInt_i64 x1) (all_cons (congrArg (fun x => AV.bool (!x)) c19) (all_cons trivial (all_cons (lenm cInt_i64 x0) all_nil))))))) (by kernel_rfl) ?_
    refine bsp H20 (fun c37 H38 => ?_) (fun c39 H40 => ?_)
    · have c37p := of_decide_eq_true c37
      refine some_e H38 fun e41 => ?_
      subst e41
      exact p_ret Tryz.mo 5 [.eqT 15 (.bool true), .rg 0 [] [.v, .v]] [] [] (all_cons (congrArg (AV.bool) c37) all_nil) (by kernel_rfl)
    · have c39p := of_decide_eq_false c39
      refine bnd H40 fun y42 h43 H44 => ?_
      refine bsp H44 (fun c52 H53 => ?_) (fun c54 H55 => ?_)
      · refine bnd H53 fun y56 h57 H58 => ?_
        refine bsp H58 (fun c59 H60 => ?_) (fun c61 H62 => ?_)
        · refine p_at Tryz.mo 13 [.eqT 15 (.bool false), .rg 0 [] [.v, .c true (.bool true), .v, .v, .v, .c true (.bool y56), .v, .v, .v], .eqT 19 (.bool false), .rg 0 [] [.m], .rg 0 [] [.v, .e (.int .i64 ((x0.length : Nat) : Int)), .v]] [.only [1, 4, 5, 6, 28, 29, 30] [6]] 11 [false, false] (intmath_Dot_S1 x0 x1 0 (0, 0, 0, 0, 0, 0)) (all_cons (congrArg (AV.bool) c39) (all_cons Tryz.call189 (all_cons (AFn.eq (intmath_in_c x0 y42 h43) (congrArg (AV.bool) c52)) (all_cons trivial (all_cons Tryz.call189 (all_cons (AFn.is (intmath_in_c x1 y56 h57)) (all_cons trivial (all_cons (congrArg (fun x => AV.bool (!x)) c59) (all_cons trivial (all_cons (lenm cInt_i64 x0) all_nil)))))))))) (by kernel_rfl) ?_
          refine bnd H60 fun R107 h108 H109 => ?_
          refine p_joinO 1 (intmath_Dot_S2) R107 (by kernel_rfl) ?_ (fun u130 e131 => ?_)
          · refine p_cnt (intmath_Dot_S1 x0 x1) (by kernel_rfl) h108 (fun i93 s92 h111 e112 => ?_) (fun i93 s92 h119 q115 h116 h117 => ?_)
            · have c113 : decide (((i93 : Nat) : Int) < ((x0.length : Nat) : Int)) = false := decide_eq_false (by omega)
              subst e112
              exact p_bar Tryz.mo 5 [.rg 0 [] [.e (.bool false)]] [.only [4, 5, 6] [6]] (intmath_Dot_S2 (s92.1, s92.2.1, s92.2.2.1, s92.2.2.2.1, s92.2.2.2.2.1, s92.2.2.2.2.2)) (all_cons (congrArg (AV.bool) c113) all_nil) (by kernel_rfl)
            · have c118 : decide (((i93 : Nat) : Int) < ((x0.length : Nat) : Int)) = true := decide_eq_true (by omega)
              refine grd_e h116 fun g120 H121 => ?_
              refine bnd H121 fun y122 h123 H124 => ?_
              refine t_lens 28 (ps := [(x0.map cInt_i64).length ≤ 9223372036854775807]) (by kernel_rfl) (fun l127 => ?_)
              have l128 : x0.length ≤ 9223372036854775807 := by simpa only [All, List.length_map] using l127
              clear l127
              refine some_e H124 fun e129 => ?_
              subst e129
              exact p_bar Tryz.mo 11 [.rg 0 [] [.e (.bool true)], .rg 0 [] [.v, .e (.dptr [.int .i64 (x0.getD i93 0)]), .v, .v, .v], .rg 0 [] [.v, .v, .v, .e (.dptr [.int .i64 (x1.getD i93 0)]), .v, .hR [(6, 1000)] 40 (.tup []) [(1000, .cells 202 [.int .u64 y122.1, .int .u64 y122.2.1, .int .u64 y122.2.2.1, .int .u64 y122.2.2.2.1, .int .u64 y122.2.2.2.2.1, .int .u64 y122.2.2.2.2.2])]], .rg 0 [] [.v, .v]] [.only [1, 4, 5, 6, 28, 29, 30] [6]] (intmath_Dot_S1 x0 x1 (i93 + 1) (y122.1, y122.2.1, y122.2.2.1, y122.2.2.2.1, y122.2.2.2.2.1, y122.2.2.2.2.2)) (all_cons (congrArg (AV.bool) c118) (all_app (ix (f := cInt_i64) (l := x0) (n := i93) 0 cInt_i64_len (by decide) (by omega)) (all_app (ix (f := cInt_i64) (l := x1) (n := i93) 0 cInt_i64_len (by decide) (by omega)) (all_cons Tryz.call190 (all_cons (intmath_total_add_c (x0.getD i93 0) (x1.getD i93 0) s92.1 s92.2.1 s92.2.2.1 s92.2.2.2.1 s92.2.2.2.2.1 s92.2.2.2.2.2 y122 h123) (all_cons (show I64 (((i93 : Nat) : Int) + 1) from by unfold I64; omega) all_nil)))))) (by kernel_rfl)
          · subst e131
            have H132 := aftE_brk H109
            refine bnd H132 fun y133 h134 H135 => ?_
            refine some_e H135 fun e136 => ?_
            subst e136
            exact p_ret Tryz.mo 3 [.rg 0 [] [.hR [(6, 1000)] 42 (.tup [.int .i64 y133.1, .int .i64 y133.2]) [(1000, .cells 202 [.int .u64 u130.1, .int .u64 u130.2.1, .int .u64 u130.2.2.1, .int .u64 u130.2.2.2.1, .int .u64 u130.2.2.2.2.1, .int .u64 u130.2.2.2.2.2])], .v, .v, .v, .v]] [] [] (all_cons Tryz.call191 (all_cons (intmath_total_value_c u130.1 u130.2.1 u130.2.2.1 u130.2.2.2.1 u130.2.2.2.2.1 u130.2.2.2.2.2 y133 h134) all_nil)) (by kernel_rfl)
        · refine some_e H62 fun e137 => ?_
          subst e137
          exact p_ret Tryz.mo 9 [.eqT 15 (.bool false), .rg 0 [] [.v, .c true (.bool true), .v, .v, .v, .c true (.bool y56), .v, .v, .v], .eqT 19 (.bool true), .rg 0 [] [.v, .v]] [] [] (all_cons (congrArg (AV.bool) c39) (all_cons Tryz.call189 (all_cons (AFn.eq (intmath_in_c x0 y42 h43) (congrArg (AV.bool) c52)) (all_cons trivial (all_cons Tryz.call189 (all_cons (AFn.is (intmath_in_c x1 y56 h57)) (all_cons trivial (all_cons (congrArg (fun x => AV.bool (!x)) c61) all_nil)))))))) (by kernel_rfl)
      · refine some_e H55 fun e138 => ?_
        subst e138
        exact p_ret Tryz.mo 8 [.eqT 15 (.bool false), .rg 0 [] [.v, .c true (.bool false), .v, .v, .s, .s, .s, .v, .v], .rg 0 [] [.v, .v]] [] [] (all_cons (congrArg (AV.bool) c39) (all_cons Tryz.call189 (all_cons (AFn.eq (intmath_in_c x0 y42 h43) (congrArg (AV.bool) c54)) (all_cons trivial all_nil)))) (by kernel_rfl)
  · refine some_e H22 fun e139 => ?_
    subst e139
    exact p_ret Tryz.mo 11 [.rg 0 [] [.v, .v], .rg 0 [] [.v, .e (.int .i64 ((x0.length : Nat) : Int)), .v, .e (.int .i64 ((x1.length : Nat) : Int)), .v, .v], .eqT 9 (.bool true), .rg 0 [] [.v, .v]] [] [] (all_cons trivial (all_cons (lenm cInt_i64 x0) (all_cons trivial (all_cons (lenm cInt_i64 x1) (all_cons (congrArg (fun x => AV.bool (!x)) c21) all_nil))))) (by kernel_rfl)
/-- cmp.isNaN[string] -/
def cmp_isNaN_string (x0 : Str) : Option Bool :=
  some (!(x0 == x0))
theorem cmp_isNaN_string_c (x0 : Str) (r : Bool) (H : cmp_isNaN_string x0 = some r) : AFn Tryz.prog 253 [.str x0] (.bool r) := by
  unfold cmp_isNaN_string at H
  refine acallX Tryz.func253 6 [.tmp 2] (by kernel_rfl) (by kernel_rfl) ?_
  refine some_e H fun e1 => ?_
  subst e1
  exact p_ret Tryz.mo 5 [.rg 0 [] [.v], .rg 0 [] [.v, .v, .v, .v]] [] [] all_nil (by kernel_rfl)
/-- cmp.Less[string] -/
def cmp_Less_string (x0 : Str) (x1 : Str) : Option Bool :=
  (cmp_isNaN_string x0).bind fun y1 =>
  bif y1 then (
    (cmp_isNaN_string x1).bind fun y15 =>
    bif y15 then (
      some (Op.bytesLess x0 x1)
    ) else (
      some true
    )
  ) else (
    some (Op.bytesLess x0 x1)
  )
theorem cmp_Less_string_c (x0 : Str) (x1 : Str) (r : Bool) (H : cmp_Less_string x0 x1 = some r) : AFn Tryz.prog 210 [.str x0, .str x1] (.bool r) := by
  unfold cmp_Less_string at H
  refine acallX Tryz.func210 17 [.tmp 4] (by kernel_rfl) (by kernel_rfl) ?_
  refine bnd H fun y1 h2 H3 => ?_
  refine bsp H3 (fun c11 H12 => ?_) (fun c13 H14 => ?_)
  · refine bnd H12 fun y15 h16 H17 => ?_
    refine bsp H17 (fun c18 H19 => ?_) (fun c20 H21 => ?_)
    · refine some_e H19 fun e22 => ?_
      subst e22
      exact p_ret Tryz.mo 5 [.rg 0 [] [.v], .rg 0 [] [.v, .c true (.bool true), .v, .v, .c true (.bool true), .v, .v, .v, .v, .v, .v, .v, .v]] [] [] (all_cons Tryz.call253 (all_cons (AFn.eq (cmp_isNaN_string_c x0 y1 h2) (congrArg (AV.bool) c11)) (all_cons Tryz.call253 (all_cons (AFn.eq (cmp_isNaN_string_c x1 y15 h16) (congrArg (AV.bool) c18)) (all_cons trivial all_nil))))) (by kernel_rfl)
    · refine some_e H21 fun e23 => ?_
      subst e23
      exact p_ret Tryz.mo 5 [.rg 0 [] [.v], .rg 0 [] [.v, .c true (.bool true), .v, .v, .c true (.bool false), .v, .v, .v, .s, .s, .s, .v, .v]] [] [] (all_cons Tryz.call253 (all_cons (AFn.eq (cmp_isNaN_string_c x0 y1 h2) (congrArg (AV.bool) c11)) (all_cons Tryz.call253 (all_cons (AFn.eq (cmp_isNaN_string_c x1 y15 h16) (congrArg (AV.bool) c20)) (all_cons trivial all_nil))))) (by kernel_rfl)
  · refine some_e H14 fun e24 => ?_
    subst e24
    exact p_ret Tryz.mo 5 [.rg 0 [] [.v], .rg 0 [] [.v, .c true (.bool false), .v, .s, .s, .s, .v, .v, .v, .v, .v, .v, .v]] [] [] (all_cons Tryz.call253 (all_cons (AFn.eq (cmp_isNaN_string_c x0 y1 h2) (congrArg (AV.bool) c13)) all_nil)) (by kernel_rfl)
/-- slices.IsSorted[[]string,string] -/
def slices_IsSorted_string (x0 : (List Str)) : Option Bool :=
  (whl (σ := Int) (ε := Unit) (ρ := Bool) (fun s32 =>
    bif decide (s32 > 0) then (
      grd (0 ≤ s32 ∧ s32 < (x0.length : Int)) <|
      grd (0 ≤ (w64 (s32 - 1)) ∧ (w64 (s32 - 1)) < (x0.length : Int)) <|
      (cmp_Less_string (x0.getD s32.toNat []) (x0.getD (w64 (s32 - 1)).toNat [])).bind fun y64 =>
      bif y64 then (
        some (.ret false)
      ) else (
        some (.go (w64 (s32 - 1)))
      )
    ) else (
      some (.brk ())
    )
  ) 4294967296 (w64 (((x0.length : Nat) : Int) - 1))).bind <| aft fun u78 =>
  some true
def slices_IsSorted_string_S1 (x0 : (List Str)) (s32 : Int) : AS := ⟨21, [(0, .dslice (x0.map cStr)), (2, .bool false), (3, .int .i64 s32)], []⟩
def slices_IsSorted_string_S2 (u52 : Unit) : AS := ⟨21, [(2, .bool false)], []⟩
theorem slices_IsSorted_string_c (x0 : (List Str)) (r : Bool) (H : slices_IsSorted_string x0 = some r) : AFn Tryz.prog 134 [.dslice (x0.map cStr)] (.bool r) := by
  unfold slices_IsSorted_string at H
  refine acallX Tryz.func134 21 [.tmp 2] (by kernel_rfl) (by kernel_rfl) ?_
  refine p_at Tryz.mo 6 [.rg 0 [] [.v], .rg 0 [] [.v, .e (.int .i64 ((x0.length : Nat) : Int)), .w, .v]] [.only [0, 2, 3] []] 6 [] (slices_IsSorted_string_S1 x0 (w64 (((x0.length : Nat) : Int) - 1))) (all_cons trivial (all_cons (lenm cStr x0) all_nil)) (by kernel_rfl) ?_
  refine bnd H fun R49 h50 H51 => ?_
  refine p_joinO 1 (slices_IsSorted_string_S2) R49 (by kernel_rfl) ?_ (fun u78 e79 => ?_)
  · refine p_whl (slices_IsSorted_string_S1 x0) (by kernel_rfl) h50 (fun s32 q53 h54 h55 => ?_)
    · refine bsp h54 (fun c56 H57 => ?_) (fun c58 H59 => ?_)
      · have c56p := of_decide_eq_true c56
        refine grd_e H57 fun g60 H61 => ?_
        refine grd_e H61 fun g62 H63 => ?_
        refine bnd H63 fun y64 h65 H66 => ?_
        refine p_at Tryz.mo 10 [.rg 0 [] [.v, .v], .eqT 8 (.bool true), .rg 9 [.v, .v, .e (.dptr [.str (x0.getD s32.toNat [])]), .v, .v, .v, .w, .e (.dptr [.str (x0.getD (w64 (s32 - 1)).toNat [])]), .v] [.c true (.bool y64)]] [.only [0, 2, 3, 20] []] 9 [true] ⟨21, [(0, .dslice (x0.map cStr)), (2, .bool false), (3, .int .i64 s32), (20, .bool y64)], []⟩ (all_cons (congrArg (AV.bool) c56) (all_app (ixz (f := cStr) (l := x0) (n := s32) [] cStr_len (by decide) (by exact g60)) (all_app (ixz (f := cStr) (l := x0) (n := (w64 (s32 - 1))) [] cStr_len (by decide) (by exact g62)) (all_cons Tryz.call210 (all_cons (AFn.is (cmp_Less_string_c (x0.getD s32.toNat []) (x0.getD (w64 (s32 - 1)).toNat []) y64 h65)) all_nil))))) (by kernel_rfl) ?_
        refine bsp H66 (fun c67 H68 => ?_) (fun c69 H70 => ?_)
        · refine some_e H68 fun e71 => ?_
          subst e71
          have e72 := out_ret h55
          subst e72
          have H73 := aft_ret H51
          refine some_e H73 fun e74 => ?_
          subst e74
          exact p_ret Tryz.mo 5 [.eqT 20 (.bool true), .rg 0 [] [.v]] [] [] (all_cons (congrArg (AV.bool) c67) all_nil) (by kernel_rfl)
        · refine some_e H70 fun e75 => ?_
          subst e75
          exact p_bar Tryz.mo 4 [.eqT 20 (.bool false), .rg 0 [] [.v, .w, .v]] [.only [0, 2, 3] []] (slices_IsSorted_string_S1 x0 (w64 (s32 - 1))) (all_cons (congrArg (AV.bool) c69) all_nil) (by kernel_rfl)
      · have c58p := of_decide_eq_false c58
        refine some_e H59 fun e76 => ?_
        subst e76
        have e77 := out_brk h55
        subst e77
        exact p_bar Tryz.mo 6 [.rg 0 [] [.v, .v], .eqT 8 (.bool false)] [.only [2] []] (slices_IsSorted_string_S2 ()) (all_cons (congrArg (AV.bool) c58) all_nil) (by kernel_rfl)
  · subst e79
    have H80 := aft_brk H51
    refine some_e H80 fun e81 => ?_
    subst e81
    exact p_ret Tryz.mo 3 [.rg 0 [] [.v]] [] [] all_nil (by kernel_rfl)
/-- framewise/poly.Valid$1 -/
def poly_Valid_1 (x0 : Str) : Option Bool :=
  (linear_Name x0).bind fun y1 =>
  some (!y1)
theorem poly_Valid_1_c (x0 : Str) (r : Bool) (H : poly_Valid_1 x0 = some r) : AFn Tryz.prog 136 [.str x0] (.bool r) := by
  unfold poly_Valid_1 at H
  refine acallX Tryz.func136 6 [.tmp 2] (by kernel_rfl) (by kernel_rfl) ?_
  refine bnd H fun y1 h2 H3 => ?_
  refine some_e H3 fun e4 => ?_
  subst e4
  exact p_ret Tryz.mo 5 [.rg 0 [] [.v], .rg 0 [] [.v, .c true (.bool y1), .v, .v]] [] [] (all_cons Tryz.call96 (all_cons (AFn.is (linear_Name_c x0 y1 h2)) (all_cons trivial all_nil))) (by kernel_rfl)
/-- slices.IndexFunc[[]string,string] -/
def slices_IndexFunc_string (x0 : (List Str)) : Option Int :=
  (cnt (σ := Unit) (ε := Unit) (ρ := Int) (fun i29 s28 =>
    (poly_Valid_1 (x0.getD i29 [])).bind fun y58 =>
    bif y58 then (
      some (.ret ((i29 : Nat) : Int))
    ) else (
      some (.go ())
    )
  ) (fun i29 s28 => ()) (x0.length - 0) 0 ()).bind <| aft fun u74 =>
  some (-1)
def slices_IndexFunc_string_S1 (x0 : (List Str)) (i29 : Nat) (s28 : Unit) : AS := ⟨19, [(0, .dslice (x0.map cStr)), (1, .fn 136 []), (4, .int .i64 0), (7, .int .i64 ((x0.length : Nat) : Int)), (8, .int .i64 ((i29 : Nat) : Int))], []⟩
def slices_IndexFunc_string_S2 (u48 : Unit) : AS := ⟨19, [(4, .int .i64 0)], []⟩
theorem slices_IndexFunc_string_c (x0 : (List Str)) (r : Int) (H : slices_IndexFunc_string x0 = some r) : AFn Tryz.prog 211 [.dslice (x0.map cStr), .fn 136 []] (.int .i64 r) := by
  unfold slices_IndexFunc_string at H
  refine acallX Tryz.func211 19 [.tmp 4] (by kernel_rfl) (by kernel_rfl) ?_
  refine p_at Tryz.mo 6 [.rg 0 [] [.v], .rg 0 [] [.v, .e (.int .i64 ((x0.length : Nat) : Int)), .v]] [.only [0, 1, 4, 7, 8] []] 6 [] (slices_IndexFunc_string_S1 x0 0 ()) (all_cons trivial (all_cons (lenm cStr x0) all_nil)) (by kernel_rfl) ?_
  refine bnd H fun R45 h46 H47 => ?_
  refine p_joinO 1 (slices_IndexFunc_string_S2) R45 (by kernel_rfl) ?_ (fun u74 e75 => ?_)
  · refine p_cnt (slices_IndexFunc_string_S1 x0) (by kernel_rfl) h46 (fun i29 s28 h49 e50 => ?_) (fun i29 s28 h57 q53 h54 h55 => ?_)
    · have c51 : decide (((i29 : Nat) : Int) < ((x0.length : Nat) : Int)) = false := decide_eq_false (by omega)
      subst e50
      exact p_bar Tryz.mo 5 [.rg 0 [] [.e (.bool false)]] [.only [4] []] (slices_IndexFunc_string_S2 ()) (all_cons (congrArg (AV.bool) c51) all_nil) (by kernel_rfl)
    · have c56 : decide (((i29 : Nat) : Int) < ((x0.length : Nat) : Int)) = true := decide_eq_true (by omega)
      refine bnd h54 fun y58 h59 H60 => ?_
      refine bsp H60 (fun c61 H62 => ?_) (fun c63 H64 => ?_)
      · refine some_e H62 fun e65 => ?_
        subst e65
        have e66 := out_ret h55
        subst e66
        have H67 := aft_ret H47
        refine some_e H67 fun e68 => ?_
        subst e68
        exact p_ret Tryz.mo 16 [.rg 0 [] [.e (.bool true)], .rg 0 [] [.v, .v], .rg 0 [] [.v, .v, .v, .e (.dptr [.str (x0.getD i29 [])]), .v, .c true (.bool y58)], .eqT 16 (.bool true), .rg 0 [] [.v, .v]] [] [] (all_cons (congrArg (AV.bool) c56) (all_app (ix (f := cStr) (l := x0) (n := i29) [] cStr_len (by decide) (by omega)) (all_cons Tryz.call136 (all_cons (AFn.is (poly_Valid_1_c (x0.getD i29 []) y58 h59)) (all_cons (congrArg (AV.bool) c61) all_nil))))) (by kernel_rfl)
      · refine t_lens 0 (ps := [(x0.map cStr).length ≤ 9223372036854775807]) (by kernel_rfl) (fun l71 => ?_)
        have l72 : x0.length ≤ 9223372036854775807 := by simpa only [All, List.length_map] using l71
        clear l71
        refine some_e H64 fun e73 => ?_
        subst e73
        exact p_bar Tryz.mo 15 [.rg 0 [] [.e (.bool true)], .rg 0 [] [.v, .v], .rg 0 [] [.v, .v, .v, .e (.dptr [.str (x0.getD i29 [])]), .v, .c true (.bool y58)], .eqT 16 (.bool false), .rg 0 [] [.v, .v]] [.only [0, 1, 4, 7, 8] []] (slices_IndexFunc_string_S1 x0 (i29 + 1) ()) (all_cons (congrArg (AV.bool) c56) (all_app (ix (f := cStr) (l := x0) (n := i29) [] cStr_len (by decide) (by omega)) (all_cons Tryz.call136 (all_cons (AFn.is (poly_Valid_1_c (x0.getD i29 []) y58 h59)) (all_cons (congrArg (AV.bool) c63) (all_cons (show I64 (((i29 : Nat) : Int) + 1) from by unfold I64; omega) all_nil)))))) (by kernel_rfl)
  · subst e75
    have H76 := aft_brk H47
    refine some_e H76 fun e77 => ?_
    subst e77
    exact p_ret Tryz.mo 3 [.rg 0 [] [.v]] [] [] all_nil (by kernel_rfl)
/-- slices.ContainsFunc[[]string,string] -/
def slices_ContainsFunc_string (x0 : (List Str)) : Option Bool :=
  (slices_IndexFunc_string x0).bind fun y1 =>
  some (decide (y1 ≥ 0))
theorem slices_ContainsFunc_string_c (x0 : (List Str)) (r : Bool) (H : slices_ContainsFunc_string x0 = some r) : AFn Tryz.prog 135 [.dslice (x0.map cStr), .fn 136 []] (.bool r) := by
  unfold slices_ContainsFunc_string at H
  refine acallX Tryz.func135 9 [.tmp 4] (by kernel_rfl) (by kernel_rfl) ?_
  refine bnd H fun y1 h2 H3 => ?_
  refine some_e H3 fun e4 => ?_
  subst e4
  exact p_ret Tryz.mo 5 [.rg 0 [] [.v], .rg 0 [] [.v, .v, .c true (.int .i64 y1), .v, .v]] [] [] (all_cons Tryz.call211 (all_cons (AFn.is (slices_IndexFunc_string_c x0 y1 h2)) all_nil)) (by kernel_rfl)
/-- cmp.Compare[string] -/
def cmp_Compare_string (x0 : Str) (x1 : Str) : Option Int :=
  (cmp_isNaN_string x0).bind fun y1 =>
  (cmp_isNaN_string x1).bind fun y4 =>
  bif y1 then (
    bif y4 then (
      some 0
    ) else (
      some (-1)
    )
  ) else (
    bif y4 then (
      some 1
    ) else (
      bif (Op.bytesLess x0 x1) then (
        some (-1)
      ) else (
        bif (Op.bytesLess x0 x1 || x0 == x1) then (
          some 0
        ) else (
          some 1
        )
      )
    )
  )
theorem cmp_Compare_string_c (x0 : Str) (x1 : Str) (r : Int) (H : cmp_Compare_string x0 x1 = some r) : AFn Tryz.prog 212 [.str x0, .str x1] (.int .i64 r) := by
  unfold cmp_Compare_string at H
  refine acallX Tryz.func212 20 [.tmp 4] (by kernel_rfl) (by kernel_rfl) ?_
  refine bnd H fun y1 h2 H3 => ?_
  refine bnd H3 fun y4 h5 H6 => ?_
  refine bsp H6 (fun c11 H12 => ?_) (fun c13 H14 => ?_)
  · refine bsp H12 (fun c15 H16 => ?_) (fun c17 H18 => ?_)
    · refine some_e H16 fun e19 => ?_
      subst e19
      exact p_ret Tryz.mo 19 [.rg 0 [] [.v], .rg 0 [] [.v, .c true (.bool y1), .v], .rg 0 [] [.v, .c true (.bool y4), .v], .rg 0 [] [.v], .eqT 11 (.bool true), .rg 0 [] [.v], .eqT 12 (.bool true), .rg 0 [] [.v]] [] [] (all_cons Tryz.call253 (all_cons (AFn.is (cmp_isNaN_string_c x0 y1 h2)) (all_cons Tryz.call253 (all_cons (AFn.is (cmp_isNaN_string_c x1 y4 h5)) (all_cons (congrArg (AV.bool) c11) (all_cons (congrArg (AV.bool) c15) all_nil)))))) (by kernel_rfl)
    · refine some_e H18 fun e20 => ?_
      subst e20
      exact p_ret Tryz.mo 20 [.rg 0 [] [.v], .rg 0 [] [.v, .c true (.bool y1), .v], .rg 0 [] [.v, .c true (.bool y4), .v], .rg 0 [] [.v], .eqT 11 (.bool true), .rg 0 [] [.v], .eqT 12 (.bool false), .rg 0 [] [.v]] [] [] (all_cons Tryz.call253 (all_cons (AFn.is (cmp_isNaN_string_c x0 y1 h2)) (all_cons Tryz.call253 (all_cons (AFn.is (cmp_isNaN_string_c x1 y4 h5)) (all_cons (congrArg (AV.bool) c11) (all_cons (congrArg (AV.bool) c17) all_nil)))))) (by kernel_rfl)
  · refine bsp H14 (fun c21 H22 => ?_) (fun c23 H24 => ?_)
    · refine some_e H22 fun e25 => ?_
      subst e25
      exact p_ret Tryz.mo 20 [.rg 0 [] [.v], .rg 0 [] [.v, .c true (.bool y1), .v], .rg 0 [] [.v, .c true (.bool y4), .v], .rg 0 [] [.v], .eqT 11 (.bool false), .rg 0 [] [.v], .eqT 13 (.bool true), .rg 0 [] [.v]] [] [] (all_cons Tryz.call253 (all_cons (AFn.is (cmp_isNaN_string_c x0 y1 h2)) (all_cons Tryz.call253 (all_cons (AFn.is (cmp_isNaN_string_c x1 y4 h5)) (all_cons (congrArg (AV.bool) c13) (all_cons (congrArg (AV.bool) c21) all_nil)))))) (by kernel_rfl)
    · refine p_at Tryz.mo 21 [.rg 0 [] [.v], .rg 0 [] [.v, .c true (.bool y1), .v], .rg 0 [] [.v, .c true (.bool y4), .v], .rg 0 [] [.v], .eqT 11 (.bool false), .rg 0 [] [.v], .eqT 13 (.bool false), .rg 0 [] [.v, .v, .v]] [.only [0, 1, 4, 16] []] 19 [false, false] ⟨20, [(0, .str x0), (1, .str x1), (4, .int .i64 0), (16, .bool (Op.bytesLess x0 x1))], []⟩ (all_cons Tryz.call253 (all_cons (AFn.is (cmp_isNaN_string_c x0 y1 h2)) (all_cons Tryz.call253 (all_cons (AFn.is (cmp_isNaN_string_c x1 y4 h5)) (all_cons (congrArg (AV.bool) c13) (all_cons (congrArg (AV.bool) c23) all_nil)))))) (by kernel_rfl) ?_
      refine bsp H24 (fun c26 H27 => ?_) (fun c28 H29 => ?_)
      · refine some_e H27 fun e30 => ?_
        subst e30
        exact p_ret Tryz.mo 5 [.eqT 16 (.bool true), .rg 0 [] [.v]] [] [] (all_cons (congrArg (AV.bool) c26) all_nil) (by kernel_rfl)
      · refine bsp H29 (fun c31 H32 => ?_) (fun c33 H34 => ?_)
        · refine some_e H32 fun e35 => ?_
          subst e35
          exact p_ret Tryz.mo 12 [.eqT 16 (.bool false), .rg 0 [] [.v, .v, .v], .eqT 19 (.bool false), .rg 0 [] [.v]] [] [] (all_cons (congrArg (AV.bool) c28) (all_cons (congrArg (fun x => AV.bool (!x)) c31) all_nil)) (by kernel_rfl)
        · refine some_e H34 fun e36 => ?_
          subst e36
          exact p_ret Tryz.mo 11 [.eqT 16 (.bool false), .rg 0 [] [.v, .v, .v], .eqT 19 (.bool true), .rg 0 [] [.v]] [] [] (all_cons (congrArg (AV.bool) c28) (all_cons (congrArg (fun x => AV.bool (!x)) c33) all_nil)) (by kernel_rfl)
/-- slices.Compare[[]string,string] -/
def slices_Compare_string (x0 : (List Str)) (x1 : (List Str)) : Option Int :=
  (cnt (σ := Unit) (ε := Unit) (ρ := Int) (fun i37 s36 =>
    bif decide (((i37 : Nat) : Int) ≥ ((x1.length : Nat) : Int)) then (
      some (.ret 1)
    ) else (
      (cmp_Compare_string (x0.getD i37 []) (x1.getD i37 [])).bind fun y78 =>
      bif (y78 == 0) then (
        some (.go ())
      ) else (
        some (.ret y78)
      )
    )
  ) (fun i37 s36 => ()) (x0.length - 0) 0 ()).bind <| aft fun u94 =>
  bif decide (((x0.length : Nat) : Int) < ((x1.length : Nat) : Int)) then (
    some (-1)
  ) else (
    some 0
  )
def slices_Compare_string_S1 (x0 : (List Str)) (x1 : (List Str)) (i37 : Nat) (s36 : Unit) : AS := ⟨36, [(0, .dslice (x0.map cStr)), (1, .dslice (x1.map cStr)), (4, .int .i64 0), (9, .dslice (x0.map cStr)), (10, .int .i64 ((x0.length : Nat) : Int)), (11, .int .i64 ((i37 : Nat) : Int))], []⟩
def slices_Compare_string_S2 (x0 : (List Str)) (x1 : (List Str)) (u60 : Unit) : AS := ⟨36, [(0, .dslice (x0.map cStr)), (1, .dslice (x1.map cStr)), (4, .int .i64 0)], []⟩
theorem slices_Compare_string_c (x0 : (List Str)) (x1 : (List Str)) (r : Int) (H : slices_Compare_string x0 x1 = some r) : AFn Tryz.prog 137 [.dslice (x0.map cStr), .dslice (x1.map cStr)] (.int .i64 r) := by
  unfold slices_Compare_string at H
  refine acallX Tryz.func137 36 [.tmp 4] (by kernel_rfl) (by kernel_rfl) ?_
  refine p_at Tryz.mo 6 [.rg 0 [] [.v], .rg 0 [] [.v, .e (.int .i64 ((x0.length : Nat) : Int)), .v]] [.only [0, 1, 4, 9, 10, 11] []] 6 [] (slices_Compare_string_S1 x0 x1 0 ()) (all_cons trivial (all_cons (lenm cStr x0) all_nil)) (by kernel_rfl) ?_
  refine bnd H fun R57 h58 H59 => ?_
  refine p_joinO 1 (slices_Compare_string_S2 x0 x1) R57 (by kernel_rfl) ?_ (fun u94 e95 => ?_)
  · refine p_cnt (slices_Compare_string_S1 x0 x1) (by kernel_rfl) h58 (fun i37 s36 h61 e62 => ?_) (fun i37 s36 h69 q65 h66 h67 => ?_)
    · have c63 : decide (((i37 : Nat) : Int) < ((x0.length : Nat) : Int)) = false := decide_eq_false (by omega)
      subst e62
      exact p_bar Tryz.mo 5 [.rg 0 [] [.e (.bool false)]] [.only [0, 1, 4] []] (slices_Compare_string_S2 x0 x1 ()) (all_cons (congrArg (AV.bool) c63) all_nil) (by kernel_rfl)
    · have c68 : decide (((i37 : Nat) : Int) < ((x0.length : Nat) : Int)) = true := decide_eq_true (by omega)
      refine bsp h66 (fun c70 H71 => ?_) (fun c72 H73 => ?_)
      · have c70p := of_decide_eq_true c70
        refine some_e H71 fun e74 => ?_
        subst e74
        have e75 := out_ret h67
        subst e75
        have H76 := aft_ret H59
        refine some_e H76 fun e77 => ?_
        subst e77
        exact p_ret Tryz.mo 17 [.rg 0 [] [.e (.bool true)], .rg 0 [] [.v, .e (.dptr [.str (x0.getD i37 [])]), .v, .v, .v], .rg 0 [] [.v, .v, .e (.int .i64 ((x1.length : Nat) : Int)), .v], .eqT 19 (.bool true), .rg 0 [] [.v]] [] [] (all_cons (congrArg (AV.bool) c68) (all_app (ix (f := cStr) (l := x0) (n := i37) [] cStr_len (by decide) (by omega)) (all_cons trivial (all_cons (lenm cStr x1) (all_cons (congrArg (AV.bool) c70) all_nil))))) (by kernel_rfl)
      · have c72p := of_decide_eq_false c72
        refine bnd H73 fun y78 h79 H80 => ?_
        refine p_at Tryz.mo 21 [.rg 0 [] [.e (.bool true)], .rg 0 [] [.v, .e (.dptr [.str (x0.getD i37 [])]), .v, .v, .v], .rg 0 [] [.v, .v, .e (.int .i64 ((x1.length : Nat) : Int)), .v], .eqT 19 (.bool false), .rg 0 [] [.v, .v, .e (.dptr [.str (x1.getD i37 [])]), .v, .v], .rg 0 [] [.v, .v, .c true (.int .i64 y78), .v], .rg 0 [] [.v, .v]] [.only [0, 1, 4, 8, 9, 10, 11, 28] []] 20 [true, false] ⟨36, [(0, .dslice (x0.map cStr)), (1, .dslice (x1.map cStr)), (4, .int .i64 0), (8, .int .i64 y78), (9, .dslice (x0.map cStr)), (10, .int .i64 ((x0.length : Nat) : Int)), (11, .int .i64 ((i37 : Nat) : Int)), (28, .bool (y78 != 0))], []⟩ (all_cons (congrArg (AV.bool) c68) (all_app (ix (f := cStr) (l := x0) (n := i37) [] cStr_len (by decide) (by omega)) (all_cons trivial (all_cons (lenm cStr x1) (all_cons (congrArg (AV.bool) c72) (all_app (ix (f := cStr) (l := x1) (n := i37) [] cStr_len (by decide) (by omega)) (all_cons Tryz.call212 (all_cons (AFn.is (cmp_Compare_string_c (x0.getD i37 []) (x1.getD i37 []) y78 h79)) all_nil)))))))) (by kernel_rfl) ?_
        refine bsp H80 (fun c81 H82 => ?_) (fun c83 H84 => ?_)
        · refine t_lens 0 (ps := [(x0.map cStr).length ≤ 9223372036854775807]) (by kernel_rfl) (fun l87 => ?_)
          have l88 : x0.length ≤ 9223372036854775807 := by simpa only [All, List.length_map] using l87
          clear l87
          refine some_e H82 fun e89 => ?_
          subst e89
          exact p_bar Tryz.mo 4 [.eqT 28 (.bool false), .rg 0 [] [.v, .v]] [.only [0, 1, 4, 9, 10, 11] []] (slices_Compare_string_S1 x0 x1 (i37 + 1) ()) (all_cons (congrArg (fun x => AV.bool (!x)) c81) (all_cons (show I64 (((i37 : Nat) : Int) + 1) from by unfold I64; omega) all_nil)) (by kernel_rfl)
        · refine some_e H84 fun e90 => ?_
          subst e90
          have e91 := out_ret h67
          subst e91
          have H92 := aft_ret H59
          refine some_e H92 fun e93 => ?_
          subst e93
          exact p_ret Tryz.mo 5 [.eqT 28 (.bool true), .rg 0 [] [.v, .v]] [] [] (all_cons (congrArg (fun x => AV.bool (!x)) c83) all_nil) (by kernel_rfl)
  · subst e95
    have H96 := aft_brk H59
    refine bsp H96 (fun c97 H98 => ?_) (fun c99 H100 => ?_)
    · have c97p := of_decide_eq_true c97
      refine some_e H98 fun e101 => ?_
      subst e101
      exact p_ret Tryz.mo 8 [.rg 0 [] [.v, .e (.int .i64 ((x0.length : Nat) : Int)), .v, .e (.int .i64 ((x1.length : Nat) : Int)), .v], .eqT 35 (.bool true), .rg 0 [] [.v]] [] [] (all_cons trivial (all_cons (lenm cStr x0) (all_cons trivial (all_cons (lenm cStr x1) (all_cons (congrArg (AV.bool) c97) all_nil))))) (by kernel_rfl)
    · have c99p := of_decide_eq_false c99
      refine some_e H100 fun e102 => ?_
      subst e102
      exact p_ret Tryz.mo 9 [.rg 0 [] [.v, .e (.int .i64 ((x0.length : Nat) : Int)), .v, .e (.int .i64 ((x1.length : Nat) : Int)), .v], .eqT 35 (.bool false), .rg 0 [] [.v]] [] [] (all_cons trivial (all_cons (lenm cStr x0) (all_cons trivial (all_cons (lenm cStr x1) (all_cons (congrArg (AV.bool) c99) all_nil))))) (by kernel_rfl)
/-- framewise/poly.Valid -/
def poly_Valid (x0 : (List Monomial)) : Option Bool :=
  (cnt (σ := Unit) (ε := Unit) (ρ := Bool) (fun i216 s215 =>
    bif (((x0.getD i216 ⟨0, []⟩).Coef) == 0) then (
      some (.ret false)
    ) else (
      bif decide (((x0.getD i216 ⟨0, []⟩).Coef) < (-1099511627776)) then (
        some (.ret false)
      ) else (
        bif decide (((x0.getD i216 ⟨0, []⟩).Coef) > 1099511627776) then (
          some (.ret false)
        ) else (
          bif decide (((((x0.getD i216 ⟨0, []⟩).Vars).length : Nat) : Int) > 8) then (
            some (.ret false)
          ) else (
            (slices_IsSorted_string ((x0.getD i216 ⟨0, []⟩).Vars)).bind fun y441 =>
            bif y441 then (
              (slices_ContainsFunc_string ((x0.getD i216 ⟨0, []⟩).Vars)).bind fun y448 =>
              bif y448 then (
                some (.ret false)
              ) else (
                ((
                  bif decide (((i216 : Nat) : Int) > 0) then (
                    grd (0 ≤ (w64 (((i216 : Nat) : Int) - 1)) ∧ (w64 (((i216 : Nat) : Int) - 1)) < (x0.length : Int)) <|
                    (slices_Compare_string ((x0.getD (w64 (((i216 : Nat) : Int) - 1)).toNat ⟨0, []⟩).Vars) ((x0.getD i216 ⟨0, []⟩).Vars)).bind fun y487 =>
                    bif decide (y487 ≥ 0) then (
                      some (.ret (.ret false))
                    ) else (
                      some (.brk ())
                    )
                  ) else (
                    some (.brk ())
                  )
                ) : Option (Out Unit (Stp Unit Unit Bool))).bind (aft fun u480 =>
                  some (.go ())
                )
              )
            ) else (
              some (.ret false)
            )
          )
        )
      )
    )
  ) (fun i216 s215 => ()) (x0.length - 0) 0 ()).bind <| aft fun u513 =>
  some (decide (((x0.length : Nat) : Int) ≤ 60))
def poly_Valid_S1 (x0 : (List Monomial)) (i216 : Nat) (s215 : Unit) : AS := ⟨58, [(0, .dslice (x0.map cMonomial)), (2, .bool false), (5, .dslice (x0.map cMonomial)), (6, .int .i64 ((x0.length : Nat) : Int)), (7, .int .i64 ((i216 : Nat) : Int))], []⟩
def poly_Valid_S2 (x0 : (List Monomial)) (u347 : Unit) : AS := ⟨58, [(0, .dslice (x0.map cMonomial)), (2, .bool false)], []⟩
def poly_Valid_S3 (x0 : (List Monomial)) (i216 : Nat) (u480 : Unit) : AS := ⟨58, [(0, .dslice (x0.map cMonomial)), (2, .bool false), (5, .dslice (x0.map cMonomial)), (6, .int .i64 ((x0.length : Nat) : Int)), (7, .int .i64 ((i216 : Nat) : Int))], []⟩
theorem poly_Valid_c (x0 : (List Monomial)) (r : Bool) (H : poly_Valid x0 = some r) : AFn Tryz.prog 70 [.dslice (x0.map cMonomial)] (.bool r) := by
  unfold poly_Valid at H
  refine acallX Tryz.func70 58 [.tmp 2] (by kernel_rfl) (by kernel_rfl) ?_
  refine p_at Tryz.mo 6 [.rg 0 [] [.v], .rg 0 [] [.v, .e (.int .i64 ((x0.length : Nat) : Int)), .v]] [.only [0, 2, 5, 6, 7] []] 6 [] (poly_Valid_S1 x0 0 ()) (all_cons trivial (all_cons (lenm cMonomial x0) all_nil)) (by kernel_rfl) ?_
  refine bnd H fun R344 h345 H346 => ?_
  refine p_joinO 1 (poly_Valid_S2 x0) R344 (by kernel_rfl) ?_ (fun u513 e514 => ?_)
  · refine p_cnt (poly_Valid_S1 x0) (by kernel_rfl) h345 (fun i216 s215 h348 e349 => ?_) (fun i216 s215 h356 q352 h353 h354 => ?_)
    · have c350 : decide (((i216 : Nat) : Int) < ((x0.length : Nat) : Int)) = false := decide_eq_false (by omega)
      subst e349
      exact p_bar Tryz.mo 5 [.rg 0 [] [.e (.bool false)]] [.only [0, 2] []] (poly_Valid_S2 x0 ()) (all_cons (congrArg (AV.bool) c350) all_nil) (by kernel_rfl)
    · have c355 : decide (((i216 : Nat) : Int) < ((x0.length : Nat) : Int)) = true := decide_eq_true (by omega)
      refine bsp h353 (fun c376 H377 => ?_) (fun c378 H379 => ?_)
      · refine some_e H377 fun e380 => ?_
        subst e380
        have e381 := out_ret h354
        subst e381
        have H382 := aft_ret H346
        refine some_e H382 fun e383 => ?_
        subst e383
        exact p_ret Tryz.mo 16 [.rg 0 [] [.e (.bool true)], .rg 0 [] [.v, .e (.dptr [.int .i64 ((x0.getD i216 ⟨0, []⟩).Coef), .dslice (((x0.getD i216 ⟨0, []⟩).Vars).map cStr)]), .v, .m, .v, .m], .rg 0 [] [.v, .v, .e (.bool true), .v, .s, .s, .s, .v, .v, .s, .s, .s, .v, .v, .s, .s, .s, .s, .v, .v, .s, .s, .s, .s, .v], .rg 0 [] [.v]] [] [] (all_cons (congrArg (AV.bool) c355) (all_app (ix (f := cMonomial) (l := x0) (n := i216) ⟨0, []⟩ cMonomial_len (by decide) (by omega)) (all_cons (congrArg (AV.bool) c376) all_nil))) (by kernel_rfl)
      · refine bsp H379 (fun c399 H400 => ?_) (fun c401 H402 => ?_)
        · have c399p := of_decide_eq_true c399
          refine some_e H400 fun e403 => ?_
          subst e403
          have e404 := out_ret h354
          subst e404
          have H405 := aft_ret H346
          refine some_e H405 fun e406 => ?_
          subst e406
          exact p_ret Tryz.mo 16 [.rg 0 [] [.e (.bool true)], .rg 0 [] [.v, .e (.dptr [.int .i64 ((x0.getD i216 ⟨0, []⟩).Coef), .dslice (((x0.getD i216 ⟨0, []⟩).Vars).map cStr)]), .v, .m, .v, .m], .rg 0 [] [.v, .v, .e (.bool false), .v, .v, .v, .e (.bool true), .v, .v, .s, .s, .s, .v, .v, .s, .s, .s, .s, .v, .v, .s, .s, .s, .s, .v], .rg 0 [] [.v]] [] [] (all_cons (congrArg (AV.bool) c355) (all_app (ix (f := cMonomial) (l := x0) (n := i216) ⟨0, []⟩ cMonomial_len (by decide) (by omega)) (all_cons (congrArg (AV.bool) c378) (all_cons (congrArg (AV.bool) c399) all_nil)))) (by kernel_rfl)
        · have c401p := of_decide_eq_false c401
          refine bsp H402 (fun c418 H419 => ?_) (fun c420 H421 => ?_)
          · have c418p := of_decide_eq_true c418
            refine some_e H419 fun e422 => ?_
            subst e422
            have e423 := out_ret h354
            subst e423
            have H424 := aft_ret H346
            refine some_e H424 fun e425 => ?_
            subst e425
            exact p_ret Tryz.mo 16 [.rg 0 [] [.e (.bool true)], .rg 0 [] [.v, .e (.dptr [.int .i64 ((x0.getD i216 ⟨0, []⟩).Coef), .dslice (((x0.getD i216 ⟨0, []⟩).Vars).map cStr)]), .v, .m, .v, .m], .rg 0 [] [.v, .v, .e (.bool false), .v, .v, .v, .e (.bool false), .v, .v, .v, .v, .e (.bool true), .v, .v, .s, .s, .s, .s, .v, .v, .s, .s, .s, .s, .v], .rg 0 [] [.v]] [] [] (all_cons (congrArg (AV.bool) c355) (all_app (ix (f := cMonomial) (l := x0) (n := i216) ⟨0, []⟩ cMonomial_len (by decide) (by omega)) (all_cons (congrArg (AV.bool) c378) (all_cons (congrArg (AV.bool) c401) (all_cons (congrArg (AV.bool) c418) all_nil))))) (by kernel_rfl)
          · have c420p := of_decide_eq_false c420
            refine bsp H421 (fun c433 H434 => ?_) (fun c435 H436 => ?_)
            · have c433p := of_decide_eq_true c433
              refine some_e H434 fun e437 => ?_
              subst e437
              have e438 := out_ret h354
              subst e438
              have H439 := aft_ret H346
              refine some_e H439 fun e440 => ?_
              subst e440
              exact p_ret Tryz.mo 16 [.rg 0 [] [.e (.bool true)], .rg 0 [] [.v, .e (.dptr [.int .i64 ((x0.getD i216 ⟨0, []⟩).Coef), .dslice (((x0.getD i216 ⟨0, []⟩).Vars).map cStr)]), .v, .m, .v, .m], .rg 0 [] [.v, .v, .e (.bool false), .v, .v, .v, .e (.bool false), .v, .v, .v, .v, .e (.bool false), .v, .v, .v, .v, .e (.int .i64 ((((x0.getD i216 ⟨0, []⟩).Vars).length : Nat) : Int)), .e (.bool true), .v, .v, .s, .s, .s, .s, .v], .rg 0 [] [.v]] [] [] (all_cons (congrArg (AV.bool) c355) (all_app (ix (f := cMonomial) (l := x0) (n := i216) ⟨0, []⟩ cMonomial_len (by decide) (by omega)) (all_cons (congrArg (AV.bool) c378) (all_cons (congrArg (AV.bool) c401) (all_cons (congrArg (AV.bool) c420) (all_cons trivial (all_cons (lenm cStr ((x0.getD i216 ⟨0, []⟩).Vars)) (all_cons (congrArg (AV.bool) c433) all_nil)))))))) (by kernel_rfl)
            · have c435p := of_decide_eq_false c435
              refine bnd H436 fun y441 h442 H443 => ?_
              refine p_at Tryz.mo 12 [.rg 0 [] [.e (.bool true)], .rg 0 [] [.v, .e (.dptr [.int .i64 ((x0.getD i216 ⟨0, []⟩).Coef), .dslice (((x0.getD i216 ⟨0, []⟩).Vars).map cStr)]), .v, .m, .v, .m], .rg 0 [] [.v, .v, .e (.bool false), .v, .v, .v, .e (.bool false), .v, .v, .v, .v, .e (.bool false), .v, .v, .v, .v, .e (.int .i64 ((((x0.getD i216 ⟨0, []⟩).Vars).length : Nat) : Int)), .e (.bool false), .v, .v, .v, .v, .c true (.bool y441), .v, .v]] [.only [0, 2, 3, 4, 5, 6, 7, 36] [4]] 12 [true] ⟨58, [(0, .dslice (x0.map cMonomial)), (2, .bool false), (3, .int .i64 ((i216 : Nat) : Int)), (4, .hptr 4 0), (5, .dslice (x0.map cMonomial)), (6, .int .i64 ((x0.length : Nat) : Int)), (7, .int .i64 ((i216 : Nat) : Int)), (36, .bool (!y441))], [(4, .cells 118 [.int .i64 ((x0.getD i216 ⟨0, []⟩).Coef), .dslice (((x0.getD i216 ⟨0, []⟩).Vars).map cStr)])]⟩ (all_cons (congrArg (AV.bool) c355) (all_app (ix (f := cMonomial) (l := x0) (n := i216) ⟨0, []⟩ cMonomial_len (by decide) (by omega)) (all_cons (congrArg (AV.bool) c378) (all_cons (congrArg (AV.bool) c401) (all_cons (congrArg (AV.bool) c420) (all_cons trivial (all_cons (lenm cStr ((x0.getD i216 ⟨0, []⟩).Vars)) (all_cons (congrArg (AV.bool) c435) (all_cons Tryz.call134 (all_cons (AFn.is (slices_IsSorted_string_c ((x0.getD i216 ⟨0, []⟩).Vars) y441 h442)) (all_cons trivial all_nil))))))))))) (by kernel_rfl) ?_
              refine bsp H443 (fun c444 H445 => ?_) (fun c446 H447 => ?_)
              · refine bnd H445 fun y448 h449 H450 => ?_
                refine bsp H450 (fun c451 H452 => ?_) (fun c453 H454 => ?_)
                · refine some_e H452 fun e455 => ?_
                  subst e455
                  have e456 := out_ret h354
                  subst e456
                  have H457 := aft_ret H346
                  refine some_e H457 fun e458 => ?_
                  subst e458
                  exact p_ret Tryz.mo 11 [.eqT 36 (.bool false), .rg 0 [] [.v, .v, .c true (.bool y448)], .eqT 39 (.bool true), .rg 0 [] [.v]] [] [] (all_cons (congrArg (fun x => AV.bool (!x)) c444) (all_cons Tryz.call135 (all_cons (AFn.is (slices_ContainsFunc_string_c ((x0.getD i216 ⟨0, []⟩).Vars) y448 h449)) (all_cons (congrArg (AV.bool) c451) all_nil)))) (by kernel_rfl)
                · refine p_at Tryz.mo 10 [.eqT 36 (.bool false), .rg 0 [] [.v, .v, .c true (.bool y448)], .eqT 39 (.bool false)] [.only [0, 2, 3, 4, 5, 6, 7] [4]] 8 [false, false] ⟨58, [(0, .dslice (x0.map cMonomial)), (2, .bool false), (3, .int .i64 ((i216 : Nat) : Int)), (4, .hptr 4 0), (5, .dslice (x0.map cMonomial)), (6, .int .i64 ((x0.length : Nat) : Int)), (7, .int .i64 ((i216 : Nat) : Int))], [(4, .cells 118 [.int .i64 ((x0.getD i216 ⟨0, []⟩).Coef), .dslice (((x0.getD i216 ⟨0, []⟩).Vars).map cStr)])]⟩ (all_cons (congrArg (fun x => AV.bool (!x)) c444) (all_cons Tryz.call135 (all_cons (AFn.is (slices_ContainsFunc_string_c ((x0.getD i216 ⟨0, []⟩).Vars) y448 h449)) (all_cons (congrArg (AV.bool) c453) all_nil)))) (by kernel_rfl) ?_
                  refine bnd H454 fun v477 h478 H479 => ?_
                  refine p_joinO 2 (poly_Valid_S3 x0 i216) v477 (by kernel_rfl) ?_ (fun u480 e508 => ?_)
                  · refine bsp h478 (fun c481 H482 => ?_) (fun c483 H484 => ?_)
                    · have c481p := of_decide_eq_true c481
                      refine grd_e H482 fun g485 H486 => ?_
                      refine bnd H486 fun y487 h488 H489 => ?_
                      refine p_at Tryz.mo 1 [.rg 11 [.v, .e (.bool true), .v, .v, .v, .w, .e (.dptr [.int .i64 ((x0.getD (w64 (((i216 : Nat) : Int) - 1)).toNat ⟨0, []⟩).Coef), .dslice (((x0.getD (w64 (((i216 : Nat) : Int) - 1)).toNat ⟨0, []⟩).Vars).map cStr)]), .v, .v, .v, .v] [.c true (.int .i64 y487), .v, .v]] [.only [0, 2, 5, 6, 7, 53] []] 1 [] ⟨58, [(0, .dslice (x0.map cMonomial)), (2, .bool false), (5, .dslice (x0.map cMonomial)), (6, .int .i64 ((x0.length : Nat) : Int)), (7, .int .i64 ((i216 : Nat) : Int)), (53, .bool (decide (y487 ≥ 0)))], []⟩ (all_cons (congrArg (AV.bool) c481) (all_app (ixz (f := cMonomial) (l := x0) (n := (w64 (((i216 : Nat) : Int) - 1))) ⟨0, []⟩ cMonomial_len (by decide) (by exact g485)) (all_cons Tryz.call137 (all_cons (AFn.is (slices_Compare_string_c ((x0.getD (w64 (((i216 : Nat) : Int) - 1)).toNat ⟨0, []⟩).Vars) ((x0.getD i216 ⟨0, []⟩).Vars) y487 h488)) all_nil)))) (by kernel_rfl) ?_
                      refine bsp H489 (fun c490 H491 => ?_) (fun c492 H493 => ?_)
                      · have c490p := of_decide_eq_true c490
                        refine some_e H491 fun e494 => ?_
                        subst e494
                        have H495 := aft_ret H479
                        refine some_e H495 fun e496 => ?_
                        subst e496
                        have e497 := out_ret h354
                        subst e497
                        have H498 := aft_ret H346
                        refine some_e H498 fun e499 => ?_
                        subst e499
                        exact p_ret Tryz.mo 5 [.eqT 53 (.bool true), .rg 0 [] [.v]] [] [] (all_cons (congrArg (AV.bool) c490) all_nil) (by kernel_rfl)
                      · have c492p := of_decide_eq_false c492
                        refine some_e H493 fun e500 => ?_
                        subst e500
                        exact p_bar Tryz.mo 3 [.eqT 53 (.bool false)] [.only [0, 2, 5, 6, 7] []] (poly_Valid_S3 x0 i216 ()) (all_cons (congrArg (AV.bool) c492) all_nil) (by kernel_rfl)
                    · have c483p := of_decide_eq_false c483
                      refine some_e H484 fun e501 => ?_
                      subst e501
                      exact p_bar Tryz.mo 3 [.rg 11 [.v, .e (.bool false), .v, .s, .s, .s, .s, .s, .s, .s, .s] [.s, .s, .v]] [.only [0, 2, 5, 6, 7] []] (poly_Valid_S3 x0 i216 ()) (all_cons (congrArg (AV.bool) c483) all_nil) (by kernel_rfl)
                  · subst e508
                    have H502 := aft_brk H479
                    refine t_lens 0 (ps := [(x0.map cMonomial).length ≤ 9223372036854775807]) (by kernel_rfl) (fun l505 => ?_)
                    have l506 : x0.length ≤ 9223372036854775807 := by simpa only [All, List.length_map] using l505
                    clear l505
                    refine some_e H502 fun e507 => ?_
                    subst e507
                    exact p_bar Tryz.mo 1 [.rg 0 [] [.v, .v]] [.only [0, 2, 5, 6, 7] []] (poly_Valid_S1 x0 (i216 + 1) ()) (all_cons (show I64 (((i216 : Nat) : Int) + 1) from by unfold I64; omega) all_nil) (by kernel_rfl)
              · refine some_e H447 fun e509 => ?_
                subst e509
                have e510 := out_ret h354
                subst e510
                have H511 := aft_ret H346
                refine some_e H511 fun e512 => ?_
                subst e512
                exact p_ret Tryz.mo 5 [.eqT 36 (.bool true), .rg 0 [] [.v]] [] [] (all_cons (congrArg (fun x => AV.bool (!x)) c446) all_nil) (by kernel_rfl)
  · subst e514
    have H515 := aft_brk H346
    refine some_e H515 fun e516 => ?_
    subst e516
    exact p_ret Tryz.mo 3 [.rg 0 [] [.v, .e (.int .i64 ((x0.length : Nat) : Int)), .v, .v]] [] [] (all_cons trivial (all_cons (lenm cMonomial x0) all_nil)) (by kernel_rfl)
/-- (framewise/poly.sum).result -/
noncomputable def poly_sum_result (x0 : (List (Str × (List Str)))) (x1 : (List (Str × (List Int)))) (x2 : (List (Str × (List Int)))) : Option ((List Monomial) × Int) :=
  mrngK (σ := (List Monomial)) (ε := Empty) (β := ((List Monomial) × Int)) x0 (fun e107 s88 =>
    (intmath_Dot (mget [] e107.1 x1) (mget [] e107.1 x2)).bind fun y109 =>
    bif (y109.2 == 0) then (
      bif (y109.1 == 0) then (
        some (.go s88)
      ) else (
        grd ((s88.length + 1) * 32 ≤ 140737488355328) <|
        some (.go (s88 ++ [(Monomial.mk y109.1 e107.2)]))
      )
    ) else (
      some (.ret ([], 3))
    )
  ) [] (fun s88 =>
    (lib_SortM (fun x => x.Vars) s88).bind fun y91 =>
    (poly_Valid y91).bind fun y94 =>
    bif y94 then (
      some (y91, 0)
    ) else (
      some ([], 3)
    )
  )
def poly_sum_result_S1 (x0 : (List (Str × (List Str)))) (x1 : (List (Str × (List Int)))) (x2 : (List (Str × (List Int)))) (i89 : (List Nat)) (s88 : (List Monomial)) : AS := ⟨45, [(1, .hptr 1 0), (2, .eslice), (3, .int .i64 0), (4, .rslice 38), (11, .hptr 11 0)], [(1, .cells 144 [.dmap (x0.map (mapV cL_cStr)), .dmap (x1.map (mapV cL_cInt_i64)), .dmap (x2.map (mapV cL_cInt_i64))]), (11, .iter (x0.map (mapV cL_cStr)) i89), (38, .row 118 2 (s88.map cMonomial))]⟩
theorem poly_sum_result_c (x0 : (List (Str × (List Str)))) (x1 : (List (Str × (List Int)))) (x2 : (List (Str × (List Int)))) (r : ((List Monomial) × Int)) (H : poly_sum_result x0 x1 x2 = some r) : ACall Tryz.prog 133 [.agg [.amap 1000, .amap 1001, .amap 1002]] [(1000, .smap 9 90 (x0.map (mapV cL_cStr))), (1001, .rmap 3 1 (rcm cInt_i64 x1)), (1002, .rmap 3 1 (rcm cInt_i64 x2))] (fun r2 h2 => r2 = (.tup [.dslice (r.1.map cMonomial), .int .i64 r.2]) ∧ h2 = []) := by
  unfold poly_sum_result at H
  refine acallX Tryz.func133 45 [.tmp 2, .tmp 3] (by kernel_rfl) (by kernel_rfl) ?_
  refine p_at Tryz.mo 8 [.rg 0 [] [.m, .v, .v], .rg 0 [] [.v], .rg 0 [] [.v, .v, .fr 1001, .rwT 0 (.agg [.amap 1000, .dmap (x1.map (mapV cL_cInt_i64)), .amap 1002]), .rwH 1 (.cells 144 [.amap 1000, .dmap (x1.map (mapV cL_cInt_i64)), .amap 1002]), .fr 1002, .rwT 0 (.agg [.amap 1000, .dmap (x1.map (mapV cL_cInt_i64)), .dmap (x2.map (mapV cL_cInt_i64))]), .rwH 1 (.cells 144 [.amap 1000, .dmap (x1.map (mapV cL_cInt_i64)), .dmap (x2.map (mapV cL_cInt_i64))]), .fm 1000, .m]] [.er 4 38 118 2, .only [1, 2, 3, 4, 11] [1, 11, 38]] 8 [] (poly_sum_result_S1 x0 x1 x2 [] []) (all_cons (rcm_all cInt_i64 x1) (all_cons (congrArg (fun x : List (List UInt8 × AV) => AV.agg [.amap 1000, .dmap x, .amap 1002]) (rdm_rcm cInt_i64 x1)) (all_cons (congrArg (fun x : List (List UInt8 × AV) => AO.cells 144 [.amap 1000, .dmap x, .amap 1002]) (rdm_rcm cInt_i64 x1)) (all_cons (rcm_all cInt_i64 x2) (all_cons (congrArg (fun x : List (List UInt8 × AV) => AV.agg [.amap 1000, .dmap (x1.map (mapV cL_cInt_i64)), .dmap x]) (rdm_rcm cInt_i64 x2)) (all_cons (congrArg (fun x : List (List UInt8 × AV) => AO.cells 144 [.amap 1000, .dmap (x1.map (mapV cL_cInt_i64)), .dmap x]) (rdm_rcm cInt_i64 x2)) (all_cons (mapV_fl cL_cStr_ok x0) all_nil))))))) (by kernel_rfl) ?_
  refine p_mrngX (cc := cL_cStr) 11 (poly_sum_result_S1 x0 x1 x2) (by kernel_rfl) H [.v] (fun i89 s88 => ⟨by kernel_rfl, by kernel_rfl⟩) (fun i89 s88 => ⟨45, [(1, .hptr 1 0), (2, .eslice), (3, .int .i64 0), (4, .rslice 38), (11, .hptr 11 0), (12, .tup [.bool false]), (13, .bool false)], [(1, .cells 144 [.dmap (x0.map (mapV cL_cStr)), .dmap (x1.map (mapV cL_cInt_i64)), .dmap (x2.map (mapV cL_cInt_i64))]), (11, .iter (x0.map (mapV cL_cStr)) i89), (38, .row 118 2 (s88.map cMonomial))]⟩) (fun i89 s88 => by kernel_rfl) (fun i89 s88 n106 e107 => ⟨45, [(1, .hptr 1 0), (2, .eslice), (3, .int .i64 0), (4, .rslice 38), (11, .hptr 11 0), (12, .tup [.bool true, .str e107.1, .dslice (e107.2.map cStr)]), (13, .bool true)], [(1, .cells 144 [.dmap (x0.map (mapV cL_cStr)), .dmap (x1.map (mapV cL_cInt_i64)), .dmap (x2.map (mapV cL_cInt_i64))]), (11, .iter (x0.map (mapV cL_cStr)) (i89 ++ [n106])), (38, .row 118 2 (s88.map cMonomial))]⟩) (fun i89 s88 n106 e107 => by kernel_rfl) (fun i89 s88 H90 => ?_) (fun i89 s88 n106 e107 h108 q103 h104 h105 => ?_)
  · refine bnd H90 fun y91 h92 H93 => ?_
    refine bnd H93 fun y94 h95 H96 => ?_
    refine bsp H96 (fun c97 H98 => ?_) (fun c99 H100 => ?_)
    · refine some_e H98 fun e101 => ?_
      subst e101
      exact p_ret Tryz.mo 14 [.rg 0 [] [.v, .hR [(38, 1000)] 40 (.tup []) [(1000, .row 118 2 (y91.map cMonomial))]], .rg 0 [] [.v, .c false (.bool y94), .v], .eqT 43 (.bool false), .rg 0 [] [.v, .v, .v]] [.fz 38] [] (all_cons Tryz.call208 (all_cons (lib_SortM_c cMonomial (fun x => x.Vars) (fun x => x.Coef) (fun _ => rfl) s88 y91 h92) (all_cons Tryz.call70 (all_cons (AFn.is (poly_Valid_c y91 y94 h95)) (all_cons trivial (all_cons (congrArg (fun x => AV.bool (!x)) c97) all_nil)))))) (by kernel_rfl)
    · refine some_e H100 fun e102 => ?_
      subst e102
      exact p_ret Tryz.mo 13 [.rg 0 [] [.v, .hR [(38, 1000)] 40 (.tup []) [(1000, .row 118 2 (y91.map cMonomial))]], .rg 0 [] [.v, .c false (.bool y94), .v], .eqT 43 (.bool true), .rg 0 [] [.v, .v]] [.wk 2 []] [] (all_cons Tryz.call208 (all_cons (lib_SortM_c cMonomial (fun x => x.Vars) (fun x => x.Coef) (fun _ => rfl) s88 y91 h92) (all_cons Tryz.call70 (all_cons (AFn.is (poly_Valid_c y91 y94 h95)) (all_cons trivial (all_cons (congrArg (fun x => AV.bool (!x)) c99) all_nil)))))) (by kernel_rfl)
  · refine bnd h104 fun y109 h110 H111 => ?_
    refine p_at Tryz.mo 11 [.rg 0 [] [.en n106 (.tup [.str e107.1, .dslice (e107.2.map cStr)]), .v, .v, .v, .v], .rg 0 [] [.v, .v, .v, .l (.dslice ((mget [] e107.1 x1).map cInt_i64)), .v, .v, .v, .l (.dslice ((mget [] e107.1 x2).map cInt_i64)), .c true (.tup [.int .i64 y109.1, .int .i64 y109.2]), .v, .v, .v, .v, .v], .rg 0 [] [.v, .v]] [.only [1, 2, 3, 4, 6, 7, 11, 30] [1, 11, 38]] 11 [true] ⟨45, [(1, .hptr 1 0), (2, .eslice), (3, .int .i64 0), (4, .rslice 38), (6, .dslice (e107.2.map cStr)), (7, .int .i64 y109.1), (11, .hptr 11 0), (30, .bool (y109.2 != 0))], [(1, .cells 144 [.dmap (x0.map (mapV cL_cStr)), .dmap (x1.map (mapV cL_cInt_i64)), .dmap (x2.map (mapV cL_cInt_i64))]), (11, .iter (x0.map (mapV cL_cStr)) (i89 ++ [n106])), (38, .row 118 2 (s88.map cMonomial))]⟩ (all_cons (seen_last i89 n106) (all_cons (en_eq (cc := cL_cStr) h108) (all_cons (aget_mapV (c := cL_cInt_i64) e107.1 [] x1) (all_cons (aget_mapV (c := cL_cInt_i64) e107.1 [] x2) (all_cons Tryz.call207 (all_cons (AFn.is (intmath_Dot_c (mget [] e107.1 x1) (mget [] e107.1 x2) y109 h110)) all_nil)))))) (by kernel_rfl) ?_
    refine bsp H111 (fun c112 H113 => ?_) (fun c114 H115 => ?_)
    · refine bsp H113 (fun c116 H117 => ?_) (fun c118 H119 => ?_)
      · refine some_e H117 fun e120 => ?_
        subst e120
        exact p_bar Tryz.mo 8 [.eqT 30 (.bool false), .rg 0 [] [.v, .v], .eqT 32 (.bool false)] [.only [1, 2, 3, 4, 11] [1, 11, 38]] (poly_sum_result_S1 x0 x1 x2 (i89 ++ [n106]) s88) (all_cons (congrArg (fun x => AV.bool (!x)) c112) (all_cons (congrArg (fun x => AV.bool (!x)) c116) all_nil)) (by kernel_rfl)
      · refine grd_e H119 fun g121 H122 => ?_
        refine some_e H122 fun e123 => ?_
        subst e123
        exact p_bar Tryz.mo 8 [.eqT 30 (.bool false), .rg 0 [] [.v, .v], .eqT 32 (.bool true), .rg 0 [] [.v, .v, .v, .b, .b, .ap, .rwH 38 (.row 118 2 ((s88 ++ [(Monomial.mk y109.1 e107.2)]).map cMonomial)), .v]] [.only [1, 2, 3, 4, 11] [1, 11, 38]] (poly_sum_result_S1 x0 x1 x2 (i89 ++ [n106]) (s88 ++ [(Monomial.mk y109.1 e107.2)])) (all_cons (congrArg (fun x => AV.bool (!x)) c112) (all_cons (congrArg (fun x => AV.bool (!x)) c118) (all_app (apR (c := cMonomial) cMonomial_ok s88 [(Monomial.mk y109.1 e107.2)] 32 (by decide) (by simpa using g121)) (all_cons (apQ 118 2 cMonomial s88 [(Monomial.mk y109.1 e107.2)]) all_nil)))) (by kernel_rfl)
    · refine some_e H115 fun e124 => ?_
      subst e124
      have H125 := outK_ret h105
      refine some_e H125 fun e126 => ?_
      subst e126
      exact p_ret Tryz.mo 5 [.eqT 30 (.bool true), .rg 0 [] [.v, .v]] [.wk 2 []] [] (all_cons (congrArg (fun x => AV.bool (!x)) c114) all_nil) (by kernel_rfl)
/-- framewise/poly.Of -/
noncomputable def poly_Of (x0 : Linear) : Option ((List Monomial) × Int) :=
  (linear_Valid x0).bind fun y1 =>
  bif y1 then (
    (poly_newSum).bind fun y8 =>
    (poly_sum_add [] x0.Const 1 y8.1 y8.2.1 y8.2.2).bind fun y11 =>
    (cnt (σ := ((List (Str × (List Int))) × (List (Str × (List Int))) × (List (Str × (List Str))))) (ε := ((List (Str × (List Int))) × (List (Str × (List Int))) × (List (Str × (List Str))))) (ρ := Empty) (fun i37 s36 =>
      (poly_sum_add [((x0.Terms.getD i37 ⟨[], 0⟩).Var)] ((x0.Terms.getD i37 ⟨[], 0⟩).C) 1 s36.2.2 s36.1 s36.2.1).bind fun y62 =>
      some (.go (y62.2.1, y62.2.2, y62.1))
    ) (fun i37 s36 => (s36.1, s36.2.1, s36.2.2)) (x0.Terms.length - 0) 0 (y11.2.1, y11.2.2, y11.1)).bind <| aftE fun u70 =>
    (poly_sum_result u70.2.2 u70.1 u70.2.1).bind fun y73 =>
    some (y73.1, y73.2)
  ) else (
    some ([], 1)
  )
def poly_Of_S1 (x0 : Linear) (i37 : Nat) (s36 : ((List (Str × (List Int))) × (List (Str × (List Int))) × (List (Str × (List Str))))) : AS := ⟨34, [(2, .eslice), (3, .int .i64 0), (4, .hptr 4 0), (16, .dslice (x0.Terms.map cCoef)), (17, .int .i64 ((x0.Terms.length : Nat) : Int)), (18, .int .i64 ((i37 : Nat) : Int))], [(4, .cells 144 [.amap 900, .amap 901, .amap 902]), (900, .smap 9 90 (s36.2.2.map (mapV cL_cStr))), (901, .rmap 3 1 (rcm cInt_i64 s36.1)), (902, .rmap 3 1 (rcm cInt_i64 s36.2.1))]⟩
def poly_Of_S2 (u52 : ((List (Str × (List Int))) × (List (Str × (List Int))) × (List (Str × (List Str))))) : AS := ⟨34, [(2, .eslice), (3, .int .i64 0), (4, .hptr 4 0)], [(4, .cells 144 [.amap 900, .amap 901, .amap 902]), (900, .smap 9 90 (u52.2.2.map (mapV cL_cStr))), (901, .rmap 3 1 (rcm cInt_i64 u52.1)), (902, .rmap 3 1 (rcm cInt_i64 u52.2.1))]⟩
theorem poly_Of_c (x0 : Linear) (r : ((List Monomial) × Int)) (H : poly_Of x0 = some r) : AFn Tryz.prog 67 [.agg [.int .i64 x0.Const, .dslice (x0.Terms.map cCoef)]] (.tup [.dslice (r.1.map cMonomial), .int .i64 r.2]) := by
  unfold poly_Of at H
  refine acallX Tryz.func67 34 [.tmp 2, .tmp 3] (by kernel_rfl) (by kernel_rfl) ?_
  refine bnd H fun y1 h2 H3 => ?_
  refine bsp H3 (fun c4 H5 => ?_) (fun c6 H7 => ?_)
  · refine bnd H5 fun y8 h9 H10 => ?_
    refine bnd H10 fun y11 h12 H13 => ?_
    refine p_at Tryz.mo 16 [.rg 0 [] [.m, .v, .v], .rg 0 [] [.v, .c true (.bool y1), .v], .eqT 9 (.bool false), .rg 0 [] [.hM [] [(1, 900), (2, 901), (3, 902)] (.agg [.amap 1, .amap 2, .amap 3]) [(1, .smap 9 90 (y8.1.map (mapV cL_cStr))), (2, .rmap 3 1 (rcm cInt_i64 y8.2.1)), (3, .rmap 3 1 (rcm cInt_i64 y8.2.2))], .m, .m], .rg 0 [] [.v, .v, .v, .hR [(900, 1000), (901, 1001), (902, 1002)] 14 (.tup []) [(1000, .smap 9 90 (y11.1.map (mapV cL_cStr))), (1001, .rmap 3 1 (rcm cInt_i64 y11.2.1)), (1002, .rmap 3 1 (rcm cInt_i64 y11.2.2))]], .rg 0 [] [.v, .v, .e (.int .i64 ((x0.Terms.length : Nat) : Int)), .v]] [.only [2, 3, 4, 16, 17, 18] [4, 900, 901, 902]] 15 [false] (poly_Of_S1 x0 0 (y11.2.1, y11.2.2, y11.1)) (all_cons Tryz.call99 (all_cons (AFn.is (linear_Valid_c x0 y1 h2)) (all_cons trivial (all_cons (congrArg (fun x => AV.bool (!x)) c4) (all_cons Tryz.call131 (all_cons (poly_newSum_c y8 h9) (all_cons Tryz.call132 (all_cons (ACall.es (args := [.agg [.amap 1000, .amap 1001, .amap 1002], .eslice, .int .i64 x0.Const, .int .i64 1]) 1 (poly_sum_add_c [] x0.Const 1 y8.1 y8.2.1 y8.2.2 y11 h12) rfl) (all_cons trivial (all_cons (lenm cCoef x0.Terms) all_nil)))))))))) (by kernel_rfl) ?_
    refine bnd H13 fun R49 h50 H51 => ?_
    refine p_joinO 1 (poly_Of_S2) R49 (by kernel_rfl) ?_ (fun u70 e71 => ?_)
    · refine p_cnt (poly_Of_S1 x0) (by kernel_rfl) h50 (fun i37 s36 h53 e54 => ?_) (fun i37 s36 h61 q57 h58 h59 => ?_)
      · have c55 : decide (((i37 : Nat) : Int) < ((x0.Terms.length : Nat) : Int)) = false := decide_eq_false (by omega)
        subst e54
        exact p_bar Tryz.mo 5 [.rg 0 [] [.e (.bool false)]] [.only [2, 3, 4] [4, 900, 901, 902]] (poly_Of_S2 (s36.1, s36.2.1, s36.2.2)) (all_cons (congrArg (AV.bool) c55) all_nil) (by kernel_rfl)
      · have c60 : decide (((i37 : Nat) : Int) < ((x0.Terms.length : Nat) : Int)) = true := decide_eq_true (by omega)
        refine bnd h58 fun y62 h63 H64 => ?_
        refine t_lens 16 (ps := [(x0.Terms.map cCoef).length ≤ 9223372036854775807]) (by kernel_rfl) (fun l67 => ?_)
        have l68 : x0.Terms.length ≤ 9223372036854775807 := by simpa only [All, List.length_map] using l67
        clear l67
        refine some_e H64 fun e69 => ?_
        subst e69
        exact p_bar Tryz.mo 11 [.rg 0 [] [.e (.bool true)], .rg 0 [] [.e (.dptr [.str ((x0.Terms.getD i37 ⟨[], 0⟩).Var), .int .i64 ((x0.Terms.getD i37 ⟨[], 0⟩).C)]), .v, .m, .m], .rg 0 [] [.v, .v, .v, .b, .v, .v, .hR [(900, 1000), (901, 1001), (902, 1002)] 28 (.tup []) [(1000, .smap 9 90 (y62.1.map (mapV cL_cStr))), (1001, .rmap 3 1 (rcm cInt_i64 y62.2.1)), (1002, .rmap 3 1 (rcm cInt_i64 y62.2.2))]], .rg 0 [] [.v, .v]] [.only [2, 3, 4, 16, 17, 18] [4, 900, 901, 902]] (poly_Of_S1 x0 (i37 + 1) (y62.2.1, y62.2.2, y62.1)) (all_cons (congrArg (AV.bool) c60) (all_app (ix (f := cCoef) (l := x0.Terms) (n := i37) ⟨[], 0⟩ cCoef_len (by decide) (by omega)) (all_cons Tryz.call132 (all_cons (poly_sum_add_c [((x0.Terms.getD i37 ⟨[], 0⟩).Var)] ((x0.Terms.getD i37 ⟨[], 0⟩).C) 1 s36.2.2 s36.1 s36.2.1 y62 h63) (all_cons (show I64 (((i37 : Nat) : Int) + 1) from by unfold I64; omega) all_nil))))) (by kernel_rfl)
    · subst e71
      have H72 := aftE_brk H51
      refine bnd H72 fun y73 h74 H75 => ?_
      refine some_e H75 fun e76 => ?_
      subst e76
      exact p_ret Tryz.mo 3 [.rg 0 [] [.v, .hR [(900, 1000), (901, 1001), (902, 1002)] 31 (.tup [.dslice (y73.1.map cMonomial), .int .i64 y73.2]) [], .v, .v, .v, .v]] [] [] (all_cons Tryz.call133 (all_cons (poly_sum_result_c u70.2.2 u70.1 u70.2.1 y73 h74) all_nil)) (by kernel_rfl)
  · refine some_e H7 fun e77 => ?_
    subst e77
    exact p_ret Tryz.mo 10 [.rg 0 [] [.m, .v, .v], .rg 0 [] [.v, .c true (.bool y1), .v], .eqT 9 (.bool true), .rg 0 [] [.v, .v]] [.wk 2 []] [] (all_cons Tryz.call99 (all_cons (AFn.is (linear_Valid_c x0 y1 h2)) (all_cons trivial (all_cons (congrArg (fun x => AV.bool (!x)) c6) all_nil)))) (by kernel_rfl)
/-- framewise/poly.mul$1 -/
def poly_mul_1 (x0 : Monomial) (x1 : Monomial) (x2 : (List (Str × (List Str)))) (x3 : (List (Str × (List Int)))) (x4 : (List (Str × (List Int)))) : Option ((List (Str × (List Str))) × (List (Str × (List Int))) × (List (Str × (List Int)))) :=
  (lib_ConcatS [x0.Vars, x1.Vars]).bind fun y7 =>
  (poly_sum_add y7 x0.Coef x1.Coef x2 x3 x4).bind fun y10 =>
  some (y10.1, y10.2.1, y10.2.2)
theorem poly_mul_1_c (x0 : Monomial) (x1 : Monomial) (x2 : (List (Str × (List Str)))) (x3 : (List (Str × (List Int)))) (x4 : (List (Str × (List Int)))) (r : ((List (Str × (List Str))) × (List (Str × (List Int))) × (List (Str × (List Int))))) (H : poly_mul_1 x0 x1 x2 x3 x4 = some r) : ACall Tryz.prog 199 [.agg [.int .i64 x0.Coef, .dslice (x0.Vars.map cStr)], .agg [.int .i64 x1.Coef, .dslice (x1.Vars.map cStr)], .hptr 1000 0] [(1000, .cells 144 [.amap 1001, .amap 1002, .amap 1003]), (1001, .smap 9 90 (x2.map (mapV cL_cStr))), (1002, .rmap 3 1 (rcm cInt_i64 x3)), (1003, .rmap 3 1 (rcm cInt_i64 x4))] (fun r2 h2 => r2 = (.tup []) ∧ h2 = [(1000, .cells 144 [.amap 1001, .amap 1002, .amap 1003]), (1001, .smap 9 90 (r.1.map (mapV cL_cStr))), (1002, .rmap 3 1 (rcm cInt_i64 r.2.1)), (1003, .rmap 3 1 (rcm cInt_i64 r.2.2))]) := by
  unfold poly_mul_1 at H
  refine acallX Tryz.func199 17 [] (by kernel_rfl) (by kernel_rfl) ?_
  refine bnd H fun y7 h8 H9 => ?_
  refine bnd H9 fun y10 h11 H12 => ?_
  refine some_e H12 fun e13 => ?_
  subst e13
  exact p_ret Tryz.mo 3 [.rg 0 [] [.m, .m], .rg 11 [.v, .v, .v, .v, .v, .b, .c true (.dslice (y7.map cStr)), .v, .v, .v, .v] [.hR [(1001, 1000), (1002, 1001), (1003, 1002)] 16 (.tup []) [(1000, .smap 9 90 (y10.1.map (mapV cL_cStr))), (1001, .rmap 3 1 (rcm cInt_i64 y10.2.1)), (1002, .rmap 3 1 (rcm cInt_i64 y10.2.2))]]] [] [1000, 1001, 1002, 1003] (all_cons Tryz.call200 (all_cons (AFn.is (lib_ConcatS_c cStr [x0.Vars, x1.Vars] cStr_ok y7 h8)) (all_cons Tryz.call132 (all_cons (poly_sum_add_c y7 x0.Coef x1.Coef x2 x3 x4 y10 h11) all_nil)))) (by kernel_rfl)
/-- framewise/poly.pairs[framewise/api.Monomial,framewise/api.Monomial] -/
def poly_pairs_api_Monomial (x0 : (List Monomial)) (x1 : (List Monomial)) (x2 : (List (Str × (List Str)))) (x3 : (List (Str × (List Int)))) (x4 : (List (Str × (List Int)))) : Option ((List (Str × (List Str))) × (List (Str × (List Int))) × (List (Str × (List Int)))) :=
  (cnt (σ := ((List (Str × (List Str))) × (List (Str × (List Int))) × (List (Str × (List Int))))) (ε := ((List (Str × (List Str))) × (List (Str × (List Int))) × (List (Str × (List Int))))) (ρ := ((List (Str × (List Str))) × (List (Str × (List Int))) × (List (Str × (List Int))))) (fun i303 s302 =>
    (cnt (σ := ((List (Str × (List Str))) × (List (Str × (List Int))) × (List (Str × (List Int))))) (ε := ((List (Str × (List Str))) × (List (Str × (List Int))) × (List (Str × (List Int))))) (ρ := Empty) (fun i341 s340 =>
      (poly_mul_1 (Monomial.mk ((x0.getD i303 ⟨0, []⟩).Coef) ((x0.getD i303 ⟨0, []⟩).Vars)) (Monomial.mk ((x1.getD i341 ⟨0, []⟩).Coef) ((x1.getD i341 ⟨0, []⟩).Vars)) s340.1 s340.2.1 s340.2.2).bind fun y366 =>
      some (.go (y366.1, y366.2.1, y366.2.2))
    ) (fun i341 s340 => (s340.1, s340.2.1, s340.2.2)) (x1.length - 0) 0 (s302.1, s302.2.1, s302.2.2)).bind <| aftE fun u374 =>
    some (.go (u374.1, u374.2.1, u374.2.2))
  ) (fun i303 s302 => (s302.1, s302.2.1, s302.2.2)) (x0.length - 0) 0 (x2, x3, x4)).bind <| aft some
def poly_pairs_api_Monomial_S1 (x0 : (List Monomial)) (x1 : (List Monomial)) (i303 : Nat) (s302 : ((List (Str × (List Str))) × (List (Str × (List Int))) × (List (Str × (List Int))))) : AS := ⟨28, [(1, .dslice (x1.map cMonomial)), (2, .fn 199 [.hptr 1000 0]), (10, .dslice (x0.map cMonomial)), (11, .int .i64 ((x0.length : Nat) : Int)), (12, .int .i64 ((i303 : Nat) : Int))], [(1000, .cells 144 [.amap 1001, .amap 1002, .amap 1003]), (1001, .smap 9 90 (s302.1.map (mapV cL_cStr))), (1002, .rmap 3 1 (rcm cInt_i64 s302.2.1)), (1003, .rmap 3 1 (rcm cInt_i64 s302.2.2))]⟩
def poly_pairs_api_Monomial_S2 (x0 : (List Monomial)) (x1 : (List Monomial)) (i303 : Nat) (i341 : Nat) (s340 : ((List (Str × (List Str))) × (List (Str × (List Int))) × (List (Str × (List Int))))) : AS := ⟨28, [(1, .dslice (x1.map cMonomial)), (2, .fn 199 [.hptr 1000 0]), (7, .hptr 7 0), (10, .dslice (x0.map cMonomial)), (11, .int .i64 ((x0.length : Nat) : Int)), (12, .int .i64 ((i303 : Nat) : Int)), (16, .dslice (x1.map cMonomial)), (17, .int .i64 ((x1.length : Nat) : Int)), (18, .int .i64 ((i341 : Nat) : Int))], [(7, .cells 118 [.int .i64 ((x0.getD i303 ⟨0, []⟩).Coef), .dslice (((x0.getD i303 ⟨0, []⟩).Vars).map cStr)]), (1000, .cells 144 [.amap 1001, .amap 1002, .amap 1003]), (1001, .smap 9 90 (s340.1.map (mapV cL_cStr))), (1002, .rmap 3 1 (rcm cInt_i64 s340.2.1)), (1003, .rmap 3 1 (rcm cInt_i64 s340.2.2))]⟩
def poly_pairs_api_Monomial_S3 (x0 : (List Monomial)) (x1 : (List Monomial)) (i303 : Nat) (u356 : ((List (Str × (List Str))) × (List (Str × (List Int))) × (List (Str × (List Int))))) : AS := ⟨28, [(1, .dslice (x1.map cMonomial)), (2, .fn 199 [.hptr 1000 0]), (10, .dslice (x0.map cMonomial)), (11, .int .i64 ((x0.length : Nat) : Int)), (12, .int .i64 ((i303 : Nat) : Int))], [(1000, .cells 144 [.amap 1001, .amap 1002, .amap 1003]), (1001, .smap 9 90 (u356.1.map (mapV cL_cStr))), (1002, .rmap 3 1 (rcm cInt_i64 u356.2.1)), (1003, .rmap 3 1 (rcm cInt_i64 u356.2.2))]⟩
theorem poly_pairs_api_Monomial_c (x0 : (List Monomial)) (x1 : (List Monomial)) (x2 : (List (Str × (List Str)))) (x3 : (List (Str × (List Int)))) (x4 : (List (Str × (List Int)))) (r : ((List (Str × (List Str))) × (List (Str × (List Int))) × (List (Str × (List Int))))) (H : poly_pairs_api_Monomial x0 x1 x2 x3 x4 = some r) : ACall Tryz.prog 198 [.dslice (x0.map cMonomial), .dslice (x1.map cMonomial), .fn 199 [.hptr 1000 0]] [(1000, .cells 144 [.amap 1001, .amap 1002, .amap 1003]), (1001, .smap 9 90 (x2.map (mapV cL_cStr))), (1002, .rmap 3 1 (rcm cInt_i64 x3)), (1003, .rmap 3 1 (rcm cInt_i64 x4))] (fun r2 h2 => r2 = (.tup []) ∧ h2 = [(1000, .cells 144 [.amap 1001, .amap 1002, .amap 1003]), (1001, .smap 9 90 (r.1.map (mapV cL_cStr))), (1002, .rmap 3 1 (rcm cInt_i64 r.2.1)), (1003, .rmap 3 1 (rcm cInt_i64 r.2.2))]) := by
  unfold poly_pairs_api_Monomial at H
  refine acallX Tryz.func198 28 [] (by kernel_rfl) (by kernel_rfl) ?_
  refine p_at Tryz.mo 3 [.rg 0 [] [.v, .e (.int .i64 ((x0.length : Nat) : Int)), .v]] [.only [1, 2, 10, 11, 12] [1000, 1001, 1002, 1003]] 3 [] (poly_pairs_api_Monomial_S1 x0 x1 0 (x2, x3, x4)) (all_cons trivial (all_cons (lenm cMonomial x0) all_nil)) (by kernel_rfl) ?_
  refine bnd H fun R304 h305 H306 => ?_
  refine p_cnt (poly_pairs_api_Monomial_S1 x0 x1) (by kernel_rfl) h305 (fun i303 s302 h307 e308 => ?_) (fun i303 s302 h317 q313 h314 h315 => ?_)
  · have c309 : decide (((i303 : Nat) : Int) < ((x0.length : Nat) : Int)) = false := decide_eq_false (by omega)
    subst e308
    have H311 := aft_brk H306
    refine some_e H311 fun e312 => ?_
    subst e312
    exact p_ret Tryz.mo 5 [.rg 0 [] [.e (.bool false)]] [] [1000, 1001, 1002, 1003] (all_cons (congrArg (AV.bool) c309) all_nil) (by kernel_rfl)
  · have c316 : decide (((i303 : Nat) : Int) < ((x0.length : Nat) : Int)) = true := decide_eq_true (by omega)
    refine p_at Tryz.mo 12 [.rg 0 [] [.e (.bool true)], .rg 0 [] [.e (.dptr [.int .i64 ((x0.getD i303 ⟨0, []⟩).Coef), .dslice (((x0.getD i303 ⟨0, []⟩).Vars).map cStr)]), .v, .m, .m], .rg 0 [] [.v, .e (.int .i64 ((x1.length : Nat) : Int)), .v]] [.only [1, 2, 7, 10, 11, 12, 16, 17, 18] [7, 1000, 1001, 1002, 1003]] 12 [true] (poly_pairs_api_Monomial_S2 x0 x1 i303 0 (s302.1, s302.2.1, s302.2.2)) (all_cons (congrArg (AV.bool) c316) (all_app (ix (f := cMonomial) (l := x0) (n := i303) ⟨0, []⟩ cMonomial_len (by decide) (by omega)) (all_cons trivial (all_cons (lenm cMonomial x1) all_nil)))) (by kernel_rfl) ?_
    refine bnd h314 fun R353 h354 H355 => ?_
    refine p_joinO 2 (poly_pairs_api_Monomial_S3 x0 x1 i303) R353 (by kernel_rfl) ?_ (fun u374 e375 => ?_)
    · refine p_cnt (poly_pairs_api_Monomial_S2 x0 x1 i303) (by kernel_rfl) h354 (fun i341 s340 h357 e358 => ?_) (fun i341 s340 h365 q361 h362 h363 => ?_)
      · have c359 : decide (((i341 : Nat) : Int) < ((x1.length : Nat) : Int)) = false := decide_eq_false (by omega)
        subst e358
        exact p_bar Tryz.mo 5 [.rg 0 [] [.e (.bool false)]] [.only [1, 2, 10, 11, 12] [1000, 1001, 1002, 1003]] (poly_pairs_api_Monomial_S3 x0 x1 i303 (s340.1, s340.2.1, s340.2.2)) (all_cons (congrArg (AV.bool) c359) all_nil) (by kernel_rfl)
      · have c364 : decide (((i341 : Nat) : Int) < ((x1.length : Nat) : Int)) = true := decide_eq_true (by omega)
        refine bnd h362 fun y366 h367 H368 => ?_
        refine t_lens 1 (ps := [(x1.map cMonomial).length ≤ 9223372036854775807]) (by kernel_rfl) (fun l371 => ?_)
        have l372 : x1.length ≤ 9223372036854775807 := by simpa only [All, List.length_map] using l371
        clear l371
        refine some_e H368 fun e373 => ?_
        subst e373
        exact p_bar Tryz.mo 11 [.rg 0 [] [.e (.bool true)], .rg 0 [] [.e (.dptr [.int .i64 ((x1.getD i341 ⟨0, []⟩).Coef), .dslice (((x1.getD i341 ⟨0, []⟩).Vars).map cStr)]), .v, .m, .m], .rg 0 [] [.v, .v, .v, .hR [(1000, 1000), (1001, 1001), (1002, 1002), (1003, 1003)] 25 (.tup []) [(1000, .cells 144 [.amap 1001, .amap 1002, .amap 1003]), (1001, .smap 9 90 (y366.1.map (mapV cL_cStr))), (1002, .rmap 3 1 (rcm cInt_i64 y366.2.1)), (1003, .rmap 3 1 (rcm cInt_i64 y366.2.2))]], .rg 0 [] [.v, .v]] [.only [1, 2, 7, 10, 11, 12, 16, 17, 18] [7, 1000, 1001, 1002, 1003]] (poly_pairs_api_Monomial_S2 x0 x1 i303 (i341 + 1) (y366.1, y366.2.1, y366.2.2)) (all_cons (congrArg (AV.bool) c364) (all_app (ix (f := cMonomial) (l := x1) (n := i341) ⟨0, []⟩ cMonomial_len (by decide) (by omega)) (all_cons Tryz.call199 (all_cons (poly_mul_1_c (Monomial.mk ((x0.getD i303 ⟨0, []⟩).Coef) ((x0.getD i303 ⟨0, []⟩).Vars)) (Monomial.mk ((x1.getD i341 ⟨0, []⟩).Coef) ((x1.getD i341 ⟨0, []⟩).Vars)) s340.1 s340.2.1 s340.2.2 y366 h367) (all_cons (show I64 (((i341 : Nat) : Int) + 1) from by unfold I64; omega) all_nil))))) (by kernel_rfl)
    · subst e375
      have H376 := aftE_brk H355
      refine t_lens 10 (ps := [(x0.map cMonomial).length ≤ 9223372036854775807]) (by kernel_rfl) (fun l379 => ?_)
      have l380 : x0.length ≤ 9223372036854775807 := by simpa only [All, List.length_map] using l379
      clear l379
      refine some_e H376 fun e381 => ?_
      subst e381
      exact p_bar Tryz.mo 1 [.rg 0 [] [.v, .v]] [.only [1, 2, 10, 11, 12] [1000, 1001, 1002, 1003]] (poly_pairs_api_Monomial_S1 x0 x1 (i303 + 1) (u374.1, u374.2.1, u374.2.2)) (all_cons (show I64 (((i303 : Nat) : Int) + 1) from by unfold I64; omega) all_nil) (by kernel_rfl)
/-- framewise/poly.mul -/
noncomputable def poly_mul (x0 : (List Monomial)) (x1 : (List Monomial)) : Option ((List Monomial) × Int) :=
  (poly_newSum).bind fun y1 =>
  (poly_pairs_api_Monomial x0 x1 y1.1 y1.2.1 y1.2.2).bind fun y4 =>
  (poly_sum_result y4.1 y4.2.1 y4.2.2).bind fun y7 =>
  some (y7.1, y7.2)
theorem poly_mul_c (x0 : (List Monomial)) (x1 : (List Monomial)) (r : ((List Monomial) × Int)) (H : poly_mul x0 x1 = some r) : AFn Tryz.prog 124 [.dslice (x0.map cMonomial), .dslice (x1.map cMonomial)] (.tup [.dslice (r.1.map cMonomial), .int .i64 r.2]) := by
  unfold poly_mul at H
  refine acallX Tryz.func124 16 [.tmp 4, .tmp 5] (by kernel_rfl) (by kernel_rfl) ?_
  refine bnd H fun y1 h2 H3 => ?_
  refine bnd H3 fun y4 h5 H6 => ?_
  refine bnd H6 fun y7 h8 H9 => ?_
  refine some_e H9 fun e10 => ?_
  subst e10
  exact p_ret Tryz.mo 9 [.rg 0 [] [.v, .v], .rg 0 [] [.hM [] [(1, 900), (2, 901), (3, 902)] (.agg [.amap 1, .amap 2, .amap 3]) [(1, .smap 9 90 (y1.1.map (mapV cL_cStr))), (2, .rmap 3 1 (rcm cInt_i64 y1.2.1)), (3, .rmap 3 1 (rcm cInt_i64 y1.2.2))], .m, .m], .rg 0 [] [.v, .v, .v, .hR [(6, 1000), (900, 1001), (901, 1002), (902, 1003)] 11 (.tup []) [(1000, .cells 144 [.amap 1001, .amap 1002, .amap 1003]), (1001, .smap 9 90 (y4.1.map (mapV cL_cStr))), (1002, .rmap 3 1 (rcm cInt_i64 y4.2.1)), (1003, .rmap 3 1 (rcm cInt_i64 y4.2.2))]], .rg 0 [] [.v, .hR [(900, 1000), (901, 1001), (902, 1002)] 13 (.tup [.dslice (y7.1.map cMonomial), .int .i64 y7.2]) [], .v, .v, .v, .v]] [] [] (all_cons Tryz.call131 (all_cons (poly_newSum_c y1 h2) (all_cons Tryz.call198 (all_cons (poly_pairs_api_Monomial_c x0 x1 y1.1 y1.2.1 y1.2.2 y4 h5) (all_cons Tryz.call133 (all_cons (poly_sum_result_c y4.1 y4.2.1 y4.2.2 y7 h8) all_nil)))))) (by kernel_rfl)
/-- framewise/poly.Product -/
noncomputable def poly_Product (x0 : (List Linear)) : Option ((List Monomial) × Int) :=
  (cnt (σ := (List (List Monomial))) (ε := (List (List Monomial))) (ρ := ((List Monomial) × Int)) (fun i32 s31 =>
    (poly_Of (Linear.mk ((x0.getD i32 ⟨0, []⟩).Const) ((x0.getD i32 ⟨0, []⟩).Terms))).bind fun y63 =>
    bif (y63.2 == 0) then (
      grd ((s31.length + 1) * 24 ≤ 140737488355328) <|
      some (.go (s31 ++ [y63.1]))
    ) else (
      some (.ret ([], y63.2))
    )
  ) (fun i32 s31 => s31) (x0.length - 0) 0 []).bind <| aft fun u81 =>
  (cnt (σ := (List Monomial)) (ε := (List Monomial)) (ρ := ((List Monomial) × Int)) (fun i113 s112 =>
    (poly_mul s112 (u81.getD i113 [])).bind fun y142 =>
    bif (y142.2 == 0) then (
      some (.go y142.1)
    ) else (
      some (.ret ([], y142.2))
    )
  ) (fun i113 s112 => s112) (u81.length - 0) 0 [(Monomial.mk 1 [])]).bind <| aft fun u158 =>
  some (u158, 0)
def poly_Product_S1 (x0 : (List Linear)) (i32 : Nat) (s31 : (List (List Monomial))) : AS := ⟨53, [(2, .eslice), (3, .int .i64 0), (4, .rslice 31), (14, .dslice (x0.map cLinear)), (15, .int .i64 ((x0.length : Nat) : Int)), (16, .int .i64 ((i32 : Nat) : Int))], [(31, .row 70 1 (s31.map cL_cMonomial))]⟩
def poly_Product_S2 (u53 : (List (List Monomial))) : AS := ⟨53, [(2, .eslice), (3, .int .i64 0), (4, .rslice 31)], [(31, .row 70 1 (u53.map cL_cMonomial))]⟩
def poly_Product_S3 (u81 : (List (List Monomial))) (i113 : Nat) (s112 : (List Monomial)) : AS := ⟨53, [(2, .eslice), (3, .int .i64 0), (9, .dslice (s112.map cMonomial)), (35, .rslice 31), (36, .int .i64 ((u81.length : Nat) : Int)), (37, .int .i64 ((i113 : Nat) : Int))], [(31, .row 70 1 (u81.map cL_cMonomial))]⟩
def poly_Product_S4 (u132 : (List Monomial)) : AS := ⟨53, [(2, .eslice), (3, .int .i64 0), (9, .dslice (u132.map cMonomial))], []⟩
theorem poly_Product_c (x0 : (List Linear)) (r : ((List Monomial) × Int)) (H : poly_Product x0 = some r) : AFn Tryz.prog 110 [.dslice (x0.map cLinear)] (.tup [.dslice (r.1.map cMonomial), .int .i64 r.2]) := by
  unfold poly_Product at H
  refine acallX Tryz.func110 53 [.tmp 2, .tmp 3] (by kernel_rfl) (by kernel_rfl) ?_
  refine p_at Tryz.mo 8 [.rg 0 [] [.v, .v], .rg 0 [] [.v], .rg 0 [] [.v, .e (.int .i64 ((x0.length : Nat) : Int)), .v]] [.er 4 31 70 1, .only [2, 3, 4, 14, 15, 16] [31]] 8 [] (poly_Product_S1 x0 0 []) (all_cons trivial (all_cons (lenm cLinear x0) all_nil)) (by kernel_rfl) ?_
  refine bnd H fun R50 h51 H52 => ?_
  refine p_joinO 1 (poly_Product_S2) R50 (by kernel_rfl) ?_ (fun u81 e82 => ?_)
  · refine p_cnt (poly_Product_S1 x0) (by kernel_rfl) h51 (fun i32 s31 h54 e55 => ?_) (fun i32 s31 h62 q58 h59 h60 => ?_)
    · have c56 : decide (((i32 : Nat) : Int) < ((x0.length : Nat) : Int)) = false := decide_eq_false (by omega)
      subst e55
      exact p_bar Tryz.mo 5 [.rg 0 [] [.e (.bool false)]] [.only [2, 3, 4] [31]] (poly_Product_S2 s31) (all_cons (congrArg (AV.bool) c56) all_nil) (by kernel_rfl)
    · have c61 : decide (((i32 : Nat) : Int) < ((x0.length : Nat) : Int)) = true := decide_eq_true (by omega)
      refine bnd h59 fun y63 h64 H65 => ?_
      refine p_at Tryz.mo 14 [.rg 0 [] [.e (.bool true)], .rg 0 [] [.e (.dptr [.int .i64 ((x0.getD i32 ⟨0, []⟩).Const), .dslice (((x0.getD i32 ⟨0, []⟩).Terms).map cCoef)]), .v, .m, .m], .rg 0 [] [.v, .c true (.tup [.dslice (y63.1.map cMonomial), .int .i64 y63.2]), .v, .v, .v, .v, .v], .rg 0 [] [.v, .v]] [.only [2, 3, 4, 7, 8, 14, 15, 16, 26] [31]] 14 [true] ⟨53, [(2, .eslice), (3, .int .i64 0), (4, .rslice 31), (7, .dslice (y63.1.map cMonomial)), (8, .int .i64 y63.2), (14, .dslice (x0.map cLinear)), (15, .int .i64 ((x0.length : Nat) : Int)), (16, .int .i64 ((i32 : Nat) : Int)), (26, .bool (y63.2 != 0))], [(31, .row 70 1 (s31.map cL_cMonomial))]⟩ (all_cons (congrArg (AV.bool) c61) (all_app (ix (f := cLinear) (l := x0) (n := i32) ⟨0, []⟩ cLinear_len (by decide) (by omega)) (all_cons Tryz.call67 (all_cons (AFn.is (poly_Of_c (Linear.mk ((x0.getD i32 ⟨0, []⟩).Const) ((x0.getD i32 ⟨0, []⟩).Terms)) y63 h64)) all_nil)))) (by kernel_rfl) ?_
      refine bsp H65 (fun c66 H67 => ?_) (fun c68 H69 => ?_)
      · refine grd_e H67 fun g70 H71 => ?_
        refine t_lens 14 (ps := [(x0.map cLinear).length ≤ 9223372036854775807]) (by kernel_rfl) (fun l74 => ?_)
        have l75 : x0.length ≤ 9223372036854775807 := by simpa only [All, List.length_map] using l74
        clear l74
        refine some_e H71 fun e76 => ?_
        subst e76
        exact p_bar Tryz.mo 5 [.eqT 26 (.bool false), .rg 0 [] [.v, .v, .b, .ap, .rwH 31 (.row 70 1 ((s31 ++ [y63.1]).map cL_cMonomial)), .v], .rg 0 [] [.v, .v]] [.only [2, 3, 4, 14, 15, 16] [31]] (poly_Product_S1 x0 (i32 + 1) (s31 ++ [y63.1])) (all_cons (congrArg (fun x => AV.bool (!x)) c66) (all_app (apR (c := cL_cMonomial) cL_cMonomial_ok s31 [y63.1] 24 (by decide) (by simpa using g70)) (all_cons (apQ 70 1 cL_cMonomial s31 [y63.1]) (all_cons (show I64 (((i32 : Nat) : Int) + 1) from by unfold I64; omega) all_nil)))) (by kernel_rfl)
      · refine some_e H69 fun e77 => ?_
        subst e77
        have e78 := out_ret h60
        subst e78
        have H79 := aft_ret H52
        refine some_e H79 fun e80 => ?_
        subst e80
        exact p_ret Tryz.mo 5 [.eqT 26 (.bool true), .rg 0 [] [.v, .v, .v]] [.wk 2 []] [] (all_cons (congrArg (fun x => AV.bool (!x)) c68) all_nil) (by kernel_rfl)
  · subst e82
    have H83 := aft_brk H52
    refine p_at Tryz.mo 6 [.rg 0 [] [.b, .b, .wk 34 [(0, 1)], .v], .rg 0 [] [.v, .e (.int .i64 ((u81.length : Nat) : Int)), .v]] [.only [2, 3, 9, 35, 36, 37] [31]] 6 [] (poly_Product_S3 u81 0 [(Monomial.mk 1 [])]) (all_cons trivial (all_cons (lenm cL_cMonomial u81) all_nil)) (by kernel_rfl) ?_
    refine bnd H83 fun R129 h130 H131 => ?_
    refine p_joinO 1 (poly_Product_S4) R129 (by kernel_rfl) ?_ (fun u158 e159 => ?_)
    · refine p_cnt (poly_Product_S3 u81) (by kernel_rfl) h130 (fun i113 s112 h133 e134 => ?_) (fun i113 s112 h141 q137 h138 h139 => ?_)
      · have c135 : decide (((i113 : Nat) : Int) < ((u81.length : Nat) : Int)) = false := decide_eq_false (by omega)
        subst e134
        exact p_bar Tryz.mo 5 [.rg 0 [] [.e (.bool false)]] [.only [2, 3, 9] []] (poly_Product_S4 s112) (all_cons (congrArg (AV.bool) c135) all_nil) (by kernel_rfl)
      · have c140 : decide (((i113 : Nat) : Int) < ((u81.length : Nat) : Int)) = true := decide_eq_true (by omega)
        refine bnd h138 fun y142 h143 H144 => ?_
        refine p_at Tryz.mo 14 [.rg 0 [] [.e (.bool true)], .rg 0 [] [.v, .rl i113 0 (.dslice ((u81.getD i113 []).map cMonomial)), .v], .rg 0 [] [.v, .v, .c true (.tup [.dslice (y142.1.map cMonomial), .int .i64 y142.2]), .v, .v, .v, .v, .v], .rg 0 [] [.v, .v]] [.only [2, 3, 9, 12, 13, 35, 36, 37, 48] [31]] 14 [true] ⟨53, [(2, .eslice), (3, .int .i64 0), (9, .dslice (s112.map cMonomial)), (12, .dslice (y142.1.map cMonomial)), (13, .int .i64 y142.2), (35, .rslice 31), (36, .int .i64 ((u81.length : Nat) : Int)), (37, .int .i64 ((i113 : Nat) : Int)), (48, .bool (y142.2 != 0))], [(31, .row 70 1 (u81.map cL_cMonomial))]⟩ (all_cons (congrArg (AV.bool) c140) (all_cons (show (0 : Int) ≤ ((i113 : Nat) : Int) ∧ ((i113 : Nat) : Int) < ((u81.map cL_cMonomial).length : Int) from by rw [List.length_map]; omega) (all_cons (rlP (f := cL_cMonomial) (l := u81) (n := i113) 1 0 1 (by omega) (by decide)) (all_cons (rl1 (f := cL_cMonomial) (l := u81) (n := i113) [] 0 (by omega)) (all_cons Tryz.call124 (all_cons (AFn.is (poly_mul_c s112 (u81.getD i113 []) y142 h143)) all_nil)))))) (by kernel_rfl) ?_
        refine bsp H144 (fun c145 H146 => ?_) (fun c147 H148 => ?_)
        · refine t_lensR 31 (n := (u81.map cL_cMonomial).length) (by kernel_rfl) (fun l151 => ?_)
          have l152 : u81.length ≤ 9223372036854775807 := by simpa only [List.length_map] using l151
          clear l151
          refine some_e H146 fun e153 => ?_
          subst e153
          exact p_bar Tryz.mo 5 [.eqT 48 (.bool false), .rg 0 [] [.v, .v], .rg 0 [] [.v, .v]] [.only [2, 3, 9, 35, 36, 37] [31]] (poly_Product_S3 u81 (i113 + 1) y142.1) (all_cons (congrArg (fun x => AV.bool (!x)) c145) (all_cons (show I64 (((i113 : Nat) : Int) + 1) from by unfold I64; omega) all_nil)) (by kernel_rfl)
        · refine some_e H148 fun e154 => ?_
          subst e154
          have e155 := out_ret h139
          subst e155
          have H156 := aft_ret H131
          refine some_e H156 fun e157 => ?_
          subst e157
          exact p_ret Tryz.mo 5 [.eqT 48 (.bool true), .rg 0 [] [.v, .v, .v]] [.wk 2 []] [] (all_cons (congrArg (fun x => AV.bool (!x)) c147) all_nil) (by kernel_rfl)
    · subst e159
      have H160 := aft_brk H131
      refine some_e H160 fun e161 => ?_
      subst e161
      exact p_ret Tryz.mo 3 [.rg 0 [] [.v, .v, .v]] [] [] all_nil (by kernel_rfl)
/-- framewise/poly.parseMonomial -/
def poly_parseMonomial (x0 : Str) : Option (Monomial × Bool) :=
  (lib_Split x0 [42]).bind fun y1 =>
  (cnt (σ := (Int × (List Str))) (ε := (Int × (List Str))) (ρ := (Monomial × Bool)) (fun i698 s697 =>
    (lib_Atoi (y1.getD i698 [])).bind fun y1137 =>
    ((
      ((
        bif y1137.2 then (
          bif (((i698 : Nat) : Int) == 0) then (
            some (.ret (.brk (y1137.1, s697.2)))
          ) else (
            some (.brk ())
          )
        ) else (
          some (.brk ())
        )
      ) : Option (Out Unit (Out (Int × (List Str)) (Stp (Int × (List Str)) (Int × (List Str)) (Monomial × Bool))))).bind (aft fun u1415 =>
        (lib_Cut (y1.getD i698 []) [94]).bind fun y1430 =>
        ((
          bif y1430.2.2 then (
            (lib_Atoi y1430.2.1).bind fun y1495 =>
            bif y1495.2 then (
              bif decide (y1495.1 < 2) then (
                some (.ret (.ret (.ret ((Monomial.mk s697.1 s697.2), false))))
              ) else (
                bif decide (y1495.1 > 8) then (
                  some (.ret (.ret (.ret ((Monomial.mk s697.1 s697.2), false))))
                ) else (
                  some (.brk y1495.1)
                )
              )
            ) else (
              some (.ret (.ret (.ret ((Monomial.mk s697.1 s697.2), false))))
            )
          ) else (
            some (.brk 1)
          )
        ) : Option (Out Int (Out (Int × (List Str)) (Stp (Int × (List Str)) (Int × (List Str)) (Monomial × Bool))))).bind (aft fun u1490 =>
          (whl (σ := (Int × (List Str))) (ε := (Out (Int × (List Str)) (Stp (Int × (List Str)) (Int × (List Str)) (Monomial × Bool)))) (ρ := (Out (Int × (List Str)) (Stp (Int × (List Str)) (Int × (List Str)) (Monomial × Bool)))) (fun s1571 =>
            bif decide (s1571.1 < u1490) then (
              grd ((s1571.2.length + 1) * 16 ≤ 140737488355328) <|
              some (.go ((w64 (s1571.1 + 1)), (s1571.2 ++ [y1430.1])))
            ) else (
              some (.brk (.brk (s697.1, s1571.2)))
            )
          ) 4294967296 (0, s697.2)).bind <| aft some
        )
      )
    ) : Option (Out (Int × (List Str)) (Stp (Int × (List Str)) (Int × (List Str)) (Monomial × Bool)))).bind (aft fun u1403 =>
      some (.go (u1403.1, u1403.2))
    )
  ) (fun i698 s697 => (s697.1, s697.2)) (y1.length - 0) 0 (1, [])).bind <| aft fun u1599 =>
  some ((Monomial.mk u1599.1 u1599.2), true)
def poly_parseMonomial_S1 (y1 : (List Str)) (i698 : Nat) (s697 : (Int × (List Str))) : AS := ⟨73, [(2, .hptr 2 0), (3, .bool false), (4, .hptr 4 0), (17, .dslice (y1.map cStr)), (18, .int .i64 ((y1.length : Nat) : Int)), (19, .int .i64 ((i698 : Nat) : Int))], [(2, .cells 118 [.int .i64 0, .eslice]), (4, .cells 118 [.int .i64 s697.1, .rslice 68]), (68, .row 9 1 (s697.2.map cStr))]⟩
def poly_parseMonomial_S2 (u1127 : (Int × (List Str))) : AS := ⟨73, [(2, .hptr 2 0), (3, .bool false), (4, .hptr 4 0)], [(2, .cells 118 [.int .i64 0, .eslice]), (4, .cells 118 [.int .i64 u1127.1, .rslice 68]), (68, .row 9 1 (u1127.2.map cStr))]⟩
def poly_parseMonomial_S3 (y1 : (List Str)) (i698 : Nat) (u1403 : (Int × (List Str))) : AS := ⟨73, [(2, .hptr 2 0), (3, .bool false), (4, .hptr 4 0), (17, .dslice (y1.map cStr)), (18, .int .i64 ((y1.length : Nat) : Int)), (19, .int .i64 ((i698 : Nat) : Int))], [(2, .cells 118 [.int .i64 0, .eslice]), (4, .cells 118 [.int .i64 u1403.1, .rslice 68]), (68, .row 9 1 (u1403.2.map cStr))]⟩
def poly_parseMonomial_S4 (y1 : (List Str)) (i698 : Nat) (s697 : (Int × (List Str))) (u1415 : Unit) : AS := ⟨73, [(2, .hptr 2 0), (3, .bool false), (4, .hptr 4 0), (6, .str (y1.getD i698 [])), (17, .dslice (y1.map cStr)), (18, .int .i64 ((y1.length : Nat) : Int)), (19, .int .i64 ((i698 : Nat) : Int))], [(2, .cells 118 [.int .i64 0, .eslice]), (4, .cells 118 [.int .i64 s697.1, .rslice 68]), (68, .row 9 1 (s697.2.map cStr))]⟩
def poly_parseMonomial_S5 (y1 : (List Str)) (i698 : Nat) (s697 : (Int × (List Str))) (y1430 : (Str × Str × Bool)) (u1490 : Int) : AS := ⟨73, [(2, .hptr 2 0), (3, .bool false), (4, .hptr 4 0), (9, .str y1430.1), (12, .int .i64 u1490), (17, .dslice (y1.map cStr)), (18, .int .i64 ((y1.length : Nat) : Int)), (19, .int .i64 ((i698 : Nat) : Int))], [(2, .cells 118 [.int .i64 0, .eslice]), (4, .cells 118 [.int .i64 s697.1, .rslice 68]), (68, .row 9 1 (s697.2.map cStr))]⟩
def poly_parseMonomial_S6 (y1 : (List Str)) (i698 : Nat) (s697 : (Int × (List Str))) (y1430 : (Str × Str × Bool)) (u1490 : Int) (s1571 : (Int × (List Str))) : AS := ⟨73, [(2, .hptr 2 0), (3, .bool false), (4, .hptr 4 0), (9, .str y1430.1), (17, .dslice (y1.map cStr)), (18, .int .i64 ((y1.length : Nat) : Int)), (19, .int .i64 ((i698 : Nat) : Int)), (61, .int .i64 u1490), (62, .int .i64 s1571.1)], [(2, .cells 118 [.int .i64 0, .eslice]), (4, .cells 118 [.int .i64 s697.1, .rslice 68]), (68, .row 9 1 (s1571.2.map cStr))]⟩
theorem poly_parseMonomial_c (x0 : Str) (r : (Monomial × Bool)) (H : poly_parseMonomial x0 = some r) : AFn Tryz.prog 121 [.str x0] (.tup [.agg [.int .i64 r.1.Coef, .dslice (r.1.Vars.map cStr)], .bool r.2]) := by
  unfold poly_parseMonomial at H
  refine acallX Tryz.func121 73 [.cell 2 118, .tmp 3] (by kernel_rfl) (by kernel_rfl) ?_
  refine bnd H fun y1 h2 H3 => ?_
  refine p_at Tryz.mo 8 [.rg 0 [] [.m, .v], .rg 0 [] [.b, .m, .m], .rg 0 [] [.v, .c true (.dslice (y1.map cStr)), .e (.int .i64 ((y1.length : Nat) : Int)), .v]] [.erH 4 1 68 9 1, .only [2, 3, 4, 17, 18, 19] [2, 4, 68]] 8 [] (poly_parseMonomial_S1 y1 0 (1, [])) (all_cons Tryz.call92 (all_cons (AFn.is (lib_Split_c x0 [42] y1 h2)) (all_cons trivial (all_cons (lenm cStr y1) all_nil)))) (by kernel_rfl) ?_
  refine bnd H3 fun R1124 h1125 H1126 => ?_
  refine p_joinO 1 (poly_parseMonomial_S2) R1124 (by kernel_rfl) ?_ (fun u1599 e1600 => ?_)
  · refine p_cnt (poly_parseMonomial_S1 y1) (by kernel_rfl) h1125 (fun i698 s697 h1128 e1129 => ?_) (fun i698 s697 h1136 q1132 h1133 h1134 => ?_)
    · have c1130 : decide (((i698 : Nat) : Int) < ((y1.length : Nat) : Int)) = false := decide_eq_false (by omega)
      subst e1129
      exact p_bar Tryz.mo 5 [.rg 0 [] [.e (.bool false)]] [.only [2, 3, 4] [2, 4, 68]] (poly_parseMonomial_S2 (s697.1, s697.2)) (all_cons (congrArg (AV.bool) c1130) all_nil) (by kernel_rfl)
    · have c1135 : decide (((i698 : Nat) : Int) < ((y1.length : Nat) : Int)) = true := decide_eq_true (by omega)
      refine bnd h1133 fun y1137 h1138 H1139 => ?_
      refine p_at Tryz.mo 13 [.rg 0 [] [.e (.bool true)], .rg 0 [] [.v, .e (.dptr [.str (y1.getD i698 [])]), .v, .v, .v], .rg 0 [] [.v, .cf true (.tup [.int .i64 y1137.1, errV 272 y1137.2]), .v, .v, .v, .v, .v]] [.only [2, 3, 4, 5, 6, 7, 8, 17, 18, 19] [2, 4, 68]] 13 [true] ⟨73, [(2, .hptr 2 0), (3, .bool false), (4, .hptr 4 0), (5, .int .i64 ((i698 : Nat) : Int)), (6, .str (y1.getD i698 [])), (7, .int .i64 y1137.1), (8, errV 272 y1137.2), (17, .dslice (y1.map cStr)), (18, .int .i64 ((y1.length : Nat) : Int)), (19, .int .i64 ((i698 : Nat) : Int))], [(2, .cells 118 [.int .i64 0, .eslice]), (4, .cells 118 [.int .i64 s697.1, .rslice 68]), (68, .row 9 1 (s697.2.map cStr))]⟩ (all_cons (congrArg (AV.bool) c1135) (all_app (ix (f := cStr) (l := y1) (n := i698) [] cStr_len (by decide) (by omega)) (all_cons Tryz.call167 (all_cons (AFn.is (lib_Atoi_c (y1.getD i698 []) y1137 h1138)) (all_cons (show okRes true (.tup [.int .i64 y1137.1, errV 272 y1137.2]) = true from by cases h0 : y1137.2 <;> rfl) all_nil))))) (by kernel_rfl) ?_
      refine bnd H1139 fun v1400 h1401 H1402 => ?_
      refine p_joinO 3 (poly_parseMonomial_S3 y1 i698) v1400 (by kernel_rfl) ?_ (fun u1403 e1598 => ?_)
      · refine bnd h1401 fun v1412 h1413 H1414 => ?_
        refine p_joinO 1 (poly_parseMonomial_S4 y1 i698 s697) v1412 (by kernel_rfl) ?_ (fun u1415 e1591 => ?_)
        · refine bsp h1413 (fun c1416 H1417 => ?_) (fun c1418 H1419 => ?_)
          · refine bsp H1417 (fun c1420 H1421 => ?_) (fun c1422 H1423 => ?_)
            · refine some_e H1421 fun e1424 => ?_
              subst e1424
              have H1425 := aft_ret H1414
              refine some_e H1425 fun e1426 => ?_
              subst e1426
              exact p_bar Tryz.mo 7 [.eqT 8 (.nilI), .rg 0 [] [.v, .v, .v, .v, .v, .v], .eqT 34 (.bool true), .rg 0 [] [.v, .v, .m]] [.only [2, 3, 4, 17, 18, 19] [2, 4, 68]] (poly_parseMonomial_S3 y1 i698 (y1137.1, s697.2)) (all_cons (congrArg (errV 272) c1416) (all_cons (congrArg (AV.bool) c1420) all_nil)) (by kernel_rfl)
            · refine some_e H1423 fun e1427 => ?_
              subst e1427
              exact p_bar Tryz.mo 5 [.eqT 8 (.nilI), .rg 0 [] [.v, .v, .v, .v, .v, .v], .eqT 34 (.bool false)] [.only [2, 3, 4, 6, 17, 18, 19] [2, 4, 68]] (poly_parseMonomial_S4 y1 i698 s697 ()) (all_cons (congrArg (errV 272) c1416) (all_cons (congrArg (AV.bool) c1422) all_nil)) (by kernel_rfl)
          · refine some_e H1419 fun e1428 => ?_
            subst e1428
            exact p_bar Tryz.mo 4 [.eqT 8 (.iface 272 (.any)), .rg 0 [] [.v, .v, .v, .s, .s, .v]] [.only [2, 3, 4, 6, 17, 18, 19] [2, 4, 68]] (poly_parseMonomial_S4 y1 i698 s697 ()) (all_cons (congrArg (errV 272) c1418) all_nil) (by kernel_rfl)
        · subst e1591
          have H1429 := aft_brk H1414
          refine bnd H1429 fun y1430 h1431 H1432 => ?_
          refine p_at Tryz.mo 7 [.rg 0 [] [.v, .c true (.tup [.str y1430.1, .str y1430.2.1, .bool y1430.2.2]), .v, .v, .v, .v, .v, .v, .v], .rg 0 [] [.v], .rg 0 [] [.v]] [.only [2, 3, 4, 9, 10, 12, 17, 18, 19, 43] [2, 4, 68]] 7 [] ⟨73, [(2, .hptr 2 0), (3, .bool false), (4, .hptr 4 0), (9, .str y1430.1), (10, .str y1430.2.1), (12, .int .i64 1), (17, .dslice (y1.map cStr)), (18, .int .i64 ((y1.length : Nat) : Int)), (19, .int .i64 ((i698 : Nat) : Int)), (43, .bool y1430.2.2)], [(2, .cells 118 [.int .i64 0, .eslice]), (4, .cells 118 [.int .i64 s697.1, .rslice 68]), (68, .row 9 1 (s697.2.map cStr))]⟩ (all_cons Tryz.call196 (all_cons (AFn.is (lib_Cut_c (y1.getD i698 []) [94] y1430 h1431)) all_nil)) (by kernel_rfl) ?_
          refine bnd H1432 fun v1487 h1488 H1489 => ?_
          refine p_joinO 0 (poly_parseMonomial_S5 y1 i698 s697 y1430) v1487 (by kernel_rfl) ?_ (fun u1490 e1590 => ?_)
          · refine bsp h1488 (fun c1491 H1492 => ?_) (fun c1493 H1494 => ?_)
            · refine bnd H1492 fun y1495 h1496 H1497 => ?_
              refine bsp H1497 (fun c1506 H1507 => ?_) (fun c1508 H1509 => ?_)
              · refine p_at Tryz.mo 7 [.eqT 43 (.bool true), .rg 0 [] [.v, .cf true (.tup [.int .i64 y1495.1, errV 272 y1495.2]), .v, .v, .v, .v, .v], .eqT 14 (.nilI)] [.only [2, 3, 4, 9, 12, 13, 14, 17, 18, 19] [2, 4, 68]] 5 [true] ⟨73, [(2, .hptr 2 0), (3, .bool false), (4, .hptr 4 0), (9, .str y1430.1), (12, .int .i64 1), (13, .int .i64 y1495.1), (14, .nilI), (17, .dslice (y1.map cStr)), (18, .int .i64 ((y1.length : Nat) : Int)), (19, .int .i64 ((i698 : Nat) : Int))], [(2, .cells 118 [.int .i64 0, .eslice]), (4, .cells 118 [.int .i64 s697.1, .rslice 68]), (68, .row 9 1 (s697.2.map cStr))]⟩ (all_cons (congrArg (AV.bool) c1491) (all_cons Tryz.call167 (all_cons (AFn.is (lib_Atoi_c y1430.2.1 y1495 h1496)) (all_cons (show okRes true (.tup [.int .i64 y1495.1, errV 272 y1495.2]) = true from by cases h0 : y1495.2 <;> rfl) (all_cons (congrArg (errV 272) c1506) all_nil))))) (by kernel_rfl) ?_
                refine bsp H1507 (fun c1514 H1515 => ?_) (fun c1516 H1517 => ?_)
                · have c1514p := of_decide_eq_true c1514
                  refine some_e H1515 fun e1518 => ?_
                  subst e1518
                  have H1519 := aft_ret H1489
                  refine some_e H1519 fun e1520 => ?_
                  subst e1520
                  have H1521 := aft_ret H1402
                  refine some_e H1521 fun e1522 => ?_
                  subst e1522
                  have e1523 := out_ret h1134
                  subst e1523
                  have H1524 := aft_ret H1126
                  refine some_e H1524 fun e1525 => ?_
                  subst e1525
                  exact p_ret Tryz.mo 5 [.rg 0 [] [.v, .v, .v, .v, .e (.bool true), .v, .v, .s, .s, .v], .rg 0 [] [.v, .m, .v]] [.fz 68] [] (all_cons (congrArg (AV.bool) c1514) all_nil) (by kernel_rfl)
                · have c1516p := of_decide_eq_false c1516
                  refine bsp H1517 (fun c1526 H1527 => ?_) (fun c1528 H1529 => ?_)
                  · have c1526p := of_decide_eq_true c1526
                    refine some_e H1527 fun e1530 => ?_
                    subst e1530
                    have H1531 := aft_ret H1489
                    refine some_e H1531 fun e1532 => ?_
                    subst e1532
                    have H1533 := aft_ret H1402
                    refine some_e H1533 fun e1534 => ?_
                    subst e1534
                    have e1535 := out_ret h1134
                    subst e1535
                    have H1536 := aft_ret H1126
                    refine some_e H1536 fun e1537 => ?_
                    subst e1537
                    exact p_ret Tryz.mo 6 [.rg 0 [] [.v, .v, .v, .v, .e (.bool false), .v, .v, .v, .v, .v], .eqT 58 (.bool true), .rg 0 [] [.v, .m, .v]] [.fz 68] [] (all_cons (congrArg (AV.bool) c1516) (all_cons (congrArg (AV.bool) c1526) all_nil)) (by kernel_rfl)
                  · have c1528p := of_decide_eq_false c1528
                    refine some_e H1529 fun e1538 => ?_
                    subst e1538
                    exact p_bar Tryz.mo 5 [.rg 0 [] [.v, .v, .v, .v, .e (.bool false), .v, .v, .v, .v, .v], .eqT 58 (.bool false), .rg 0 [] [.v, .v]] [.only [2, 3, 4, 9, 12, 17, 18, 19] [2, 4, 68]] (poly_parseMonomial_S5 y1 i698 s697 y1430 y1495.1) (all_cons (congrArg (AV.bool) c1516) (all_cons (congrArg (AV.bool) c1528) all_nil)) (by kernel_rfl)
              · refine some_e H1509 fun e1539 => ?_
                subst e1539
                have H1540 := aft_ret H1489
                refine some_e H1540 fun e1541 => ?_
                subst e1541
                have H1542 := aft_ret H1402
                refine some_e H1542 fun e1543 => ?_
                subst e1543
                have e1544 := out_ret h1134
                subst e1544
                have H1545 := aft_ret H1126
                refine some_e H1545 fun e1546 => ?_
                subst e1546
                exact p_ret Tryz.mo 12 [.eqT 43 (.bool true), .rg 0 [] [.v, .cf true (.tup [.int .i64 y1495.1, errV 272 y1495.2]), .v, .v, .v, .v, .v], .eqT 14 (.iface 272 (.any)), .rg 0 [] [.v, .v, .v, .s, .s, .v, .v, .s, .s, .v], .rg 0 [] [.v, .m, .v]] [.fz 68] [] (all_cons (congrArg (AV.bool) c1491) (all_cons Tryz.call167 (all_cons (AFn.is (lib_Atoi_c y1430.2.1 y1495 h1496)) (all_cons (show okRes true (.tup [.int .i64 y1495.1, errV 272 y1495.2]) = true from by cases h0 : y1495.2 <;> rfl) (all_cons (congrArg (errV 272) c1508) all_nil))))) (by kernel_rfl)
            · refine some_e H1494 fun e1547 => ?_
              subst e1547
              exact p_bar Tryz.mo 3 [.eqT 43 (.bool false)] [.only [2, 3, 4, 9, 12, 17, 18, 19] [2, 4, 68]] (poly_parseMonomial_S5 y1 i698 s697 y1430 1) (all_cons (congrArg (AV.bool) c1493) all_nil) (by kernel_rfl)
          · subst e1590
            have H1548 := aft_brk H1489
            refine p_at Tryz.mo 3 [.rg 0 [] [.v, .v]] [.only [2, 3, 4, 9, 17, 18, 19, 61, 62] [2, 4, 68]] 3 [] (poly_parseMonomial_S6 y1 i698 s697 y1430 u1490 (0, s697.2)) all_nil (by kernel_rfl) ?_
            refine bnd H1548 fun R1573 h1574 H1575 => ?_
            refine p_whl (poly_parseMonomial_S6 y1 i698 s697 y1430 u1490) (by kernel_rfl) h1574 (fun s1571 q1576 h1577 h1578 => ?_)
            · refine bsp h1577 (fun c1579 H1580 => ?_) (fun c1581 H1582 => ?_)
              · have c1579p := of_decide_eq_true c1579
                refine grd_e H1580 fun g1583 H1584 => ?_
                refine some_e H1584 fun e1585 => ?_
                subst e1585
                exact p_bar Tryz.mo 10 [.rg 0 [] [.v], .eqT 63 (.bool true), .rg 0 [] [.v, .v, .v, .b, .ap, .rwH 68 (.row 9 1 ((s1571.2 ++ [y1430.1]).map cStr)), .v, .m], .rg 0 [] [.w, .v]] [.only [2, 3, 4, 9, 17, 18, 19, 61, 62] [2, 4, 68]] (poly_parseMonomial_S6 y1 i698 s697 y1430 u1490 ((w64 (s1571.1 + 1)), (s1571.2 ++ [y1430.1]))) (all_cons (congrArg (AV.bool) c1579) (all_app (apR (c := cStr) cStr_ok s1571.2 [y1430.1] 16 (by decide) (by simpa using g1583)) (all_cons (apQ 9 1 cStr s1571.2 [y1430.1]) all_nil))) (by kernel_rfl)
              · have c1581p := of_decide_eq_false c1581
                refine some_e H1582 fun e1586 => ?_
                subst e1586
                have e1587 := out_brk h1578
                subst e1587
                have H1588 := aft_brk H1575
                refine some_e H1588 fun e1589 => ?_
                subst e1589
                exact p_bar Tryz.mo 6 [.rg 0 [] [.v], .eqT 63 (.bool false)] [.only [2, 3, 4, 17, 18, 19] [2, 4, 68]] (poly_parseMonomial_S3 y1 i698 (s697.1, s1571.2)) (all_cons (congrArg (AV.bool) c1581) all_nil) (by kernel_rfl)
      · subst e1598
        have H1592 := aft_brk H1402
        refine t_lens 17 (ps := [(y1.map cStr).length ≤ 9223372036854775807]) (by kernel_rfl) (fun l1595 => ?_)
        have l1596 : y1.length ≤ 9223372036854775807 := by simpa only [All, List.length_map] using l1595
        clear l1595
        refine some_e H1592 fun e1597 => ?_
        subst e1597
        exact p_bar Tryz.mo 1 [.rg 0 [] [.v, .v]] [.only [2, 3, 4, 17, 18, 19] [2, 4, 68]] (poly_parseMonomial_S1 y1 (i698 + 1) (u1403.1, u1403.2)) (all_cons (show I64 (((i698 : Nat) : Int) + 1) from by unfold I64; omega) all_nil) (by kernel_rfl)
  · subst e1600
    have H1601 := aft_brk H1126
    refine some_e H1601 fun e1602 => ?_
    subst e1602
    exact p_ret Tryz.mo 3 [.rg 0 [] [.v, .m, .v]] [.fz 68] [] all_nil (by kernel_rfl)
/-- framewise/poly.monomial -/
def poly_monomial (x0 : Monomial) : Option Str :=
  ((
    bif ((if (w64 (0 - x0.Coef)) > x0.Coef then (w64 (0 - x0.Coef)) else x0.Coef) == 1) then (
      some (((x0.Vars.length : Nat) : Int) == 0)
    ) else (
      some true
    )
  ) : Option Bool).bind fun v1 =>
  ((
    bif v1 then (
      (lib_Itoa (if (w64 (0 - x0.Coef)) > x0.Coef then (w64 (0 - x0.Coef)) else x0.Coef)).bind fun y23 =>
      some [y23]
    ) else (
      some []
    )
  ) : Option (List Str)).bind fun v16 =>
  (whl (σ := ((List Str) × Nat)) (ε := (List Str)) (ρ := Empty) (fun s216 =>
    bif decide (((s216.2 : Nat) : Int) < ((x0.Vars.length : Nat) : Int)) then (
      (cnt (σ := Unit) (ε := Nat) (ρ := Empty) (fun i350 s349 =>
        bif ((x0.Vars.getD i350 []) == (x0.Vars.getD s216.2 [])) then (
          some (.go ())
        ) else (
          some (.brk i350)
        )
      ) (fun i350 s349 => i350) (x0.Vars.length - s216.2) s216.2 ()).bind <| aftE fun u391 =>
      ((
        bif decide ((w64 (((u391 : Nat) : Int) - ((s216.2 : Nat) : Int))) > 1) then (
          (lib_Itoa (w64 (((u391 : Nat) : Int) - ((s216.2 : Nat) : Int)))).bind fun y415 =>
          grd ([94].length + y415.length ≤ 9223372036854775807) <|
          grd ((x0.Vars.getD s216.2 []).length + ([94] ++ y415).length ≤ 9223372036854775807) <|
          some ((x0.Vars.getD s216.2 []) ++ ([94] ++ y415))
        ) else (
          some (x0.Vars.getD s216.2 [])
        )
      ) : Option Str).bind fun v408 =>
      grd ((s216.1.length + 1) * 16 ≤ 140737488355328) <|
      some (.go ((s216.1 ++ [v408]), u391))
    ) else (
      some (.brk s216.1)
    )
  ) 4294967296 (v16, 0)).bind <| aftE fun u429 =>
  (lib_Join u429 [42]).bind fun y432 =>
  some y432
def poly_monomial_S1 (x0 : Monomial) (v1 : Bool) : AS := ⟨76, [(1, .hptr 1 0), (2, .str []), (3, .eslice), (4, .int .i64 (if (w64 (0 - x0.Coef)) > x0.Coef then (w64 (0 - x0.Coef)) else x0.Coef)), (21, .bool v1)], [(1, .cells 118 [.int .i64 x0.Coef, .dslice (x0.Vars.map cStr)])]⟩
def poly_monomial_S2 (x0 : Monomial) (v16 : (List Str)) : AS := ⟨76, [(1, .hptr 1 0), (2, .str []), (3, .rslice 26)], [(1, .cells 118 [.int .i64 x0.Coef, .dslice (x0.Vars.map cStr)]), (26, .row 9 1 (v16.map cStr))]⟩
def poly_monomial_S3 (x0 : Monomial) (s216 : ((List Str) × Nat)) : AS := ⟨76, [(1, .hptr 1 0), (2, .str []), (3, .rslice 72), (5, .int .i64 ((s216.2 : Nat) : Int))], [(1, .cells 118 [.int .i64 x0.Coef, .dslice (x0.Vars.map cStr)]), (72, .row 9 1 (s216.1.map cStr))]⟩
def poly_monomial_S4 (u316 : (List Str)) : AS := ⟨76, [(2, .str []), (3, .rslice 72)], [(72, .row 9 1 (u316.map cStr))]⟩
def poly_monomial_S5 (x0 : Monomial) (s216 : ((List Str) × Nat)) (i350 : Nat) (s349 : Unit) : AS := ⟨76, [(1, .hptr 1 0), (2, .str []), (3, .rslice 72), (5, .int .i64 ((s216.2 : Nat) : Int)), (6, .int .i64 ((i350 : Nat) : Int))], [(1, .cells 118 [.int .i64 x0.Coef, .dslice (x0.Vars.map cStr)]), (72, .row 9 1 (s216.1.map cStr))]⟩
def poly_monomial_S6 (x0 : Monomial) (s216 : ((List Str) × Nat)) (u370 : Nat) : AS := ⟨76, [(1, .hptr 1 0), (2, .str []), (3, .rslice 72), (5, .int .i64 ((s216.2 : Nat) : Int)), (6, .int .i64 ((u370 : Nat) : Int))], [(1, .cells 118 [.int .i64 x0.Coef, .dslice (x0.Vars.map cStr)]), (72, .row 9 1 (s216.1.map cStr))]⟩
def poly_monomial_S7 (x0 : Monomial) (s216 : ((List Str) × Nat)) (u391 : Nat) (v408 : Str) : AS := ⟨76, [(1, .hptr 1 0), (2, .str []), (3, .rslice 72), (5, .int .i64 ((s216.2 : Nat) : Int)), (6, .int .i64 ((u391 : Nat) : Int)), (7, .str v408)], [(1, .cells 118 [.int .i64 x0.Coef, .dslice (x0.Vars.map cStr)]), (72, .row 9 1 (s216.1.map cStr))]⟩
theorem poly_monomial_c (x0 : Monomial) (r : Str) (H : poly_monomial x0 = some r) : AFn Tryz.prog 118 [.agg [.int .i64 x0.Coef, .dslice (x0.Vars.map cStr)]] (.str r) := by
  unfold poly_monomial at H
  refine acallX Tryz.func118 76 [.tmp 2] (by kernel_rfl) (by kernel_rfl) ?_
  refine p_at Tryz.mo 8 [.rg 0 [] [.m, .v], .rg 0 [] [.v], .rg 0 [] [.v, .v, .v, .v, .w, .v, .v]] [.only [1, 2, 3, 4] [1]] 8 [] ⟨76, [(1, .hptr 1 0), (2, .str []), (3, .eslice), (4, .int .i64 (if (w64 (0 - x0.Coef)) > x0.Coef then (w64 (0 - x0.Coef)) else x0.Coef))], [(1, .cells 118 [.int .i64 x0.Coef, .dslice (x0.Vars.map cStr)])]⟩ (all_cons trivial all_nil) (by kernel_rfl) ?_
  refine bnd H fun v1 h2 H3 => ?_
  refine p_join 0 (poly_monomial_S1 x0 v1) (by kernel_rfl) ?_ ?_
  · refine bsp h2 (fun c4 H5 => ?_) (fun c6 H7 => ?_)
    · refine some_e H5 fun e8 => ?_
      subst e8
      exact p_bar Tryz.mo 1 [.rg 0 [] [.v, .e (.bool false), .v, .v, .v, .e (.int .i64 ((x0.Vars.length : Nat) : Int)), .v, .v]] [.only [1, 2, 3, 4, 21] [1]] (poly_monomial_S1 x0 (((x0.Vars.length : Nat) : Int) == 0)) (all_cons (congrArg (fun x => AV.bool (!x)) c4) (all_cons trivial (all_cons (lenm cStr x0.Vars) all_nil))) (by kernel_rfl)
    · refine some_e H7 fun e9 => ?_
      subst e9
      exact p_bar Tryz.mo 1 [.rg 0 [] [.v, .e (.bool true), .v, .s, .s, .s, .s, .v]] [.only [1, 2, 3, 4, 21] [1]] (poly_monomial_S1 x0 true) (all_cons (congrArg (fun x => AV.bool (!x)) c6) all_nil) (by kernel_rfl)
  · refine bnd H3 fun v16 h17 H18 => ?_
    refine p_join 0 (poly_monomial_S2 x0 v16) (by kernel_rfl) ?_ ?_
    · refine bsp h17 (fun c19 H20 => ?_) (fun c21 H22 => ?_)
      · refine bnd H20 fun y23 h24 H25 => ?_
        refine some_e H25 fun e26 => ?_
        subst e26
        exact p_bar Tryz.mo 3 [.eqT 21 (.bool true), .rg 0 [] [.v, .v, .c true (.str y23), .b, .er 22 26 9 1, .ap, .rwH 26 (.row 9 1 ([y23].map cStr)), .v]] [.only [1, 2, 3] [1, 26]] (poly_monomial_S2 x0 [y23]) (all_cons (congrArg (AV.bool) c19) (all_cons Tryz.call168 (all_cons (AFn.is (lib_Itoa_c (if (w64 (0 - x0.Coef)) > x0.Coef then (w64 (0 - x0.Coef)) else x0.Coef) y23 h24)) (all_app (apR (c := cStr) cStr_ok [] [y23] 16 (by decide) (by simp)) (all_cons (apQ0 9 1 cStr [y23]) all_nil))))) (by kernel_rfl)
      · refine some_e H22 fun e27 => ?_
        subst e27
        exact p_bar Tryz.mo 3 [.eqT 21 (.bool false)] [.er 3 26 9 1, .only [1, 2, 3] [1, 26]] (poly_monomial_S2 x0 []) (all_cons (congrArg (AV.bool) c21) all_nil) (by kernel_rfl)
    · refine p_at Tryz.mo 4 [.rg 0 [] [.v]] [.ren [(1, 1), (26, 72)], .only [1, 2, 3, 5] [1, 72]] 4 [] (poly_monomial_S3 x0 (v16, 0)) all_nil (by kernel_rfl) ?_
      refine bnd H18 fun R313 h314 H315 => ?_
      refine p_joinO 1 (poly_monomial_S4) R313 (by kernel_rfl) ?_ (fun u429 e430 => ?_)
      · refine p_whl (poly_monomial_S3 x0) (by kernel_rfl) h314 (fun s216 q317 h318 h319 => ?_)
        · refine bsp h318 (fun c320 H321 => ?_) (fun c322 H323 => ?_)
          · have c320p := of_decide_eq_true c320
            refine p_at Tryz.mo 11 [.rg 0 [] [.v, .v, .v, .e (.int .i64 ((x0.Vars.length : Nat) : Int)), .v], .eqT 31 (.bool true), .rg 0 [] [.v, .v]] [.only [1, 2, 3, 5, 6] [1, 72]] 10 [true] (poly_monomial_S5 x0 s216 s216.2 ()) (all_cons trivial (all_cons (lenm cStr x0.Vars) (all_cons (congrArg (AV.bool) c320) all_nil))) (by kernel_rfl) ?_
            refine bnd H321 fun R367 h368 H369 => ?_
            refine p_joinO 1 (poly_monomial_S6 x0 s216) R367 (by kernel_rfl) ?_ (fun u391 e392 => ?_)
            · refine p_cnt (poly_monomial_S5 x0 s216) (by kernel_rfl) h368 (fun i350 s349 h371 e372 => ?_) (fun i350 s349 h379 q375 h376 h377 => ?_)
              · have c373 : decide (((i350 : Nat) : Int) < ((x0.Vars.length : Nat) : Int)) = false := decide_eq_false (by omega)
                subst e372
                exact p_bar Tryz.mo 5 [.rg 16 [.v, .v, .v, .e (.int .i64 ((x0.Vars.length : Nat) : Int)), .e (.bool false), .v, .s, .s, .s, .s, .s, .s, .s, .s, .s, .s] [.s, .v]] [.only [1, 2, 3, 5, 6] [1, 72]] (poly_monomial_S6 x0 s216 i350) (all_cons trivial (all_cons (lenm cStr x0.Vars) (all_cons (congrArg (AV.bool) c373) all_nil))) (by kernel_rfl)
              · have c378 : decide (((i350 : Nat) : Int) < ((x0.Vars.length : Nat) : Int)) = true := decide_eq_true (by omega)
                refine p_at Tryz.mo 3 [.rg 16 [.v, .v, .v, .e (.int .i64 ((x0.Vars.length : Nat) : Int)), .e (.bool true), .v, .v, .v, .v, .e (.dptr [.str (x0.Vars.getD i350 [])]), .v, .v, .v, .v, .e (.dptr [.str (x0.Vars.getD s216.2 [])]), .v] [.v, .v]] [.only [1, 2, 3, 5, 6, 50] [1, 72]] 3 [] ⟨76, [(1, .hptr 1 0), (2, .str []), (3, .rslice 72), (5, .int .i64 ((s216.2 : Nat) : Int)), (6, .int .i64 ((i350 : Nat) : Int)), (50, .bool ((x0.Vars.getD i350 []) == (x0.Vars.getD s216.2 [])))], [(1, .cells 118 [.int .i64 x0.Coef, .dslice (x0.Vars.map cStr)]), (72, .row 9 1 (s216.1.map cStr))]⟩ (all_cons trivial (all_cons (lenm cStr x0.Vars) (all_cons (congrArg (AV.bool) c378) (all_app (ix (f := cStr) (l := x0.Vars) (n := i350) [] cStr_len (by decide) (by omega)) (all_app (ix (f := cStr) (l := x0.Vars) (n := s216.2) [] cStr_len (by decide) (by omega)) all_nil))))) (by kernel_rfl) ?_
                refine bsp h376 (fun c380 H381 => ?_) (fun c382 H383 => ?_)
                · refine t_lensH 1 1 (ps := [(x0.Vars.map cStr).length ≤ 9223372036854775807]) (by kernel_rfl) (fun l386 => ?_)
                  have l387 : x0.Vars.length ≤ 9223372036854775807 := by simpa only [All, List.length_map] using l386
                  clear l386
                  refine some_e H381 fun e388 => ?_
                  subst e388
                  exact p_bar Tryz.mo 5 [.eqT 50 (.bool true), .rg 0 [] [.v, .v, .v]] [.only [1, 2, 3, 5, 6] [1, 72]] (poly_monomial_S5 x0 s216 (i350 + 1) ()) (all_cons (congrArg (AV.bool) c380) (all_cons (show I64 (((i350 : Nat) : Int) + 1) from by unfold I64; omega) all_nil)) (by kernel_rfl)
                · refine some_e H383 fun e389 => ?_
                  subst e389
                  have e390 := out_brk h377
                  subst e390
                  exact p_bar Tryz.mo 3 [.eqT 50 (.bool false)] [.only [1, 2, 3, 5, 6] [1, 72]] (poly_monomial_S6 x0 s216 i350) (all_cons (congrArg (AV.bool) c382) all_nil) (by kernel_rfl)
            · subst e392
              have H393 := aftE_brk H369
              refine p_at Tryz.mo 5 [.rg 0 [] [.v, .v, .v, .e (.dptr [.str (x0.Vars.getD s216.2 [])]), .v, .v], .rg 0 [] [.v, .v, .w, .v]] [.only [1, 2, 3, 5, 6, 7, 61] [1, 72]] 5 [] ⟨76, [(1, .hptr 1 0), (2, .str []), (3, .rslice 72), (5, .int .i64 ((s216.2 : Nat) : Int)), (6, .int .i64 ((u391 : Nat) : Int)), (7, .str (x0.Vars.getD s216.2 [])), (61, .bool (decide ((w64 (((u391 : Nat) : Int) - ((s216.2 : Nat) : Int))) > 1)))], [(1, .cells 118 [.int .i64 x0.Coef, .dslice (x0.Vars.map cStr)]), (72, .row 9 1 (s216.1.map cStr))]⟩ (all_app (ix (f := cStr) (l := x0.Vars) (n := s216.2) [] cStr_len (by decide) (by omega)) all_nil) (by kernel_rfl) ?_
              refine bnd H393 fun v408 h409 H410 => ?_
              refine p_join 0 (poly_monomial_S7 x0 s216 u391 v408) (by kernel_rfl) ?_ ?_
              · refine bsp h409 (fun c411 H412 => ?_) (fun c413 H414 => ?_)
                · have c411p := of_decide_eq_true c411
                  refine bnd H412 fun y415 h416 H417 => ?_
                  refine grd_e H417 fun g418 H419 => ?_
                  refine grd_e H419 fun g420 H421 => ?_
                  refine some_e H421 fun e422 => ?_
                  subst e422
                  exact p_bar Tryz.mo 3 [.eqT 61 (.bool true), .rg 0 [] [.v, .v, .v, .w, .c true (.str y415), .v, .v, .v]] [.only [1, 2, 3, 5, 6, 7] [1, 72]] (poly_monomial_S7 x0 s216 u391 ((x0.Vars.getD s216.2 []) ++ ([94] ++ y415))) (all_cons (congrArg (AV.bool) c411) (all_cons Tryz.call168 (all_cons (AFn.is (lib_Itoa_c (w64 (((u391 : Nat) : Int) - ((s216.2 : Nat) : Int))) y415 h416)) (all_cons (show [94].length + y415.length ≤ 9223372036854775807 from g418) (all_cons (show (x0.Vars.getD s216.2 []).length + ([94] ++ y415).length ≤ 9223372036854775807 from g420) all_nil))))) (by kernel_rfl)
                · have c413p := of_decide_eq_false c413
                  refine some_e H414 fun e423 => ?_
                  subst e423
                  exact p_bar Tryz.mo 3 [.eqT 61 (.bool false)] [.only [1, 2, 3, 5, 6, 7] [1, 72]] (poly_monomial_S7 x0 s216 u391 (x0.Vars.getD s216.2 [])) (all_cons (congrArg (AV.bool) c413) all_nil) (by kernel_rfl)
              · refine grd_e H410 fun g424 H425 => ?_
                refine some_e H425 fun e426 => ?_
                subst e426
                exact p_bar Tryz.mo 3 [.rg 0 [] [.v, .v, .b, .ap, .rwH 72 (.row 9 1 ((s216.1 ++ [v408]).map cStr)), .v], .rg 0 [] [.v, .v]] [.only [1, 2, 3, 5] [1, 72]] (poly_monomial_S3 x0 ((s216.1 ++ [v408]), u391)) (all_app (apR (c := cStr) cStr_ok s216.1 [v408] 16 (by decide) (by simpa using g424)) (all_cons (apQ 9 1 cStr s216.1 [v408]) all_nil)) (by kernel_rfl)
          · have c322p := of_decide_eq_false c322
            refine some_e H323 fun e427 => ?_
            subst e427
            have e428 := out_brk h319
            subst e428
            exact p_bar Tryz.mo 6 [.rg 0 [] [.v, .v, .v, .e (.int .i64 ((x0.Vars.length : Nat) : Int)), .v], .eqT 31 (.bool false)] [.only [2, 3] [72]] (poly_monomial_S4 s216.1) (all_cons trivial (all_cons (lenm cStr x0.Vars) (all_cons (congrArg (AV.bool) c322) all_nil))) (by kernel_rfl)
      · subst e430
        have H431 := aftE_brk H315
        refine bnd H431 fun y432 h433 H434 => ?_
        refine some_e H434 fun e435 => ?_
        subst e435
        exact p_ret Tryz.mo 3 [.rg 0 [] [.v, .c false (.str y432), .v]] [] [] (all_cons Tryz.call153 (all_cons (AFn.is (lib_Join_c u429 [42] y432 h433)) all_nil)) (by kernel_rfl)
/-- framewise/poly.Print -/
def poly_Print (x0 : (List Monomial)) : Option Str :=
  (poly_Valid x0).bind fun y1 =>
  bif y1 then (
    (cnt (σ := Str) (ε := Str) (ρ := Empty) (fun i95 s94 =>
      ((
        bif decide (((x0.getD i95 ⟨0, []⟩).Coef) < 0) then (
          grd (s94.length + [45].length ≤ 9223372036854775807) <|
          some (s94 ++ [45])
        ) else (
          bif (s94 == []) then (
            some s94
          ) else (
            grd (s94.length + [43].length ≤ 9223372036854775807) <|
            some (s94 ++ [43])
          )
        )
      ) : Option Str).bind fun v169 =>
      (poly_monomial (Monomial.mk ((x0.getD i95 ⟨0, []⟩).Coef) ((x0.getD i95 ⟨0, []⟩).Vars))).bind fun y187 =>
      grd (v169.length + y187.length ≤ 9223372036854775807) <|
      some (.go (v169 ++ y187))
    ) (fun i95 s94 => s94) (x0.length - 0) 0 []).bind <| aftE fun u197 =>
    bif (u197 == []) then (
      some [48]
    ) else (
      some u197
    )
  ) else (
    some []
  )
def poly_Print_S1 (x0 : (List Monomial)) (i95 : Nat) (s94 : Str) : AS := ⟨34, [(2, .str []), (3, .str s94), (9, .dslice (x0.map cMonomial)), (10, .int .i64 ((x0.length : Nat) : Int)), (11, .int .i64 ((i95 : Nat) : Int))], []⟩
def poly_Print_S2 (u143 : Str) : AS := ⟨34, [(2, .str []), (3, .str u143)], []⟩
def poly_Print_S3 (x0 : (List Monomial)) (i95 : Nat) (v169 : Str) : AS := ⟨34, [(2, .str []), (3, .str v169), (5, .hptr 5 0), (9, .dslice (x0.map cMonomial)), (10, .int .i64 ((x0.length : Nat) : Int)), (11, .int .i64 ((i95 : Nat) : Int))], [(5, .cells 118 [.int .i64 ((x0.getD i95 ⟨0, []⟩).Coef), .dslice (((x0.getD i95 ⟨0, []⟩).Vars).map cStr)])]⟩
theorem poly_Print_c (x0 : (List Monomial)) (r : Str) (H : poly_Print x0 = some r) : AFn Tryz.prog 49 [.dslice (x0.map cMonomial)] (.str r) := by
  unfold poly_Print at H
  refine acallX Tryz.func49 34 [.tmp 2] (by kernel_rfl) (by kernel_rfl) ?_
  refine bnd H fun y1 h2 H3 => ?_
  refine bsp H3 (fun c4 H5 => ?_) (fun c6 H7 => ?_)
  · refine p_at Tryz.mo 14 [.rg 0 [] [.v], .rg 0 [] [.v, .c true (.bool y1), .v], .eqT 8 (.bool false), .rg 0 [] [.v], .rg 0 [] [.v, .e (.int .i64 ((x0.length : Nat) : Int)), .v]] [.only [2, 3, 9, 10, 11] []] 13 [false] (poly_Print_S1 x0 0 []) (all_cons Tryz.call70 (all_cons (AFn.is (poly_Valid_c x0 y1 h2)) (all_cons trivial (all_cons (congrArg (fun x => AV.bool (!x)) c4) (all_cons trivial (all_cons (lenm cMonomial x0) all_nil)))))) (by kernel_rfl) ?_
    refine bnd H5 fun R140 h141 H142 => ?_
    refine p_joinO 1 (poly_Print_S2) R140 (by kernel_rfl) ?_ (fun u197 e198 => ?_)
    · refine p_cnt (poly_Print_S1 x0) (by kernel_rfl) h141 (fun i95 s94 h144 e145 => ?_) (fun i95 s94 h152 q148 h149 h150 => ?_)
      · have c146 : decide (((i95 : Nat) : Int) < ((x0.length : Nat) : Int)) = false := decide_eq_false (by omega)
        subst e145
        exact p_bar Tryz.mo 5 [.rg 0 [] [.e (.bool false)]] [.only [2, 3] []] (poly_Print_S2 s94) (all_cons (congrArg (AV.bool) c146) all_nil) (by kernel_rfl)
      · have c151 : decide (((i95 : Nat) : Int) < ((x0.length : Nat) : Int)) = true := decide_eq_true (by omega)
        refine p_at Tryz.mo 13 [.rg 0 [] [.e (.bool true)], .rg 0 [] [.e (.dptr [.int .i64 ((x0.getD i95 ⟨0, []⟩).Coef), .dslice (((x0.getD i95 ⟨0, []⟩).Vars).map cStr)]), .v, .m, .m], .rg 0 [] [.v, .v, .v, .v]] [.only [2, 3, 5, 9, 10, 11, 15] [5]] 13 [true] ⟨34, [(2, .str []), (3, .str s94), (5, .hptr 5 0), (9, .dslice (x0.map cMonomial)), (10, .int .i64 ((x0.length : Nat) : Int)), (11, .int .i64 ((i95 : Nat) : Int)), (15, .bool (decide (((x0.getD i95 ⟨0, []⟩).Coef) < 0)))], [(5, .cells 118 [.int .i64 ((x0.getD i95 ⟨0, []⟩).Coef), .dslice (((x0.getD i95 ⟨0, []⟩).Vars).map cStr)])]⟩ (all_cons (congrArg (AV.bool) c151) (all_app (ix (f := cMonomial) (l := x0) (n := i95) ⟨0, []⟩ cMonomial_len (by decide) (by omega)) all_nil)) (by kernel_rfl) ?_
        refine bnd h149 fun v169 h170 H171 => ?_
        refine p_join 1 (poly_Print_S3 x0 i95 v169) (by kernel_rfl) ?_ ?_
        · refine bsp h170 (fun c172 H173 => ?_) (fun c174 H175 => ?_)
          · have c172p := of_decide_eq_true c172
            refine grd_e H173 fun g176 H177 => ?_
            refine some_e H177 fun e178 => ?_
            subst e178
            exact p_bar Tryz.mo 3 [.eqT 15 (.bool true), .rg 0 [] [.v, .v, .v]] [.only [2, 3, 5, 9, 10, 11] [5]] (poly_Print_S3 x0 i95 (s94 ++ [45])) (all_cons (congrArg (AV.bool) c172) (all_cons (show s94.length + [45].length ≤ 9223372036854775807 from g176) all_nil)) (by kernel_rfl)
          · have c174p := of_decide_eq_false c174
            refine bsp H175 (fun c179 H180 => ?_) (fun c181 H182 => ?_)
            · refine some_e H180 fun e183 => ?_
              subst e183
              exact p_bar Tryz.mo 7 [.eqT 15 (.bool false), .rg 0 [] [.v, .v, .v], .eqT 21 (.bool false)] [.only [2, 3, 5, 9, 10, 11] [5]] (poly_Print_S3 x0 i95 s94) (all_cons (congrArg (AV.bool) c174) (all_cons (congrArg (fun x => AV.bool (!x)) c179) all_nil)) (by kernel_rfl)
            · refine grd_e H182 fun g184 H185 => ?_
              refine some_e H185 fun e186 => ?_
              subst e186
              exact p_bar Tryz.mo 7 [.eqT 15 (.bool false), .rg 0 [] [.v, .v, .v], .eqT 21 (.bool true), .rg 0 [] [.v, .v, .v]] [.only [2, 3, 5, 9, 10, 11] [5]] (poly_Print_S3 x0 i95 (s94 ++ [43])) (all_cons (congrArg (AV.bool) c174) (all_cons (congrArg (fun x => AV.bool (!x)) c181) (all_cons (show s94.length + [43].length ≤ 9223372036854775807 from g184) all_nil))) (by kernel_rfl)
        · refine bnd H171 fun y187 h188 H189 => ?_
          refine grd_e H189 fun g190 H191 => ?_
          refine t_lens 9 (ps := [(x0.map cMonomial).length ≤ 9223372036854775807]) (by kernel_rfl) (fun l194 => ?_)
          have l195 : x0.length ≤ 9223372036854775807 := by simpa only [All, List.length_map] using l194
          clear l194
          refine some_e H191 fun e196 => ?_
          subst e196
          exact p_bar Tryz.mo 2 [.rg 0 [] [.v, .v, .c true (.str y187), .v, .v], .rg 0 [] [.v, .v]] [.only [2, 3, 9, 10, 11] []] (poly_Print_S1 x0 (i95 + 1) (v169 ++ y187)) (all_cons Tryz.call118 (all_cons (AFn.is (poly_monomial_c (Monomial.mk ((x0.getD i95 ⟨0, []⟩).Coef) ((x0.getD i95 ⟨0, []⟩).Vars)) y187 h188)) (all_cons (show v169.length + y187.length ≤ 9223372036854775807 from g190) (all_cons (show I64 (((i95 : Nat) : Int) + 1) from by unfold I64; omega) all_nil)))) (by kernel_rfl)
    · subst e198
      have H199 := aftE_brk H142
      refine bsp H199 (fun c200 H201 => ?_) (fun c202 H203 => ?_)
      · refine some_e H201 fun e204 => ?_
        subst e204
        exact p_ret Tryz.mo 8 [.rg 0 [] [.v, .v], .eqT 32 (.bool true), .rg 0 [] [.v]] [] [] (all_cons (congrArg (AV.bool) c200) all_nil) (by kernel_rfl)
      · refine some_e H203 fun e205 => ?_
        subst e205
        exact p_ret Tryz.mo 9 [.rg 0 [] [.v, .v], .eqT 32 (.bool false), .rg 0 [] [.v, .v]] [] [] (all_cons (congrArg (AV.bool) c202) all_nil) (by kernel_rfl)
  · refine some_e H7 fun e206 => ?_
    subst e206
    exact p_ret Tryz.mo 10 [.rg 0 [] [.v], .rg 0 [] [.v, .c true (.bool y1), .v], .eqT 8 (.bool true), .rg 0 [] [.v]] [] [] (all_cons Tryz.call70 (all_cons (AFn.is (poly_Valid_c x0 y1 h2)) (all_cons trivial (all_cons (congrArg (fun x => AV.bool (!x)) c6) all_nil)))) (by kernel_rfl)
/-- framewise/poly.Parse -/
def poly_Parse (x0 : Str) : Option ((List Monomial) × Int) :=
  (whl (σ := ((List Monomial) × Str)) (ε := (List Monomial)) (ρ := ((List Monomial) × Int)) (fun s133 =>
    bif (s133.2 == []) then (
      some (.brk s133.1)
    ) else (
      bif (x0 == [48]) then (
        some (.brk s133.1)
      ) else (
        grd (0 < s133.2.length) <|
        ((
          bif (((s133.2.getD 0 0).toNat : Int) == 45) then (
            some (-1)
          ) else (
            some 1
          )
        ) : Option Int).bind fun v230 =>
        ((
          bif (((s133.2.getD 0 0).toNat : Int) == 45) then (
            some true
          ) else (
            some (((s133.2.getD 0 0).toNat : Int) == 43)
          )
        ) : Option Bool).bind fun v239 =>
        ((
          bif v239 then (
            grd (1 ≤ s133.2.length) <|
            some (s133.2.drop 1)
          ) else (
            some s133.2
          )
        ) : Option Str).bind fun v252 =>
        (lib_IndexAny v252 [43, 45]).bind fun y263 =>
        ((
          bif decide (y263 < 0) then (
            some ((v252.length : Nat) : Int)
          ) else (
            some y263
          )
        ) : Option Int).bind fun v266 =>
        grd (0 ≤ v266 ∧ v266 ≤ (v252.length : Int)) <|
        (poly_parseMonomial (v252.take v266.toNat)).bind fun y277 =>
        bif y277.2 then (
          bif decide (((s133.1.length : Nat) : Int) > 60) then (
            some (.ret ([], 6))
          ) else (
            grd ((s133.1.length + 1) * 32 ≤ 140737488355328) <|
            some (.go ((s133.1 ++ [(Monomial.mk (w64 (y277.1.Coef * v230)) y277.1.Vars)]), (v252.drop v266.toNat)))
          )
        ) else (
          some (.ret ([], 6))
        )
      )
    )
  ) 4294967296 ([], x0)).bind <| aft fun u303 =>
  (poly_Valid u303).bind fun y306 =>
  bif y306 then (
    (poly_Print u303).bind fun y320 =>
    bif (y320 == x0) then (
      some (u303, 0)
    ) else (
      some ([], 6)
    )
  ) else (
    some ([], 6)
  )
def poly_Parse_S1 (x0 : Str) (s133 : ((List Monomial) × Str)) : AS := ⟨72, [(0, .str x0), (2, .eslice), (3, .int .i64 0), (4, .rslice 58), (5, .str s133.2)], [(58, .row 118 2 (s133.1.map cMonomial))]⟩
def poly_Parse_S2 (x0 : Str) (u208 : (List Monomial)) : AS := ⟨72, [(0, .str x0), (2, .eslice), (3, .int .i64 0), (4, .rslice 58)], [(58, .row 118 2 (u208.map cMonomial))]⟩
def poly_Parse_S3 (x0 : Str) (s133 : ((List Monomial) × Str)) (v230 : Int) : AS := ⟨72, [(0, .str x0), (2, .eslice), (3, .int .i64 0), (4, .rslice 58), (5, .str s133.2), (6, .int .i64 v230)], [(58, .row 118 2 (s133.1.map cMonomial))]⟩
def poly_Parse_S4 (x0 : Str) (s133 : ((List Monomial) × Str)) (v230 : Int) (v239 : Bool) : AS := ⟨72, [(0, .str x0), (2, .eslice), (3, .int .i64 0), (4, .rslice 58), (5, .str s133.2), (6, .int .i64 v230), (27, .bool v239)], [(58, .row 118 2 (s133.1.map cMonomial))]⟩
def poly_Parse_S5 (x0 : Str) (s133 : ((List Monomial) × Str)) (v230 : Int) (v252 : Str) : AS := ⟨72, [(0, .str x0), (2, .eslice), (3, .int .i64 0), (4, .rslice 58), (5, .str v252), (6, .int .i64 v230)], [(58, .row 118 2 (s133.1.map cMonomial))]⟩
def poly_Parse_S6 (x0 : Str) (s133 : ((List Monomial) × Str)) (v230 : Int) (v252 : Str) (v266 : Int) : AS := ⟨72, [(0, .str x0), (2, .eslice), (3, .int .i64 0), (4, .rslice 58), (5, .str v252), (6, .int .i64 v230), (7, .int .i64 v266)], [(58, .row 118 2 (s133.1.map cMonomial))]⟩
theorem poly_Parse_c (x0 : Str) (r : ((List Monomial) × Int)) (H : poly_Parse x0 = some r) : AFn Tryz.prog 51 [.str x0] (.tup [.dslice (r.1.map cMonomial), .int .i64 r.2]) := by
  unfold poly_Parse at H
  refine acallX Tryz.func51 72 [.tmp 2, .tmp 3] (by kernel_rfl) (by kernel_rfl) ?_
  refine p_at Tryz.mo 8 [.rg 0 [] [.v, .v], .rg 0 [] [.v], .rg 0 [] [.v, .v]] [.er 4 58 118 2, .only [0, 2, 3, 4, 5] [58]] 8 [] (poly_Parse_S1 x0 ([], x0)) all_nil (by kernel_rfl) ?_
  refine bnd H fun R205 h206 H207 => ?_
  refine p_joinO 1 (poly_Parse_S2 x0) R205 (by kernel_rfl) ?_ (fun u303 e304 => ?_)
  · refine p_whl (poly_Parse_S1 x0) (by kernel_rfl) h206 (fun s133 q209 h210 h211 => ?_)
    · refine bsp h210 (fun c216 H217 => ?_) (fun c218 H219 => ?_)
      · refine some_e H217 fun e220 => ?_
        subst e220
        have e221 := out_brk h211
        subst e221
        exact p_bar Tryz.mo 5 [.rg 0 [] [.v, .e (.bool false), .v, .s, .s, .v]] [.only [0, 2, 3, 4] [58]] (poly_Parse_S2 x0 s133.1) (all_cons (congrArg (fun x => AV.bool (!x)) c216) all_nil) (by kernel_rfl)
      · refine bsp H219 (fun c222 H223 => ?_) (fun c224 H225 => ?_)
        · refine some_e H223 fun e226 => ?_
          subst e226
          have e227 := out_brk h211
          subst e227
          exact p_bar Tryz.mo 6 [.rg 0 [] [.v, .e (.bool true), .v, .v, .v, .v], .eqT 16 (.bool false)] [.only [0, 2, 3, 4] [58]] (poly_Parse_S2 x0 s133.1) (all_cons (congrArg (fun x => AV.bool (!x)) c218) (all_cons (congrArg (fun x => AV.bool (!x)) c222) all_nil)) (by kernel_rfl)
        · refine grd_e H225 fun g228 H229 => ?_
          refine p_at Tryz.mo 12 [.rg 0 [] [.v, .e (.bool true), .v, .v, .v, .v], .eqT 16 (.bool true), .rg 0 [] [.v], .rg 0 [] [.v, .v, .v]] [.only [0, 2, 3, 4, 5, 6, 19] [58]] 11 [true] ⟨72, [(0, .str x0), (2, .eslice), (3, .int .i64 0), (4, .rslice 58), (5, .str s133.2), (6, .int .i64 1), (19, .bool (((s133.2.getD 0 0).toNat : Int) == 45))], [(58, .row 118 2 (s133.1.map cMonomial))]⟩ (all_cons (congrArg (fun x => AV.bool (!x)) c218) (all_cons (congrArg (fun x => AV.bool (!x)) c224) (all_cons (show (0 : Int) ≤ 0 ∧ 0 < (s133.2.length : Int) from by omega) all_nil))) (by kernel_rfl) ?_
          refine bnd H229 fun v230 h231 H232 => ?_
          refine p_join 0 (poly_Parse_S3 x0 s133 v230) (by kernel_rfl) ?_ ?_
          · refine bsp h231 (fun c233 H234 => ?_) (fun c235 H236 => ?_)
            · refine some_e H234 fun e237 => ?_
              subst e237
              exact p_bar Tryz.mo 3 [.eqT 19 (.bool true), .rg 0 [] [.v]] [.only [0, 2, 3, 4, 5, 6] [58]] (poly_Parse_S3 x0 s133 (-1)) (all_cons (congrArg (AV.bool) c233) all_nil) (by kernel_rfl)
            · refine some_e H236 fun e238 => ?_
              subst e238
              exact p_bar Tryz.mo 3 [.eqT 19 (.bool false)] [.only [0, 2, 3, 4, 5, 6] [58]] (poly_Parse_S3 x0 s133 1) (all_cons (congrArg (AV.bool) c235) all_nil) (by kernel_rfl)
          · refine p_at Tryz.mo 2 [] [.only [0, 2, 3, 4, 5, 6] [58]] 2 [] ⟨72, [(0, .str x0), (2, .eslice), (3, .int .i64 0), (4, .rslice 58), (5, .str s133.2), (6, .int .i64 v230)], [(58, .row 118 2 (s133.1.map cMonomial))]⟩ all_nil (by kernel_rfl) ?_
            refine bnd H232 fun v239 h240 H241 => ?_
            refine p_join 0 (poly_Parse_S4 x0 s133 v230 v239) (by kernel_rfl) ?_ ?_
            · refine bsp h240 (fun c242 H243 => ?_) (fun c244 H245 => ?_)
              · refine some_e H243 fun e246 => ?_
                subst e246
                exact p_bar Tryz.mo 1 [.rg 0 [] [.v, .v, .e (.bool true), .v, .s, .s, .s, .v]] [.only [0, 2, 3, 4, 5, 6, 27] [58]] (poly_Parse_S4 x0 s133 v230 true) (all_cons (show (0 : Int) ≤ 0 ∧ 0 < (s133.2.length : Int) from by omega) (all_cons (congrArg (AV.bool) c242) all_nil)) (by kernel_rfl)
              · refine some_e H245 fun e247 => ?_
                subst e247
                exact p_bar Tryz.mo 1 [.rg 0 [] [.v, .v, .e (.bool false), .v, .v, .v, .v, .v]] [.only [0, 2, 3, 4, 5, 6, 27] [58]] (poly_Parse_S4 x0 s133 v230 (((s133.2.getD 0 0).toNat : Int) == 43)) (all_cons (show (0 : Int) ≤ 0 ∧ 0 < (s133.2.length : Int) from by omega) (all_cons (congrArg (AV.bool) c244) (all_cons (show (0 : Int) ≤ 0 ∧ 0 < (s133.2.length : Int) from by omega) all_nil))) (by kernel_rfl)
            · refine bnd H241 fun v252 h253 H254 => ?_
              refine p_join 0 (poly_Parse_S5 x0 s133 v230 v252) (by kernel_rfl) ?_ ?_
              · refine bsp h253 (fun c255 H256 => ?_) (fun c257 H258 => ?_)
                · refine grd_e H256 fun g259 H260 => ?_
                  refine some_e H260 fun e261 => ?_
                  subst e261
                  exact p_bar Tryz.mo 3 [.eqT 27 (.bool true), .rg 0 [] [.v, .e (.str (s133.2.drop 1)), .v]] [.only [0, 2, 3, 4, 5, 6] [58]] (poly_Parse_S5 x0 s133 v230 (s133.2.drop 1)) (all_cons (congrArg (AV.bool) c255) (all_cons (show (0 : Int) ≤ 1 ∧ 1 ≤ (s133.2.length : Int) ∧ (s133.2.length : Int) ≤ (s133.2.length : Int) from by omega) (all_cons (sl_drop s133.2 1) all_nil))) (by kernel_rfl)
                · refine some_e H258 fun e262 => ?_
                  subst e262
                  exact p_bar Tryz.mo 3 [.eqT 27 (.bool false)] [.only [0, 2, 3, 4, 5, 6] [58]] (poly_Parse_S5 x0 s133 v230 s133.2) (all_cons (congrArg (AV.bool) c257) all_nil) (by kernel_rfl)
              · refine bnd H254 fun y263 h264 H265 => ?_
                refine p_at Tryz.mo 5 [.rg 0 [] [.v, .c true (.int .i64 y263), .v], .rg 0 [] [.v, .v]] [.only [0, 2, 3, 4, 5, 6, 7, 33] [58]] 5 [] ⟨72, [(0, .str x0), (2, .eslice), (3, .int .i64 0), (4, .rslice 58), (5, .str v252), (6, .int .i64 v230), (7, .int .i64 y263), (33, .bool (decide (y263 < 0)))], [(58, .row 118 2 (s133.1.map cMonomial))]⟩ (all_cons Tryz.call120 (all_cons (AFn.is (lib_IndexAny_c v252 [43, 45] y263 h264)) all_nil)) (by kernel_rfl) ?_
                refine bnd H265 fun v266 h267 H268 => ?_
                refine p_join 0 (poly_Parse_S6 x0 s133 v230 v252 v266) (by kernel_rfl) ?_ ?_
                · refine bsp h267 (fun c269 H270 => ?_) (fun c271 H272 => ?_)
                  · have c269p := of_decide_eq_true c269
                    refine some_e H270 fun e273 => ?_
                    subst e273
                    exact p_bar Tryz.mo 3 [.eqT 33 (.bool true), .rg 0 [] [.v, .v, .v]] [.only [0, 2, 3, 4, 5, 6, 7] [58]] (poly_Parse_S6 x0 s133 v230 v252 ((v252.length : Nat) : Int)) (all_cons (congrArg (AV.bool) c269) (all_cons trivial all_nil)) (by kernel_rfl)
                  · have c271p := of_decide_eq_false c271
                    refine some_e H272 fun e274 => ?_
                    subst e274
                    exact p_bar Tryz.mo 3 [.eqT 33 (.bool false)] [.only [0, 2, 3, 4, 5, 6, 7] [58]] (poly_Parse_S6 x0 s133 v230 v252 y263) (all_cons (congrArg (AV.bool) c271) all_nil) (by kernel_rfl)
                · refine grd_e H268 fun g275 H276 => ?_
                  refine bnd H276 fun y277 h278 H279 => ?_
                  refine bsp H279 (fun c284 H285 => ?_) (fun c286 H287 => ?_)
                  · refine p_at Tryz.mo 6 [.rg 0 [] [.v, .v, .e (.str (v252.take v266.toNat)), .c true (.tup [.agg [.int .i64 y277.1.Coef, .dslice (y277.1.Vars.map cStr)], .bool y277.2]), .v, .v, .v, .m, .m, .v], .eqT 9 (.bool true), .rg 0 [] [.v, .v, .v, .v, .e (.int .i64 ((s133.1.length : Nat) : Int)), .v, .v]] [.only [0, 2, 3, 4, 5, 6, 7, 8, 49] [8, 58]] 5 [] ⟨72, [(0, .str x0), (2, .eslice), (3, .int .i64 0), (4, .rslice 58), (5, .str v252), (6, .int .i64 v230), (7, .int .i64 v266), (8, .hptr 8 0), (49, .bool (decide (((s133.1.length : Nat) : Int) > 60)))], [(8, .cells 118 [.int .i64 y277.1.Coef, .dslice (y277.1.Vars.map cStr)]), (58, .row 118 2 (s133.1.map cMonomial))]⟩ (all_cons (show (0 : Int) ≤ 0 ∧ 0 ≤ v266 ∧ v266 ≤ (v252.length : Int) from by omega) (all_cons (sl_take v252 v266.toNat) (all_cons Tryz.call121 (all_cons (AFn.is (poly_parseMonomial_c (v252.take v266.toNat) y277 h278)) (all_cons (congrArg (AV.bool) c284) (all_cons trivial (all_cons trivial (all_cons (lenm cMonomial s133.1) all_nil)))))))) (by kernel_rfl) ?_
                    refine bsp H285 (fun c288 H289 => ?_) (fun c290 H291 => ?_)
                    · have c288p := of_decide_eq_true c288
                      refine some_e H289 fun e292 => ?_
                      subst e292
                      have e293 := out_ret h211
                      subst e293
                      have H294 := aft_ret H207
                      refine some_e H294 fun e295 => ?_
                      subst e295
                      exact p_ret Tryz.mo 5 [.eqT 49 (.bool true), .rg 0 [] [.v, .v]] [.wk 2 []] [] (all_cons (congrArg (AV.bool) c288) all_nil) (by kernel_rfl)
                    · have c290p := of_decide_eq_false c290
                      refine grd_e H291 fun g296 H297 => ?_
                      refine some_e H297 fun e298 => ?_
                      subst e298
                      exact p_bar Tryz.mo 8 [.eqT 49 (.bool false), .rg 0 [] [.v, .v, .v, .w, .v, .m], .rg 0 [] [.v, .v, .b, .ap, .rwH 58 (.row 118 2 ((s133.1 ++ [(Monomial.mk (w64 (y277.1.Coef * v230)) y277.1.Vars)]).map cMonomial)), .v], .rg 0 [] [.v, .v, .e (.str (v252.drop v266.toNat)), .v]] [.only [0, 2, 3, 4, 5] [58]] (poly_Parse_S1 x0 ((s133.1 ++ [(Monomial.mk (w64 (y277.1.Coef * v230)) y277.1.Vars)]), (v252.drop v266.toNat))) (all_cons (congrArg (AV.bool) c290) (all_app (apR (c := cMonomial) cMonomial_ok s133.1 [(Monomial.mk (w64 (y277.1.Coef * v230)) y277.1.Vars)] 32 (by decide) (by simpa using g296)) (all_cons (apQ 118 2 cMonomial s133.1 [(Monomial.mk (w64 (y277.1.Coef * v230)) y277.1.Vars)]) (all_cons (show (0 : Int) ≤ v266 ∧ v266 ≤ (v252.length : Int) ∧ (v252.length : Int) ≤ (v252.length : Int) from by omega) (all_cons (sl_drop v252 v266.toNat) all_nil))))) (by kernel_rfl)
                  · refine some_e H287 fun e299 => ?_
                    subst e299
                    have e300 := out_ret h211
                    subst e300
                    have H301 := aft_ret H207
                    refine some_e H301 fun e302 => ?_
                    subst e302
                    exact p_ret Tryz.mo 10 [.rg 0 [] [.v, .v, .e (.str (v252.take v266.toNat)), .c true (.tup [.agg [.int .i64 y277.1.Coef, .dslice (y277.1.Vars.map cStr)], .bool y277.2]), .v, .v, .v, .m, .m, .v], .eqT 9 (.bool false), .rg 0 [] [.v, .v, .v, .s, .s, .s, .v], .rg 0 [] [.v, .v]] [.wk 2 []] [] (all_cons (show (0 : Int) ≤ 0 ∧ 0 ≤ v266 ∧ v266 ≤ (v252.length : Int) from by omega) (all_cons (sl_take v252 v266.toNat) (all_cons Tryz.call121 (all_cons (AFn.is (poly_parseMonomial_c (v252.take v266.toNat) y277 h278)) (all_cons (congrArg (AV.bool) c286) (all_cons trivial all_nil)))))) (by kernel_rfl)
  · subst e304
    have H305 := aft_brk H207
    refine bnd H305 fun y306 h307 H308 => ?_
    refine bsp H308 (fun c316 H317 => ?_) (fun c318 H319 => ?_)
    · refine bnd H317 fun y320 h321 H322 => ?_
      refine bsp H322 (fun c323 H324 => ?_) (fun c325 H326 => ?_)
      · refine some_e H324 fun e327 => ?_
        subst e327
        exact p_ret Tryz.mo 9 [.rg 0 [] [.v, .c false (.bool true), .v, .v, .v, .c false (.str y320), .v, .v, .v], .eqT 70 (.bool false), .rg 0 [] [.v, .v, .v]] [.fz 58] [] (all_cons Tryz.call70 (all_cons (AFn.eq (poly_Valid_c u303 y306 h307) (congrArg (AV.bool) c316)) (all_cons trivial (all_cons Tryz.call49 (all_cons (AFn.is (poly_Print_c u303 y320 h321)) (all_cons (congrArg (fun x => AV.bool (!x)) c323) all_nil)))))) (by kernel_rfl)
      · refine some_e H326 fun e328 => ?_
        subst e328
        exact p_ret Tryz.mo 8 [.rg 0 [] [.v, .c false (.bool true), .v, .v, .v, .c false (.str y320), .v, .v, .v], .eqT 70 (.bool true), .rg 0 [] [.v, .v]] [.wk 2 []] [] (all_cons Tryz.call70 (all_cons (AFn.eq (poly_Valid_c u303 y306 h307) (congrArg (AV.bool) c316)) (all_cons trivial (all_cons Tryz.call49 (all_cons (AFn.is (poly_Print_c u303 y320 h321)) (all_cons (congrArg (fun x => AV.bool (!x)) c325) all_nil)))))) (by kernel_rfl)
    · refine some_e H319 fun e329 => ?_
      subst e329
      exact p_ret Tryz.mo 7 [.rg 0 [] [.v, .c false (.bool false), .v, .v, .s, .s, .s, .s, .v], .rg 0 [] [.v, .v]] [.wk 2 []] [] (all_cons Tryz.call70 (all_cons (AFn.eq (poly_Valid_c u303 y306 h307) (congrArg (AV.bool) c318)) (all_cons trivial all_nil))) (by kernel_rfl)
/-- framewise/poly.Eval$1 -/
def poly_Eval_1 (x0 : Value) (x1 : Str) : Option Bool :=
  some (x0.Var == x1)
theorem poly_Eval_1_c (x0 : Value) (x1 : Str) (r : Bool) (H : poly_Eval_1 x0 x1 = some r) : AFn Tryz.prog 112 [.agg [.str x0.Var, .int .i64 x0.N], .dptr [.str x1]] (.bool r) := by
  unfold poly_Eval_1 at H
  refine acallX Tryz.func112 8 [.tmp 3] (by kernel_rfl) (by kernel_rfl) ?_
  refine some_e H fun e1 => ?_
  subst e1
  exact p_ret Tryz.mo 5 [.rg 0 [] [.m, .v], .rg 0 [] [.v, .v, .v, .v, .v]] [] [] all_nil (by kernel_rfl)

end Go.Proofs.YtjfpcjnopbfekaaGreatDoor
