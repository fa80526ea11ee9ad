/- What functions of the program compute, walked: each as a plain function, with the theorem that the code computes it wherever that answers. Printed by a program, part 2. -/
import Derived.Test.YtjfpcjnopbfekaaGreatDoorWkaPolyRing
set_option linter.unusedSimpArgs false
set_option linter.unusedVariables false
namespace Go.Proofs.YtjfpcjnopbfekaaGreatDoor
open Go.RowKit Go.Ab Go.Sh
/-- slices.IndexFunc[[]framewise/api.Value,framewise/api.Value] -/
def slices_IndexFunc_api_Value (x0 : (List Value)) (x1 : Str) : Option Int :=
  (cnt (σ := Unit) (ε := Unit) (ρ := Int) (fun i90 s89 =>
    (poly_Eval_1 (Value.mk ((x0.getD i90 ⟨[], 0⟩).Var) ((x0.getD i90 ⟨[], 0⟩).N)) x1).bind fun y119 =>
    bif y119 then (
      some (.ret ((i90 : Nat) : Int))
    ) else (
      some (.go ())
    )
  ) (fun i90 s89 => ()) (x0.length - 0) 0 ()).bind <| aft fun u135 =>
  some (-1)
def slices_IndexFunc_api_Value_S1 (x0 : (List Value)) (x1 : Str) (i90 : Nat) (s89 : Unit) : AS := ⟨19, [(0, .dslice (x0.map cValue)), (1, .fn 112 [.hptr 1000 0]), (4, .int .i64 0), (7, .int .i64 ((x0.length : Nat) : Int)), (8, .int .i64 ((i90 : Nat) : Int))], [(1000, .cells 9 [.str x1])]⟩
def slices_IndexFunc_api_Value_S2 (x1 : Str) (u109 : Unit) : AS := ⟨19, [(4, .int .i64 0)], [(1000, .cells 9 [.str x1])]⟩
theorem slices_IndexFunc_api_Value_c (x0 : (List Value)) (x1 : Str) (r : Int) (H : slices_IndexFunc_api_Value x0 x1 = some r) : ACall Tryz.prog 111 [.dslice (x0.map cValue), .fn 112 [.hptr 1000 0]] [(1000, .cells 9 [.str x1])] (fun r2 h2 => r2 = (.int .i64 r) ∧ h2 = [(1000, .cells 9 [.str x1])]) := by
  unfold slices_IndexFunc_api_Value at H
  refine acallX Tryz.func111 19 [.tmp 4] (by kernel_rfl) (by kernel_rfl) ?_
  refine p_at Tryz.mo 6 [.rg 0 [] [.v], .rg 0 [] [.v, .e (.int .i64 ((x0.length : Nat) : Int)), .v]] [.only [0, 1, 4, 7, 8] [1000]] 6 [] (slices_IndexFunc_api_Value_S1 x0 x1 0 ()) (all_cons trivial (all_cons (lenm cValue x0) all_nil)) (by kernel_rfl) ?_
  refine bnd H fun R106 h107 H108 => ?_
  refine p_joinO 1 (slices_IndexFunc_api_Value_S2 x1) R106 (by kernel_rfl) ?_ (fun u135 e136 => ?_)
  · refine p_cnt (slices_IndexFunc_api_Value_S1 x0 x1) (by kernel_rfl) h107 (fun i90 s89 h110 e111 => ?_) (fun i90 s89 h118 q114 h115 h116 => ?_)
    · have c112 : decide (((i90 : Nat) : Int) < ((x0.length : Nat) : Int)) = false := decide_eq_false (by omega)
      subst e111
      exact p_bar Tryz.mo 5 [.rg 0 [] [.e (.bool false)]] [.only [4] [1000]] (slices_IndexFunc_api_Value_S2 x1 ()) (all_cons (congrArg (AV.bool) c112) all_nil) (by kernel_rfl)
    · have c117 : decide (((i90 : Nat) : Int) < ((x0.length : Nat) : Int)) = true := decide_eq_true (by omega)
      refine bnd h115 fun y119 h120 H121 => ?_
      refine p_at Tryz.mo 11 [.rg 0 [] [.e (.bool true)], .rg 0 [] [.v, .v], .rg 0 [] [.v, .v, .v, .e (.dptr [.str ((x0.getD i90 ⟨[], 0⟩).Var), .int .i64 ((x0.getD i90 ⟨[], 0⟩).N)]), .v, .c false (.bool y119)]] [.only [0, 1, 4, 5, 7, 8, 16] [1000]] 11 [true] ⟨19, [(0, .dslice (x0.map cValue)), (1, .fn 112 [.hptr 1000 0]), (4, .int .i64 0), (5, .int .i64 ((i90 : Nat) : Int)), (7, .int .i64 ((x0.length : Nat) : Int)), (8, .int .i64 ((i90 : Nat) : Int)), (16, .bool y119)], [(1000, .cells 9 [.str x1])]⟩ (all_cons (congrArg (AV.bool) c117) (all_app (ix (f := cValue) (l := x0) (n := i90) ⟨[], 0⟩ cValue_len (by decide) (by omega)) (all_cons Tryz.call112 (all_cons (AFn.is (poly_Eval_1_c (Value.mk ((x0.getD i90 ⟨[], 0⟩).Var) ((x0.getD i90 ⟨[], 0⟩).N)) x1 y119 h120)) all_nil)))) (by kernel_rfl) ?_
      refine bsp H121 (fun c122 H123 => ?_) (fun c124 H125 => ?_)
      · refine some_e H123 fun e126 => ?_
        subst e126
        have e127 := out_ret h116
        subst e127
        have H128 := aft_ret H108
        refine some_e H128 fun e129 => ?_
        subst e129
        exact p_ret Tryz.mo 5 [.eqT 16 (.bool true), .rg 0 [] [.v, .v]] [] [1000] (all_cons (congrArg (AV.bool) c122) all_nil) (by kernel_rfl)
      · refine t_lens 0 (ps := [(x0.map cValue).length ≤ 9223372036854775807]) (by kernel_rfl) (fun l132 => ?_)
        have l133 : x0.length ≤ 9223372036854775807 := by simpa only [All, List.length_map] using l132
        clear l132
        refine some_e H125 fun e134 => ?_
        subst e134
        exact p_bar Tryz.mo 4 [.eqT 16 (.bool false), .rg 0 [] [.v, .v]] [.only [0, 1, 4, 7, 8] [1000]] (slices_IndexFunc_api_Value_S1 x0 x1 (i90 + 1) ()) (all_cons (congrArg (AV.bool) c124) (all_cons (show I64 (((i90 : Nat) : Int) + 1) from by unfold I64; omega) all_nil)) (by kernel_rfl)
  · subst e136
    have H137 := aft_brk H108
    refine some_e H137 fun e138 => ?_
    subst e138
    exact p_ret Tryz.mo 3 [.rg 0 [] [.v]] [] [1000] all_nil (by kernel_rfl)
/-- slices.Index[[]int,int] -/
def slices_Index_int (x0 : (List Int)) (x1 : Int) : Option Int :=
  (cnt (σ := Unit) (ε := Unit) (ρ := Int) (fun i23 s22 =>
    bif (x1 == (x0.getD i23 0)) then (
      some (.ret ((i23 : Nat) : Int))
    ) else (
      some (.go ())
    )
  ) (fun i23 s22 => ()) (x0.length - 0) 0 ()).bind <| aft fun u62 =>
  some (-1)
def slices_Index_int_S1 (x0 : (List Int)) (x1 : Int) (i23 : Nat) (s22 : Unit) : AS := ⟨19, [(0, .dslice (x0.map cInt_i64)), (1, .int .i64 x1), (4, .int .i64 0), (7, .int .i64 ((x0.length : Nat) : Int)), (8, .int .i64 ((i23 : Nat) : Int))], []⟩
def slices_Index_int_S2 (u39 : Unit) : AS := ⟨19, [(4, .int .i64 0)], []⟩
theorem slices_Index_int_c (x0 : (List Int)) (x1 : Int) (r : Int) (H : slices_Index_int x0 x1 = some r) : AFn Tryz.prog 237 [.dslice (x0.map cInt_i64), .int .i64 x1] (.int .i64 r) := by
  unfold slices_Index_int at H
  refine acallX Tryz.func237 19 [.tmp 4] (by kernel_rfl) (by kernel_rfl) ?_
  refine p_at Tryz.mo 6 [.rg 0 [] [.v], .rg 0 [] [.v, .e (.int .i64 ((x0.length : Nat) : Int)), .v]] [.only [0, 1, 4, 7, 8] []] 6 [] (slices_Index_int_S1 x0 x1 0 ()) (all_cons trivial (all_cons (lenm cInt_i64 x0) all_nil)) (by kernel_rfl) ?_
  refine bnd H fun R36 h37 H38 => ?_
  refine p_joinO 1 (slices_Index_int_S2) R36 (by kernel_rfl) ?_ (fun u62 e63 => ?_)
  · refine p_cnt (slices_Index_int_S1 x0 x1) (by kernel_rfl) h37 (fun i23 s22 h40 e41 => ?_) (fun i23 s22 h48 q44 h45 h46 => ?_)
    · have c42 : decide (((i23 : Nat) : Int) < ((x0.length : Nat) : Int)) = false := decide_eq_false (by omega)
      subst e41
      exact p_bar Tryz.mo 5 [.rg 0 [] [.e (.bool false)]] [.only [4] []] (slices_Index_int_S2 ()) (all_cons (congrArg (AV.bool) c42) all_nil) (by kernel_rfl)
    · have c47 : decide (((i23 : Nat) : Int) < ((x0.length : Nat) : Int)) = true := decide_eq_true (by omega)
      refine bsp h45 (fun c49 H50 => ?_) (fun c51 H52 => ?_)
      · refine some_e H50 fun e53 => ?_
        subst e53
        have e54 := out_ret h46
        subst e54
        have H55 := aft_ret H38
        refine some_e H55 fun e56 => ?_
        subst e56
        exact p_ret Tryz.mo 16 [.rg 0 [] [.e (.bool true)], .rg 0 [] [.v, .v], .rg 0 [] [.v, .v, .v, .e (.dptr [.int .i64 (x0.getD i23 0)]), .v, .v], .eqT 16 (.bool true), .rg 0 [] [.v, .v]] [] [] (all_cons (congrArg (AV.bool) c47) (all_app (ix (f := cInt_i64) (l := x0) (n := i23) 0 cInt_i64_len (by decide) (by omega)) (all_cons (congrArg (AV.bool) c49) all_nil))) (by kernel_rfl)
      · refine t_lens 0 (ps := [(x0.map cInt_i64).length ≤ 9223372036854775807]) (by kernel_rfl) (fun l59 => ?_)
        have l60 : x0.length ≤ 9223372036854775807 := by simpa only [All, List.length_map] using l59
        clear l59
        refine some_e H52 fun e61 => ?_
        subst e61
        exact p_bar Tryz.mo 15 [.rg 0 [] [.e (.bool true)], .rg 0 [] [.v, .v], .rg 0 [] [.v, .v, .v, .e (.dptr [.int .i64 (x0.getD i23 0)]), .v, .v], .eqT 16 (.bool false), .rg 0 [] [.v, .v]] [.only [0, 1, 4, 7, 8] []] (slices_Index_int_S1 x0 x1 (i23 + 1) ()) (all_cons (congrArg (AV.bool) c47) (all_app (ix (f := cInt_i64) (l := x0) (n := i23) 0 cInt_i64_len (by decide) (by omega)) (all_cons (congrArg (AV.bool) c51) (all_cons (show I64 (((i23 : Nat) : Int) + 1) from by unfold I64; omega) all_nil)))) (by kernel_rfl)
  · subst e63
    have H64 := aft_brk H38
    refine some_e H64 fun e65 => ?_
    subst e65
    exact p_ret Tryz.mo 3 [.rg 0 [] [.v]] [] [] all_nil (by kernel_rfl)
/-- slices.Contains[[]int,int] -/
def slices_Contains_int (x0 : (List Int)) (x1 : Int) : Option Bool :=
  (slices_Index_int x0 x1).bind fun y1 =>
  some (decide (y1 ≥ 0))
theorem slices_Contains_int_c (x0 : (List Int)) (x1 : Int) (r : Bool) (H : slices_Contains_int x0 x1 = some r) : AFn Tryz.prog 187 [.dslice (x0.map cInt_i64), .int .i64 x1] (.bool r) := by
  unfold slices_Contains_int at H
  refine acallX Tryz.func187 9 [.tmp 4] (by kernel_rfl) (by kernel_rfl) ?_
  refine bnd H fun y1 h2 H3 => ?_
  refine some_e H3 fun e4 => ?_
  subst e4
  exact p_ret Tryz.mo 5 [.rg 0 [] [.v], .rg 0 [] [.v, .v, .c true (.int .i64 y1), .v, .v]] [] [] (all_cons Tryz.call237 (all_cons (AFn.is (slices_Index_int_c x0 x1 y1 h2)) all_nil)) (by kernel_rfl)
/-- framewise/intmath.Mul -/
def intmath_Mul (x0 : Int) (x1 : Int) : Option (Int × Int) :=
  (intmath_in [x0, x1]).bind fun y1 =>
  bif y1 then (
    (intmath_abs x0).bind fun y8 =>
    (intmath_abs x1).bind fun y11 =>
    (lib_Mul64 (IntKind.wrap .u64 y8) (IntKind.wrap .u64 y11)).bind fun y14 =>
    bif decide (y14.1 > 0) then (
      some (0, 2)
    ) else (
      bif decide (y14.2 > 4611686018427387904) then (
        some (0, 2)
      ) else (
        bif (decide (x0 < 0) == decide (x1 < 0)) then (
          some ((IntKind.wrap .i64 y14.2), 0)
        ) else (
          some ((w64 (0 - (IntKind.wrap .i64 y14.2))), 0)
        )
      )
    )
  ) else (
    some (0, 2)
  )
theorem intmath_Mul_c (x0 : Int) (x1 : Int) (r : (Int × Int)) (H : intmath_Mul x0 x1 = some r) : AFn Tryz.prog 188 [.int .i64 x0, .int .i64 x1] (.tup [.int .i64 r.1, .int .i64 r.2]) := by
  unfold intmath_Mul at H
  refine acallX Tryz.func188 39 [.tmp 4, .tmp 5] (by kernel_rfl) (by kernel_rfl) ?_
  refine bnd H fun y1 h2 H3 => ?_
  refine bsp H3 (fun c4 H5 => ?_) (fun c6 H7 => ?_)
  · refine bnd H5 fun y8 h9 H10 => ?_
    refine bnd H10 fun y11 h12 H13 => ?_
    refine bnd H13 fun y14 h15 H16 => ?_
    refine p_at Tryz.mo 12 [.rg 0 [] [.v, .v], .rg 0 [] [.v, .v, .b, .c true (.bool y1), .v], .eqT 12 (.bool false), .rg 0 [] [.v, .c true (.int .i64 y8), .v, .v, .c true (.int .i64 y11), .v, .c true (.tup [.int .u64 y14.1, .int .u64 y14.2]), .v, .v, .v, .v, .v]] [.only [0, 1, 4, 5, 6, 7] []] 11 [false] ⟨39, [(0, .int .i64 x0), (1, .int .i64 x1), (4, .int .i64 0), (5, .int .i64 0), (6, .int .u64 y14.1), (7, .int .u64 y14.2)], []⟩ (all_cons Tryz.call189 (all_cons (AFn.is (intmath_in_c [x0, x1] y1 h2)) (all_cons trivial (all_cons (congrArg (fun x => AV.bool (!x)) c4) (all_cons Tryz.call239 (all_cons (AFn.is (intmath_abs_c x0 y8 h9)) (all_cons trivial (all_cons Tryz.call239 (all_cons (AFn.is (intmath_abs_c x1 y11 h12)) (all_cons trivial (all_cons Tryz.call238 (all_cons (AFn.is (lib_Mul64_c (IntKind.wrap .u64 y8) (IntKind.wrap .u64 y11) y14 h15)) all_nil)))))))))))) (by kernel_rfl) ?_
    refine bsp H16 (fun c21 H22 => ?_) (fun c23 H24 => ?_)
    · have c21p := of_decide_eq_true c21
      refine some_e H22 fun e25 => ?_
      subst e25
      exact p_ret Tryz.mo 5 [.rg 0 [] [.v, .e (.bool true), .v, .s, .s, .v], .rg 0 [] [.v, .v]] [] [] (all_cons (congrArg (AV.bool) c21) all_nil) (by kernel_rfl)
    · have c23p := of_decide_eq_false c23
      refine bsp H24 (fun c26 H27 => ?_) (fun c28 H29 => ?_)
      · have c26p := of_decide_eq_true c26
        refine some_e H27 fun e30 => ?_
        subst e30
        exact p_ret Tryz.mo 6 [.rg 0 [] [.v, .e (.bool false), .v, .v, .v, .v], .eqT 28 (.bool true), .rg 0 [] [.v, .v]] [] [] (all_cons (congrArg (AV.bool) c23) (all_cons (congrArg (AV.bool) c26) all_nil)) (by kernel_rfl)
      · have c28p := of_decide_eq_false c28
        refine bsp H29 (fun c31 H32 => ?_) (fun c33 H34 => ?_)
        · refine some_e H32 fun e35 => ?_
          subst e35
          exact p_ret Tryz.mo 13 [.rg 0 [] [.v, .e (.bool false), .v, .v, .v, .v], .eqT 28 (.bool false), .rg 0 [] [.v, .v, .v, .v, .v], .eqT 33 (.bool false), .rg 0 [] [.v, .v, .v, .v]] [] [] (all_cons (congrArg (AV.bool) c23) (all_cons (congrArg (AV.bool) c28) (all_cons (congrArg (fun x => AV.bool (!x)) c31) (all_cons trivial all_nil)))) (by kernel_rfl)
        · refine some_e H34 fun e36 => ?_
          subst e36
          exact p_ret Tryz.mo 12 [.rg 0 [] [.v, .e (.bool false), .v, .v, .v, .v], .eqT 28 (.bool false), .rg 0 [] [.v, .v, .v, .v, .v], .eqT 33 (.bool true), .rg 0 [] [.v, .v, .w, .v, .v]] [] [] (all_cons (congrArg (AV.bool) c23) (all_cons (congrArg (AV.bool) c28) (all_cons (congrArg (fun x => AV.bool (!x)) c33) (all_cons trivial all_nil)))) (by kernel_rfl)
  · refine some_e H7 fun e37 => ?_
    subst e37
    exact p_ret Tryz.mo 10 [.rg 0 [] [.v, .v], .rg 0 [] [.v, .v, .b, .c true (.bool y1), .v], .eqT 12 (.bool true), .rg 0 [] [.v, .v]] [] [] (all_cons Tryz.call189 (all_cons (AFn.is (intmath_in_c [x0, x1] y1 h2)) (all_cons trivial (all_cons (congrArg (fun x => AV.bool (!x)) c6) all_nil)))) (by kernel_rfl)
/-- framewise/poly.product -/
def poly_product (x0 : (List Int)) : Option (Int × Int) :=
  (slices_Contains_int x0 0).bind fun y1 =>
  bif y1 then (
    some (0, 0)
  ) else (
    (cnt (σ := Int) (ε := Int) (ρ := (Int × Int)) (fun i38 s37 =>
      (intmath_Mul s37 (x0.getD i38 0)).bind fun y67 =>
      bif (y67.2 == 0) then (
        some (.go y67.1)
      ) else (
        some (.ret (0, y67.2))
      )
    ) (fun i38 s37 => s37) (x0.length - 0) 0 1).bind <| aft fun u83 =>
    some (u83, 0)
  )
def poly_product_S1 (x0 : (List Int)) (i38 : Nat) (s37 : Int) : AS := ⟨29, [(2, .int .i64 0), (3, .int .i64 0), (4, .int .i64 s37), (11, .dslice (x0.map cInt_i64)), (12, .int .i64 ((x0.length : Nat) : Int)), (13, .int .i64 ((i38 : Nat) : Int))], []⟩
def poly_product_S2 (u57 : Int) : AS := ⟨29, [(2, .int .i64 0), (3, .int .i64 0), (4, .int .i64 u57)], []⟩
theorem poly_product_c (x0 : (List Int)) (r : (Int × Int)) (H : poly_product x0 = some r) : AFn Tryz.prog 113 [.dslice (x0.map cInt_i64)] (.tup [.int .i64 r.1, .int .i64 r.2]) := by
  unfold poly_product at H
  refine acallX Tryz.func113 29 [.tmp 2, .tmp 3] (by kernel_rfl) (by kernel_rfl) ?_
  refine bnd H fun y1 h2 H3 => ?_
  refine bsp H3 (fun c4 H5 => ?_) (fun c6 H7 => ?_)
  · refine some_e H5 fun e8 => ?_
    subst e8
    exact p_ret Tryz.mo 10 [.rg 0 [] [.v, .v], .rg 0 [] [.v, .c true (.bool y1)], .eqT 10 (.bool true), .rg 0 [] [.v, .v]] [] [] (all_cons Tryz.call187 (all_cons (AFn.is (slices_Contains_int_c x0 0 y1 h2)) (all_cons (congrArg (AV.bool) c4) all_nil))) (by kernel_rfl)
  · refine p_at Tryz.mo 14 [.rg 0 [] [.v, .v], .rg 0 [] [.v, .c true (.bool y1)], .eqT 10 (.bool false), .rg 0 [] [.v], .rg 0 [] [.v, .e (.int .i64 ((x0.length : Nat) : Int)), .v]] [.only [2, 3, 4, 11, 12, 13] []] 13 [false] (poly_product_S1 x0 0 1) (all_cons Tryz.call187 (all_cons (AFn.is (slices_Contains_int_c x0 0 y1 h2)) (all_cons (congrArg (AV.bool) c6) (all_cons trivial (all_cons (lenm cInt_i64 x0) all_nil))))) (by kernel_rfl) ?_
    refine bnd H7 fun R54 h55 H56 => ?_
    refine p_joinO 1 (poly_product_S2) R54 (by kernel_rfl) ?_ (fun u83 e84 => ?_)
    · refine p_cnt (poly_product_S1 x0) (by kernel_rfl) h55 (fun i38 s37 h58 e59 => ?_) (fun i38 s37 h66 q62 h63 h64 => ?_)
      · have c60 : decide (((i38 : Nat) : Int) < ((x0.length : Nat) : Int)) = false := decide_eq_false (by omega)
        subst e59
        exact p_bar Tryz.mo 5 [.rg 0 [] [.e (.bool false)]] [.only [2, 3, 4] []] (poly_product_S2 s37) (all_cons (congrArg (AV.bool) c60) all_nil) (by kernel_rfl)
      · have c65 : decide (((i38 : Nat) : Int) < ((x0.length : Nat) : Int)) = true := decide_eq_true (by omega)
        refine bnd h63 fun y67 h68 H69 => ?_
        refine p_at Tryz.mo 14 [.rg 0 [] [.e (.bool true)], .rg 0 [] [.e (.dptr [.int .i64 (x0.getD i38 0)]), .v, .v], .rg 0 [] [.v, .v, .c true (.tup [.int .i64 y67.1, .int .i64 y67.2]), .v, .v, .v, .v, .v], .rg 0 [] [.v, .v]] [.only [2, 3, 4, 7, 8, 11, 12, 13, 24] []] 14 [true] ⟨29, [(2, .int .i64 0), (3, .int .i64 0), (4, .int .i64 s37), (7, .int .i64 y67.1), (8, .int .i64 y67.2), (11, .dslice (x0.map cInt_i64)), (12, .int .i64 ((x0.length : Nat) : Int)), (13, .int .i64 ((i38 : Nat) : Int)), (24, .bool (y67.2 != 0))], []⟩ (all_cons (congrArg (AV.bool) c65) (all_app (ix (f := cInt_i64) (l := x0) (n := i38) 0 cInt_i64_len (by decide) (by omega)) (all_cons Tryz.call188 (all_cons (AFn.is (intmath_Mul_c s37 (x0.getD i38 0) y67 h68)) all_nil)))) (by kernel_rfl) ?_
        refine bsp H69 (fun c70 H71 => ?_) (fun c72 H73 => ?_)
        · refine t_lens 11 (ps := [(x0.map cInt_i64).length ≤ 9223372036854775807]) (by kernel_rfl) (fun l76 => ?_)
          have l77 : x0.length ≤ 9223372036854775807 := by simpa only [All, List.length_map] using l76
          clear l76
          refine some_e H71 fun e78 => ?_
          subst e78
          exact p_bar Tryz.mo 5 [.eqT 24 (.bool false), .rg 0 [] [.v, .v], .rg 0 [] [.v, .v]] [.only [2, 3, 4, 11, 12, 13] []] (poly_product_S1 x0 (i38 + 1) y67.1) (all_cons (congrArg (fun x => AV.bool (!x)) c70) (all_cons (show I64 (((i38 : Nat) : Int) + 1) from by unfold I64; omega) all_nil)) (by kernel_rfl)
        · refine some_e H73 fun e79 => ?_
          subst e79
          have e80 := out_ret h64
          subst e80
          have H81 := aft_ret H56
          refine some_e H81 fun e82 => ?_
          subst e82
          exact p_ret Tryz.mo 5 [.eqT 24 (.bool true), .rg 0 [] [.v, .v, .v]] [] [] (all_cons (congrArg (fun x => AV.bool (!x)) c72) all_nil) (by kernel_rfl)
    · subst e84
      have H85 := aft_brk H56
      refine some_e H85 fun e86 => ?_
      subst e86
      exact p_ret Tryz.mo 3 [.rg 0 [] [.v, .v, .v]] [] [] all_nil (by kernel_rfl)
/-- framewise/intmath.Sum -/
def intmath_Sum (x0 : (List Int)) : Option (Int × Int) :=
  bif decide (((x0.length : Nat) : Int) > 10000) then (
    some (0, 3)
  ) else (
    (intmath_in x0).bind fun y6 =>
    bif y6 then (
      (cnt (σ := (Int × Int × Int × Int × Int × Int)) (ε := (Int × Int × Int × Int × Int × Int)) (ρ := Empty) (fun i39 s38 =>
        (intmath_total_add (x0.getD i39 0) 1 s38.1 s38.2.1 s38.2.2.1 s38.2.2.2.1 s38.2.2.2.2.1 s38.2.2.2.2.2).bind fun y64 =>
        some (.go (y64.1, y64.2.1, y64.2.2.1, y64.2.2.2.1, y64.2.2.2.2.1, y64.2.2.2.2.2))
      ) (fun i39 s38 => (s38.1, s38.2.1, s38.2.2.1, s38.2.2.2.1, s38.2.2.2.2.1, s38.2.2.2.2.2)) (x0.length - 0) 0 (0, 0, 0, 0, 0, 0)).bind <| aftE fun u72 =>
      (intmath_total_value u72.1 u72.2.1 u72.2.2.1 u72.2.2.2.1 u72.2.2.2.2.1 u72.2.2.2.2.2).bind fun y75 =>
      some (y75.1, y75.2)
    ) else (
      some (0, 2)
    )
  )
def intmath_Sum_S1 (x0 : (List Int)) (i39 : Nat) (s38 : (Int × Int × Int × Int × Int × Int)) : AS := ⟨25, [(2, .int .i64 0), (3, .int .i64 0), (4, .hptr 4 0), (13, .dslice (x0.map cInt_i64)), (14, .int .i64 ((x0.length : Nat) : Int)), (15, .int .i64 ((i39 : Nat) : Int))], [(4, .cells 202 [.int .u64 s38.1, .int .u64 s38.2.1, .int .u64 s38.2.2.1, .int .u64 s38.2.2.2.1, .int .u64 s38.2.2.2.2.1, .int .u64 s38.2.2.2.2.2])]⟩
def intmath_Sum_S2 (u54 : (Int × Int × Int × Int × Int × Int)) : AS := ⟨25, [(2, .int .i64 0), (3, .int .i64 0), (4, .hptr 4 0)], [(4, .cells 202 [.int .u64 u54.1, .int .u64 u54.2.1, .int .u64 u54.2.2.1, .int .u64 u54.2.2.2.1, .int .u64 u54.2.2.2.2.1, .int .u64 u54.2.2.2.2.2])]⟩
theorem intmath_Sum_c (x0 : (List Int)) (r : (Int × Int)) (H : intmath_Sum x0 = some r) : AFn Tryz.prog 114 [.dslice (x0.map cInt_i64)] (.tup [.int .i64 r.1, .int .i64 r.2]) := by
  unfold intmath_Sum at H
  refine acallX Tryz.func114 25 [.tmp 2, .tmp 3] (by kernel_rfl) (by kernel_rfl) ?_
  refine bsp H (fun c1 H2 => ?_) (fun c3 H4 => ?_)
  · have c1p := of_decide_eq_true c1
    refine some_e H2 fun e5 => ?_
    subst e5
    exact p_ret Tryz.mo 10 [.rg 0 [] [.v, .v], .rg 0 [] [.v, .e (.int .i64 ((x0.length : Nat) : Int)), .v], .eqT 9 (.bool true), .rg 0 [] [.v, .v]] [] [] (all_cons trivial (all_cons (lenm cInt_i64 x0) (all_cons (congrArg (AV.bool) c1) all_nil))) (by kernel_rfl)
  · have c3p := of_decide_eq_false c3
    refine bnd H4 fun y6 h7 H8 => ?_
    refine bsp H8 (fun c9 H10 => ?_) (fun c11 H12 => ?_)
    · refine p_at Tryz.mo 20 [.rg 0 [] [.v, .v], .rg 0 [] [.v, .e (.int .i64 ((x0.length : Nat) : Int)), .v], .eqT 9 (.bool false), .rg 0 [] [.v, .c true (.bool y6), .v], .eqT 12 (.bool false), .rg 0 [] [.m], .rg 0 [] [.v, .e (.int .i64 ((x0.length : Nat) : Int)), .v]] [.only [2, 3, 4, 13, 14, 15] [4]] 18 [false, false] (intmath_Sum_S1 x0 0 (0, 0, 0, 0, 0, 0)) (all_cons trivial (all_cons (lenm cInt_i64 x0) (all_cons (congrArg (AV.bool) c3) (all_cons Tryz.call189 (all_cons (AFn.is (intmath_in_c x0 y6 h7)) (all_cons trivial (all_cons (congrArg (fun x => AV.bool (!x)) c9) (all_cons trivial (all_cons (lenm cInt_i64 x0) all_nil))))))))) (by kernel_rfl) ?_
      refine bnd H10 fun R51 h52 H53 => ?_
      refine p_joinO 1 (intmath_Sum_S2) R51 (by kernel_rfl) ?_ (fun u72 e73 => ?_)
      · refine p_cnt (intmath_Sum_S1 x0) (by kernel_rfl) h52 (fun i39 s38 h55 e56 => ?_) (fun i39 s38 h63 q59 h60 h61 => ?_)
        · have c57 : decide (((i39 : Nat) : Int) < ((x0.length : Nat) : Int)) = false := decide_eq_false (by omega)
          subst e56
          exact p_bar Tryz.mo 5 [.rg 0 [] [.e (.bool false)]] [.only [2, 3, 4] [4]] (intmath_Sum_S2 (s38.1, s38.2.1, s38.2.2.1, s38.2.2.2.1, s38.2.2.2.2.1, s38.2.2.2.2.2)) (all_cons (congrArg (AV.bool) c57) all_nil) (by kernel_rfl)
        · have c62 : decide (((i39 : Nat) : Int) < ((x0.length : Nat) : Int)) = true := decide_eq_true (by omega)
          refine bnd h60 fun y64 h65 H66 => ?_
          refine t_lens 13 (ps := [(x0.map cInt_i64).length ≤ 9223372036854775807]) (by kernel_rfl) (fun l69 => ?_)
          have l70 : x0.length ≤ 9223372036854775807 := by simpa only [All, List.length_map] using l69
          clear l69
          refine some_e H66 fun e71 => ?_
          subst e71
          exact p_bar Tryz.mo 11 [.rg 0 [] [.e (.bool true)], .rg 0 [] [.e (.dptr [.int .i64 (x0.getD i39 0)]), .v, .v], .rg 0 [] [.v, .hR [(4, 1000)] 20 (.tup []) [(1000, .cells 202 [.int .u64 y64.1, .int .u64 y64.2.1, .int .u64 y64.2.2.1, .int .u64 y64.2.2.2.1, .int .u64 y64.2.2.2.2.1, .int .u64 y64.2.2.2.2.2])]], .rg 0 [] [.v, .v]] [.only [2, 3, 4, 13, 14, 15] [4]] (intmath_Sum_S1 x0 (i39 + 1) (y64.1, y64.2.1, y64.2.2.1, y64.2.2.2.1, y64.2.2.2.2.1, y64.2.2.2.2.2)) (all_cons (congrArg (AV.bool) c62) (all_app (ix (f := cInt_i64) (l := x0) (n := i39) 0 cInt_i64_len (by decide) (by omega)) (all_cons Tryz.call190 (all_cons (intmath_total_add_c (x0.getD i39 0) 1 s38.1 s38.2.1 s38.2.2.1 s38.2.2.2.1 s38.2.2.2.2.1 s38.2.2.2.2.2 y64 h65) (all_cons (show I64 (((i39 : Nat) : Int) + 1) from by unfold I64; omega) all_nil))))) (by kernel_rfl)
      · subst e73
        have H74 := aftE_brk H53
        refine bnd H74 fun y75 h76 H77 => ?_
        refine some_e H77 fun e78 => ?_
        subst e78
        exact p_ret Tryz.mo 3 [.rg 0 [] [.hR [(4, 1000)] 22 (.tup [.int .i64 y75.1, .int .i64 y75.2]) [(1000, .cells 202 [.int .u64 u72.1, .int .u64 u72.2.1, .int .u64 u72.2.2.1, .int .u64 u72.2.2.2.1, .int .u64 u72.2.2.2.2.1, .int .u64 u72.2.2.2.2.2])], .v, .v, .v, .v]] [] [] (all_cons Tryz.call191 (all_cons (intmath_total_value_c u72.1 u72.2.1 u72.2.2.1 u72.2.2.2.1 u72.2.2.2.2.1 u72.2.2.2.2.2 y75 h76) all_nil)) (by kernel_rfl)
    · refine some_e H12 fun e79 => ?_
      subst e79
      exact p_ret Tryz.mo 16 [.rg 0 [] [.v, .v], .rg 0 [] [.v, .e (.int .i64 ((x0.length : Nat) : Int)), .v], .eqT 9 (.bool false), .rg 0 [] [.v, .c true (.bool y6), .v], .eqT 12 (.bool true), .rg 0 [] [.v, .v]] [] [] (all_cons trivial (all_cons (lenm cInt_i64 x0) (all_cons (congrArg (AV.bool) c3) (all_cons Tryz.call189 (all_cons (AFn.is (intmath_in_c x0 y6 h7)) (all_cons trivial (all_cons (congrArg (fun x => AV.bool (!x)) c11) all_nil))))))) (by kernel_rfl)
/-- framewise/poly.Eval -/
def poly_Eval (x0 : (List Monomial)) (x1 : (List Value)) : Option (Int × Int) :=
  (poly_Valid x0).bind fun y1 =>
  bif y1 then (
    (cnt (σ := ((List (List Int)) × Bool)) (ε := ((List (List Int)) × Bool)) (ρ := (Int × Int)) (fun i328 s327 =>
      (cnt (σ := (Bool × (List Int))) (ε := (Bool × (List Int))) (ρ := (Stp ((List (List Int)) × Bool) ((List (List Int)) × Bool) (Int × Int))) (fun i585 s584 =>
        (slices_IndexFunc_api_Value x1 (((x0.getD i328 ⟨0, []⟩).Vars).getD i585 [])).bind fun y637 =>
        bif decide (y637 < 0) then (
          some (.ret (.ret (0, 7)))
        ) else (
          grd (0 ≤ y637 ∧ y637 < (x1.length : Int)) <|
          ((
            bif s584.1 then (
              some true
            ) else (
              bif decide (((x1.getD y637.toNat ⟨[], 0⟩).N) < (-4611686018427387904)) then (
                some true
              ) else (
                some (decide (((x1.getD y637.toNat ⟨[], 0⟩).N) > 4611686018427387904))
              )
            )
          ) : Option Bool).bind fun v661 =>
          grd ((s584.2.length + 1) * 8 ≤ 140737488355328) <|
          some (.go (v661, (s584.2 ++ [((x1.getD y637.toNat ⟨[], 0⟩).N)])))
        )
      ) (fun i585 s584 => (s584.1, s584.2)) (((x0.getD i328 ⟨0, []⟩).Vars).length - 0) 0 (s327.2, [((x0.getD i328 ⟨0, []⟩).Coef)])).bind <| aft fun u682 =>
      grd ((s327.1.length + 1) * 24 ≤ 140737488355328) <|
      some (.go ((s327.1 ++ [u682.2]), u682.1))
    ) (fun i328 s327 => (s327.1, s327.2)) (x0.length - 0) 0 ([], false)).bind <| aft fun u692 =>
    bif u692.2 then (
      some (0, 2)
    ) else (
      (cnt (σ := (List Int)) (ε := (List Int)) (ρ := (Int × Int)) (fun i731 s730 =>
        (poly_product (u692.1.getD i731 [])).bind fun y762 =>
        bif (y762.2 == 0) then (
          grd ((s730.length + 1) * 8 ≤ 140737488355328) <|
          some (.go (s730 ++ [y762.1]))
        ) else (
          some (.ret (0, 2))
        )
      ) (fun i731 s730 => s730) (u692.1.length - 0) 0 []).bind <| aft fun u780 =>
      (intmath_Sum u780).bind fun y783 =>
      some (y783.1, y783.2)
    )
  ) else (
    some (0, 1)
  )
def poly_Eval_S1 (x0 : (List Monomial)) (x1 : (List Value)) (i328 : Nat) (s327 : ((List (List Int)) × Bool)) : AS := ⟨91, [(1, .dslice (x1.map cValue)), (4, .int .i64 0), (5, .int .i64 0), (6, .rslice 66), (7, .bool s327.2), (23, .dslice (x0.map cMonomial)), (24, .int .i64 ((x0.length : Nat) : Int)), (25, .int .i64 ((i328 : Nat) : Int))], [(66, .row 33 1 (s327.1.map cL_cInt_i64))]⟩
def poly_Eval_S2 (u499 : ((List (List Int)) × Bool)) : AS := ⟨91, [(4, .int .i64 0), (5, .int .i64 0), (6, .rslice 66), (7, .bool u499.2)], [(66, .row 33 1 (u499.1.map cL_cInt_i64))]⟩
def poly_Eval_S3 (x0 : (List Monomial)) (x1 : (List Value)) (i328 : Nat) (s327 : ((List (List Int)) × Bool)) (i585 : Nat) (s584 : (Bool × (List Int))) : AS := ⟨91, [(1, .dslice (x1.map cValue)), (4, .int .i64 0), (5, .int .i64 0), (6, .rslice 66), (7, .bool s584.1), (10, .rslice 61), (23, .dslice (x0.map cMonomial)), (24, .int .i64 ((x0.length : Nat) : Int)), (25, .int .i64 ((i328 : Nat) : Int)), (33, .dslice (((x0.getD i328 ⟨0, []⟩).Vars).map cStr)), (34, .int .i64 ((((x0.getD i328 ⟨0, []⟩).Vars).length : Nat) : Int)), (35, .int .i64 ((i585 : Nat) : Int))], [(61, .row 3 1 (s584.2.map cInt_i64)), (66, .row 33 1 (s327.1.map cL_cInt_i64))]⟩
def poly_Eval_S4 (x0 : (List Monomial)) (x1 : (List Value)) (i328 : Nat) (s327 : ((List (List Int)) × Bool)) (u627 : (Bool × (List Int))) : AS := ⟨91, [(1, .dslice (x1.map cValue)), (4, .int .i64 0), (5, .int .i64 0), (6, .rslice 66), (7, .bool u627.1), (10, .rslice 61), (23, .dslice (x0.map cMonomial)), (24, .int .i64 ((x0.length : Nat) : Int)), (25, .int .i64 ((i328 : Nat) : Int))], [(61, .row 3 1 (u627.2.map cInt_i64)), (66, .row 33 1 (s327.1.map cL_cInt_i64))]⟩
def poly_Eval_S5 (x0 : (List Monomial)) (x1 : (List Value)) (i328 : Nat) (s327 : ((List (List Int)) × Bool)) (i585 : Nat) (s584 : (Bool × (List Int))) (y637 : Int) (v661 : Bool) : AS := ⟨91, [(1, .dslice (x1.map cValue)), (4, .int .i64 0), (5, .int .i64 0), (6, .rslice 66), (7, .bool v661), (10, .rslice 61), (14, .int .i64 ((x1.getD y637.toNat ⟨[], 0⟩).N)), (23, .dslice (x0.map cMonomial)), (24, .int .i64 ((x0.length : Nat) : Int)), (25, .int .i64 ((i328 : Nat) : Int)), (33, .dslice (((x0.getD i328 ⟨0, []⟩).Vars).map cStr)), (34, .int .i64 ((((x0.getD i328 ⟨0, []⟩).Vars).length : Nat) : Int)), (35, .int .i64 ((i585 : Nat) : Int))], [(61, .row 3 1 (s584.2.map cInt_i64)), (66, .row 33 1 (s327.1.map cL_cInt_i64))]⟩
def poly_Eval_S6 (u692 : ((List (List Int)) × Bool)) (i731 : Nat) (s730 : (List Int)) : AS := ⟨91, [(4, .int .i64 0), (5, .int .i64 0), (15, .rslice 85), (69, .rslice 66), (70, .int .i64 ((u692.1.length : Nat) : Int)), (71, .int .i64 ((i731 : Nat) : Int))], [(66, .row 33 1 (u692.1.map cL_cInt_i64)), (85, .row 3 1 (s730.map cInt_i64))]⟩
def poly_Eval_S7 (u752 : (List Int)) : AS := ⟨91, [(4, .int .i64 0), (5, .int .i64 0), (15, .rslice 85)], [(85, .row 3 1 (u752.map cInt_i64))]⟩
theorem poly_Eval_c (x0 : (List Monomial)) (x1 : (List Value)) (r : (Int × Int)) (H : poly_Eval x0 x1 = some r) : AFn Tryz.prog 47 [.dslice (x0.map cMonomial), .dslice (x1.map cValue)] (.tup [.int .i64 r.1, .int .i64 r.2]) := by
  unfold poly_Eval at H
  refine acallX Tryz.func47 91 [.tmp 4, .tmp 5] (by kernel_rfl) (by kernel_rfl) ?_
  refine bnd H fun y1 h2 H3 => ?_
  refine bsp H3 (fun c4 H5 => ?_) (fun c6 H7 => ?_)
  · refine p_at Tryz.mo 16 [.rg 0 [] [.v, .v], .rg 0 [] [.v, .c true (.bool y1), .v], .eqT 22 (.bool false), .rg 0 [] [.v], .rg 0 [] [.v], .rg 0 [] [.v, .e (.int .i64 ((x0.length : Nat) : Int)), .v]] [.er 6 66 33 1, .only [1, 4, 5, 6, 7, 23, 24, 25] [66]] 15 [false] (poly_Eval_S1 x0 x1 0 ([], false)) (all_cons Tryz.call70 (all_cons (AFn.is (poly_Valid_c x0 y1 h2)) (all_cons trivial (all_cons (congrArg (fun x => AV.bool (!x)) c4) (all_cons trivial (all_cons (lenm cMonomial x0) all_nil)))))) (by kernel_rfl) ?_
    refine bnd H5 fun R496 h497 H498 => ?_
    refine p_joinO 1 (poly_Eval_S2) R496 (by kernel_rfl) ?_ (fun u692 e693 => ?_)
    · refine p_cnt (poly_Eval_S1 x0 x1) (by kernel_rfl) h497 (fun i328 s327 h500 e501 => ?_) (fun i328 s327 h508 q504 h505 h506 => ?_)
      · have c502 : decide (((i328 : Nat) : Int) < ((x0.length : Nat) : Int)) = false := decide_eq_false (by omega)
        subst e501
        exact p_bar Tryz.mo 5 [.rg 0 [] [.e (.bool false)]] [.only [4, 5, 6, 7] [66]] (poly_Eval_S2 (s327.1, s327.2)) (all_cons (congrArg (AV.bool) c502) all_nil) (by kernel_rfl)
      · have c507 : decide (((i328 : Nat) : Int) < ((x0.length : Nat) : Int)) = true := decide_eq_true (by omega)
        refine p_at Tryz.mo 15 [.rg 0 [] [.e (.bool true)], .rg 0 [] [.e (.dptr [.int .i64 ((x0.getD i328 ⟨0, []⟩).Coef), .dslice (((x0.getD i328 ⟨0, []⟩).Vars).map cStr)]), .v, .m, .m], .rg 0 [] [.v, .v, .ap, .rwH 31 (.row 3 1 ([((x0.getD i328 ⟨0, []⟩).Coef)].map cInt_i64)), .v], .rg 0 [] [.v, .v, .e (.int .i64 ((((x0.getD i328 ⟨0, []⟩).Vars).length : Nat) : Int)), .v]] [.ren [(31, 61), (66, 66)], .only [1, 4, 5, 6, 7, 10, 23, 24, 25, 33, 34, 35] [61, 66]] 15 [true] (poly_Eval_S3 x0 x1 i328 s327 0 (s327.2, [((x0.getD i328 ⟨0, []⟩).Coef)])) (all_cons (congrArg (AV.bool) c507) (all_app (ix (f := cMonomial) (l := x0) (n := i328) ⟨0, []⟩ cMonomial_len (by decide) (by omega)) (all_cons (Eq.refl (AO.row 3 1 ([((x0.getD i328 ⟨0, []⟩).Coef)].map cInt_i64))) (all_cons trivial (all_cons (lenm cStr ((x0.getD i328 ⟨0, []⟩).Vars)) all_nil))))) (by kernel_rfl) ?_
        refine bnd h505 fun R624 h625 H626 => ?_
        refine p_joinO 1 (poly_Eval_S4 x0 x1 i328 s327) R624 (by kernel_rfl) ?_ (fun u682 e683 => ?_)
        · refine p_cnt (poly_Eval_S3 x0 x1 i328 s327) (by kernel_rfl) h625 (fun i585 s584 h628 e629 => ?_) (fun i585 s584 h636 q632 h633 h634 => ?_)
          · have c630 : decide (((i585 : Nat) : Int) < ((((x0.getD i328 ⟨0, []⟩).Vars).length : Nat) : Int)) = false := decide_eq_false (by omega)
            subst e629
            exact p_bar Tryz.mo 5 [.rg 0 [] [.e (.bool false)]] [.only [1, 4, 5, 6, 7, 10, 23, 24, 25] [61, 66]] (poly_Eval_S4 x0 x1 i328 s327 (s584.1, s584.2)) (all_cons (congrArg (AV.bool) c630) all_nil) (by kernel_rfl)
          · have c635 : decide (((i585 : Nat) : Int) < ((((x0.getD i328 ⟨0, []⟩).Vars).length : Nat) : Int)) = true := decide_eq_true (by omega)
            refine bnd h633 fun y637 h638 H639 => ?_
            refine p_at Tryz.mo 14 [.rg 0 [] [.e (.bool true)], .rg 0 [] [.e (.dptr [.str (((x0.getD i328 ⟨0, []⟩).Vars).getD i585 [])]), .v, .m, .m], .rg 0 [] [.v, .v, .hR [(12, 1000)] 41 (.int .i64 y637) [(1000, .cells 9 [.str (((x0.getD i328 ⟨0, []⟩).Vars).getD i585 [])])], .v], .rg 0 [] [.v, .v]] [.only [1, 4, 5, 6, 7, 10, 13, 23, 24, 25, 33, 34, 35, 43] [61, 66]] 14 [true] ⟨91, [(1, .dslice (x1.map cValue)), (4, .int .i64 0), (5, .int .i64 0), (6, .rslice 66), (7, .bool s584.1), (10, .rslice 61), (13, .int .i64 y637), (23, .dslice (x0.map cMonomial)), (24, .int .i64 ((x0.length : Nat) : Int)), (25, .int .i64 ((i328 : Nat) : Int)), (33, .dslice (((x0.getD i328 ⟨0, []⟩).Vars).map cStr)), (34, .int .i64 ((((x0.getD i328 ⟨0, []⟩).Vars).length : Nat) : Int)), (35, .int .i64 ((i585 : Nat) : Int)), (43, .bool (decide (y637 < 0)))], [(61, .row 3 1 (s584.2.map cInt_i64)), (66, .row 33 1 (s327.1.map cL_cInt_i64))]⟩ (all_cons (congrArg (AV.bool) c635) (all_app (ix (f := cStr) (l := ((x0.getD i328 ⟨0, []⟩).Vars)) (n := i585) [] cStr_len (by decide) (by omega)) (all_cons Tryz.call111 (all_cons (slices_IndexFunc_api_Value_c x1 (((x0.getD i328 ⟨0, []⟩).Vars).getD i585 []) y637 h638) all_nil)))) (by kernel_rfl) ?_
            refine bsp H639 (fun c640 H641 => ?_) (fun c642 H643 => ?_)
            · have c640p := of_decide_eq_true c640
              refine some_e H641 fun e644 => ?_
              subst e644
              have e645 := out_ret h634
              subst e645
              have H646 := aft_ret H626
              refine some_e H646 fun e647 => ?_
              subst e647
              have e648 := out_ret h506
              subst e648
              have H649 := aft_ret H498
              refine some_e H649 fun e650 => ?_
              subst e650
              exact p_ret Tryz.mo 5 [.eqT 43 (.bool true), .rg 0 [] [.v, .v]] [] [] (all_cons (congrArg (AV.bool) c640) all_nil) (by kernel_rfl)
            · have c642p := of_decide_eq_false c642
              refine grd_e H643 fun g651 H652 => ?_
              refine p_at Tryz.mo 6 [.eqT 43 (.bool false), .rg 0 [] [.v, .v, .e (.dptr [.str ((x1.getD y637.toNat ⟨[], 0⟩).Var), .int .i64 ((x1.getD y637.toNat ⟨[], 0⟩).N)]), .v, .v, .v]] [.only [1, 4, 5, 6, 7, 10, 14, 23, 24, 25, 33, 34, 35] [61, 66]] 5 [false] ⟨91, [(1, .dslice (x1.map cValue)), (4, .int .i64 0), (5, .int .i64 0), (6, .rslice 66), (7, .bool s584.1), (10, .rslice 61), (14, .int .i64 ((x1.getD y637.toNat ⟨[], 0⟩).N)), (23, .dslice (x0.map cMonomial)), (24, .int .i64 ((x0.length : Nat) : Int)), (25, .int .i64 ((i328 : Nat) : Int)), (33, .dslice (((x0.getD i328 ⟨0, []⟩).Vars).map cStr)), (34, .int .i64 ((((x0.getD i328 ⟨0, []⟩).Vars).length : Nat) : Int)), (35, .int .i64 ((i585 : Nat) : Int))], [(61, .row 3 1 (s584.2.map cInt_i64)), (66, .row 33 1 (s327.1.map cL_cInt_i64))]⟩ (all_cons (congrArg (AV.bool) c642) (all_app (ixz (f := cValue) (l := x1) (n := y637) ⟨[], 0⟩ cValue_len (by decide) (by exact g651)) all_nil)) (by kernel_rfl) ?_
              refine bnd H652 fun v661 h662 H663 => ?_
              refine p_join 0 (poly_Eval_S5 x0 x1 i328 s327 i585 s584 y637 v661) (by kernel_rfl) ?_ ?_
              · refine bsp h662 (fun c664 H665 => ?_) (fun c666 H667 => ?_)
                · refine some_e H665 fun e668 => ?_
                  subst e668
                  exact p_bar Tryz.mo 2 [.eqT 7 (.bool true), .rg 0 [] [.v, .v, .s, .s, .v, .v, .s, .s, .v, .v]] [.only [1, 4, 5, 6, 7, 10, 14, 23, 24, 25, 33, 34, 35] [61, 66]] (poly_Eval_S5 x0 x1 i328 s327 i585 s584 y637 true) (all_cons (congrArg (AV.bool) c664) all_nil) (by kernel_rfl)
                · refine bsp H667 (fun c669 H670 => ?_) (fun c671 H672 => ?_)
                  · have c669p := of_decide_eq_true c669
                    refine some_e H670 fun e673 => ?_
                    subst e673
                    exact p_bar Tryz.mo 2 [.eqT 7 (.bool false), .rg 0 [] [.v, .v, .v, .e (.bool true), .v, .v, .s, .s, .v, .v]] [.only [1, 4, 5, 6, 7, 10, 14, 23, 24, 25, 33, 34, 35] [61, 66]] (poly_Eval_S5 x0 x1 i328 s327 i585 s584 y637 true) (all_cons (congrArg (AV.bool) c666) (all_cons (congrArg (AV.bool) c669) all_nil)) (by kernel_rfl)
                  · have c671p := of_decide_eq_false c671
                    refine some_e H672 fun e674 => ?_
                    subst e674
                    exact p_bar Tryz.mo 2 [.eqT 7 (.bool false), .rg 0 [] [.v, .v, .v, .e (.bool false), .v, .v, .v, .v, .v, .v]] [.only [1, 4, 5, 6, 7, 10, 14, 23, 24, 25, 33, 34, 35] [61, 66]] (poly_Eval_S5 x0 x1 i328 s327 i585 s584 y637 (decide (((x1.getD y637.toNat ⟨[], 0⟩).N) > 4611686018427387904))) (all_cons (congrArg (AV.bool) c666) (all_cons (congrArg (AV.bool) c671) all_nil)) (by kernel_rfl)
              · refine grd_e H663 fun g675 H676 => ?_
                refine t_lens 33 (ps := [(((x0.getD i328 ⟨0, []⟩).Vars).map cStr).length ≤ 9223372036854775807]) (by kernel_rfl) (fun l679 => ?_)
                have l680 : ((x0.getD i328 ⟨0, []⟩).Vars).length ≤ 9223372036854775807 := by simpa only [All, List.length_map] using l679
                clear l679
                refine some_e H676 fun e681 => ?_
                subst e681
                exact p_bar Tryz.mo 2 [.rg 0 [] [.v, .v, .b, .ap, .rwH 61 (.row 3 1 ((s584.2 ++ [((x1.getD y637.toNat ⟨[], 0⟩).N)]).map cInt_i64)), .v], .rg 0 [] [.v, .v]] [.only [1, 4, 5, 6, 7, 10, 23, 24, 25, 33, 34, 35] [61, 66]] (poly_Eval_S3 x0 x1 i328 s327 (i585 + 1) (v661, (s584.2 ++ [((x1.getD y637.toNat ⟨[], 0⟩).N)]))) (all_app (apR (c := cInt_i64) cInt_i64_ok s584.2 [((x1.getD y637.toNat ⟨[], 0⟩).N)] 8 (by decide) (by simpa using g675)) (all_cons (apQ 3 1 cInt_i64 s584.2 [((x1.getD y637.toNat ⟨[], 0⟩).N)]) (all_cons (show I64 (((i585 : Nat) : Int) + 1) from by unfold I64; omega) all_nil))) (by kernel_rfl)
        · subst e683
          have H684 := aft_brk H626
          refine grd_e H684 fun g685 H686 => ?_
          refine t_lens 23 (ps := [(x0.map cMonomial).length ≤ 9223372036854775807]) (by kernel_rfl) (fun l689 => ?_)
          have l690 : x0.length ≤ 9223372036854775807 := by simpa only [All, List.length_map] using l689
          clear l689
          refine some_e H686 fun e691 => ?_
          subst e691
          exact p_bar Tryz.mo 2 [.rg 0 [] [.v, .v, .fz 61, .b, .ap, .rwH 66 (.row 33 1 ((s327.1 ++ [u682.2]).map cL_cInt_i64)), .v], .rg 0 [] [.v, .v]] [.only [1, 4, 5, 6, 7, 23, 24, 25] [66]] (poly_Eval_S1 x0 x1 (i328 + 1) ((s327.1 ++ [u682.2]), u682.1)) (all_app (apR (c := cL_cInt_i64) cL_cInt_i64_ok s327.1 [u682.2] 24 (by decide) (by simpa using g685)) (all_cons (apQ 33 1 cL_cInt_i64 s327.1 [u682.2]) (all_cons (show I64 (((i328 : Nat) : Int) + 1) from by unfold I64; omega) all_nil))) (by kernel_rfl)
    · subst e693
      have H694 := aft_brk H498
      refine bsp H694 (fun c695 H696 => ?_) (fun c697 H698 => ?_)
      · refine some_e H696 fun e699 => ?_
        subst e699
        exact p_ret Tryz.mo 8 [.rg 0 [] [.v], .eqT 68 (.bool true), .rg 0 [] [.v, .v]] [] [] (all_cons (congrArg (AV.bool) c695) all_nil) (by kernel_rfl)
      · refine p_at Tryz.mo 12 [.rg 0 [] [.v], .eqT 68 (.bool false), .rg 0 [] [.v], .rg 0 [] [.v, .e (.int .i64 ((u692.1.length : Nat) : Int)), .v]] [.er 15 85 3 1, .only [4, 5, 15, 69, 70, 71] [66, 85]] 11 [false] (poly_Eval_S6 u692 0 []) (all_cons (congrArg (AV.bool) c697) (all_cons trivial (all_cons (lenm cL_cInt_i64 u692.1) all_nil))) (by kernel_rfl) ?_
        refine bnd H698 fun R749 h750 H751 => ?_
        refine p_joinO 1 (poly_Eval_S7) R749 (by kernel_rfl) ?_ (fun u780 e781 => ?_)
        · refine p_cnt (poly_Eval_S6 u692) (by kernel_rfl) h750 (fun i731 s730 h753 e754 => ?_) (fun i731 s730 h761 q757 h758 h759 => ?_)
          · have c755 : decide (((i731 : Nat) : Int) < ((u692.1.length : Nat) : Int)) = false := decide_eq_false (by omega)
            subst e754
            exact p_bar Tryz.mo 5 [.rg 0 [] [.e (.bool false)]] [.only [4, 5, 15] [85]] (poly_Eval_S7 s730) (all_cons (congrArg (AV.bool) c755) all_nil) (by kernel_rfl)
          · have c760 : decide (((i731 : Nat) : Int) < ((u692.1.length : Nat) : Int)) = true := decide_eq_true (by omega)
            refine bnd h758 fun y762 h763 H764 => ?_
            refine p_at Tryz.mo 14 [.rg 0 [] [.e (.bool true)], .rg 0 [] [.v, .rl i731 0 (.dslice ((u692.1.getD i731 []).map cInt_i64)), .v], .rg 0 [] [.v, .c true (.tup [.int .i64 y762.1, .int .i64 y762.2]), .v, .v, .v, .v, .v], .rg 0 [] [.v, .v]] [.only [4, 5, 15, 18, 69, 70, 71, 81] [66, 85]] 14 [true] ⟨91, [(4, .int .i64 0), (5, .int .i64 0), (15, .rslice 85), (18, .int .i64 y762.1), (69, .rslice 66), (70, .int .i64 ((u692.1.length : Nat) : Int)), (71, .int .i64 ((i731 : Nat) : Int)), (81, .bool (y762.2 != 0))], [(66, .row 33 1 (u692.1.map cL_cInt_i64)), (85, .row 3 1 (s730.map cInt_i64))]⟩ (all_cons (congrArg (AV.bool) c760) (all_cons (show (0 : Int) ≤ ((i731 : Nat) : Int) ∧ ((i731 : Nat) : Int) < ((u692.1.map cL_cInt_i64).length : Int) from by rw [List.length_map]; omega) (all_cons (rlP (f := cL_cInt_i64) (l := u692.1) (n := i731) 1 0 1 (by omega) (by decide)) (all_cons (rl1 (f := cL_cInt_i64) (l := u692.1) (n := i731) [] 0 (by omega)) (all_cons Tryz.call113 (all_cons (AFn.is (poly_product_c (u692.1.getD i731 []) y762 h763)) all_nil)))))) (by kernel_rfl) ?_
            refine bsp H764 (fun c765 H766 => ?_) (fun c767 H768 => ?_)
            · refine grd_e H766 fun g769 H770 => ?_
              refine t_lensR 66 (n := (u692.1.map cL_cInt_i64).length) (by kernel_rfl) (fun l773 => ?_)
              have l774 : u692.1.length ≤ 9223372036854775807 := by simpa only [List.length_map] using l773
              clear l773
              refine some_e H770 fun e775 => ?_
              subst e775
              exact p_bar Tryz.mo 5 [.eqT 81 (.bool false), .rg 0 [] [.v, .v, .b, .ap, .rwH 85 (.row 3 1 ((s730 ++ [y762.1]).map cInt_i64)), .v], .rg 0 [] [.v, .v]] [.only [4, 5, 15, 69, 70, 71] [66, 85]] (poly_Eval_S6 u692 (i731 + 1) (s730 ++ [y762.1])) (all_cons (congrArg (fun x => AV.bool (!x)) c765) (all_app (apR (c := cInt_i64) cInt_i64_ok s730 [y762.1] 8 (by decide) (by simpa using g769)) (all_cons (apQ 3 1 cInt_i64 s730 [y762.1]) (all_cons (show I64 (((i731 : Nat) : Int) + 1) from by unfold I64; omega) all_nil)))) (by kernel_rfl)
            · refine some_e H768 fun e776 => ?_
              subst e776
              have e777 := out_ret h759
              subst e777
              have H778 := aft_ret H751
              refine some_e H778 fun e779 => ?_
              subst e779
              exact p_ret Tryz.mo 5 [.eqT 81 (.bool true), .rg 0 [] [.v, .v]] [] [] (all_cons (congrArg (fun x => AV.bool (!x)) c767) all_nil) (by kernel_rfl)
        · subst e781
          have H782 := aft_brk H751
          refine bnd H782 fun y783 h784 H785 => ?_
          refine some_e H785 fun e786 => ?_
          subst e786
          exact p_ret Tryz.mo 3 [.rg 0 [] [.v, .c false (.tup [.int .i64 y783.1, .int .i64 y783.2]), .v, .v, .v, .v]] [] [] (all_cons Tryz.call114 (all_cons (AFn.is (intmath_Sum_c u780 y783 h784)) all_nil)) (by kernel_rfl)
  · refine some_e H7 fun e787 => ?_
    subst e787
    exact p_ret Tryz.mo 10 [.rg 0 [] [.v, .v], .rg 0 [] [.v, .c true (.bool y1), .v], .eqT 22 (.bool true), .rg 0 [] [.v, .v]] [] [] (all_cons Tryz.call70 (all_cons (AFn.is (poly_Valid_c x0 y1 h2)) (all_cons trivial (all_cons (congrArg (fun x => AV.bool (!x)) c6) all_nil)))) (by kernel_rfl)
/-- framewise/poly.Degree -/
def poly_Degree (x0 : (List Monomial)) : Option Int :=
  (cnt (σ := Int) (ε := Int) (ρ := Empty) (fun i16 s15 =>
    some (.go (if ((((x0.getD i16 ⟨0, []⟩).Vars).length : Nat) : Int) > s15 then ((((x0.getD i16 ⟨0, []⟩).Vars).length : Nat) : Int) else s15))
  ) (fun i16 s15 => s15) (x0.length - 0) 0 0).bind <| aftE fun u43 =>
  (poly_Valid x0).bind fun y46 =>
  bif y46 then (
    some u43
  ) else (
    some 0
  )
def poly_Degree_S1 (x0 : (List Monomial)) (i16 : Nat) (s15 : Int) : AS := ⟨22, [(0, .dslice (x0.map cMonomial)), (2, .int .i64 0), (3, .int .i64 s15), (6, .dslice (x0.map cMonomial)), (7, .int .i64 ((x0.length : Nat) : Int)), (8, .int .i64 ((i16 : Nat) : Int))], []⟩
def poly_Degree_S2 (x0 : (List Monomial)) (u28 : Int) : AS := ⟨22, [(0, .dslice (x0.map cMonomial)), (2, .int .i64 0), (3, .int .i64 u28)], []⟩
theorem poly_Degree_c (x0 : (List Monomial)) (r : Int) (H : poly_Degree x0 = some r) : AFn Tryz.prog 57 [.dslice (x0.map cMonomial)] (.int .i64 r) := by
  unfold poly_Degree at H
  refine acallX Tryz.func57 22 [.tmp 2] (by kernel_rfl) (by kernel_rfl) ?_
  refine p_at Tryz.mo 8 [.rg 0 [] [.v], .rg 0 [] [.v], .rg 0 [] [.v, .e (.int .i64 ((x0.length : Nat) : Int)), .v]] [.only [0, 2, 3, 6, 7, 8] []] 8 [] (poly_Degree_S1 x0 0 0) (all_cons trivial (all_cons (lenm cMonomial x0) all_nil)) (by kernel_rfl) ?_
  refine bnd H fun R25 h26 H27 => ?_
  refine p_joinO 1 (poly_Degree_S2 x0) R25 (by kernel_rfl) ?_ (fun u43 e44 => ?_)
  · refine p_cnt (poly_Degree_S1 x0) (by kernel_rfl) h26 (fun i16 s15 h29 e30 => ?_) (fun i16 s15 h37 q33 h34 h35 => ?_)
    · have c31 : decide (((i16 : Nat) : Int) < ((x0.length : Nat) : Int)) = false := decide_eq_false (by omega)
      subst e30
      exact p_bar Tryz.mo 5 [.rg 0 [] [.e (.bool false)]] [.only [0, 2, 3] []] (poly_Degree_S2 x0 s15) (all_cons (congrArg (AV.bool) c31) all_nil) (by kernel_rfl)
    · have c36 : decide (((i16 : Nat) : Int) < ((x0.length : Nat) : Int)) = true := decide_eq_true (by omega)
      refine t_lens 0 (ps := [(x0.map cMonomial).length ≤ 9223372036854775807]) (by kernel_rfl) (fun l40 => ?_)
      have l41 : x0.length ≤ 9223372036854775807 := by simpa only [All, List.length_map] using l40
      clear l40
      refine some_e h34 fun e42 => ?_
      subst e42
      exact p_bar Tryz.mo 11 [.rg 0 [] [.e (.bool true)], .rg 0 [] [.e (.dptr [.int .i64 ((x0.getD i16 ⟨0, []⟩).Coef), .dslice (((x0.getD i16 ⟨0, []⟩).Vars).map cStr)]), .v, .m, .m], .rg 0 [] [.v, .v, .v, .e (.int .i64 ((((x0.getD i16 ⟨0, []⟩).Vars).length : Nat) : Int)), .v, .v], .rg 0 [] [.v, .v]] [.only [0, 2, 3, 6, 7, 8] []] (poly_Degree_S1 x0 (i16 + 1) (if ((((x0.getD i16 ⟨0, []⟩).Vars).length : Nat) : Int) > s15 then ((((x0.getD i16 ⟨0, []⟩).Vars).length : Nat) : Int) else s15)) (all_cons (congrArg (AV.bool) c36) (all_app (ix (f := cMonomial) (l := x0) (n := i16) ⟨0, []⟩ cMonomial_len (by decide) (by omega)) (all_cons trivial (all_cons (lenm cStr ((x0.getD i16 ⟨0, []⟩).Vars)) (all_cons trivial (all_cons (show I64 (((i16 : Nat) : Int) + 1) from by unfold I64; omega) all_nil)))))) (by kernel_rfl)
  · subst e44
    have H45 := aftE_brk H27
    refine bnd H45 fun y46 h47 H48 => ?_
    refine bsp H48 (fun c49 H50 => ?_) (fun c51 H52 => ?_)
    · refine some_e H50 fun e53 => ?_
      subst e53
      exact p_ret Tryz.mo 9 [.rg 0 [] [.v, .c true (.bool y46), .v], .eqT 20 (.bool false), .rg 0 [] [.v, .v]] [] [] (all_cons Tryz.call70 (all_cons (AFn.is (poly_Valid_c x0 y46 h47)) (all_cons trivial (all_cons (congrArg (fun x => AV.bool (!x)) c49) all_nil)))) (by kernel_rfl)
    · refine some_e H52 fun e54 => ?_
      subst e54
      exact p_ret Tryz.mo 8 [.rg 0 [] [.v, .c true (.bool y46), .v], .eqT 20 (.bool true), .rg 0 [] [.v]] [] [] (all_cons Tryz.call70 (all_cons (AFn.is (poly_Valid_c x0 y46 h47)) (all_cons trivial (all_cons (congrArg (fun x => AV.bool (!x)) c51) all_nil)))) (by kernel_rfl)
/-- framewise/framewiselaw05.awake -/
noncomputable def law05_awake  : Option Bool :=
  (poly_Product [(Linear.mk (-1) [(Coef.mk [110] 1)]), (Linear.mk 1 [(Coef.mk [110] 1)])]).bind fun y1 =>
  (poly_Parse [50, 42, 109, 42, 110, 94, 50]).bind fun y4 =>
  (poly_Eval y4.1 [(Value.mk [109] 3), (Value.mk [110] (-1))]).bind fun y7 =>
  bif (y1.2 == 0) then (
    bif (y4.2 == 0) then (
      bif (y7.2 == 0) then (
        bif (y7.1 == 6) then (
          (poly_Print y1.1).bind fun y118 =>
          bif (y118 == [45, 49, 43, 110, 94, 50]) then (
            (poly_Valid y4.1).bind fun y135 =>
            bif y135 then (
              (poly_Degree y4.1).bind fun y145 =>
              some (y145 == 3)
            ) else (
              some false
            )
          ) else (
            some false
          )
        ) else (
          some false
        )
      ) else (
        some false
      )
    ) else (
      some false
    )
  ) else (
    some false
  )
theorem law05_awake_c  (r : Bool) (H : law05_awake  = some r) : AFn Tryz.prog 45 [] (.bool r) := by
  unfold law05_awake at H
  refine acallX Tryz.func45 59 [.tmp 0] (by kernel_rfl) (by kernel_rfl) ?_
  refine bnd H fun y1 h2 H3 => ?_
  refine bnd H3 fun y4 h5 H6 => ?_
  refine bnd H6 fun y7 h8 H9 => ?_
  refine p_at Tryz.mo 11 [.rg 0 [] [.v], .rg 0 [] [.b, .b, .v], .rg 0 [] [.v, .b, .v, .b, .b, .c true (.tup [.dslice (y1.1.map cMonomial), .int .i64 y1.2]), .v, .v, .v, .v, .v], .rg 0 [] [.c true (.tup [.dslice (y4.1.map cMonomial), .int .i64 y4.2]), .v, .v, .v, .v, .v], .rg 0 [] [.v, .b, .b, .b, .c true (.tup [.int .i64 y7.1, .int .i64 y7.2]), .v, .v, .v, .v, .v]] [.only [0, 2, 3, 4, 5, 6, 7] []] 11 [] ⟨59, [(0, .bool false), (2, .dslice (y1.1.map cMonomial)), (3, .int .i64 y1.2), (4, .dslice (y4.1.map cMonomial)), (5, .int .i64 y4.2), (6, .int .i64 y7.1), (7, .int .i64 y7.2)], []⟩ (all_cons Tryz.call110 (all_cons (AFn.is (poly_Product_c [(Linear.mk (-1) [(Coef.mk [110] 1)]), (Linear.mk 1 [(Coef.mk [110] 1)])] y1 h2)) (all_cons Tryz.call51 (all_cons (AFn.is (poly_Parse_c [50, 42, 109, 42, 110, 94, 50] y4 h5)) (all_cons Tryz.call47 (all_cons (AFn.is (poly_Eval_c y4.1 [(Value.mk [109] 3), (Value.mk [110] (-1))] y7 h8)) all_nil)))))) (by kernel_rfl) ?_
  refine bsp H9 (fun c39 H40 => ?_) (fun c41 H42 => ?_)
  · refine bsp H40 (fun c68 H69 => ?_) (fun c70 H71 => ?_)
    · refine bsp H69 (fun c93 H94 => ?_) (fun c95 H96 => ?_)
      · refine bsp H94 (fun c114 H115 => ?_) (fun c116 H117 => ?_)
        · refine bnd H115 fun y118 h119 H120 => ?_
          refine bsp H120 (fun c131 H132 => ?_) (fun c133 H134 => ?_)
          · refine bnd H132 fun y135 h136 H137 => ?_
            refine bsp H137 (fun c141 H142 => ?_) (fun c143 H144 => ?_)
            · refine bnd H142 fun y145 h146 H147 => ?_
              refine some_e H147 fun e148 => ?_
              subst e148
              exact p_ret Tryz.mo 2 [.rg 0 [] [.v, .e (.bool true), .v, .v, .e (.bool true), .v, .v, .v, .e (.bool true), .v, .v, .v, .e (.bool true), .v, .v, .v, .c true (.str y118), .e (.bool true), .v, .v, .v, .c true (.bool true), .v, .v, .v, .c true (.int .i64 y145), .v, .v, .v]] [] [] (all_cons (congrArg (AV.bool) c39) (all_cons (congrArg (AV.bool) c68) (all_cons (congrArg (AV.bool) c93) (all_cons (congrArg (AV.bool) c114) (all_cons Tryz.call49 (all_cons (AFn.is (poly_Print_c y1.1 y118 h119)) (all_cons (congrArg (AV.bool) c131) (all_cons Tryz.call70 (all_cons (AFn.eq (poly_Valid_c y4.1 y135 h136) (congrArg (AV.bool) c141)) (all_cons Tryz.call57 (all_cons (AFn.is (poly_Degree_c y4.1 y145 h146)) all_nil))))))))))) (by kernel_rfl)
            · refine some_e H144 fun e149 => ?_
              subst e149
              exact p_ret Tryz.mo 2 [.rg 0 [] [.v, .e (.bool true), .v, .v, .e (.bool true), .v, .v, .v, .e (.bool true), .v, .v, .v, .e (.bool true), .v, .v, .v, .c true (.str y118), .e (.bool true), .v, .v, .v, .c true (.bool false), .v, .v, .s, .s, .s, .v, .v]] [] [] (all_cons (congrArg (AV.bool) c39) (all_cons (congrArg (AV.bool) c68) (all_cons (congrArg (AV.bool) c93) (all_cons (congrArg (AV.bool) c114) (all_cons Tryz.call49 (all_cons (AFn.is (poly_Print_c y1.1 y118 h119)) (all_cons (congrArg (AV.bool) c131) (all_cons Tryz.call70 (all_cons (AFn.eq (poly_Valid_c y4.1 y135 h136) (congrArg (AV.bool) c143)) all_nil))))))))) (by kernel_rfl)
          · refine some_e H134 fun e150 => ?_
            subst e150
            exact p_ret Tryz.mo 2 [.rg 0 [] [.v, .e (.bool true), .v, .v, .e (.bool true), .v, .v, .v, .e (.bool true), .v, .v, .v, .e (.bool true), .v, .v, .v, .c true (.str y118), .e (.bool false), .v, .v, .s, .s, .v, .v, .s, .s, .s, .v, .v]] [] [] (all_cons (congrArg (AV.bool) c39) (all_cons (congrArg (AV.bool) c68) (all_cons (congrArg (AV.bool) c93) (all_cons (congrArg (AV.bool) c114) (all_cons Tryz.call49 (all_cons (AFn.is (poly_Print_c y1.1 y118 h119)) (all_cons (congrArg (AV.bool) c133) all_nil))))))) (by kernel_rfl)
        · refine some_e H117 fun e151 => ?_
          subst e151
          exact p_ret Tryz.mo 2 [.rg 0 [] [.v, .e (.bool true), .v, .v, .e (.bool true), .v, .v, .v, .e (.bool true), .v, .v, .v, .e (.bool false), .v, .v, .s, .s, .s, .v, .v, .s, .s, .v, .v, .s, .s, .s, .v, .v]] [] [] (all_cons (congrArg (AV.bool) c39) (all_cons (congrArg (AV.bool) c68) (all_cons (congrArg (AV.bool) c93) (all_cons (congrArg (AV.bool) c116) all_nil)))) (by kernel_rfl)
      · refine some_e H96 fun e152 => ?_
        subst e152
        exact p_ret Tryz.mo 2 [.rg 0 [] [.v, .e (.bool true), .v, .v, .e (.bool true), .v, .v, .v, .e (.bool false), .v, .v, .s, .s, .v, .v, .s, .s, .s, .v, .v, .s, .s, .v, .v, .s, .s, .s, .v, .v]] [] [] (all_cons (congrArg (AV.bool) c39) (all_cons (congrArg (AV.bool) c68) (all_cons (congrArg (AV.bool) c95) all_nil))) (by kernel_rfl)
    · refine some_e H71 fun e153 => ?_
      subst e153
      exact p_ret Tryz.mo 2 [.rg 0 [] [.v, .e (.bool true), .v, .v, .e (.bool false), .v, .v, .s, .s, .v, .v, .s, .s, .v, .v, .s, .s, .s, .v, .v, .s, .s, .v, .v, .s, .s, .s, .v, .v]] [] [] (all_cons (congrArg (AV.bool) c39) (all_cons (congrArg (AV.bool) c70) all_nil)) (by kernel_rfl)
  · refine some_e H42 fun e154 => ?_
    subst e154
    exact p_ret Tryz.mo 2 [.rg 0 [] [.v, .e (.bool false), .v, .s, .s, .v, .v, .s, .s, .v, .v, .s, .s, .v, .v, .s, .s, .s, .v, .v, .s, .s, .v, .v, .s, .s, .s, .v, .v]] [] [] (all_cons (congrArg (AV.bool) c41) all_nil) (by kernel_rfl)
/-- framewise/framewiseref05.Few -/
def ref05_Few (x0 : (List Monomial)) (x1 : Int) : Option Bool :=
  (cnt (σ := Unit) (ε := Unit) (ρ := Bool) (fun i127 s126 =>
    bif decide (((((x0.getD i127 ⟨0, []⟩).Vars).length : Nat) : Int) > 10) then (
      some (.ret false)
    ) else (
      (whl (σ := Int) (ε := Unit) (ρ := (Stp Unit Unit Bool)) (fun s241 =>
        bif decide (s241 < ((((x0.getD i127 ⟨0, []⟩).Vars).length : Nat) : Int)) then (
          grd (0 ≤ s241 ∧ s241 < (((x0.getD i127 ⟨0, []⟩).Vars).length : Int)) <|
          bif decide ((((((x0.getD i127 ⟨0, []⟩).Vars).getD s241.toNat []).length : Nat) : Int) > 40) then (
            some (.ret (.ret false))
          ) else (
            some (.go (w64 (s241 + 1)))
          )
        ) else (
          some (.brk ())
        )
      ) 4294967296 0).bind <| aft fun u280 =>
      some (.go ())
    )
  ) (fun i127 s126 => ()) (x0.length - 0) 0 ()).bind <| aft fun u288 =>
  some (decide (((x0.length : Nat) : Int) ≤ x1))
def ref05_Few_S1 (x0 : (List Monomial)) (x1 : Int) (i127 : Nat) (s126 : Unit) : AS := ⟨44, [(0, .dslice (x0.map cMonomial)), (1, .int .i64 x1), (4, .bool false), (5, .int .i64 ((i127 : Nat) : Int))], []⟩
def ref05_Few_S2 (x0 : (List Monomial)) (x1 : Int) (u195 : Unit) : AS := ⟨44, [(0, .dslice (x0.map cMonomial)), (1, .int .i64 x1), (4, .bool false)], []⟩
def ref05_Few_S3 (x0 : (List Monomial)) (x1 : Int) (i127 : Nat) (s241 : Int) : AS := ⟨44, [(0, .dslice (x0.map cMonomial)), (1, .int .i64 x1), (4, .bool false), (5, .int .i64 ((i127 : Nat) : Int)), (6, .int .i64 s241)], []⟩
def ref05_Few_S4 (x0 : (List Monomial)) (x1 : Int) (i127 : Nat) (u256 : Unit) : AS := ⟨44, [(0, .dslice (x0.map cMonomial)), (1, .int .i64 x1), (4, .bool false), (5, .int .i64 ((i127 : Nat) : Int))], []⟩
theorem ref05_Few_c (x0 : (List Monomial)) (x1 : Int) (r : Bool) (H : ref05_Few x0 x1 = some r) : AFn Tryz.prog 46 [.dslice (x0.map cMonomial), .int .i64 x1] (.bool r) := by
  unfold ref05_Few at H
  refine acallX Tryz.func46 44 [.tmp 4] (by kernel_rfl) (by kernel_rfl) ?_
  refine p_at Tryz.mo 6 [.rg 0 [] [.v], .rg 0 [] [.v]] [.only [0, 1, 4, 5] []] 6 [] (ref05_Few_S1 x0 x1 0 ()) all_nil (by kernel_rfl) ?_
  refine bnd H fun R192 h193 H194 => ?_
  refine p_joinO 1 (ref05_Few_S2 x0 x1) R192 (by kernel_rfl) ?_ (fun u288 e289 => ?_)
  · refine p_cnt (ref05_Few_S1 x0 x1) (by kernel_rfl) h193 (fun i127 s126 h196 e197 => ?_) (fun i127 s126 h204 q200 h201 h202 => ?_)
    · have c198 : decide (((i127 : Nat) : Int) < ((x0.length : Nat) : Int)) = false := decide_eq_false (by omega)
      subst e197
      exact p_bar Tryz.mo 5 [.rg 0 [] [.v, .v, .e (.int .i64 ((x0.length : Nat) : Int)), .e (.bool false)]] [.only [0, 1, 4] []] (ref05_Few_S2 x0 x1 ()) (all_cons trivial (all_cons (lenm cMonomial x0) (all_cons (congrArg (AV.bool) c198) all_nil))) (by kernel_rfl)
    · have c203 : decide (((i127 : Nat) : Int) < ((x0.length : Nat) : Int)) = true := decide_eq_true (by omega)
      refine p_at Tryz.mo 10 [.rg 0 [] [.v, .v, .e (.int .i64 ((x0.length : Nat) : Int)), .e (.bool true)], .rg 0 [] [.v, .v, .e (.dptr [.int .i64 ((x0.getD i127 ⟨0, []⟩).Coef), .dslice (((x0.getD i127 ⟨0, []⟩).Vars).map cStr)]), .v, .v, .e (.int .i64 ((((x0.getD i127 ⟨0, []⟩).Vars).length : Nat) : Int)), .v]] [.only [0, 1, 4, 5, 19] []] 10 [true] ⟨44, [(0, .dslice (x0.map cMonomial)), (1, .int .i64 x1), (4, .bool false), (5, .int .i64 ((i127 : Nat) : Int)), (19, .bool (decide (((((x0.getD i127 ⟨0, []⟩).Vars).length : Nat) : Int) > 10)))], []⟩ (all_cons trivial (all_cons (lenm cMonomial x0) (all_cons (congrArg (AV.bool) c203) (all_app (ix (f := cMonomial) (l := x0) (n := i127) ⟨0, []⟩ cMonomial_len (by decide) (by omega)) (all_cons trivial (all_cons (lenm cStr ((x0.getD i127 ⟨0, []⟩).Vars)) all_nil)))))) (by kernel_rfl) ?_
      refine bsp h201 (fun c205 H206 => ?_) (fun c207 H208 => ?_)
      · have c205p := of_decide_eq_true c205
        refine some_e H206 fun e209 => ?_
        subst e209
        have e210 := out_ret h202
        subst e210
        have H211 := aft_ret H194
        refine some_e H211 fun e212 => ?_
        subst e212
        exact p_ret Tryz.mo 5 [.eqT 19 (.bool true), .rg 0 [] [.v]] [] [] (all_cons (congrArg (AV.bool) c205) all_nil) (by kernel_rfl)
      · have c207p := of_decide_eq_false c207
        refine p_at Tryz.mo 6 [.eqT 19 (.bool false), .rg 0 [] [.v]] [.only [0, 1, 4, 5, 6] []] 5 [false] (ref05_Few_S3 x0 x1 i127 0) (all_cons (congrArg (AV.bool) c207) all_nil) (by kernel_rfl) ?_
        refine bnd H208 fun R253 h254 H255 => ?_
        refine p_joinO 2 (ref05_Few_S4 x0 x1 i127) R253 (by kernel_rfl) ?_ (fun u280 e281 => ?_)
        · refine p_whl (ref05_Few_S3 x0 x1 i127) (by kernel_rfl) h254 (fun s241 q257 h258 h259 => ?_)
          · refine bsp h258 (fun c260 H261 => ?_) (fun c262 H263 => ?_)
            · have c260p := of_decide_eq_true c260
              refine grd_e H261 fun g264 H265 => ?_
              refine p_at Tryz.mo 10 [.rg 0 [] [.v, .v, .v, .e (.dptr [.int .i64 ((x0.getD i127 ⟨0, []⟩).Coef), .dslice (((x0.getD i127 ⟨0, []⟩).Vars).map cStr)]), .v, .v, .e (.int .i64 ((((x0.getD i127 ⟨0, []⟩).Vars).length : Nat) : Int)), .v], .eqT 27 (.bool true), .rg 0 [] [.v, .v, .e (.dptr [.int .i64 ((x0.getD i127 ⟨0, []⟩).Coef), .dslice (((x0.getD i127 ⟨0, []⟩).Vars).map cStr)]), .v, .v, .v, .e (.dptr [.str (((x0.getD i127 ⟨0, []⟩).Vars).getD s241.toNat [])]), .v, .v, .v]] [.only [0, 1, 4, 5, 6, 39] []] 9 [true] ⟨44, [(0, .dslice (x0.map cMonomial)), (1, .int .i64 x1), (4, .bool false), (5, .int .i64 ((i127 : Nat) : Int)), (6, .int .i64 s241), (39, .bool (decide ((((((x0.getD i127 ⟨0, []⟩).Vars).getD s241.toNat []).length : Nat) : Int) > 40)))], []⟩ (all_app (ix (f := cMonomial) (l := x0) (n := i127) ⟨0, []⟩ cMonomial_len (by decide) (by omega)) (all_cons trivial (all_cons (lenm cStr ((x0.getD i127 ⟨0, []⟩).Vars)) (all_cons (congrArg (AV.bool) c260) (all_app (ix (f := cMonomial) (l := x0) (n := i127) ⟨0, []⟩ cMonomial_len (by decide) (by omega)) (all_app (ixz (f := cStr) (l := ((x0.getD i127 ⟨0, []⟩).Vars)) (n := s241) [] cStr_len (by decide) (by exact g264)) (all_cons trivial all_nil))))))) (by kernel_rfl) ?_
              refine bsp H265 (fun c266 H267 => ?_) (fun c268 H269 => ?_)
              · have c266p := of_decide_eq_true c266
                refine some_e H267 fun e270 => ?_
                subst e270
                have e271 := out_ret h259
                subst e271
                have H272 := aft_ret H255
                refine some_e H272 fun e273 => ?_
                subst e273
                have e274 := out_ret h202
                subst e274
                have H275 := aft_ret H194
                refine some_e H275 fun e276 => ?_
                subst e276
                exact p_ret Tryz.mo 5 [.eqT 39 (.bool true), .rg 0 [] [.v]] [] [] (all_cons (congrArg (AV.bool) c266) all_nil) (by kernel_rfl)
              · have c268p := of_decide_eq_false c268
                refine some_e H269 fun e277 => ?_
                subst e277
                exact p_bar Tryz.mo 4 [.eqT 39 (.bool false), .rg 0 [] [.v, .w, .v]] [.only [0, 1, 4, 5, 6] []] (ref05_Few_S3 x0 x1 i127 (w64 (s241 + 1))) (all_cons (congrArg (AV.bool) c268) all_nil) (by kernel_rfl)
            · have c262p := of_decide_eq_false c262
              refine some_e H263 fun e278 => ?_
              subst e278
              have e279 := out_brk h259
              subst e279
              exact p_bar Tryz.mo 6 [.rg 0 [] [.v, .v, .v, .e (.dptr [.int .i64 ((x0.getD i127 ⟨0, []⟩).Coef), .dslice (((x0.getD i127 ⟨0, []⟩).Vars).map cStr)]), .v, .v, .e (.int .i64 ((((x0.getD i127 ⟨0, []⟩).Vars).length : Nat) : Int)), .v], .eqT 27 (.bool false)] [.only [0, 1, 4, 5] []] (ref05_Few_S4 x0 x1 i127 ()) (all_app (ix (f := cMonomial) (l := x0) (n := i127) ⟨0, []⟩ cMonomial_len (by decide) (by omega)) (all_cons trivial (all_cons (lenm cStr ((x0.getD i127 ⟨0, []⟩).Vars)) (all_cons (congrArg (AV.bool) c262) all_nil)))) (by kernel_rfl)
        · subst e281
          have H282 := aft_brk H255
          refine t_lens 0 (ps := [(x0.map cMonomial).length ≤ 9223372036854775807]) (by kernel_rfl) (fun l285 => ?_)
          have l286 : x0.length ≤ 9223372036854775807 := by simpa only [All, List.length_map] using l285
          clear l285
          refine some_e H282 fun e287 => ?_
          subst e287
          exact p_bar Tryz.mo 1 [.rg 0 [] [.v, .v, .v]] [.only [0, 1, 4, 5] []] (ref05_Few_S1 x0 x1 (i127 + 1) ()) (all_cons (show I64 (((i127 : Nat) : Int) + 1) from by unfold I64; omega) all_nil) (by kernel_rfl)
  · subst e289
    have H290 := aft_brk H194
    refine some_e H290 fun e291 => ?_
    subst e291
    exact p_ret Tryz.mo 3 [.rg 0 [] [.v, .e (.int .i64 ((x0.length : Nat) : Int)), .v, .v, .v]] [] [] (all_cons trivial (all_cons (lenm cMonomial x0) all_nil)) (by kernel_rfl)
/-- framewise/framewiseref04.digit -/
def ref04_digit (x0 : UInt8) : Option Bool :=
  bif decide (((x0).toNat : Int) ≥ 48) then (
    some (decide (((x0).toNat : Int) ≤ 57))
  ) else (
    some false
  )
theorem ref04_digit_c (x0 : UInt8) (r : Bool) (H : ref04_digit x0 = some r) : AFn Tryz.prog 171 [.int .u8 ((x0).toNat : Int)] (.bool r) := by
  unfold ref04_digit at H
  refine acallX Tryz.func171 9 [.tmp 2] (by kernel_rfl) (by kernel_rfl) ?_
  refine bsp H (fun c1 H2 => ?_) (fun c3 H4 => ?_)
  · have c1p := of_decide_eq_true c1
    refine some_e H2 fun e5 => ?_
    subst e5
    exact p_ret Tryz.mo 5 [.rg 0 [] [.v], .rg 0 [] [.v, .e (.bool true), .v, .v, .v, .v, .v]] [] [] (all_cons (congrArg (AV.bool) c1) all_nil) (by kernel_rfl)
  · have c3p := of_decide_eq_false c3
    refine some_e H4 fun e6 => ?_
    subst e6
    exact p_ret Tryz.mo 5 [.rg 0 [] [.v], .rg 0 [] [.v, .e (.bool false), .v, .s, .s, .v, .v]] [] [] (all_cons (congrArg (AV.bool) c3) all_nil) (by kernel_rfl)
/-- framewise/framewiseref04.letter -/
def ref04_letter (x0 : UInt8) : Option Bool :=
  bif decide (((x0).toNat : Int) ≥ 97) then (
    some (decide (((x0).toNat : Int) ≤ 122))
  ) else (
    some false
  )
theorem ref04_letter_c (x0 : UInt8) (r : Bool) (H : ref04_letter x0 = some r) : AFn Tryz.prog 172 [.int .u8 ((x0).toNat : Int)] (.bool r) := by
  unfold ref04_letter at H
  refine acallX Tryz.func172 9 [.tmp 2] (by kernel_rfl) (by kernel_rfl) ?_
  refine bsp H (fun c1 H2 => ?_) (fun c3 H4 => ?_)
  · have c1p := of_decide_eq_true c1
    refine some_e H2 fun e5 => ?_
    subst e5
    exact p_ret Tryz.mo 5 [.rg 0 [] [.v], .rg 0 [] [.v, .e (.bool true), .v, .v, .v, .v, .v]] [] [] (all_cons (congrArg (AV.bool) c1) all_nil) (by kernel_rfl)
  · have c3p := of_decide_eq_false c3
    refine some_e H4 fun e6 => ?_
    subst e6
    exact p_ret Tryz.mo 5 [.rg 0 [] [.v], .rg 0 [] [.v, .e (.bool false), .v, .s, .s, .v, .v]] [] [] (all_cons (congrArg (AV.bool) c3) all_nil) (by kernel_rfl)
/-- framewise/framewiseref04.Name -/
def ref04_Name (x0 : Str) : Option Bool :=
  bif (((x0.length : Nat) : Int) == 0) then (
    some false
  ) else (
    bif decide (((x0.length : Nat) : Int) > 30) then (
      some false
    ) else (
      grd (0 < x0.length) <|
      bif (((x0.getD 0 0).toNat : Int) == 95) then (
        bif decide (((x0.length : Nat) : Int) < 2) then (
          some false
        ) else (
          bif decide (((x0.length : Nat) : Int) > 10) then (
            some false
          ) else (
            grd (1 < x0.length) <|
            bif (((x0.getD 1 0).toNat : Int) == 48) then (
              some false
            ) else (
              (cnt (σ := Unit) (ε := Unit) (ρ := Bool) (fun i173 s172 =>
                (ref04_digit (x0.getD i173 0)).bind fun y202 =>
                bif y202 then (
                  some (.go ())
                ) else (
                  some (.ret false)
                )
              ) (fun i173 s172 => ()) (x0.length - 1) 1 ()).bind <| aft fun u218 =>
              some true
            )
          )
        )
      ) else (
        (cnt (σ := Unit) (ε := Unit) (ρ := Bool) (fun i289 s288 =>
          (ref04_letter (x0.getD i289 0)).bind fun y357 =>
          ((
            bif y357 then (
              some (.brk ())
            ) else (
              bif (((i289 : Nat) : Int) == 0) then (
                some (.ret (.ret false))
              ) else (
                (ref04_digit (x0.getD i289 0)).bind fun y401 =>
                bif y401 then (
                  some (.brk ())
                ) else (
                  some (.ret (.ret false))
                )
              )
            )
          ) : Option (Out Unit (Stp Unit Unit Bool))).bind (aft fun u385 =>
            some (.go ())
          )
        ) (fun i289 s288 => ()) (x0.length - 0) 0 ()).bind <| aft fun u422 =>
        some true
      )
    )
  )
def ref04_Name_S1 (x0 : Str) (i173 : Nat) (s172 : Unit) : AS := ⟨62, [(0, .str x0), (2, .bool false), (3, .int .i64 ((i173 : Nat) : Int))], []⟩
def ref04_Name_S2 (x0 : Str) (u192 : Unit) : AS := ⟨62, [(0, .str x0), (2, .bool false)], []⟩
def ref04_Name_S3 (x0 : Str) (i289 : Nat) (s288 : Unit) : AS := ⟨62, [(0, .str x0), (2, .bool false), (4, .int .i64 ((i289 : Nat) : Int))], []⟩
def ref04_Name_S4 (u347 : Unit) : AS := ⟨62, [(2, .bool false)], []⟩
def ref04_Name_S5 (x0 : Str) (i289 : Nat) (u385 : Unit) : AS := ⟨62, [(0, .str x0), (2, .bool false), (4, .int .i64 ((i289 : Nat) : Int))], []⟩
theorem ref04_Name_c (x0 : Str) (r : Bool) (H : ref04_Name x0 = some r) : AFn Tryz.prog 100 [.str x0] (.bool r) := by
  unfold ref04_Name at H
  refine acallX Tryz.func100 62 [.tmp 2] (by kernel_rfl) (by kernel_rfl) ?_
  refine bsp H (fun c5 H6 => ?_) (fun c7 H8 => ?_)
  · refine some_e H6 fun e9 => ?_
    subst e9
    exact p_ret Tryz.mo 9 [.rg 0 [] [.v], .rg 0 [] [.v, .v, .e (.bool true), .v, .s, .s, .s, .v], .rg 0 [] [.v]] [] [] (all_cons trivial (all_cons (congrArg (AV.bool) c5) all_nil)) (by kernel_rfl)
  · refine bsp H8 (fun c10 H11 => ?_) (fun c12 H13 => ?_)
    · have c10p := of_decide_eq_true c10
      refine some_e H11 fun e14 => ?_
      subst e14
      exact p_ret Tryz.mo 10 [.rg 0 [] [.v], .rg 0 [] [.v, .v, .e (.bool false), .v, .v, .v, .v, .v], .eqT 12 (.bool true), .rg 0 [] [.v]] [] [] (all_cons trivial (all_cons (congrArg (AV.bool) c7) (all_cons trivial (all_cons (congrArg (AV.bool) c10) all_nil)))) (by kernel_rfl)
    · have c12p := of_decide_eq_false c12
      refine grd_e H13 fun g15 H16 => ?_
      refine bsp H16 (fun c108 H109 => ?_) (fun c110 H111 => ?_)
      · refine bsp H109 (fun c122 H123 => ?_) (fun c124 H125 => ?_)
        · have c122p := of_decide_eq_true c122
          refine some_e H123 fun e126 => ?_
          subst e126
          exact p_ret Tryz.mo 20 [.rg 0 [] [.v], .rg 0 [] [.v, .v, .e (.bool false), .v, .v, .v, .v, .v], .eqT 12 (.bool false), .rg 0 [] [.v, .v, .v], .eqT 15 (.bool true), .rg 0 [] [.v, .v, .e (.bool true), .v, .s, .s, .s, .v, .v, .s, .s, .s, .v], .rg 0 [] [.v]] [] [] (all_cons trivial (all_cons (congrArg (AV.bool) c7) (all_cons trivial (all_cons (congrArg (AV.bool) c12) (all_cons (show (0 : Int) ≤ 0 ∧ 0 < (x0.length : Int) from by omega) (all_cons (congrArg (AV.bool) c108) (all_cons trivial (all_cons (congrArg (AV.bool) c122) all_nil)))))))) (by kernel_rfl)
        · have c124p := of_decide_eq_false c124
          refine bsp H125 (fun c133 H134 => ?_) (fun c135 H136 => ?_)
          · have c133p := of_decide_eq_true c133
            refine some_e H134 fun e137 => ?_
            subst e137
            exact p_ret Tryz.mo 20 [.rg 0 [] [.v], .rg 0 [] [.v, .v, .e (.bool false), .v, .v, .v, .v, .v], .eqT 12 (.bool false), .rg 0 [] [.v, .v, .v], .eqT 15 (.bool true), .rg 0 [] [.v, .v, .e (.bool false), .v, .v, .v, .e (.bool true), .v, .v, .s, .s, .s, .v], .rg 0 [] [.v]] [] [] (all_cons trivial (all_cons (congrArg (AV.bool) c7) (all_cons trivial (all_cons (congrArg (AV.bool) c12) (all_cons (show (0 : Int) ≤ 0 ∧ 0 < (x0.length : Int) from by omega) (all_cons (congrArg (AV.bool) c108) (all_cons trivial (all_cons (congrArg (AV.bool) c124) (all_cons trivial (all_cons (congrArg (AV.bool) c133) all_nil)))))))))) (by kernel_rfl)
          · have c135p := of_decide_eq_false c135
            refine grd_e H136 fun g138 H139 => ?_
            refine p_at Tryz.mo 16 [.rg 0 [] [.v], .rg 0 [] [.v, .v, .e (.bool false), .v, .v, .v, .v, .v], .eqT 12 (.bool false), .rg 0 [] [.v, .v, .v], .eqT 15 (.bool true), .rg 0 [] [.v, .v, .e (.bool false), .v, .v, .v, .e (.bool false), .v, .v, .v, .v, .v, .v]] [.only [0, 2, 28] []] 14 [false, true] ⟨62, [(0, .str x0), (2, .bool false), (28, .bool (((x0.getD 1 0).toNat : Int) == 48))], []⟩ (all_cons trivial (all_cons (congrArg (AV.bool) c7) (all_cons trivial (all_cons (congrArg (AV.bool) c12) (all_cons (show (0 : Int) ≤ 0 ∧ 0 < (x0.length : Int) from by omega) (all_cons (congrArg (AV.bool) c108) (all_cons trivial (all_cons (congrArg (AV.bool) c124) (all_cons trivial (all_cons (congrArg (AV.bool) c135) (all_cons (show (0 : Int) ≤ 1 ∧ 1 < (x0.length : Int) from by omega) all_nil))))))))))) (by kernel_rfl) ?_
            refine bsp H139 (fun c140 H141 => ?_) (fun c142 H143 => ?_)
            · refine some_e H141 fun e144 => ?_
              subst e144
              exact p_ret Tryz.mo 5 [.eqT 28 (.bool true), .rg 0 [] [.v]] [] [] (all_cons (congrArg (AV.bool) c140) all_nil) (by kernel_rfl)
            · refine p_at Tryz.mo 7 [.eqT 28 (.bool false), .rg 0 [] [.v]] [.only [0, 2, 3] []] 6 [false] (ref04_Name_S1 x0 1 ()) (all_cons (congrArg (AV.bool) c142) all_nil) (by kernel_rfl) ?_
              refine bnd H143 fun R189 h190 H191 => ?_
              refine p_joinO 1 (ref04_Name_S2 x0) R189 (by kernel_rfl) ?_ (fun u218 e219 => ?_)
              · refine p_cnt (ref04_Name_S1 x0) (by kernel_rfl) h190 (fun i173 s172 h193 e194 => ?_) (fun i173 s172 h201 q197 h198 h199 => ?_)
                · have c195 : decide (((i173 : Nat) : Int) < ((x0.length : Nat) : Int)) = false := decide_eq_false (by omega)
                  subst e194
                  exact p_bar Tryz.mo 5 [.rg 0 [] [.v, .v, .v, .e (.bool false)]] [.only [0, 2] []] (ref04_Name_S2 x0 ()) (all_cons trivial (all_cons (congrArg (AV.bool) c195) all_nil)) (by kernel_rfl)
                · have c200 : decide (((i173 : Nat) : Int) < ((x0.length : Nat) : Int)) = true := decide_eq_true (by omega)
                  refine bnd h198 fun y202 h203 H204 => ?_
                  refine bsp H204 (fun c205 H206 => ?_) (fun c207 H208 => ?_)
                  · refine t_lens 0 (ps := [x0.length ≤ 9223372036854775807]) (by kernel_rfl) (fun l211 => ?_)
                    have l212 : x0.length ≤ 9223372036854775807 := by simpa only [All, List.length_map] using l211
                    clear l211
                    refine some_e H206 fun e213 => ?_
                    subst e213
                    exact p_bar Tryz.mo 13 [.rg 0 [] [.v, .v, .v, .e (.bool true)], .rg 0 [] [.v, .v, .v, .c true (.bool y202), .v], .eqT 39 (.bool false), .rg 0 [] [.v, .v, .v]] [.only [0, 2, 3] []] (ref04_Name_S1 x0 (i173 + 1) ()) (all_cons trivial (all_cons (congrArg (AV.bool) c200) (all_cons (show (0 : Int) ≤ ((i173 : Nat) : Int) ∧ ((i173 : Nat) : Int) < (x0.length : Int) from by omega) (all_cons Tryz.call171 (all_cons (AFn.is (ref04_digit_c (x0.getD i173 0) y202 h203)) (all_cons trivial (all_cons (congrArg (fun x => AV.bool (!x)) c205) (all_cons (show I64 (((i173 : Nat) : Int) + 1) from by unfold I64; omega) all_nil)))))))) (by kernel_rfl)
                  · refine some_e H208 fun e214 => ?_
                    subst e214
                    have e215 := out_ret h199
                    subst e215
                    have H216 := aft_ret H191
                    refine some_e H216 fun e217 => ?_
                    subst e217
                    exact p_ret Tryz.mo 14 [.rg 0 [] [.v, .v, .v, .e (.bool true)], .rg 0 [] [.v, .v, .v, .c true (.bool y202), .v], .eqT 39 (.bool true), .rg 0 [] [.v]] [] [] (all_cons trivial (all_cons (congrArg (AV.bool) c200) (all_cons (show (0 : Int) ≤ ((i173 : Nat) : Int) ∧ ((i173 : Nat) : Int) < (x0.length : Int) from by omega) (all_cons Tryz.call171 (all_cons (AFn.is (ref04_digit_c (x0.getD i173 0) y202 h203)) (all_cons trivial (all_cons (congrArg (fun x => AV.bool (!x)) c207) all_nil))))))) (by kernel_rfl)
              · subst e219
                have H220 := aft_brk H191
                refine some_e H220 fun e221 => ?_
                subst e221
                exact p_ret Tryz.mo 3 [.rg 0 [] [.v]] [] [] all_nil (by kernel_rfl)
      · refine p_at Tryz.mo 18 [.rg 0 [] [.v], .rg 0 [] [.v, .v, .e (.bool false), .v, .v, .v, .v, .v], .eqT 12 (.bool false), .rg 0 [] [.v, .v, .v], .eqT 15 (.bool false), .rg 0 [] [.v]] [.only [0, 2, 4] []] 16 [false, false] (ref04_Name_S3 x0 0 ()) (all_cons trivial (all_cons (congrArg (AV.bool) c7) (all_cons trivial (all_cons (congrArg (AV.bool) c12) (all_cons (show (0 : Int) ≤ 0 ∧ 0 < (x0.length : Int) from by omega) (all_cons (congrArg (AV.bool) c110) all_nil)))))) (by kernel_rfl) ?_
        refine bnd H111 fun R344 h345 H346 => ?_
        refine p_joinO 1 (ref04_Name_S4) R344 (by kernel_rfl) ?_ (fun u422 e423 => ?_)
        · refine p_cnt (ref04_Name_S3 x0) (by kernel_rfl) h345 (fun i289 s288 h348 e349 => ?_) (fun i289 s288 h356 q352 h353 h354 => ?_)
          · have c350 : decide (((i289 : Nat) : Int) < ((x0.length : Nat) : Int)) = false := decide_eq_false (by omega)
            subst e349
            exact p_bar Tryz.mo 5 [.rg 0 [] [.v, .v, .v, .e (.bool false)]] [.only [2] []] (ref04_Name_S4 ()) (all_cons trivial (all_cons (congrArg (AV.bool) c350) all_nil)) (by kernel_rfl)
          · have c355 : decide (((i289 : Nat) : Int) < ((x0.length : Nat) : Int)) = true := decide_eq_true (by omega)
            refine bnd h353 fun y357 h358 H359 => ?_
            refine p_at Tryz.mo 8 [.rg 0 [] [.v, .v, .v, .e (.bool true)]] [.only [0, 2, 4] []] 8 [true] ⟨62, [(0, .str x0), (2, .bool false), (4, .int .i64 ((i289 : Nat) : Int))], []⟩ (all_cons trivial (all_cons (congrArg (AV.bool) c355) all_nil)) (by kernel_rfl) ?_
            refine bnd H359 fun v382 h383 H384 => ?_
            refine p_joinO 2 (ref04_Name_S5 x0 i289) v382 (by kernel_rfl) ?_ (fun u385 e421 => ?_)
            · refine bsp h383 (fun c386 H387 => ?_) (fun c388 H389 => ?_)
              · refine some_e H387 fun e390 => ?_
                subst e390
                exact p_bar Tryz.mo 3 [.rg 0 [] [.v, .v, .v, .c true (.bool true), .v, .v, .s, .s, .s, .s, .s, .s, .s, .s, .s, .v]] [.only [0, 2, 4] []] (ref04_Name_S5 x0 i289 ()) (all_cons (show (0 : Int) ≤ ((i289 : Nat) : Int) ∧ ((i289 : Nat) : Int) < (x0.length : Int) from by omega) (all_cons Tryz.call172 (all_cons (AFn.eq (ref04_letter_c (x0.getD i289 0) y357 h358) (congrArg (AV.bool) c386)) (all_cons trivial all_nil)))) (by kernel_rfl)
              · refine bsp H389 (fun c391 H392 => ?_) (fun c393 H394 => ?_)
                · refine some_e H392 fun e395 => ?_
                  subst e395
                  have H396 := aft_ret H384
                  refine some_e H396 fun e397 => ?_
                  subst e397
                  have e398 := out_ret h354
                  subst e398
                  have H399 := aft_ret H346
                  refine some_e H399 fun e400 => ?_
                  subst e400
                  exact p_ret Tryz.mo 5 [.rg 0 [] [.v, .v, .v, .c true (.bool false), .v, .v, .v, .e (.bool true), .v, .s, .s, .s, .s, .s, .v, .v], .rg 0 [] [.v]] [] [] (all_cons (show (0 : Int) ≤ ((i289 : Nat) : Int) ∧ ((i289 : Nat) : Int) < (x0.length : Int) from by omega) (all_cons Tryz.call172 (all_cons (AFn.eq (ref04_letter_c (x0.getD i289 0) y357 h358) (congrArg (AV.bool) c388)) (all_cons trivial (all_cons (congrArg (AV.bool) c391) all_nil))))) (by kernel_rfl)
                · refine bnd H394 fun y401 h402 H403 => ?_
                  refine p_at Tryz.mo 1 [.rg 0 [] [.v, .v, .v, .c true (.bool false), .v, .v, .v, .e (.bool false), .v, .v, .v, .v, .c true (.bool y401), .v, .v, .v]] [.only [0, 2, 4, 61] []] 1 [] ⟨62, [(0, .str x0), (2, .bool false), (4, .int .i64 ((i289 : Nat) : Int)), (61, .bool (!y401))], []⟩ (all_cons (show (0 : Int) ≤ ((i289 : Nat) : Int) ∧ ((i289 : Nat) : Int) < (x0.length : Int) from by omega) (all_cons Tryz.call172 (all_cons (AFn.eq (ref04_letter_c (x0.getD i289 0) y357 h358) (congrArg (AV.bool) c388)) (all_cons trivial (all_cons (congrArg (AV.bool) c393) (all_cons (show (0 : Int) ≤ ((i289 : Nat) : Int) ∧ ((i289 : Nat) : Int) < (x0.length : Int) from by omega) (all_cons Tryz.call171 (all_cons (AFn.is (ref04_digit_c (x0.getD i289 0) y401 h402)) (all_cons trivial all_nil))))))))) (by kernel_rfl) ?_
                  refine bsp H403 (fun c404 H405 => ?_) (fun c406 H407 => ?_)
                  · refine some_e H405 fun e408 => ?_
                    subst e408
                    exact p_bar Tryz.mo 3 [.eqT 61 (.bool false)] [.only [0, 2, 4] []] (ref04_Name_S5 x0 i289 ()) (all_cons (congrArg (fun x => AV.bool (!x)) c404) all_nil) (by kernel_rfl)
                  · refine some_e H407 fun e409 => ?_
                    subst e409
                    have H410 := aft_ret H384
                    refine some_e H410 fun e411 => ?_
                    subst e411
                    have e412 := out_ret h354
                    subst e412
                    have H413 := aft_ret H346
                    refine some_e H413 fun e414 => ?_
                    subst e414
                    exact p_ret Tryz.mo 5 [.eqT 61 (.bool true), .rg 0 [] [.v]] [] [] (all_cons (congrArg (fun x => AV.bool (!x)) c406) all_nil) (by kernel_rfl)
            · subst e421
              have H415 := aft_brk H384
              refine t_lens 0 (ps := [x0.length ≤ 9223372036854775807]) (by kernel_rfl) (fun l418 => ?_)
              have l419 : x0.length ≤ 9223372036854775807 := by simpa only [All, List.length_map] using l418
              clear l418
              refine some_e H415 fun e420 => ?_
              subst e420
              exact p_bar Tryz.mo 1 [.rg 0 [] [.v, .v, .v]] [.only [0, 2, 4] []] (ref04_Name_S3 x0 (i289 + 1) ()) (all_cons (show I64 (((i289 : Nat) : Int) + 1) from by unfold I64; omega) all_nil) (by kernel_rfl)
        · subst e423
          have H424 := aft_brk H346
          refine some_e H424 fun e425 => ?_
          subst e425
          exact p_ret Tryz.mo 3 [.rg 0 [] [.v]] [] [] all_nil (by kernel_rfl)
/-- framewise/framewiseref05.order -/
def ref05_order (x0 : (List Str)) (x1 : (List Str)) : Option Int :=
  (cnt (σ := Unit) (ε := Unit) (ρ := Int) (fun i47 s46 =>
    bif decide (((i47 : Nat) : Int) < ((x1.length : Nat) : Int)) then (
      bif (Op.bytesLess (x0.getD i47 []) (x1.getD i47 [])) then (
        some (.ret (-1))
      ) else (
        bif (Op.bytesLess (x0.getD i47 []) (x1.getD i47 []) || (x0.getD i47 []) == (x1.getD i47 [])) then (
          some (.go ())
        ) else (
          some (.ret 1)
        )
      )
    ) else (
      some (.brk ())
    )
  ) (fun i47 s46 => ()) (x0.length - 0) 0 ()).bind <| aft fun u112 =>
  some (w64 (((x0.length : Nat) : Int) - ((x1.length : Nat) : Int)))
def ref05_order_S1 (x0 : (List Str)) (x1 : (List Str)) (i47 : Nat) (s46 : Unit) : AS := ⟨41, [(0, .dslice (x0.map cStr)), (1, .dslice (x1.map cStr)), (4, .int .i64 0), (5, .int .i64 ((i47 : Nat) : Int))], []⟩
def ref05_order_S2 (x0 : (List Str)) (x1 : (List Str)) (u75 : Unit) : AS := ⟨41, [(0, .dslice (x0.map cStr)), (1, .dslice (x1.map cStr)), (4, .int .i64 0)], []⟩
theorem ref05_order_c (x0 : (List Str)) (x1 : (List Str)) (r : Int) (H : ref05_order x0 x1 = some r) : AFn Tryz.prog 122 [.dslice (x0.map cStr), .dslice (x1.map cStr)] (.int .i64 r) := by
  unfold ref05_order at H
  refine acallX Tryz.func122 41 [.tmp 4] (by kernel_rfl) (by kernel_rfl) ?_
  refine p_at Tryz.mo 6 [.rg 0 [] [.v], .rg 0 [] [.v]] [.only [0, 1, 4, 5] []] 6 [] (ref05_order_S1 x0 x1 0 ()) all_nil (by kernel_rfl) ?_
  refine bnd H fun R72 h73 H74 => ?_
  refine p_joinO 1 (ref05_order_S2 x0 x1) R72 (by kernel_rfl) ?_ (fun u112 e113 => ?_)
  · refine p_cnt (ref05_order_S1 x0 x1) (by kernel_rfl) h73 (fun i47 s46 h76 e77 => ?_) (fun i47 s46 h84 q80 h81 h82 => ?_)
    · have c78 : decide (((i47 : Nat) : Int) < ((x0.length : Nat) : Int)) = false := decide_eq_false (by omega)
      subst e77
      exact p_bar Tryz.mo 5 [.rg 0 [] [.v, .v, .e (.int .i64 ((x0.length : Nat) : Int)), .e (.bool false), .v, .s, .s, .s, .s, .v]] [.only [0, 1, 4] []] (ref05_order_S2 x0 x1 ()) (all_cons trivial (all_cons (lenm cStr x0) (all_cons (congrArg (AV.bool) c78) all_nil))) (by kernel_rfl)
    · have c83 : decide (((i47 : Nat) : Int) < ((x0.length : Nat) : Int)) = true := decide_eq_true (by omega)
      refine bsp h81 (fun c85 H86 => ?_) (fun c87 H88 => ?_)
      · have c85p := of_decide_eq_true c85
        refine p_at Tryz.mo 11 [.rg 0 [] [.v, .v, .e (.int .i64 ((x0.length : Nat) : Int)), .e (.bool true), .v, .v, .v, .e (.int .i64 ((x1.length : Nat) : Int)), .v, .v], .eqT 15 (.bool true), .rg 8 [.v, .v, .e (.dptr [.str (x0.getD i47 [])]), .v, .v, .v, .e (.dptr [.str (x1.getD i47 [])]), .v] [.v]] [.only [0, 1, 4, 5, 26] []] 10 [true] ⟨41, [(0, .dslice (x0.map cStr)), (1, .dslice (x1.map cStr)), (4, .int .i64 0), (5, .int .i64 ((i47 : Nat) : Int)), (26, .bool (Op.bytesLess (x0.getD i47 []) (x1.getD i47 [])))], []⟩ (all_cons trivial (all_cons (lenm cStr x0) (all_cons (congrArg (AV.bool) c83) (all_cons trivial (all_cons (lenm cStr x1) (all_cons (congrArg (AV.bool) c85) (all_app (ix (f := cStr) (l := x0) (n := i47) [] cStr_len (by decide) (by omega)) (all_app (ix (f := cStr) (l := x1) (n := i47) [] cStr_len (by decide) (by omega)) all_nil)))))))) (by kernel_rfl) ?_
        refine bsp H86 (fun c89 H90 => ?_) (fun c91 H92 => ?_)
        · refine some_e H90 fun e93 => ?_
          subst e93
          have e94 := out_ret h82
          subst e94
          have H95 := aft_ret H74
          refine some_e H95 fun e96 => ?_
          subst e96
          exact p_ret Tryz.mo 5 [.eqT 26 (.bool true), .rg 0 [] [.v]] [] [] (all_cons (congrArg (AV.bool) c89) all_nil) (by kernel_rfl)
        · refine bsp H92 (fun c97 H98 => ?_) (fun c99 H100 => ?_)
          · refine t_lens 0 (ps := [(x0.map cStr).length ≤ 9223372036854775807]) (by kernel_rfl) (fun l103 => ?_)
            have l104 : x0.length ≤ 9223372036854775807 := by simpa only [All, List.length_map] using l103
            clear l103
            refine some_e H98 fun e105 => ?_
            subst e105
            exact p_bar Tryz.mo 9 [.eqT 26 (.bool false), .rg 8 [.v, .v, .e (.dptr [.str (x0.getD i47 [])]), .v, .v, .v, .e (.dptr [.str (x1.getD i47 [])]), .v] [.v], .eqT 35 (.bool false), .rg 0 [] [.v, .v, .v]] [.only [0, 1, 4, 5] []] (ref05_order_S1 x0 x1 (i47 + 1) ()) (all_cons (congrArg (AV.bool) c91) (all_app (ix (f := cStr) (l := x0) (n := i47) [] cStr_len (by decide) (by omega)) (all_app (ix (f := cStr) (l := x1) (n := i47) [] cStr_len (by decide) (by omega)) (all_cons (congrArg (fun x => AV.bool (!x)) c97) (all_cons (show I64 (((i47 : Nat) : Int) + 1) from by unfold I64; omega) all_nil))))) (by kernel_rfl)
          · refine some_e H100 fun e106 => ?_
            subst e106
            have e107 := out_ret h82
            subst e107
            have H108 := aft_ret H74
            refine some_e H108 fun e109 => ?_
            subst e109
            exact p_ret Tryz.mo 10 [.eqT 26 (.bool false), .rg 8 [.v, .v, .e (.dptr [.str (x0.getD i47 [])]), .v, .v, .v, .e (.dptr [.str (x1.getD i47 [])]), .v] [.v], .eqT 35 (.bool true), .rg 0 [] [.v]] [] [] (all_cons (congrArg (AV.bool) c91) (all_app (ix (f := cStr) (l := x0) (n := i47) [] cStr_len (by decide) (by omega)) (all_app (ix (f := cStr) (l := x1) (n := i47) [] cStr_len (by decide) (by omega)) (all_cons (congrArg (fun x => AV.bool (!x)) c99) all_nil)))) (by kernel_rfl)
      · have c87p := of_decide_eq_false c87
        refine some_e H88 fun e110 => ?_
        subst e110
        have e111 := out_brk h82
        subst e111
        exact p_bar Tryz.mo 6 [.rg 0 [] [.v, .v, .e (.int .i64 ((x0.length : Nat) : Int)), .e (.bool true), .v, .v, .v, .e (.int .i64 ((x1.length : Nat) : Int)), .v, .v], .eqT 15 (.bool false)] [.only [0, 1, 4] []] (ref05_order_S2 x0 x1 ()) (all_cons trivial (all_cons (lenm cStr x0) (all_cons (congrArg (AV.bool) c83) (all_cons trivial (all_cons (lenm cStr x1) (all_cons (congrArg (AV.bool) c87) all_nil)))))) (by kernel_rfl)
  · subst e113
    have H114 := aft_brk H74
    refine some_e H114 fun e115 => ?_
    subst e115
    exact p_ret Tryz.mo 3 [.rg 0 [] [.v, .e (.int .i64 ((x0.length : Nat) : Int)), .v, .e (.int .i64 ((x1.length : Nat) : Int)), .w, .v]] [] [] (all_cons trivial (all_cons (lenm cStr x0) (all_cons trivial (all_cons (lenm cStr x1) all_nil)))) (by kernel_rfl)
/-- framewise/framewiseref05.Valid -/
def ref05_Valid (x0 : (List Monomial)) : Option Bool :=
  bif decide (((x0.length : Nat) : Int) > 60) then (
    some false
  ) else (
    (cnt (σ := Unit) (ε := Unit) (ρ := Bool) (fun i483 s482 =>
      ((
        bif (((x0.getD i483 ⟨0, []⟩).Coef) == 0) then (
          some (.ret (.ret false))
        ) else (
          bif decide (((x0.getD i483 ⟨0, []⟩).Coef) < (-1099511627776)) then (
            some (.ret (.ret false))
          ) else (
            bif decide (((x0.getD i483 ⟨0, []⟩).Coef) > 1099511627776) then (
              some (.ret (.ret false))
            ) else (
              bif decide (((((x0.getD i483 ⟨0, []⟩).Vars).length : Nat) : Int) > 8) then (
                some (.ret (.ret false))
              ) else (
                bif decide (((i483 : Nat) : Int) > 0) then (
                  grd (0 ≤ (w64 (((i483 : Nat) : Int) - 1)) ∧ (w64 (((i483 : Nat) : Int) - 1)) < (x0.length : Int)) <|
                  (ref05_order ((x0.getD (w64 (((i483 : Nat) : Int) - 1)).toNat ⟨0, []⟩).Vars) ((x0.getD i483 ⟨0, []⟩).Vars)).bind fun y859 =>
                  bif decide (y859 ≥ 0) then (
                    some (.ret (.ret false))
                  ) else (
                    some (.brk ())
                  )
                ) else (
                  some (.brk ())
                )
              )
            )
          )
        )
      ) : Option (Out Unit (Stp Unit Unit Bool))).bind (aft fun u812 =>
        (cnt (σ := Unit) (ε := Unit) (ρ := (Stp Unit Unit Bool)) (fun i939 s938 =>
          (ref04_Name (((x0.getD i483 ⟨0, []⟩).Vars).getD i939 [])).bind fun y1004 =>
          ((
            bif y1004 then (
              bif decide (((i939 : Nat) : Int) > 0) then (
                grd (0 ≤ (w64 (((i939 : Nat) : Int) - 1)) ∧ (w64 (((i939 : Nat) : Int) - 1)) < (((x0.getD i483 ⟨0, []⟩).Vars).length : Int)) <|
                bif (Op.bytesLess (((x0.getD i483 ⟨0, []⟩).Vars).getD (w64 (((i939 : Nat) : Int) - 1)).toNat []) (((x0.getD i483 ⟨0, []⟩).Vars).getD i939 []) || (((x0.getD i483 ⟨0, []⟩).Vars).getD (w64 (((i939 : Nat) : Int) - 1)).toNat []) == (((x0.getD i483 ⟨0, []⟩).Vars).getD i939 [])) then (
                  some (.brk ())
                ) else (
                  some (.ret (.ret (.ret false)))
                )
              ) else (
                some (.brk ())
              )
            ) else (
              some (.ret (.ret (.ret false)))
            )
          ) : Option (Out Unit (Stp Unit Unit (Stp Unit Unit Bool)))).bind (aft fun u1030 =>
            some (.go ())
          )
        ) (fun i939 s938 => ()) (((x0.getD i483 ⟨0, []⟩).Vars).length - 0) 0 ()).bind <| aft fun u1072 =>
        some (.go ())
      )
    ) (fun i483 s482 => ()) (x0.length - 0) 0 ()).bind <| aft fun u1081 =>
    some true
  )
def ref05_Valid_S1 (x0 : (List Monomial)) (i483 : Nat) (s482 : Unit) : AS := ⟨86, [(0, .dslice (x0.map cMonomial)), (2, .bool false), (3, .int .i64 ((i483 : Nat) : Int))], []⟩
def ref05_Valid_S2 (u749 : Unit) : AS := ⟨86, [(2, .bool false)], []⟩
def ref05_Valid_S3 (x0 : (List Monomial)) (i483 : Nat) (u812 : Unit) : AS := ⟨86, [(0, .dslice (x0.map cMonomial)), (2, .bool false), (3, .int .i64 ((i483 : Nat) : Int)), (4, .hptr 4 0)], [(4, .cells 118 [.int .i64 ((x0.getD i483 ⟨0, []⟩).Coef), .dslice (((x0.getD i483 ⟨0, []⟩).Vars).map cStr)])]⟩
def ref05_Valid_S4 (x0 : (List Monomial)) (i483 : Nat) (i939 : Nat) (s938 : Unit) : AS := ⟨86, [(0, .dslice (x0.map cMonomial)), (2, .bool false), (3, .int .i64 ((i483 : Nat) : Int)), (4, .hptr 4 0), (5, .int .i64 ((i939 : Nat) : Int))], [(4, .cells 118 [.int .i64 ((x0.getD i483 ⟨0, []⟩).Coef), .dslice (((x0.getD i483 ⟨0, []⟩).Vars).map cStr)])]⟩
def ref05_Valid_S5 (x0 : (List Monomial)) (i483 : Nat) (u994 : Unit) : AS := ⟨86, [(0, .dslice (x0.map cMonomial)), (2, .bool false), (3, .int .i64 ((i483 : Nat) : Int))], []⟩
def ref05_Valid_S6 (x0 : (List Monomial)) (i483 : Nat) (i939 : Nat) (u1030 : Unit) : AS := ⟨86, [(0, .dslice (x0.map cMonomial)), (2, .bool false), (3, .int .i64 ((i483 : Nat) : Int)), (4, .hptr 4 0), (5, .int .i64 ((i939 : Nat) : Int))], [(4, .cells 118 [.int .i64 ((x0.getD i483 ⟨0, []⟩).Coef), .dslice (((x0.getD i483 ⟨0, []⟩).Vars).map cStr)])]⟩
theorem ref05_Valid_c (x0 : (List Monomial)) (r : Bool) (H : ref05_Valid x0 = some r) : AFn Tryz.prog 52 [.dslice (x0.map cMonomial)] (.bool r) := by
  unfold ref05_Valid at H
  refine acallX Tryz.func52 86 [.tmp 2] (by kernel_rfl) (by kernel_rfl) ?_
  refine bsp H (fun c1 H2 => ?_) (fun c3 H4 => ?_)
  · have c1p := of_decide_eq_true c1
    refine some_e H2 fun e5 => ?_
    subst e5
    exact p_ret Tryz.mo 10 [.rg 0 [] [.v], .rg 0 [] [.v, .e (.int .i64 ((x0.length : Nat) : Int)), .v], .eqT 8 (.bool true), .rg 0 [] [.v]] [] [] (all_cons trivial (all_cons (lenm cMonomial x0) (all_cons (congrArg (AV.bool) c1) all_nil))) (by kernel_rfl)
  · have c3p := of_decide_eq_false c3
    refine p_at Tryz.mo 12 [.rg 0 [] [.v], .rg 0 [] [.v, .e (.int .i64 ((x0.length : Nat) : Int)), .v], .eqT 8 (.bool false), .rg 0 [] [.v]] [.only [0, 2, 3] []] 11 [false] (ref05_Valid_S1 x0 0 ()) (all_cons trivial (all_cons (lenm cMonomial x0) (all_cons (congrArg (AV.bool) c3) all_nil))) (by kernel_rfl) ?_
    refine bnd H4 fun R746 h747 H748 => ?_
    refine p_joinO 1 (ref05_Valid_S2) R746 (by kernel_rfl) ?_ (fun u1081 e1082 => ?_)
    · refine p_cnt (ref05_Valid_S1 x0) (by kernel_rfl) h747 (fun i483 s482 h750 e751 => ?_) (fun i483 s482 h758 q754 h755 h756 => ?_)
      · have c752 : decide (((i483 : Nat) : Int) < ((x0.length : Nat) : Int)) = false := decide_eq_false (by omega)
        subst e751
        exact p_bar Tryz.mo 5 [.rg 0 [] [.v, .v, .e (.int .i64 ((x0.length : Nat) : Int)), .e (.bool false)]] [.only [2] []] (ref05_Valid_S2 ()) (all_cons trivial (all_cons (lenm cMonomial x0) (all_cons (congrArg (AV.bool) c752) all_nil))) (by kernel_rfl)
      · have c757 : decide (((i483 : Nat) : Int) < ((x0.length : Nat) : Int)) = true := decide_eq_true (by omega)
        refine p_at Tryz.mo 11 [.rg 0 [] [.v, .v, .e (.int .i64 ((x0.length : Nat) : Int)), .e (.bool true)], .rg 0 [] [.v, .v, .e (.dptr [.int .i64 ((x0.getD i483 ⟨0, []⟩).Coef), .dslice (((x0.getD i483 ⟨0, []⟩).Vars).map cStr)]), .v, .m, .m]] [.only [0, 2, 3, 4] [4]] 11 [true] ⟨86, [(0, .dslice (x0.map cMonomial)), (2, .bool false), (3, .int .i64 ((i483 : Nat) : Int)), (4, .hptr 4 0)], [(4, .cells 118 [.int .i64 ((x0.getD i483 ⟨0, []⟩).Coef), .dslice (((x0.getD i483 ⟨0, []⟩).Vars).map cStr)])]⟩ (all_cons trivial (all_cons (lenm cMonomial x0) (all_cons (congrArg (AV.bool) c757) (all_app (ix (f := cMonomial) (l := x0) (n := i483) ⟨0, []⟩ cMonomial_len (by decide) (by omega)) all_nil)))) (by kernel_rfl) ?_
        refine bnd h755 fun v809 h810 H811 => ?_
        refine p_joinO 1 (ref05_Valid_S3 x0 i483) v809 (by kernel_rfl) ?_ (fun u812 e1080 => ?_)
        · refine bsp h810 (fun c813 H814 => ?_) (fun c815 H816 => ?_)
          · refine some_e H814 fun e817 => ?_
            subst e817
            have H818 := aft_ret H811
            refine some_e H818 fun e819 => ?_
            subst e819
            have e820 := out_ret h756
            subst e820
            have H821 := aft_ret H748
            refine some_e H821 fun e822 => ?_
            subst e822
            exact p_ret Tryz.mo 5 [.rg 31 [.v, .v, .e (.bool true), .v, .s, .s, .s, .v, .v, .s, .s, .s, .v, .v, .s, .s, .s, .s, .v, .v, .s, .s, .s, .s, .s, .s, .s, .s, .s, .s, .s] [.s, .s, .s, .v], .rg 0 [] [.v]] [] [] (all_cons (congrArg (AV.bool) c813) all_nil) (by kernel_rfl)
          · refine bsp H816 (fun c823 H824 => ?_) (fun c825 H826 => ?_)
            · have c823p := of_decide_eq_true c823
              refine some_e H824 fun e827 => ?_
              subst e827
              have H828 := aft_ret H811
              refine some_e H828 fun e829 => ?_
              subst e829
              have e830 := out_ret h756
              subst e830
              have H831 := aft_ret H748
              refine some_e H831 fun e832 => ?_
              subst e832
              exact p_ret Tryz.mo 5 [.rg 31 [.v, .v, .e (.bool false), .v, .v, .v, .e (.bool true), .v, .v, .s, .s, .s, .v, .v, .s, .s, .s, .s, .v, .v, .s, .s, .s, .s, .s, .s, .s, .s, .s, .s, .s] [.s, .s, .s, .v], .rg 0 [] [.v]] [] [] (all_cons (congrArg (AV.bool) c815) (all_cons (congrArg (AV.bool) c823) all_nil)) (by kernel_rfl)
            · have c825p := of_decide_eq_false c825
              refine bsp H826 (fun c833 H834 => ?_) (fun c835 H836 => ?_)
              · have c833p := of_decide_eq_true c833
                refine some_e H834 fun e837 => ?_
                subst e837
                have H838 := aft_ret H811
                refine some_e H838 fun e839 => ?_
                subst e839
                have e840 := out_ret h756
                subst e840
                have H841 := aft_ret H748
                refine some_e H841 fun e842 => ?_
                subst e842
                exact p_ret Tryz.mo 5 [.rg 31 [.v, .v, .e (.bool false), .v, .v, .v, .e (.bool false), .v, .v, .v, .v, .e (.bool true), .v, .v, .s, .s, .s, .s, .v, .v, .s, .s, .s, .s, .s, .s, .s, .s, .s, .s, .s] [.s, .s, .s, .v], .rg 0 [] [.v]] [] [] (all_cons (congrArg (AV.bool) c815) (all_cons (congrArg (AV.bool) c825) (all_cons (congrArg (AV.bool) c833) all_nil))) (by kernel_rfl)
              · have c835p := of_decide_eq_false c835
                refine bsp H836 (fun c843 H844 => ?_) (fun c845 H846 => ?_)
                · have c843p := of_decide_eq_true c843
                  refine some_e H844 fun e847 => ?_
                  subst e847
                  have H848 := aft_ret H811
                  refine some_e H848 fun e849 => ?_
                  subst e849
                  have e850 := out_ret h756
                  subst e850
                  have H851 := aft_ret H748
                  refine some_e H851 fun e852 => ?_
                  subst e852
                  exact p_ret Tryz.mo 5 [.rg 31 [.v, .v, .e (.bool false), .v, .v, .v, .e (.bool false), .v, .v, .v, .v, .e (.bool false), .v, .v, .v, .v, .e (.int .i64 ((((x0.getD i483 ⟨0, []⟩).Vars).length : Nat) : Int)), .e (.bool true), .v, .v, .s, .s, .s, .s, .s, .s, .s, .s, .s, .s, .s] [.s, .s, .s, .v], .rg 0 [] [.v]] [] [] (all_cons (congrArg (AV.bool) c815) (all_cons (congrArg (AV.bool) c825) (all_cons (congrArg (AV.bool) c835) (all_cons trivial (all_cons (lenm cStr ((x0.getD i483 ⟨0, []⟩).Vars)) (all_cons (congrArg (AV.bool) c843) all_nil)))))) (by kernel_rfl)
                · have c845p := of_decide_eq_false c845
                  refine bsp H846 (fun c853 H854 => ?_) (fun c855 H856 => ?_)
                  · have c853p := of_decide_eq_true c853
                    refine grd_e H854 fun g857 H858 => ?_
                    refine bnd H858 fun y859 h860 H861 => ?_
                    refine p_at Tryz.mo 1 [.rg 31 [.v, .v, .e (.bool false), .v, .v, .v, .e (.bool false), .v, .v, .v, .v, .e (.bool false), .v, .v, .v, .v, .e (.int .i64 ((((x0.getD i483 ⟨0, []⟩).Vars).length : Nat) : Int)), .e (.bool false), .v, .v, .v, .e (.bool true), .v, .v, .v, .w, .e (.dptr [.int .i64 ((x0.getD (w64 (((i483 : Nat) : Int) - 1)).toNat ⟨0, []⟩).Coef), .dslice (((x0.getD (w64 (((i483 : Nat) : Int) - 1)).toNat ⟨0, []⟩).Vars).map cStr)]), .v, .v, .v, .v] [.c true (.int .i64 y859), .v, .v, .v]] [.only [0, 2, 3, 4, 53] [4]] 1 [] ⟨86, [(0, .dslice (x0.map cMonomial)), (2, .bool false), (3, .int .i64 ((i483 : Nat) : Int)), (4, .hptr 4 0), (53, .bool (decide (y859 ≥ 0)))], [(4, .cells 118 [.int .i64 ((x0.getD i483 ⟨0, []⟩).Coef), .dslice (((x0.getD i483 ⟨0, []⟩).Vars).map cStr)])]⟩ (all_cons (congrArg (AV.bool) c815) (all_cons (congrArg (AV.bool) c825) (all_cons (congrArg (AV.bool) c835) (all_cons trivial (all_cons (lenm cStr ((x0.getD i483 ⟨0, []⟩).Vars)) (all_cons (congrArg (AV.bool) c845) (all_cons (congrArg (AV.bool) c853) (all_app (ixz (f := cMonomial) (l := x0) (n := (w64 (((i483 : Nat) : Int) - 1))) ⟨0, []⟩ cMonomial_len (by decide) (by exact g857)) (all_cons Tryz.call122 (all_cons (AFn.is (ref05_order_c ((x0.getD (w64 (((i483 : Nat) : Int) - 1)).toNat ⟨0, []⟩).Vars) ((x0.getD i483 ⟨0, []⟩).Vars) y859 h860)) all_nil)))))))))) (by kernel_rfl) ?_
                    refine bsp H861 (fun c862 H863 => ?_) (fun c864 H865 => ?_)
                    · have c862p := of_decide_eq_true c862
                      refine some_e H863 fun e866 => ?_
                      subst e866
                      have H867 := aft_ret H811
                      refine some_e H867 fun e868 => ?_
                      subst e868
                      have e869 := out_ret h756
                      subst e869
                      have H870 := aft_ret H748
                      refine some_e H870 fun e871 => ?_
                      subst e871
                      exact p_ret Tryz.mo 5 [.eqT 53 (.bool true), .rg 0 [] [.v]] [] [] (all_cons (congrArg (AV.bool) c862) all_nil) (by kernel_rfl)
                    · have c864p := of_decide_eq_false c864
                      refine some_e H865 fun e872 => ?_
                      subst e872
                      exact p_bar Tryz.mo 3 [.eqT 53 (.bool false)] [.only [0, 2, 3, 4] [4]] (ref05_Valid_S3 x0 i483 ()) (all_cons (congrArg (AV.bool) c864) all_nil) (by kernel_rfl)
                  · have c855p := of_decide_eq_false c855
                    refine some_e H856 fun e873 => ?_
                    subst e873
                    exact p_bar Tryz.mo 3 [.rg 31 [.v, .v, .e (.bool false), .v, .v, .v, .e (.bool false), .v, .v, .v, .v, .e (.bool false), .v, .v, .v, .v, .e (.int .i64 ((((x0.getD i483 ⟨0, []⟩).Vars).length : Nat) : Int)), .e (.bool false), .v, .v, .v, .e (.bool false), .v, .s, .s, .s, .s, .s, .s, .s, .s] [.s, .s, .v, .v]] [.only [0, 2, 3, 4] [4]] (ref05_Valid_S3 x0 i483 ()) (all_cons (congrArg (AV.bool) c815) (all_cons (congrArg (AV.bool) c825) (all_cons (congrArg (AV.bool) c835) (all_cons trivial (all_cons (lenm cStr ((x0.getD i483 ⟨0, []⟩).Vars)) (all_cons (congrArg (AV.bool) c845) (all_cons (congrArg (AV.bool) c855) all_nil))))))) (by kernel_rfl)
        · subst e1080
          have H874 := aft_brk H811
          refine p_at Tryz.mo 3 [.rg 0 [] [.v]] [.only [0, 2, 3, 4, 5] [4]] 3 [] (ref05_Valid_S4 x0 i483 0 ()) all_nil (by kernel_rfl) ?_
          refine bnd H874 fun R991 h992 H993 => ?_
          refine p_joinO 2 (ref05_Valid_S5 x0 i483) R991 (by kernel_rfl) ?_ (fun u1072 e1073 => ?_)
          · refine p_cnt (ref05_Valid_S4 x0 i483) (by kernel_rfl) h992 (fun i939 s938 h995 e996 => ?_) (fun i939 s938 h1003 q999 h1000 h1001 => ?_)
            · have c997 : decide (((i939 : Nat) : Int) < ((((x0.getD i483 ⟨0, []⟩).Vars).length : Nat) : Int)) = false := decide_eq_false (by omega)
              subst e996
              exact p_bar Tryz.mo 5 [.rg 0 [] [.v, .v, .v, .e (.int .i64 ((((x0.getD i483 ⟨0, []⟩).Vars).length : Nat) : Int)), .e (.bool false)]] [.only [0, 2, 3] []] (ref05_Valid_S5 x0 i483 ()) (all_cons trivial (all_cons (lenm cStr ((x0.getD i483 ⟨0, []⟩).Vars)) (all_cons (congrArg (AV.bool) c997) all_nil))) (by kernel_rfl)
            · have c1002 : decide (((i939 : Nat) : Int) < ((((x0.getD i483 ⟨0, []⟩).Vars).length : Nat) : Int)) = true := decide_eq_true (by omega)
              refine bnd h1000 fun y1004 h1005 H1006 => ?_
              refine p_at Tryz.mo 8 [.rg 0 [] [.v, .v, .v, .e (.int .i64 ((((x0.getD i483 ⟨0, []⟩).Vars).length : Nat) : Int)), .e (.bool true)]] [.only [0, 2, 3, 4, 5] [4]] 8 [true] ⟨86, [(0, .dslice (x0.map cMonomial)), (2, .bool false), (3, .int .i64 ((i483 : Nat) : Int)), (4, .hptr 4 0), (5, .int .i64 ((i939 : Nat) : Int))], [(4, .cells 118 [.int .i64 ((x0.getD i483 ⟨0, []⟩).Coef), .dslice (((x0.getD i483 ⟨0, []⟩).Vars).map cStr)])]⟩ (all_cons trivial (all_cons (lenm cStr ((x0.getD i483 ⟨0, []⟩).Vars)) (all_cons (congrArg (AV.bool) c1002) all_nil))) (by kernel_rfl) ?_
              refine bnd H1006 fun v1027 h1028 H1029 => ?_
              refine p_joinO 2 (ref05_Valid_S6 x0 i483 i939) v1027 (by kernel_rfl) ?_ (fun u1030 e1071 => ?_)
              · refine bsp h1028 (fun c1031 H1032 => ?_) (fun c1033 H1034 => ?_)
                · refine bsp H1032 (fun c1035 H1036 => ?_) (fun c1037 H1038 => ?_)
                  · have c1035p := of_decide_eq_true c1035
                    refine grd_e H1036 fun g1039 H1040 => ?_
                    refine p_at Tryz.mo 1 [.rg 22 [.v, .v, .v, .e (.dptr [.str (((x0.getD i483 ⟨0, []⟩).Vars).getD i939 [])]), .v, .c true (.bool true), .v, .v, .v, .e (.bool true), .v, .v, .v, .v, .w, .e (.dptr [.str (((x0.getD i483 ⟨0, []⟩).Vars).getD (w64 (((i939 : Nat) : Int) - 1)).toNat [])]), .v, .v, .v, .v, .e (.dptr [.str (((x0.getD i483 ⟨0, []⟩).Vars).getD i939 [])]), .v] [.v, .v, .v]] [.only [0, 2, 3, 4, 5, 85] [4]] 1 [] ⟨86, [(0, .dslice (x0.map cMonomial)), (2, .bool false), (3, .int .i64 ((i483 : Nat) : Int)), (4, .hptr 4 0), (5, .int .i64 ((i939 : Nat) : Int)), (85, .bool (!(Op.bytesLess (((x0.getD i483 ⟨0, []⟩).Vars).getD (w64 (((i939 : Nat) : Int) - 1)).toNat []) (((x0.getD i483 ⟨0, []⟩).Vars).getD i939 []) || (((x0.getD i483 ⟨0, []⟩).Vars).getD (w64 (((i939 : Nat) : Int) - 1)).toNat []) == (((x0.getD i483 ⟨0, []⟩).Vars).getD i939 []))))], [(4, .cells 118 [.int .i64 ((x0.getD i483 ⟨0, []⟩).Coef), .dslice (((x0.getD i483 ⟨0, []⟩).Vars).map cStr)])]⟩ (all_app (ix (f := cStr) (l := ((x0.getD i483 ⟨0, []⟩).Vars)) (n := i939) [] cStr_len (by decide) (by omega)) (all_cons Tryz.call100 (all_cons (AFn.eq (ref04_Name_c (((x0.getD i483 ⟨0, []⟩).Vars).getD i939 []) y1004 h1005) (congrArg (AV.bool) c1031)) (all_cons trivial (all_cons (congrArg (AV.bool) c1035) (all_app (ixz (f := cStr) (l := ((x0.getD i483 ⟨0, []⟩).Vars)) (n := (w64 (((i939 : Nat) : Int) - 1))) [] cStr_len (by decide) (by exact g1039)) (all_app (ix (f := cStr) (l := ((x0.getD i483 ⟨0, []⟩).Vars)) (n := i939) [] cStr_len (by decide) (by omega)) all_nil))))))) (by kernel_rfl) ?_
                    refine bsp H1040 (fun c1041 H1042 => ?_) (fun c1043 H1044 => ?_)
                    · refine some_e H1042 fun e1045 => ?_
                      subst e1045
                      exact p_bar Tryz.mo 3 [.eqT 85 (.bool false)] [.only [0, 2, 3, 4, 5] [4]] (ref05_Valid_S6 x0 i483 i939 ()) (all_cons (congrArg (fun x => AV.bool (!x)) c1041) all_nil) (by kernel_rfl)
                    · refine some_e H1044 fun e1046 => ?_
                      subst e1046
                      have H1047 := aft_ret H1029
                      refine some_e H1047 fun e1048 => ?_
                      subst e1048
                      have e1049 := out_ret h1001
                      subst e1049
                      have H1050 := aft_ret H993
                      refine some_e H1050 fun e1051 => ?_
                      subst e1051
                      have e1052 := out_ret h756
                      subst e1052
                      have H1053 := aft_ret H748
                      refine some_e H1053 fun e1054 => ?_
                      subst e1054
                      exact p_ret Tryz.mo 5 [.eqT 85 (.bool true), .rg 0 [] [.v]] [] [] (all_cons (congrArg (fun x => AV.bool (!x)) c1043) all_nil) (by kernel_rfl)
                  · have c1037p := of_decide_eq_false c1037
                    refine some_e H1038 fun e1055 => ?_
                    subst e1055
                    exact p_bar Tryz.mo 3 [.rg 22 [.v, .v, .v, .e (.dptr [.str (((x0.getD i483 ⟨0, []⟩).Vars).getD i939 [])]), .v, .c true (.bool true), .v, .v, .v, .e (.bool false), .v, .s, .s, .s, .s, .s, .s, .s, .s, .s, .s, .s] [.s, .v, .v]] [.only [0, 2, 3, 4, 5] [4]] (ref05_Valid_S6 x0 i483 i939 ()) (all_app (ix (f := cStr) (l := ((x0.getD i483 ⟨0, []⟩).Vars)) (n := i939) [] cStr_len (by decide) (by omega)) (all_cons Tryz.call100 (all_cons (AFn.eq (ref04_Name_c (((x0.getD i483 ⟨0, []⟩).Vars).getD i939 []) y1004 h1005) (congrArg (AV.bool) c1031)) (all_cons trivial (all_cons (congrArg (AV.bool) c1037) all_nil))))) (by kernel_rfl)
                · refine some_e H1034 fun e1056 => ?_
                  subst e1056
                  have H1057 := aft_ret H1029
                  refine some_e H1057 fun e1058 => ?_
                  subst e1058
                  have e1059 := out_ret h1001
                  subst e1059
                  have H1060 := aft_ret H993
                  refine some_e H1060 fun e1061 => ?_
                  subst e1061
                  have e1062 := out_ret h756
                  subst e1062
                  have H1063 := aft_ret H748
                  refine some_e H1063 fun e1064 => ?_
                  subst e1064
                  exact p_ret Tryz.mo 5 [.rg 22 [.v, .v, .v, .e (.dptr [.str (((x0.getD i483 ⟨0, []⟩).Vars).getD i939 [])]), .v, .c true (.bool false), .v, .v, .s, .s, .s, .s, .s, .s, .s, .s, .s, .s, .s, .s, .s, .s] [.s, .s, .v], .rg 0 [] [.v]] [] [] (all_app (ix (f := cStr) (l := ((x0.getD i483 ⟨0, []⟩).Vars)) (n := i939) [] cStr_len (by decide) (by omega)) (all_cons Tryz.call100 (all_cons (AFn.eq (ref04_Name_c (((x0.getD i483 ⟨0, []⟩).Vars).getD i939 []) y1004 h1005) (congrArg (AV.bool) c1033)) (all_cons trivial all_nil)))) (by kernel_rfl)
              · subst e1071
                have H1065 := aft_brk H1029
                refine t_lensH 4 1 (ps := [(((x0.getD i483 ⟨0, []⟩).Vars).map cStr).length ≤ 9223372036854775807]) (by kernel_rfl) (fun l1068 => ?_)
                have l1069 : ((x0.getD i483 ⟨0, []⟩).Vars).length ≤ 9223372036854775807 := by simpa only [All, List.length_map] using l1068
                clear l1068
                refine some_e H1065 fun e1070 => ?_
                subst e1070
                exact p_bar Tryz.mo 1 [.rg 0 [] [.v, .v, .v]] [.only [0, 2, 3, 4, 5] [4]] (ref05_Valid_S4 x0 i483 (i939 + 1) ()) (all_cons (show I64 (((i939 : Nat) : Int) + 1) from by unfold I64; omega) all_nil) (by kernel_rfl)
          · subst e1073
            have H1074 := aft_brk H993
            refine t_lens 0 (ps := [(x0.map cMonomial).length ≤ 9223372036854775807]) (by kernel_rfl) (fun l1077 => ?_)
            have l1078 : x0.length ≤ 9223372036854775807 := by simpa only [All, List.length_map] using l1077
            clear l1077
            refine some_e H1074 fun e1079 => ?_
            subst e1079
            exact p_bar Tryz.mo 1 [.rg 0 [] [.v, .v, .v]] [.only [0, 2, 3] []] (ref05_Valid_S1 x0 (i483 + 1) ()) (all_cons (show I64 (((i483 : Nat) : Int) + 1) from by unfold I64; omega) all_nil) (by kernel_rfl)
    · subst e1082
      have H1083 := aft_brk H748
      refine some_e H1083 fun e1084 => ?_
      subst e1084
      exact p_ret Tryz.mo 3 [.rg 0 [] [.v]] [] [] all_nil (by kernel_rfl)
/-- framewise/poly.Number -/
noncomputable def poly_Number (x0 : Int) : Option ((List Monomial) × Int) :=
  (poly_newSum).bind fun y1 =>
  bif decide (x0 < (-1099511627776)) then (
    some ([], 3)
  ) else (
    bif decide (x0 > 1099511627776) then (
      some ([], 3)
    ) else (
      (poly_sum_add [] x0 1 y1.1 y1.2.1 y1.2.2).bind fun y18 =>
      (poly_sum_result y18.1 y18.2.1 y18.2.2).bind fun y21 =>
      some (y21.1, y21.2)
    )
  )
theorem poly_Number_c (x0 : Int) (r : ((List Monomial) × Int)) (H : poly_Number x0 = some r) : AFn Tryz.prog 65 [.int .i64 x0] (.tup [.dslice (r.1.map cMonomial), .int .i64 r.2]) := by
  unfold poly_Number at H
  refine acallX Tryz.func65 19 [.tmp 2, .tmp 3] (by kernel_rfl) (by kernel_rfl) ?_
  refine bnd H fun y1 h2 H3 => ?_
  refine bsp H3 (fun c8 H9 => ?_) (fun c10 H11 => ?_)
  · have c8p := of_decide_eq_true c8
    refine some_e H9 fun e12 => ?_
    subst e12
    exact p_ret Tryz.mo 11 [.rg 0 [] [.v, .v], .rg 0 [] [.hM [] [(1, 900), (2, 901), (3, 902)] (.agg [.amap 1, .amap 2, .amap 3]) [(1, .smap 9 90 (y1.1.map (mapV cL_cStr))), (2, .rmap 3 1 (rcm cInt_i64 y1.2.1)), (3, .rmap 3 1 (rcm cInt_i64 y1.2.2))], .m, .m], .rg 0 [] [.v, .e (.bool true), .v, .s, .s, .v], .rg 0 [] [.v, .v]] [.wk 2 []] [] (all_cons Tryz.call131 (all_cons (poly_newSum_c y1 h2) (all_cons (congrArg (AV.bool) c8) all_nil))) (by kernel_rfl)
  · have c10p := of_decide_eq_false c10
    refine bsp H11 (fun c13 H14 => ?_) (fun c15 H16 => ?_)
    · have c13p := of_decide_eq_true c13
      refine some_e H14 fun e17 => ?_
      subst e17
      exact p_ret Tryz.mo 12 [.rg 0 [] [.v, .v], .rg 0 [] [.hM [] [(1, 900), (2, 901), (3, 902)] (.agg [.amap 1, .amap 2, .amap 3]) [(1, .smap 9 90 (y1.1.map (mapV cL_cStr))), (2, .rmap 3 1 (rcm cInt_i64 y1.2.1)), (3, .rmap 3 1 (rcm cInt_i64 y1.2.2))], .m, .m], .rg 0 [] [.v, .e (.bool false), .v, .v, .v, .v], .eqT 11 (.bool true), .rg 0 [] [.v, .v]] [.wk 2 []] [] (all_cons Tryz.call131 (all_cons (poly_newSum_c y1 h2) (all_cons (congrArg (AV.bool) c10) (all_cons (congrArg (AV.bool) c13) all_nil)))) (by kernel_rfl)
    · have c15p := of_decide_eq_false c15
      refine bnd H16 fun y18 h19 H20 => ?_
      refine bnd H20 fun y21 h22 H23 => ?_
      refine some_e H23 fun e24 => ?_
      subst e24
      exact p_ret Tryz.mo 15 [.rg 0 [] [.v, .v], .rg 0 [] [.hM [] [(1, 900), (2, 901), (3, 902)] (.agg [.amap 1, .amap 2, .amap 3]) [(1, .smap 9 90 (y1.1.map (mapV cL_cStr))), (2, .rmap 3 1 (rcm cInt_i64 y1.2.1)), (3, .rmap 3 1 (rcm cInt_i64 y1.2.2))], .m, .m], .rg 0 [] [.v, .e (.bool false), .v, .v, .v, .v], .eqT 11 (.bool false), .rg 0 [] [.v, .v, .hR [(900, 1000), (901, 1001), (902, 1002)] 14 (.tup []) [(1000, .smap 9 90 (y18.1.map (mapV cL_cStr))), (1001, .rmap 3 1 (rcm cInt_i64 y18.2.1)), (1002, .rmap 3 1 (rcm cInt_i64 y18.2.2))]], .rg 0 [] [.v, .hR [(900, 1000), (901, 1001), (902, 1002)] 16 (.tup [.dslice (y21.1.map cMonomial), .int .i64 y21.2]) [], .v, .v, .v, .v]] [] [] (all_cons Tryz.call131 (all_cons (poly_newSum_c y1 h2) (all_cons (congrArg (AV.bool) c10) (all_cons (congrArg (AV.bool) c15) (all_cons Tryz.call132 (all_cons (ACall.es (args := [.agg [.amap 1000, .amap 1001, .amap 1002], .eslice, .int .i64 x0, .int .i64 1]) 1 (poly_sum_add_c [] x0 1 y1.1 y1.2.1 y1.2.2 y18 h19) rfl) (all_cons Tryz.call133 (all_cons (poly_sum_result_c y18.1 y18.2.1 y18.2.2 y21 h22) all_nil)))))))) (by kernel_rfl)
/-- framewise/poly.Mul -/
noncomputable def poly_Mul (x0 : (List Monomial)) (x1 : (List Monomial)) : Option ((List Monomial) × Int) :=
  (poly_Valid x0).bind fun y1 =>
  bif y1 then (
    (poly_Valid x1).bind fun y15 =>
    bif y15 then (
      (poly_mul x0 x1).bind fun y22 =>
      some (y22.1, y22.2)
    ) else (
      some ([], 1)
    )
  ) else (
    some ([], 1)
  )
theorem poly_Mul_c (x0 : (List Monomial)) (x1 : (List Monomial)) (r : ((List Monomial) × Int)) (H : poly_Mul x0 x1 = some r) : AFn Tryz.prog 56 [.dslice (x0.map cMonomial), .dslice (x1.map cMonomial)] (.tup [.dslice (r.1.map cMonomial), .int .i64 r.2]) := by
  unfold poly_Mul at H
  refine acallX Tryz.func56 19 [.tmp 4, .tmp 5] (by kernel_rfl) (by kernel_rfl) ?_
  refine bnd H fun y1 h2 H3 => ?_
  refine bsp H3 (fun c11 H12 => ?_) (fun c13 H14 => ?_)
  · refine bnd H12 fun y15 h16 H17 => ?_
    refine bsp H17 (fun c18 H19 => ?_) (fun c20 H21 => ?_)
    · refine bnd H19 fun y22 h23 H24 => ?_
      refine some_e H24 fun e25 => ?_
      subst e25
      exact p_ret Tryz.mo 11 [.rg 0 [] [.v, .v], .rg 0 [] [.v, .c true (.bool true), .v, .v, .v, .c true (.bool y15), .v, .v], .eqT 13 (.bool false), .rg 0 [] [.v, .v, .c true (.tup [.dslice (y22.1.map cMonomial), .int .i64 y22.2]), .v, .v, .v, .v]] [] [] (all_cons Tryz.call70 (all_cons (AFn.eq (poly_Valid_c x0 y1 h2) (congrArg (AV.bool) c11)) (all_cons trivial (all_cons Tryz.call70 (all_cons (AFn.is (poly_Valid_c x1 y15 h16)) (all_cons trivial (all_cons (congrArg (fun x => AV.bool (!x)) c18) (all_cons Tryz.call124 (all_cons (AFn.is (poly_mul_c x0 x1 y22 h23)) all_nil))))))))) (by kernel_rfl)
    · refine some_e H21 fun e26 => ?_
      subst e26
      exact p_ret Tryz.mo 10 [.rg 0 [] [.v, .v], .rg 0 [] [.v, .c true (.bool true), .v, .v, .v, .c true (.bool y15), .v, .v], .eqT 13 (.bool true), .rg 0 [] [.v, .v]] [.wk 4 []] [] (all_cons Tryz.call70 (all_cons (AFn.eq (poly_Valid_c x0 y1 h2) (congrArg (AV.bool) c11)) (all_cons trivial (all_cons Tryz.call70 (all_cons (AFn.is (poly_Valid_c x1 y15 h16)) (all_cons trivial (all_cons (congrArg (fun x => AV.bool (!x)) c20) all_nil))))))) (by kernel_rfl)
  · refine some_e H14 fun e27 => ?_
    subst e27
    exact p_ret Tryz.mo 9 [.rg 0 [] [.v, .v], .rg 0 [] [.v, .c true (.bool false), .v, .v, .s, .s, .s, .v], .rg 0 [] [.v, .v]] [.wk 4 []] [] (all_cons Tryz.call70 (all_cons (AFn.eq (poly_Valid_c x0 y1 h2) (congrArg (AV.bool) c13)) (all_cons trivial all_nil))) (by kernel_rfl)
/-- framewise/poly.combine$1 -/
def poly_combine_1 (x0 : Monomial) (x1 : Int) (x2 : (List (Str × (List Str)))) (x3 : (List (Str × (List Int)))) (x4 : (List (Str × (List Int)))) : Option ((List (Str × (List Str))) × (List (Str × (List Int))) × (List (Str × (List Int)))) :=
  (poly_sum_add x0.Vars x0.Coef x1 x2 x3 x4).bind fun y4 =>
  some (y4.1, y4.2.1, y4.2.2)
theorem poly_combine_1_c (x0 : Monomial) (x1 : Int) (x2 : (List (Str × (List Str)))) (x3 : (List (Str × (List Int)))) (x4 : (List (Str × (List Int)))) (r : ((List (Str × (List Str))) × (List (Str × (List Int))) × (List (Str × (List Int))))) (H : poly_combine_1 x0 x1 x2 x3 x4 = some r) : ACall Tryz.prog 202 [.agg [.int .i64 x0.Coef, .dslice (x0.Vars.map cStr)], .int .i64 x1, .hptr 1000 0] [(1000, .cells 144 [.amap 1001, .amap 1002, .amap 1003]), (1001, .smap 9 90 (x2.map (mapV cL_cStr))), (1002, .rmap 3 1 (rcm cInt_i64 x3)), (1003, .rmap 3 1 (rcm cInt_i64 x4))] (fun r2 h2 => r2 = (.tup []) ∧ h2 = [(1000, .cells 144 [.amap 1001, .amap 1002, .amap 1003]), (1001, .smap 9 90 (r.1.map (mapV cL_cStr))), (1002, .rmap 3 1 (rcm cInt_i64 r.2.1)), (1003, .rmap 3 1 (rcm cInt_i64 r.2.2))]) := by
  unfold poly_combine_1 at H
  refine acallX Tryz.func202 12 [] (by kernel_rfl) (by kernel_rfl) ?_
  refine bnd H fun y4 h5 H6 => ?_
  refine some_e H6 fun e7 => ?_
  subst e7
  exact p_ret Tryz.mo 3 [.rg 0 [] [.m], .rg 0 [] [.v, .v, .v, .v, .v, .v, .hR [(1001, 1000), (1002, 1001), (1003, 1002)] 11 (.tup []) [(1000, .smap 9 90 (y4.1.map (mapV cL_cStr))), (1001, .rmap 3 1 (rcm cInt_i64 y4.2.1)), (1002, .rmap 3 1 (rcm cInt_i64 y4.2.2))]]] [] [1000, 1001, 1002, 1003] (all_cons Tryz.call132 (all_cons (poly_sum_add_c x0.Vars x0.Coef x1 x2 x3 x4 y4 h5) all_nil)) (by kernel_rfl)
/-- framewise/poly.pairs[framewise/api.Monomial,int] -/
def poly_pairs_int (x0 : (List Monomial)) (x1 : (List Int)) (x2 : (List (Str × (List Str)))) (x3 : (List (Str × (List Int)))) (x4 : (List (Str × (List Int)))) : Option ((List (Str × (List Str))) × (List (Str × (List Int))) × (List (Str × (List Int)))) :=
  (cnt (σ := ((List (Str × (List Str))) × (List (Str × (List Int))) × (List (Str × (List Int))))) (ε := ((List (Str × (List Str))) × (List (Str × (List Int))) × (List (Str × (List Int))))) (ρ := ((List (Str × (List Str))) × (List (Str × (List Int))) × (List (Str × (List Int))))) (fun i303 s302 =>
    (cnt (σ := ((List (Str × (List Str))) × (List (Str × (List Int))) × (List (Str × (List Int))))) (ε := ((List (Str × (List Str))) × (List (Str × (List Int))) × (List (Str × (List Int))))) (ρ := Empty) (fun i341 s340 =>
      (poly_combine_1 (Monomial.mk ((x0.getD i303 ⟨0, []⟩).Coef) ((x0.getD i303 ⟨0, []⟩).Vars)) (x1.getD i341 0) s340.1 s340.2.1 s340.2.2).bind fun y366 =>
      some (.go (y366.1, y366.2.1, y366.2.2))
    ) (fun i341 s340 => (s340.1, s340.2.1, s340.2.2)) (x1.length - 0) 0 (s302.1, s302.2.1, s302.2.2)).bind <| aftE fun u374 =>
    some (.go (u374.1, u374.2.1, u374.2.2))
  ) (fun i303 s302 => (s302.1, s302.2.1, s302.2.2)) (x0.length - 0) 0 (x2, x3, x4)).bind <| aft some
def poly_pairs_int_S1 (x0 : (List Monomial)) (x1 : (List Int)) (i303 : Nat) (s302 : ((List (Str × (List Str))) × (List (Str × (List Int))) × (List (Str × (List Int))))) : AS := ⟨28, [(1, .dslice (x1.map cInt_i64)), (2, .fn 202 [.hptr 1000 0]), (10, .dslice (x0.map cMonomial)), (11, .int .i64 ((x0.length : Nat) : Int)), (12, .int .i64 ((i303 : Nat) : Int))], [(1000, .cells 144 [.amap 1001, .amap 1002, .amap 1003]), (1001, .smap 9 90 (s302.1.map (mapV cL_cStr))), (1002, .rmap 3 1 (rcm cInt_i64 s302.2.1)), (1003, .rmap 3 1 (rcm cInt_i64 s302.2.2))]⟩
def poly_pairs_int_S2 (x0 : (List Monomial)) (x1 : (List Int)) (i303 : Nat) (i341 : Nat) (s340 : ((List (Str × (List Str))) × (List (Str × (List Int))) × (List (Str × (List Int))))) : AS := ⟨28, [(1, .dslice (x1.map cInt_i64)), (2, .fn 202 [.hptr 1000 0]), (7, .hptr 7 0), (10, .dslice (x0.map cMonomial)), (11, .int .i64 ((x0.length : Nat) : Int)), (12, .int .i64 ((i303 : Nat) : Int)), (16, .dslice (x1.map cInt_i64)), (17, .int .i64 ((x1.length : Nat) : Int)), (18, .int .i64 ((i341 : Nat) : Int))], [(7, .cells 118 [.int .i64 ((x0.getD i303 ⟨0, []⟩).Coef), .dslice (((x0.getD i303 ⟨0, []⟩).Vars).map cStr)]), (1000, .cells 144 [.amap 1001, .amap 1002, .amap 1003]), (1001, .smap 9 90 (s340.1.map (mapV cL_cStr))), (1002, .rmap 3 1 (rcm cInt_i64 s340.2.1)), (1003, .rmap 3 1 (rcm cInt_i64 s340.2.2))]⟩
def poly_pairs_int_S3 (x0 : (List Monomial)) (x1 : (List Int)) (i303 : Nat) (u356 : ((List (Str × (List Str))) × (List (Str × (List Int))) × (List (Str × (List Int))))) : AS := ⟨28, [(1, .dslice (x1.map cInt_i64)), (2, .fn 202 [.hptr 1000 0]), (10, .dslice (x0.map cMonomial)), (11, .int .i64 ((x0.length : Nat) : Int)), (12, .int .i64 ((i303 : Nat) : Int))], [(1000, .cells 144 [.amap 1001, .amap 1002, .amap 1003]), (1001, .smap 9 90 (u356.1.map (mapV cL_cStr))), (1002, .rmap 3 1 (rcm cInt_i64 u356.2.1)), (1003, .rmap 3 1 (rcm cInt_i64 u356.2.2))]⟩
theorem poly_pairs_int_c (x0 : (List Monomial)) (x1 : (List Int)) (x2 : (List (Str × (List Str)))) (x3 : (List (Str × (List Int)))) (x4 : (List (Str × (List Int)))) (r : ((List (Str × (List Str))) × (List (Str × (List Int))) × (List (Str × (List Int))))) (H : poly_pairs_int x0 x1 x2 x3 x4 = some r) : ACall Tryz.prog 201 [.dslice (x0.map cMonomial), .dslice (x1.map cInt_i64), .fn 202 [.hptr 1000 0]] [(1000, .cells 144 [.amap 1001, .amap 1002, .amap 1003]), (1001, .smap 9 90 (x2.map (mapV cL_cStr))), (1002, .rmap 3 1 (rcm cInt_i64 x3)), (1003, .rmap 3 1 (rcm cInt_i64 x4))] (fun r2 h2 => r2 = (.tup []) ∧ h2 = [(1000, .cells 144 [.amap 1001, .amap 1002, .amap 1003]), (1001, .smap 9 90 (r.1.map (mapV cL_cStr))), (1002, .rmap 3 1 (rcm cInt_i64 r.2.1)), (1003, .rmap 3 1 (rcm cInt_i64 r.2.2))]) := by
  unfold poly_pairs_int at H
  refine acallX Tryz.func201 28 [] (by kernel_rfl) (by kernel_rfl) ?_
  refine p_at Tryz.mo 3 [.rg 0 [] [.v, .e (.int .i64 ((x0.length : Nat) : Int)), .v]] [.only [1, 2, 10, 11, 12] [1000, 1001, 1002, 1003]] 3 [] (poly_pairs_int_S1 x0 x1 0 (x2, x3, x4)) (all_cons trivial (all_cons (lenm cMonomial x0) all_nil)) (by kernel_rfl) ?_
  refine bnd H fun R304 h305 H306 => ?_
  refine p_cnt (poly_pairs_int_S1 x0 x1) (by kernel_rfl) h305 (fun i303 s302 h307 e308 => ?_) (fun i303 s302 h317 q313 h314 h315 => ?_)
  · have c309 : decide (((i303 : Nat) : Int) < ((x0.length : Nat) : Int)) = false := decide_eq_false (by omega)
    subst e308
    have H311 := aft_brk H306
    refine some_e H311 fun e312 => ?_
    subst e312
    exact p_ret Tryz.mo 5 [.rg 0 [] [.e (.bool false)]] [] [1000, 1001, 1002, 1003] (all_cons (congrArg (AV.bool) c309) all_nil) (by kernel_rfl)
  · have c316 : decide (((i303 : Nat) : Int) < ((x0.length : Nat) : Int)) = true := decide_eq_true (by omega)
    refine p_at Tryz.mo 12 [.rg 0 [] [.e (.bool true)], .rg 0 [] [.e (.dptr [.int .i64 ((x0.getD i303 ⟨0, []⟩).Coef), .dslice (((x0.getD i303 ⟨0, []⟩).Vars).map cStr)]), .v, .m, .m], .rg 0 [] [.v, .e (.int .i64 ((x1.length : Nat) : Int)), .v]] [.only [1, 2, 7, 10, 11, 12, 16, 17, 18] [7, 1000, 1001, 1002, 1003]] 12 [true] (poly_pairs_int_S2 x0 x1 i303 0 (s302.1, s302.2.1, s302.2.2)) (all_cons (congrArg (AV.bool) c316) (all_app (ix (f := cMonomial) (l := x0) (n := i303) ⟨0, []⟩ cMonomial_len (by decide) (by omega)) (all_cons trivial (all_cons (lenm cInt_i64 x1) all_nil)))) (by kernel_rfl) ?_
    refine bnd h314 fun R353 h354 H355 => ?_
    refine p_joinO 2 (poly_pairs_int_S3 x0 x1 i303) R353 (by kernel_rfl) ?_ (fun u374 e375 => ?_)
    · refine p_cnt (poly_pairs_int_S2 x0 x1 i303) (by kernel_rfl) h354 (fun i341 s340 h357 e358 => ?_) (fun i341 s340 h365 q361 h362 h363 => ?_)
      · have c359 : decide (((i341 : Nat) : Int) < ((x1.length : Nat) : Int)) = false := decide_eq_false (by omega)
        subst e358
        exact p_bar Tryz.mo 5 [.rg 0 [] [.e (.bool false)]] [.only [1, 2, 10, 11, 12] [1000, 1001, 1002, 1003]] (poly_pairs_int_S3 x0 x1 i303 (s340.1, s340.2.1, s340.2.2)) (all_cons (congrArg (AV.bool) c359) all_nil) (by kernel_rfl)
      · have c364 : decide (((i341 : Nat) : Int) < ((x1.length : Nat) : Int)) = true := decide_eq_true (by omega)
        refine bnd h362 fun y366 h367 H368 => ?_
        refine t_lens 1 (ps := [(x1.map cInt_i64).length ≤ 9223372036854775807]) (by kernel_rfl) (fun l371 => ?_)
        have l372 : x1.length ≤ 9223372036854775807 := by simpa only [All, List.length_map] using l371
        clear l371
        refine some_e H368 fun e373 => ?_
        subst e373
        exact p_bar Tryz.mo 11 [.rg 0 [] [.e (.bool true)], .rg 0 [] [.e (.dptr [.int .i64 (x1.getD i341 0)]), .v, .v], .rg 0 [] [.v, .v, .v, .hR [(1000, 1000), (1001, 1001), (1002, 1002), (1003, 1003)] 25 (.tup []) [(1000, .cells 144 [.amap 1001, .amap 1002, .amap 1003]), (1001, .smap 9 90 (y366.1.map (mapV cL_cStr))), (1002, .rmap 3 1 (rcm cInt_i64 y366.2.1)), (1003, .rmap 3 1 (rcm cInt_i64 y366.2.2))]], .rg 0 [] [.v, .v]] [.only [1, 2, 7, 10, 11, 12, 16, 17, 18] [7, 1000, 1001, 1002, 1003]] (poly_pairs_int_S2 x0 x1 i303 (i341 + 1) (y366.1, y366.2.1, y366.2.2)) (all_cons (congrArg (AV.bool) c364) (all_app (ix (f := cInt_i64) (l := x1) (n := i341) 0 cInt_i64_len (by decide) (by omega)) (all_cons Tryz.call202 (all_cons (poly_combine_1_c (Monomial.mk ((x0.getD i303 ⟨0, []⟩).Coef) ((x0.getD i303 ⟨0, []⟩).Vars)) (x1.getD i341 0) s340.1 s340.2.1 s340.2.2 y366 h367) (all_cons (show I64 (((i341 : Nat) : Int) + 1) from by unfold I64; omega) all_nil))))) (by kernel_rfl)
    · subst e375
      have H376 := aftE_brk H355
      refine t_lens 10 (ps := [(x0.map cMonomial).length ≤ 9223372036854775807]) (by kernel_rfl) (fun l379 => ?_)
      have l380 : x0.length ≤ 9223372036854775807 := by simpa only [All, List.length_map] using l379
      clear l379
      refine some_e H376 fun e381 => ?_
      subst e381
      exact p_bar Tryz.mo 1 [.rg 0 [] [.v, .v]] [.only [1, 2, 10, 11, 12] [1000, 1001, 1002, 1003]] (poly_pairs_int_S1 x0 x1 (i303 + 1) (u374.1, u374.2.1, u374.2.2)) (all_cons (show I64 (((i303 : Nat) : Int) + 1) from by unfold I64; omega) all_nil) (by kernel_rfl)
/-- framewise/poly.combine -/
noncomputable def poly_combine (x0 : (List (List Monomial))) (x1 : (List Int)) : Option ((List Monomial) × Int) :=
  (poly_newSum).bind fun y1 =>
  (cnt (σ := ((List (Str × (List Str))) × (List (Str × (List Int))) × (List (Str × (List Int))))) (ε := ((List (Str × (List Str))) × (List (Str × (List Int))) × (List (Str × (List Int))))) (ρ := ((List Monomial) × Int)) (fun i45 s44 =>
    (poly_Valid (x0.getD i45 [])).bind fun y79 =>
    bif y79 then (
      grd (i45 ≤ (i45 + 1) ∧ (i45 + 1) ≤ x1.length) <|
      (poly_pairs_int (x0.getD i45 []) ((x1.drop i45).take ((i45 + 1) - i45)) s44.1 s44.2.1 s44.2.2).bind fun y92 =>
      some (.go (y92.1, y92.2.1, y92.2.2))
    ) else (
      some (.ret ([], 1))
    )
  ) (fun i45 s44 => (s44.1, s44.2.1, s44.2.2)) (x0.length - 0) 0 (y1.1, y1.2.1, y1.2.2)).bind <| aft fun u100 =>
  (poly_sum_result u100.1 u100.2.1 u100.2.2).bind fun y103 =>
  some (y103.1, y103.2)
def poly_combine_S1 (x0 : (List (List Monomial))) (x1 : (List Int)) (i45 : Nat) (s44 : ((List (Str × (List Str))) × (List (Str × (List Int))) × (List (Str × (List Int))))) : AS := ⟨33, [(1, .dslice (x1.map cInt_i64)), (4, .eslice), (5, .int .i64 0), (6, .hptr 6 0), (10, .dslice (x0.map cL_cMonomial)), (11, .int .i64 ((x0.length : Nat) : Int)), (12, .int .i64 ((i45 : Nat) : Int))], [(6, .cells 144 [.amap 900, .amap 901, .amap 902]), (900, .smap 9 90 (s44.1.map (mapV cL_cStr))), (901, .rmap 3 1 (rcm cInt_i64 s44.2.1)), (902, .rmap 3 1 (rcm cInt_i64 s44.2.2))]⟩
def poly_combine_S2 (u69 : ((List (Str × (List Str))) × (List (Str × (List Int))) × (List (Str × (List Int))))) : AS := ⟨33, [(4, .eslice), (5, .int .i64 0), (6, .hptr 6 0)], [(6, .cells 144 [.amap 900, .amap 901, .amap 902]), (900, .smap 9 90 (u69.1.map (mapV cL_cStr))), (901, .rmap 3 1 (rcm cInt_i64 u69.2.1)), (902, .rmap 3 1 (rcm cInt_i64 u69.2.2))]⟩
theorem poly_combine_c (x0 : (List (List Monomial))) (x1 : (List Int)) (r : ((List Monomial) × Int)) (H : poly_combine x0 x1 = some r) : AFn Tryz.prog 125 [.dslice (x0.map cL_cMonomial), .dslice (x1.map cInt_i64)] (.tup [.dslice (r.1.map cMonomial), .int .i64 r.2]) := by
  unfold poly_combine at H
  refine acallX Tryz.func125 33 [.tmp 4, .tmp 5] (by kernel_rfl) (by kernel_rfl) ?_
  refine bnd H fun y1 h2 H3 => ?_
  refine p_at Tryz.mo 8 [.rg 0 [] [.v, .v], .rg 0 [] [.hM [] [(1, 900), (2, 901), (3, 902)] (.agg [.amap 1, .amap 2, .amap 3]) [(1, .smap 9 90 (y1.1.map (mapV cL_cStr))), (2, .rmap 3 1 (rcm cInt_i64 y1.2.1)), (3, .rmap 3 1 (rcm cInt_i64 y1.2.2))], .m, .m], .rg 0 [] [.v, .e (.int .i64 ((x0.length : Nat) : Int)), .v]] [.only [1, 4, 5, 6, 10, 11, 12] [6, 900, 901, 902]] 8 [] (poly_combine_S1 x0 x1 0 (y1.1, y1.2.1, y1.2.2)) (all_cons Tryz.call131 (all_cons (poly_newSum_c y1 h2) (all_cons trivial (all_cons (lenm cL_cMonomial x0) all_nil)))) (by kernel_rfl) ?_
  refine bnd H3 fun R66 h67 H68 => ?_
  refine p_joinO 1 (poly_combine_S2) R66 (by kernel_rfl) ?_ (fun u100 e101 => ?_)
  · refine p_cnt (poly_combine_S1 x0 x1) (by kernel_rfl) h67 (fun i45 s44 h70 e71 => ?_) (fun i45 s44 h78 q74 h75 h76 => ?_)
    · have c72 : decide (((i45 : Nat) : Int) < ((x0.length : Nat) : Int)) = false := decide_eq_false (by omega)
      subst e71
      exact p_bar Tryz.mo 5 [.rg 0 [] [.e (.bool false)]] [.only [4, 5, 6] [6, 900, 901, 902]] (poly_combine_S2 (s44.1, s44.2.1, s44.2.2)) (all_cons (congrArg (AV.bool) c72) all_nil) (by kernel_rfl)
    · have c77 : decide (((i45 : Nat) : Int) < ((x0.length : Nat) : Int)) = true := decide_eq_true (by omega)
      refine bnd h75 fun y79 h80 H81 => ?_
      refine bsp H81 (fun c82 H83 => ?_) (fun c84 H85 => ?_)
      · refine t_lens 10 (ps := [(x0.map cL_cMonomial).length ≤ 9223372036854775807]) (by kernel_rfl) (fun l88 => ?_)
        have l89 : x0.length ≤ 9223372036854775807 := by simpa only [All, List.length_map] using l88
        clear l88
        refine grd_e H83 fun g90 H91 => ?_
        refine bnd H91 fun y92 h93 H94 => ?_
        refine some_e H94 fun e95 => ?_
        subst e95
        exact p_bar Tryz.mo 17 [.rg 0 [] [.e (.bool true)], .rg 0 [] [.v, .e (.dptr [.dslice ((x0.getD i45 []).map cMonomial)]), .v, .v, .v], .rg 0 [] [.v, .c true (.bool y79), .v], .eqT 19 (.bool false), .rg 0 [] [.v, .v, .v, .v, .v, .e (.dslice (((x1.drop i45).take ((i45 + 1) - i45)).map cInt_i64)), .v, .hR [(6, 1000), (900, 1001), (901, 1002), (902, 1003)] 27 (.tup []) [(1000, .cells 144 [.amap 1001, .amap 1002, .amap 1003]), (1001, .smap 9 90 (y92.1.map (mapV cL_cStr))), (1002, .rmap 3 1 (rcm cInt_i64 y92.2.1)), (1003, .rmap 3 1 (rcm cInt_i64 y92.2.2))]], .rg 0 [] [.v, .v]] [.only [1, 4, 5, 6, 10, 11, 12] [6, 900, 901, 902]] (poly_combine_S1 x0 x1 (i45 + 1) (y92.1, y92.2.1, y92.2.2)) (all_cons (congrArg (AV.bool) c77) (all_app (ix (f := cL_cMonomial) (l := x0) (n := i45) [] cL_cMonomial_len (by decide) (by omega)) (all_cons Tryz.call70 (all_cons (AFn.is (poly_Valid_c (x0.getD i45 []) y79 h80)) (all_cons trivial (all_cons (congrArg (fun x => AV.bool (!x)) c82) (all_cons (show I64 (((i45 : Nat) : Int) + 1) from by unfold I64; omega) (all_cons (show ((0 : Int) ≤ ((i45 : Nat) : Int) ∧ ((i45 : Nat) : Int) ≤ (((i45 + 1) : Nat) : Int) ∧ (((i45 + 1) : Nat) : Int) ≤ ((x1.map cInt_i64).length : Int)) ∧ UL 1 (x1.map cInt_i64) from ⟨by first | omega | (simp only [List.length_map]; omega), UL.map cInt_i64_len _⟩) (all_cons (slm_mid cInt_i64 x1 i45 (i45 + 1)) (all_cons Tryz.call201 (all_cons (poly_pairs_int_c (x0.getD i45 []) ((x1.drop i45).take ((i45 + 1) - i45)) s44.1 s44.2.1 s44.2.2 y92 h93) (all_cons (show I64 (((i45 : Nat) : Int) + 1) from by unfold I64; omega) all_nil)))))))))))) (by kernel_rfl)
      · refine some_e H85 fun e96 => ?_
        subst e96
        have e97 := out_ret h76
        subst e97
        have H98 := aft_ret H68
        refine some_e H98 fun e99 => ?_
        subst e99
        exact p_ret Tryz.mo 17 [.rg 0 [] [.e (.bool true)], .rg 0 [] [.v, .e (.dptr [.dslice ((x0.getD i45 []).map cMonomial)]), .v, .v, .v], .rg 0 [] [.v, .c true (.bool y79), .v], .eqT 19 (.bool true), .rg 0 [] [.v, .v]] [.wk 4 []] [] (all_cons (congrArg (AV.bool) c77) (all_app (ix (f := cL_cMonomial) (l := x0) (n := i45) [] cL_cMonomial_len (by decide) (by omega)) (all_cons Tryz.call70 (all_cons (AFn.is (poly_Valid_c (x0.getD i45 []) y79 h80)) (all_cons trivial (all_cons (congrArg (fun x => AV.bool (!x)) c84) all_nil)))))) (by kernel_rfl)
  · subst e101
    have H102 := aft_brk H68
    refine bnd H102 fun y103 h104 H105 => ?_
    refine some_e H105 fun e106 => ?_
    subst e106
    exact p_ret Tryz.mo 3 [.rg 0 [] [.v, .hR [(900, 1000), (901, 1001), (902, 1002)] 30 (.tup [.dslice (y103.1.map cMonomial), .int .i64 y103.2]) [], .v, .v, .v, .v]] [] [] (all_cons Tryz.call133 (all_cons (poly_sum_result_c u100.1 u100.2.1 u100.2.2 y103 h104) all_nil)) (by kernel_rfl)
/-- framewise/poly.Add -/
noncomputable def poly_Add (x0 : (List Monomial)) (x1 : (List Monomial)) : Option ((List Monomial) × Int) :=
  (poly_combine [x0, x1] [1, 1]).bind fun y1 =>
  some (y1.1, y1.2)
theorem poly_Add_c (x0 : (List Monomial)) (x1 : (List Monomial)) (r : ((List Monomial) × Int)) (H : poly_Add x0 x1 = some r) : AFn Tryz.prog 58 [.dslice (x0.map cMonomial), .dslice (x1.map cMonomial)] (.tup [.dslice (r.1.map cMonomial), .int .i64 r.2]) := by
  unfold poly_Add at H
  refine acallX Tryz.func58 13 [.tmp 4, .tmp 5] (by kernel_rfl) (by kernel_rfl) ?_
  refine bnd H fun y1 h2 H3 => ?_
  refine some_e H3 fun e4 => ?_
  subst e4
  exact p_ret Tryz.mo 5 [.rg 0 [] [.v, .v], .rg 0 [] [.v, .v, .b, .b, .c true (.tup [.dslice (y1.1.map cMonomial), .int .i64 y1.2]), .v, .v, .v, .v]] [] [] (all_cons Tryz.call125 (all_cons (AFn.is (poly_combine_c [x0, x1] [1, 1] y1 h2)) all_nil)) (by kernel_rfl)
/-- framewise/framewiseref01.SameTexts -/
def ref01_SameTexts (x0 : (List Str)) (x1 : (List Str)) : Option Bool :=
  bif (((x0.length : Nat) : Int) == ((x1.length : Nat) : Int)) then (
    (cnt (σ := Unit) (ε := Unit) (ρ := Bool) (fun i31 s30 =>
      grd (i31 < x1.length) <|
      bif ((x0.getD i31 []) == (x1.getD i31 [])) then (
        some (.go ())
      ) else (
        some (.ret false)
      )
    ) (fun i31 s30 => ()) (x0.length - 0) 0 ()).bind <| aft fun u74 =>
    some true
  ) else (
    some false
  )
def ref01_SameTexts_S1 (x0 : (List Str)) (x1 : (List Str)) (i31 : Nat) (s30 : Unit) : AS := ⟨26, [(0, .dslice (x0.map cStr)), (1, .dslice (x1.map cStr)), (4, .bool false), (5, .int .i64 ((i31 : Nat) : Int))], []⟩
def ref01_SameTexts_S2 (u49 : Unit) : AS := ⟨26, [(4, .bool false)], []⟩
theorem ref01_SameTexts_c (x0 : (List Str)) (x1 : (List Str)) (r : Bool) (H : ref01_SameTexts x0 x1 = some r) : AFn Tryz.prog 71 [.dslice (x0.map cStr), .dslice (x1.map cStr)] (.bool r) := by
  unfold ref01_SameTexts at H
  refine acallX Tryz.func71 26 [.tmp 4] (by kernel_rfl) (by kernel_rfl) ?_
  refine bsp H (fun c1 H2 => ?_) (fun c3 H4 => ?_)
  · refine p_at Tryz.mo 12 [.rg 0 [] [.v], .rg 0 [] [.v, .e (.int .i64 ((x0.length : Nat) : Int)), .v, .e (.int .i64 ((x1.length : Nat) : Int)), .v], .eqT 10 (.bool false), .rg 0 [] [.v]] [.only [0, 1, 4, 5] []] 11 [false] (ref01_SameTexts_S1 x0 x1 0 ()) (all_cons trivial (all_cons (lenm cStr x0) (all_cons trivial (all_cons (lenm cStr x1) (all_cons (congrArg (fun x => AV.bool (!x)) c1) all_nil))))) (by kernel_rfl) ?_
    refine bnd H2 fun R46 h47 H48 => ?_
    refine p_joinO 1 (ref01_SameTexts_S2) R46 (by kernel_rfl) ?_ (fun u74 e75 => ?_)
    · refine p_cnt (ref01_SameTexts_S1 x0 x1) (by kernel_rfl) h47 (fun i31 s30 h50 e51 => ?_) (fun i31 s30 h58 q54 h55 h56 => ?_)
      · have c52 : decide (((i31 : Nat) : Int) < ((x0.length : Nat) : Int)) = false := decide_eq_false (by omega)
        subst e51
        exact p_bar Tryz.mo 5 [.rg 0 [] [.v, .v, .e (.int .i64 ((x0.length : Nat) : Int)), .e (.bool false)]] [.only [4] []] (ref01_SameTexts_S2 ()) (all_cons trivial (all_cons (lenm cStr x0) (all_cons (congrArg (AV.bool) c52) all_nil))) (by kernel_rfl)
      · have c57 : decide (((i31 : Nat) : Int) < ((x0.length : Nat) : Int)) = true := decide_eq_true (by omega)
        refine grd_e h55 fun g59 H60 => ?_
        refine p_at Tryz.mo 9 [.rg 0 [] [.v, .v, .e (.int .i64 ((x0.length : Nat) : Int)), .e (.bool true)], .rg 8 [.v, .v, .e (.dptr [.str (x0.getD i31 [])]), .v, .v, .v, .e (.dptr [.str (x1.getD i31 [])]), .v] [.v]] [.only [0, 1, 4, 5, 25] []] 9 [true] ⟨26, [(0, .dslice (x0.map cStr)), (1, .dslice (x1.map cStr)), (4, .bool false), (5, .int .i64 ((i31 : Nat) : Int)), (25, .bool (!((x0.getD i31 []) == (x1.getD i31 []))))], []⟩ (all_cons trivial (all_cons (lenm cStr x0) (all_cons (congrArg (AV.bool) c57) (all_app (ix (f := cStr) (l := x0) (n := i31) [] cStr_len (by decide) (by omega)) (all_app (ix (f := cStr) (l := x1) (n := i31) [] cStr_len (by decide) (by omega)) all_nil))))) (by kernel_rfl) ?_
        refine bsp H60 (fun c61 H62 => ?_) (fun c63 H64 => ?_)
        · refine t_lens 0 (ps := [(x0.map cStr).length ≤ 9223372036854775807]) (by kernel_rfl) (fun l67 => ?_)
          have l68 : x0.length ≤ 9223372036854775807 := by simpa only [All, List.length_map] using l67
          clear l67
          refine some_e H62 fun e69 => ?_
          subst e69
          exact p_bar Tryz.mo 4 [.eqT 25 (.bool false), .rg 0 [] [.v, .v, .v]] [.only [0, 1, 4, 5] []] (ref01_SameTexts_S1 x0 x1 (i31 + 1) ()) (all_cons (congrArg (fun x => AV.bool (!x)) c61) (all_cons (show I64 (((i31 : Nat) : Int) + 1) from by unfold I64; omega) all_nil)) (by kernel_rfl)
        · refine some_e H64 fun e70 => ?_
          subst e70
          have e71 := out_ret h56
          subst e71
          have H72 := aft_ret H48
          refine some_e H72 fun e73 => ?_
          subst e73
          exact p_ret Tryz.mo 5 [.eqT 25 (.bool true), .rg 0 [] [.v]] [] [] (all_cons (congrArg (fun x => AV.bool (!x)) c63) all_nil) (by kernel_rfl)
    · subst e75
      have H76 := aft_brk H48
      refine some_e H76 fun e77 => ?_
      subst e77
      exact p_ret Tryz.mo 3 [.rg 0 [] [.v]] [] [] all_nil (by kernel_rfl)
  · refine some_e H4 fun e78 => ?_
    subst e78
    exact p_ret Tryz.mo 10 [.rg 0 [] [.v], .rg 0 [] [.v, .e (.int .i64 ((x0.length : Nat) : Int)), .v, .e (.int .i64 ((x1.length : Nat) : Int)), .v], .eqT 10 (.bool true), .rg 0 [] [.v]] [] [] (all_cons trivial (all_cons (lenm cStr x0) (all_cons trivial (all_cons (lenm cStr x1) (all_cons (congrArg (fun x => AV.bool (!x)) c3) all_nil))))) (by kernel_rfl)
/-- framewise/framewiseref05.Equal -/
def ref05_Equal (x0 : (List Monomial)) (x1 : (List Monomial)) : Option Bool :=
  bif (((x0.length : Nat) : Int) == ((x1.length : Nat) : Int)) then (
    (cnt (σ := Unit) (ε := Unit) (ρ := Bool) (fun i59 s58 =>
      grd (i59 < x1.length) <|
      bif (((x0.getD i59 ⟨0, []⟩).Coef) == ((x1.getD i59 ⟨0, []⟩).Coef)) then (
        (ref01_SameTexts ((x0.getD i59 ⟨0, []⟩).Vars) ((x1.getD i59 ⟨0, []⟩).Vars)).bind fun y114 =>
        bif y114 then (
          some (.go ())
        ) else (
          some (.ret false)
        )
      ) else (
        some (.ret false)
      )
    ) (fun i59 s58 => ()) (x0.length - 0) 0 ()).bind <| aft fun u134 =>
    some true
  ) else (
    some false
  )
def ref05_Equal_S1 (x0 : (List Monomial)) (x1 : (List Monomial)) (i59 : Nat) (s58 : Unit) : AS := ⟨42, [(0, .dslice (x0.map cMonomial)), (1, .dslice (x1.map cMonomial)), (4, .bool false), (5, .int .i64 ((i59 : Nat) : Int))], []⟩
def ref05_Equal_S2 (u91 : Unit) : AS := ⟨42, [(4, .bool false)], []⟩
theorem ref05_Equal_c (x0 : (List Monomial)) (x1 : (List Monomial)) (r : Bool) (H : ref05_Equal x0 x1 = some r) : AFn Tryz.prog 53 [.dslice (x0.map cMonomial), .dslice (x1.map cMonomial)] (.bool r) := by
  unfold ref05_Equal at H
  refine acallX Tryz.func53 42 [.tmp 4] (by kernel_rfl) (by kernel_rfl) ?_
  refine bsp H (fun c1 H2 => ?_) (fun c3 H4 => ?_)
  · refine p_at Tryz.mo 12 [.rg 0 [] [.v], .rg 0 [] [.v, .e (.int .i64 ((x0.length : Nat) : Int)), .v, .e (.int .i64 ((x1.length : Nat) : Int)), .v], .eqT 10 (.bool false), .rg 0 [] [.v]] [.only [0, 1, 4, 5] []] 11 [false] (ref05_Equal_S1 x0 x1 0 ()) (all_cons trivial (all_cons (lenm cMonomial x0) (all_cons trivial (all_cons (lenm cMonomial x1) (all_cons (congrArg (fun x => AV.bool (!x)) c1) all_nil))))) (by kernel_rfl) ?_
    refine bnd H2 fun R88 h89 H90 => ?_
    refine p_joinO 1 (ref05_Equal_S2) R88 (by kernel_rfl) ?_ (fun u134 e135 => ?_)
    · refine p_cnt (ref05_Equal_S1 x0 x1) (by kernel_rfl) h89 (fun i59 s58 h92 e93 => ?_) (fun i59 s58 h100 q96 h97 h98 => ?_)
      · have c94 : decide (((i59 : Nat) : Int) < ((x0.length : Nat) : Int)) = false := decide_eq_false (by omega)
        subst e93
        exact p_bar Tryz.mo 5 [.rg 0 [] [.v, .v, .e (.int .i64 ((x0.length : Nat) : Int)), .e (.bool false)]] [.only [4] []] (ref05_Equal_S2 ()) (all_cons trivial (all_cons (lenm cMonomial x0) (all_cons (congrArg (AV.bool) c94) all_nil))) (by kernel_rfl)
      · have c99 : decide (((i59 : Nat) : Int) < ((x0.length : Nat) : Int)) = true := decide_eq_true (by omega)
        refine grd_e h97 fun g101 H102 => ?_
        refine bsp H102 (fun c110 H111 => ?_) (fun c112 H113 => ?_)
        · refine bnd H111 fun y114 h115 H116 => ?_
          refine p_at Tryz.mo 9 [.rg 0 [] [.v, .v, .e (.int .i64 ((x0.length : Nat) : Int)), .e (.bool true)], .rg 22 [.v, .v, .e (.dptr [.int .i64 ((x0.getD i59 ⟨0, []⟩).Coef), .dslice (((x0.getD i59 ⟨0, []⟩).Vars).map cStr)]), .v, .v, .v, .v, .e (.dptr [.int .i64 ((x1.getD i59 ⟨0, []⟩).Coef), .dslice (((x1.getD i59 ⟨0, []⟩).Vars).map cStr)]), .v, .v, .e (.bool false), .v, .v, .v, .e (.dptr [.int .i64 ((x0.getD i59 ⟨0, []⟩).Coef), .dslice (((x0.getD i59 ⟨0, []⟩).Vars).map cStr)]), .v, .v, .v, .v, .e (.dptr [.int .i64 ((x1.getD i59 ⟨0, []⟩).Coef), .dslice (((x1.getD i59 ⟨0, []⟩).Vars).map cStr)]), .v, .v] [.c true (.bool y114), .v, .v]] [.only [0, 1, 4, 5, 41] []] 9 [true] ⟨42, [(0, .dslice (x0.map cMonomial)), (1, .dslice (x1.map cMonomial)), (4, .bool false), (5, .int .i64 ((i59 : Nat) : Int)), (41, .bool (!y114))], []⟩ (all_cons trivial (all_cons (lenm cMonomial x0) (all_cons (congrArg (AV.bool) c99) (all_app (ix (f := cMonomial) (l := x0) (n := i59) ⟨0, []⟩ cMonomial_len (by decide) (by omega)) (all_app (ix (f := cMonomial) (l := x1) (n := i59) ⟨0, []⟩ cMonomial_len (by decide) (by omega)) (all_cons (congrArg (fun x => AV.bool (!x)) c110) (all_app (ix (f := cMonomial) (l := x0) (n := i59) ⟨0, []⟩ cMonomial_len (by decide) (by omega)) (all_app (ix (f := cMonomial) (l := x1) (n := i59) ⟨0, []⟩ cMonomial_len (by decide) (by omega)) (all_cons Tryz.call71 (all_cons (AFn.is (ref01_SameTexts_c ((x0.getD i59 ⟨0, []⟩).Vars) ((x1.getD i59 ⟨0, []⟩).Vars) y114 h115)) (all_cons trivial all_nil))))))))))) (by kernel_rfl) ?_
          refine bsp H116 (fun c117 H118 => ?_) (fun c119 H120 => ?_)
          · refine t_lens 0 (ps := [(x0.map cMonomial).length ≤ 9223372036854775807]) (by kernel_rfl) (fun l123 => ?_)
            have l124 : x0.length ≤ 9223372036854775807 := by simpa only [All, List.length_map] using l123
            clear l123
            refine some_e H118 fun e125 => ?_
            subst e125
            exact p_bar Tryz.mo 4 [.eqT 41 (.bool false), .rg 0 [] [.v, .v, .v]] [.only [0, 1, 4, 5] []] (ref05_Equal_S1 x0 x1 (i59 + 1) ()) (all_cons (congrArg (fun x => AV.bool (!x)) c117) (all_cons (show I64 (((i59 : Nat) : Int) + 1) from by unfold I64; omega) all_nil)) (by kernel_rfl)
          · refine some_e H120 fun e126 => ?_
            subst e126
            have e127 := out_ret h98
            subst e127
            have H128 := aft_ret H90
            refine some_e H128 fun e129 => ?_
            subst e129
            exact p_ret Tryz.mo 5 [.eqT 41 (.bool true), .rg 0 [] [.v]] [] [] (all_cons (congrArg (fun x => AV.bool (!x)) c119) all_nil) (by kernel_rfl)
        · refine some_e H113 fun e130 => ?_
          subst e130
          have e131 := out_ret h98
          subst e131
          have H132 := aft_ret H90
          refine some_e H132 fun e133 => ?_
          subst e133
          exact p_ret Tryz.mo 13 [.rg 0 [] [.v, .v, .e (.int .i64 ((x0.length : Nat) : Int)), .e (.bool true)], .rg 22 [.v, .v, .e (.dptr [.int .i64 ((x0.getD i59 ⟨0, []⟩).Coef), .dslice (((x0.getD i59 ⟨0, []⟩).Vars).map cStr)]), .v, .v, .v, .v, .e (.dptr [.int .i64 ((x1.getD i59 ⟨0, []⟩).Coef), .dslice (((x1.getD i59 ⟨0, []⟩).Vars).map cStr)]), .v, .v, .e (.bool true), .v, .s, .s, .s, .s, .s, .s, .s, .s, .s, .s] [.s, .s, .v], .rg 0 [] [.v]] [] [] (all_cons trivial (all_cons (lenm cMonomial x0) (all_cons (congrArg (AV.bool) c99) (all_app (ix (f := cMonomial) (l := x0) (n := i59) ⟨0, []⟩ cMonomial_len (by decide) (by omega)) (all_app (ix (f := cMonomial) (l := x1) (n := i59) ⟨0, []⟩ cMonomial_len (by decide) (by omega)) (all_cons (congrArg (fun x => AV.bool (!x)) c112) all_nil)))))) (by kernel_rfl)
    · subst e135
      have H136 := aft_brk H90
      refine some_e H136 fun e137 => ?_
      subst e137
      exact p_ret Tryz.mo 3 [.rg 0 [] [.v]] [] [] all_nil (by kernel_rfl)
  · refine some_e H4 fun e138 => ?_
    subst e138
    exact p_ret Tryz.mo 10 [.rg 0 [] [.v], .rg 0 [] [.v, .e (.int .i64 ((x0.length : Nat) : Int)), .v, .e (.int .i64 ((x1.length : Nat) : Int)), .v], .eqT 10 (.bool true), .rg 0 [] [.v]] [] [] (all_cons trivial (all_cons (lenm cMonomial x0) (all_cons trivial (all_cons (lenm cMonomial x1) (all_cons (congrArg (fun x => AV.bool (!x)) c3) all_nil))))) (by kernel_rfl)
/-- framewise/framewiselaw05.PolyRing -/
noncomputable def law05_PolyRing (x0 : ((List Monomial) × (List Monomial) × (List Monomial))) : Option Bool :=
  (law05_awake).bind fun y1 =>
  bif y1 then (
    (ref05_Few x0.1 5).bind fun y8 =>
    bif y8 then (
      (ref05_Few x0.2.1 5).bind fun y50 =>
      bif y50 then (
        (ref05_Few x0.2.2 5).bind fun y85 =>
        bif y85 then (
          (ref05_Valid x0.1).bind fun y113 =>
          bif y113 then (
            (ref05_Valid x0.2.1).bind fun y134 =>
            bif y134 then (
              (ref05_Valid x0.2.2).bind fun y148 =>
              bif y148 then (
                (poly_Number 1).bind fun y155 =>
                (poly_Number 0).bind fun y158 =>
                (poly_Mul x0.1 y155.1).bind fun y161 =>
                (poly_Add x0.1 y158.1).bind fun y164 =>
                bif (y155.2 == 0) then (
                  bif (y158.2 == 0) then (
                    bif (y161.2 == 0) then (
                      bif (y164.2 == 0) then (
                        (ref05_Equal y161.1 x0.1).bind fun y263 =>
                        bif y263 then (
                          (ref05_Equal y164.1 x0.1).bind fun y277 =>
                          bif y277 then (
                            (poly_Mul x0.1 x0.2.1).bind fun y284 =>
                            (poly_Mul x0.2.1 x0.1).bind fun y287 =>
                            (poly_Mul x0.2.1 x0.2.2).bind fun y290 =>
                            (poly_Add x0.2.1 x0.2.2).bind fun y293 =>
                            (poly_Add x0.2.2 x0.2.1).bind fun y296 =>
                            bif (y284.2 == y287.2) then (
                              (ref05_Equal y284.1 y287.1).bind fun y321 =>
                              bif y321 then (
                                bif (y293.2 == y296.2) then (
                                  (ref05_Equal y293.1 y296.1).bind fun y350 =>
                                  bif y350 then (
                                    (poly_Mul y284.1 x0.2.2).bind fun y357 =>
                                    (poly_Mul x0.1 y290.1).bind fun y360 =>
                                    ((
                                      bif (y284.2 == 0) then (
                                        bif (y290.2 == 0) then (
                                          bif (y357.2 == y360.2) then (
                                            (ref05_Equal y357.1 y360.1).bind fun y409 =>
                                            bif y409 then (
                                              some (.brk ())
                                            ) else (
                                              some (.ret false)
                                            )
                                          ) else (
                                            some (.ret false)
                                          )
                                        ) else (
                                          some (.brk ())
                                        )
                                      ) else (
                                        some (.brk ())
                                      )
                                    ) : Option (Out Unit Bool)).bind (aft fun u396 =>
                                      (poly_Mul x0.1 x0.2.2).bind fun y426 =>
                                      (poly_Mul x0.1 y293.1).bind fun y429 =>
                                      (poly_Add y284.1 y426.1).bind fun y432 =>
                                      bif (y284.2 == 0) then (
                                        bif (y426.2 == 0) then (
                                          bif (y293.2 == 0) then (
                                            bif (y429.2 == y432.2) then (
                                              (ref05_Equal y429.1 y432.1).bind fun y487 =>
                                              some y487
                                            ) else (
                                              some false
                                            )
                                          ) else (
                                            some true
                                          )
                                        ) else (
                                          some true
                                        )
                                      ) else (
                                        some true
                                      )
                                    )
                                  ) else (
                                    some false
                                  )
                                ) else (
                                  some false
                                )
                              ) else (
                                some false
                              )
                            ) else (
                              some false
                            )
                          ) else (
                            some false
                          )
                        ) else (
                          some false
                        )
                      ) else (
                        some false
                      )
                    ) else (
                      some false
                    )
                  ) else (
                    some false
                  )
                ) else (
                  some false
                )
              ) else (
                some true
              )
            ) else (
              some true
            )
          ) else (
            some true
          )
        ) else (
          some true
        )
      ) else (
        some true
      )
    ) else (
      some true
    )
  ) else (
    some false
  )
def law05_PolyRing_S1 (x0 : ((List Monomial) × (List Monomial) × (List Monomial))) (y284 : ((List Monomial) × Int)) (y293 : ((List Monomial) × Int)) (u396 : Unit) : AS := ⟨227, [(2, .bool false), (3, .dslice (x0.1.map cMonomial)), (5, .dslice (x0.2.2.map cMonomial)), (7, .int .i64 y284.2), (13, .int .i64 y293.2), (14, .dslice (y284.1.map cMonomial)), (17, .dslice (y293.1.map cMonomial))], []⟩
theorem law05_PolyRing_c (x0 : ((List Monomial) × (List Monomial) × (List Monomial))) (r : Bool) (H : law05_PolyRing x0 = some r) : AFn Tryz.prog 12 [.agg [.dslice (x0.1.map cMonomial), .dslice (x0.2.1.map cMonomial), .dslice (x0.2.2.map cMonomial)]] (.bool r) := by
  unfold law05_PolyRing at H
  refine acallX Tryz.func12 227 [.tmp 2] (by kernel_rfl) (by kernel_rfl) ?_
  refine bnd H fun y1 h2 H3 => ?_
  refine bsp H3 (fun c4 H5 => ?_) (fun c6 H7 => ?_)
  · refine bnd H5 fun y8 h9 H10 => ?_
    refine bsp H10 (fun c46 H47 => ?_) (fun c48 H49 => ?_)
    · refine bnd H47 fun y50 h51 H52 => ?_
      refine bsp H52 (fun c81 H82 => ?_) (fun c83 H84 => ?_)
      · refine bnd H82 fun y85 h86 H87 => ?_
        refine bsp H87 (fun c109 H110 => ?_) (fun c111 H112 => ?_)
        · refine bnd H110 fun y113 h114 H115 => ?_
          refine bsp H115 (fun c130 H131 => ?_) (fun c132 H133 => ?_)
          · refine bnd H131 fun y134 h135 H136 => ?_
            refine bsp H136 (fun c144 H145 => ?_) (fun c146 H147 => ?_)
            · refine bnd H145 fun y148 h149 H150 => ?_
              refine p_at Tryz.mo 13 [.rg 0 [] [.m, .v], .rg 0 [] [.c true (.bool y1), .v], .eqT 29 (.bool false), .rg 8 [.v, .v, .v, .v, .v, .v, .v, .v] [.v], .rg 0 [] [.v, .c true (.bool true), .v, .v, .v, .c true (.bool true), .v, .v, .v, .v, .c true (.bool true), .v, .v, .v, .v, .c true (.bool true), .v, .v, .v, .v, .c true (.bool true), .v, .v, .v, .v, .c true (.bool y148), .v, .v]] [.only [2, 3, 4, 5, 63] []] 12 [false] ⟨227, [(2, .bool false), (3, .dslice (x0.1.map cMonomial)), (4, .dslice (x0.2.1.map cMonomial)), (5, .dslice (x0.2.2.map cMonomial)), (63, .bool (!y148))], []⟩ (all_cons Tryz.call45 (all_cons (AFn.is (law05_awake_c y1 h2)) (all_cons trivial (all_cons (congrArg (fun x => AV.bool (!x)) c4) (all_cons trivial (all_cons trivial (all_cons trivial (all_cons Tryz.call46 (all_cons (AFn.eq (ref05_Few_c x0.1 5 y8 h9) (congrArg (AV.bool) c46)) (all_cons trivial (all_cons Tryz.call46 (all_cons (AFn.eq (ref05_Few_c x0.2.1 5 y50 h51) (congrArg (AV.bool) c81)) (all_cons trivial (all_cons Tryz.call46 (all_cons (AFn.eq (ref05_Few_c x0.2.2 5 y85 h86) (congrArg (AV.bool) c109)) (all_cons trivial (all_cons Tryz.call52 (all_cons (AFn.eq (ref05_Valid_c x0.1 y113 h114) (congrArg (AV.bool) c130)) (all_cons trivial (all_cons Tryz.call52 (all_cons (AFn.eq (ref05_Valid_c x0.2.1 y134 h135) (congrArg (AV.bool) c144)) (all_cons trivial (all_cons Tryz.call52 (all_cons (AFn.is (ref05_Valid_c x0.2.2 y148 h149)) (all_cons trivial all_nil))))))))))))))))))))))))) (by kernel_rfl) ?_
              refine bsp H150 (fun c151 H152 => ?_) (fun c153 H154 => ?_)
              · refine bnd H152 fun y155 h156 H157 => ?_
                refine bnd H157 fun y158 h159 H160 => ?_
                refine bnd H160 fun y161 h162 H163 => ?_
                refine bnd H163 fun y164 h165 H166 => ?_
                refine p_at Tryz.mo 13 [.eqT 63 (.bool false), .rg 0 [] [.c true (.tup [.dslice (y155.1.map cMonomial), .int .i64 y155.2]), .v, .v, .v, .v, .v], .rg 0 [] [.c true (.tup [.dslice (y158.1.map cMonomial), .int .i64 y158.2]), .v, .v, .v, .v, .v], .rg 0 [] [.v, .v, .c true (.tup [.dslice (y161.1.map cMonomial), .int .i64 y161.2]), .v, .v, .v, .v, .v], .rg 0 [] [.v, .v, .c true (.tup [.dslice (y164.1.map cMonomial), .int .i64 y164.2]), .v, .v, .v, .v, .v]] [.only [2, 3, 4, 5, 7, 9, 10, 11, 12, 13] []] 12 [false] ⟨227, [(2, .bool false), (3, .dslice (x0.1.map cMonomial)), (4, .dslice (x0.2.1.map cMonomial)), (5, .dslice (x0.2.2.map cMonomial)), (7, .int .i64 y155.2), (9, .int .i64 y158.2), (10, .dslice (y161.1.map cMonomial)), (11, .int .i64 y161.2), (12, .dslice (y164.1.map cMonomial)), (13, .int .i64 y164.2)], []⟩ (all_cons (congrArg (fun x => AV.bool (!x)) c151) (all_cons Tryz.call65 (all_cons (AFn.is (poly_Number_c 1 y155 h156)) (all_cons Tryz.call65 (all_cons (AFn.is (poly_Number_c 0 y158 h159)) (all_cons Tryz.call56 (all_cons (AFn.is (poly_Mul_c x0.1 y155.1 y161 h162)) (all_cons Tryz.call58 (all_cons (AFn.is (poly_Add_c x0.1 y158.1 y164 h165)) all_nil))))))))) (by kernel_rfl) ?_
                refine bsp H166 (fun c193 H194 => ?_) (fun c195 H196 => ?_)
                · refine bsp H194 (fun c219 H220 => ?_) (fun c221 H222 => ?_)
                  · refine bsp H220 (fun c241 H242 => ?_) (fun c243 H244 => ?_)
                    · refine bsp H242 (fun c259 H260 => ?_) (fun c261 H262 => ?_)
                      · refine bnd H260 fun y263 h264 H265 => ?_
                        refine bsp H265 (fun c273 H274 => ?_) (fun c275 H276 => ?_)
                        · refine bnd H274 fun y277 h278 H279 => ?_
                          refine p_at Tryz.mo 1 [.rg 0 [] [.v, .e (.bool false), .v, .v, .e (.bool false), .v, .v, .v, .e (.bool false), .v, .v, .v, .e (.bool false), .v, .v, .v, .v, .c true (.bool true), .v, .v, .v, .v, .v, .c true (.bool y277), .v, .v]] [.only [2, 3, 4, 5, 109] []] 1 [] ⟨227, [(2, .bool false), (3, .dslice (x0.1.map cMonomial)), (4, .dslice (x0.2.1.map cMonomial)), (5, .dslice (x0.2.2.map cMonomial)), (109, .bool (!y277))], []⟩ (all_cons (congrArg (fun x => AV.bool (!x)) c193) (all_cons (congrArg (fun x => AV.bool (!x)) c219) (all_cons (congrArg (fun x => AV.bool (!x)) c241) (all_cons (congrArg (fun x => AV.bool (!x)) c259) (all_cons Tryz.call53 (all_cons (AFn.eq (ref05_Equal_c y161.1 x0.1 y263 h264) (congrArg (AV.bool) c273)) (all_cons trivial (all_cons Tryz.call53 (all_cons (AFn.is (ref05_Equal_c y164.1 x0.1 y277 h278)) (all_cons trivial all_nil)))))))))) (by kernel_rfl) ?_
                          refine bsp H279 (fun c280 H281 => ?_) (fun c282 H283 => ?_)
                          · refine bnd H281 fun y284 h285 H286 => ?_
                            refine bnd H286 fun y287 h288 H289 => ?_
                            refine bnd H289 fun y290 h291 H292 => ?_
                            refine bnd H292 fun y293 h294 H295 => ?_
                            refine bnd H295 fun y296 h297 H298 => ?_
                            refine p_at Tryz.mo 15 [.eqT 109 (.bool false), .rg 0 [] [.v, .v, .c true (.tup [.dslice (y284.1.map cMonomial), .int .i64 y284.2]), .v, .v, .v, .v, .v], .rg 0 [] [.v, .v, .c true (.tup [.dslice (y287.1.map cMonomial), .int .i64 y287.2]), .v, .v, .v, .v, .v], .rg 0 [] [.v, .v, .c true (.tup [.dslice (y290.1.map cMonomial), .int .i64 y290.2]), .v, .v, .v, .v, .v], .rg 0 [] [.v, .v, .c true (.tup [.dslice (y293.1.map cMonomial), .int .i64 y293.2]), .v, .v, .v, .v, .v], .rg 0 [] [.v, .v, .c true (.tup [.dslice (y296.1.map cMonomial), .int .i64 y296.2]), .v, .v, .v, .v, .v]] [.only [2, 3, 5, 7, 9, 11, 13, 14, 15, 16, 17, 18, 19] []] 14 [false] ⟨227, [(2, .bool false), (3, .dslice (x0.1.map cMonomial)), (5, .dslice (x0.2.2.map cMonomial)), (7, .int .i64 y284.2), (9, .int .i64 y287.2), (11, .int .i64 y290.2), (13, .int .i64 y293.2), (14, .dslice (y284.1.map cMonomial)), (15, .dslice (y287.1.map cMonomial)), (16, .dslice (y290.1.map cMonomial)), (17, .dslice (y293.1.map cMonomial)), (18, .dslice (y296.1.map cMonomial)), (19, .int .i64 y296.2)], []⟩ (all_cons (congrArg (fun x => AV.bool (!x)) c280) (all_cons Tryz.call56 (all_cons (AFn.is (poly_Mul_c x0.1 x0.2.1 y284 h285)) (all_cons Tryz.call56 (all_cons (AFn.is (poly_Mul_c x0.2.1 x0.1 y287 h288)) (all_cons Tryz.call56 (all_cons (AFn.is (poly_Mul_c x0.2.1 x0.2.2 y290 h291)) (all_cons Tryz.call58 (all_cons (AFn.is (poly_Add_c x0.2.1 x0.2.2 y293 h294)) (all_cons Tryz.call58 (all_cons (AFn.is (poly_Add_c x0.2.2 x0.2.1 y296 h297)) all_nil))))))))))) (by kernel_rfl) ?_
                            refine bsp H298 (fun c317 H318 => ?_) (fun c319 H320 => ?_)
                            · refine bnd H318 fun y321 h322 H323 => ?_
                              refine bsp H323 (fun c335 H336 => ?_) (fun c337 H338 => ?_)
                              · refine bsp H336 (fun c346 H347 => ?_) (fun c348 H349 => ?_)
                                · refine bnd H347 fun y350 h351 H352 => ?_
                                  refine p_at Tryz.mo 1 [.rg 0 [] [.v, .v, .e (.bool false), .v, .v, .v, .c true (.bool true), .v, .v, .v, .v, .v, .e (.bool false), .v, .v, .v, .v, .c true (.bool y350), .v, .v]] [.only [2, 3, 5, 7, 11, 13, 14, 16, 17, 159] []] 1 [] ⟨227, [(2, .bool false), (3, .dslice (x0.1.map cMonomial)), (5, .dslice (x0.2.2.map cMonomial)), (7, .int .i64 y284.2), (11, .int .i64 y290.2), (13, .int .i64 y293.2), (14, .dslice (y284.1.map cMonomial)), (16, .dslice (y290.1.map cMonomial)), (17, .dslice (y293.1.map cMonomial)), (159, .bool (!y350))], []⟩ (all_cons (congrArg (fun x => AV.bool (!x)) c317) (all_cons Tryz.call53 (all_cons (AFn.eq (ref05_Equal_c y284.1 y287.1 y321 h322) (congrArg (AV.bool) c335)) (all_cons trivial (all_cons (congrArg (fun x => AV.bool (!x)) c346) (all_cons Tryz.call53 (all_cons (AFn.is (ref05_Equal_c y293.1 y296.1 y350 h351)) (all_cons trivial all_nil)))))))) (by kernel_rfl) ?_
                                  refine bsp H352 (fun c353 H354 => ?_) (fun c355 H356 => ?_)
                                  · refine bnd H354 fun y357 h358 H359 => ?_
                                    refine bnd H359 fun y360 h361 H362 => ?_
                                    refine p_at Tryz.mo 9 [.eqT 159 (.bool false), .rg 0 [] [.v, .v, .c true (.tup [.dslice (y357.1.map cMonomial), .int .i64 y357.2]), .v, .v, .v, .v, .v], .rg 0 [] [.v, .v, .c true (.tup [.dslice (y360.1.map cMonomial), .int .i64 y360.2]), .v, .v, .v, .v, .v]] [.only [2, 3, 5, 7, 10, 11, 12, 13, 14, 17, 20, 21] []] 8 [false] ⟨227, [(2, .bool false), (3, .dslice (x0.1.map cMonomial)), (5, .dslice (x0.2.2.map cMonomial)), (7, .int .i64 y284.2), (10, .dslice (y357.1.map cMonomial)), (11, .int .i64 y290.2), (12, .dslice (y360.1.map cMonomial)), (13, .int .i64 y293.2), (14, .dslice (y284.1.map cMonomial)), (17, .dslice (y293.1.map cMonomial)), (20, .int .i64 y357.2), (21, .int .i64 y360.2)], []⟩ (all_cons (congrArg (fun x => AV.bool (!x)) c353) (all_cons Tryz.call56 (all_cons (AFn.is (poly_Mul_c y284.1 x0.2.2 y357 h358)) (all_cons Tryz.call56 (all_cons (AFn.is (poly_Mul_c x0.1 y290.1 y360 h361)) all_nil))))) (by kernel_rfl) ?_
                                    refine bnd H362 fun v393 h394 H395 => ?_
                                    refine p_joinO 1 (law05_PolyRing_S1 x0 y284 y293) v393 (by kernel_rfl) ?_ (fun u396 e495 => ?_)
                                    · refine bsp h394 (fun c397 H398 => ?_) (fun c399 H400 => ?_)
                                      · refine bsp H398 (fun c401 H402 => ?_) (fun c403 H404 => ?_)
                                        · refine bsp H402 (fun c405 H406 => ?_) (fun c407 H408 => ?_)
                                          · refine bnd H406 fun y409 h410 H411 => ?_
                                            refine bsp H411 (fun c412 H413 => ?_) (fun c414 H415 => ?_)
                                            · refine some_e H413 fun e416 => ?_
                                              subst e416
                                              exact p_bar Tryz.mo 4 [.rg 0 [] [.v, .e (.bool true), .v, .v, .e (.bool true), .v, .v, .v, .v, .e (.bool false), .v, .v, .v, .c true (.bool y409), .v, .v, .v], .eqT 188 (.bool false)] [.only [2, 3, 5, 7, 13, 14, 17] []] (law05_PolyRing_S1 x0 y284 y293 ()) (all_cons (congrArg (AV.bool) c397) (all_cons (congrArg (AV.bool) c401) (all_cons (congrArg (fun x => AV.bool (!x)) c405) (all_cons Tryz.call53 (all_cons (AFn.is (ref05_Equal_c y357.1 y360.1 y409 h410)) (all_cons trivial (all_cons (congrArg (fun x => AV.bool (!x)) c412) all_nil))))))) (by kernel_rfl)
                                            · refine some_e H415 fun e417 => ?_
                                              subst e417
                                              have H418 := aft_ret H395
                                              refine some_e H418 fun e419 => ?_
                                              subst e419
                                              exact p_ret Tryz.mo 6 [.rg 0 [] [.v, .e (.bool true), .v, .v, .e (.bool true), .v, .v, .v, .v, .e (.bool false), .v, .v, .v, .c true (.bool y409), .v, .v, .v], .eqT 188 (.bool true), .rg 0 [] [.v]] [] [] (all_cons (congrArg (AV.bool) c397) (all_cons (congrArg (AV.bool) c401) (all_cons (congrArg (fun x => AV.bool (!x)) c405) (all_cons Tryz.call53 (all_cons (AFn.is (ref05_Equal_c y357.1 y360.1 y409 h410)) (all_cons trivial (all_cons (congrArg (fun x => AV.bool (!x)) c414) all_nil))))))) (by kernel_rfl)
                                          · refine some_e H408 fun e420 => ?_
                                            subst e420
                                            have H421 := aft_ret H395
                                            refine some_e H421 fun e422 => ?_
                                            subst e422
                                            exact p_ret Tryz.mo 5 [.rg 0 [] [.v, .e (.bool true), .v, .v, .e (.bool true), .v, .v, .v, .v, .e (.bool true), .v, .s, .s, .s, .s, .v, .v], .rg 0 [] [.v]] [] [] (all_cons (congrArg (AV.bool) c397) (all_cons (congrArg (AV.bool) c401) (all_cons (congrArg (fun x => AV.bool (!x)) c407) all_nil))) (by kernel_rfl)
                                        · refine some_e H404 fun e423 => ?_
                                          subst e423
                                          exact p_bar Tryz.mo 3 [.rg 0 [] [.v, .e (.bool true), .v, .v, .e (.bool false), .v, .v, .s, .s, .s, .s, .s, .s, .s, .s, .s, .v]] [.only [2, 3, 5, 7, 13, 14, 17] []] (law05_PolyRing_S1 x0 y284 y293 ()) (all_cons (congrArg (AV.bool) c397) (all_cons (congrArg (AV.bool) c403) all_nil)) (by kernel_rfl)
                                      · refine some_e H400 fun e424 => ?_
                                        subst e424
                                        exact p_bar Tryz.mo 3 [.rg 0 [] [.v, .e (.bool false), .v, .s, .s, .v, .v, .s, .s, .s, .s, .s, .s, .s, .s, .s, .v]] [.only [2, 3, 5, 7, 13, 14, 17] []] (law05_PolyRing_S1 x0 y284 y293 ()) (all_cons (congrArg (AV.bool) c399) all_nil) (by kernel_rfl)
                                    · subst e495
                                      have H425 := aft_brk H395
                                      refine bnd H425 fun y426 h427 H428 => ?_
                                      refine bnd H428 fun y429 h430 H431 => ?_
                                      refine bnd H431 fun y432 h433 H434 => ?_
                                      refine p_at Tryz.mo 7 [.rg 0 [] [.v, .v, .c true (.tup [.dslice (y426.1.map cMonomial), .int .i64 y426.2]), .v, .v, .v, .v, .v], .rg 0 [] [.v, .v, .c true (.tup [.dslice (y429.1.map cMonomial), .int .i64 y429.2]), .v, .v, .v, .v, .v], .rg 0 [] [.v, .v, .c true (.tup [.dslice (y432.1.map cMonomial), .int .i64 y432.2]), .v, .v, .v, .v, .v]] [.only [2, 7, 13, 23, 24, 25, 26, 27] []] 7 [] ⟨227, [(2, .bool false), (7, .int .i64 y284.2), (13, .int .i64 y293.2), (23, .int .i64 y426.2), (24, .dslice (y429.1.map cMonomial)), (25, .int .i64 y429.2), (26, .dslice (y432.1.map cMonomial)), (27, .int .i64 y432.2)], []⟩ (all_cons Tryz.call56 (all_cons (AFn.is (poly_Mul_c x0.1 x0.2.2 y426 h427)) (all_cons Tryz.call56 (all_cons (AFn.is (poly_Mul_c x0.1 y293.1 y429 h430)) (all_cons Tryz.call58 (all_cons (AFn.is (poly_Add_c y284.1 y426.1 y432 h433)) all_nil)))))) (by kernel_rfl) ?_
                                      refine bsp H434 (fun c450 H451 => ?_) (fun c452 H453 => ?_)
                                      · refine bsp H451 (fun c465 H466 => ?_) (fun c467 H468 => ?_)
                                        · refine bsp H466 (fun c476 H477 => ?_) (fun c478 H479 => ?_)
                                          · refine bsp H477 (fun c483 H484 => ?_) (fun c485 H486 => ?_)
                                            · refine bnd H484 fun y487 h488 H489 => ?_
                                              refine some_e H489 fun e490 => ?_
                                              subst e490
                                              exact p_ret Tryz.mo 2 [.rg 0 [] [.v, .e (.bool false), .v, .v, .e (.bool false), .v, .v, .v, .e (.bool false), .v, .v, .v, .v, .e (.bool true), .v, .v, .v, .c true (.bool y487), .v, .v, .v]] [] [] (all_cons (congrArg (fun x => AV.bool (!x)) c450) (all_cons (congrArg (fun x => AV.bool (!x)) c465) (all_cons (congrArg (fun x => AV.bool (!x)) c476) (all_cons (congrArg (AV.bool) c483) (all_cons Tryz.call53 (all_cons (AFn.is (ref05_Equal_c y429.1 y432.1 y487 h488)) all_nil)))))) (by kernel_rfl)
                                            · refine some_e H486 fun e491 => ?_
                                              subst e491
                                              exact p_ret Tryz.mo 2 [.rg 0 [] [.v, .e (.bool false), .v, .v, .e (.bool false), .v, .v, .v, .e (.bool false), .v, .v, .v, .v, .e (.bool false), .v, .s, .s, .s, .v, .v, .v]] [] [] (all_cons (congrArg (fun x => AV.bool (!x)) c450) (all_cons (congrArg (fun x => AV.bool (!x)) c465) (all_cons (congrArg (fun x => AV.bool (!x)) c476) (all_cons (congrArg (AV.bool) c485) all_nil)))) (by kernel_rfl)
                                          · refine some_e H479 fun e492 => ?_
                                            subst e492
                                            exact p_ret Tryz.mo 2 [.rg 0 [] [.v, .e (.bool false), .v, .v, .e (.bool false), .v, .v, .v, .e (.bool true), .v, .v, .s, .s, .s, .s, .s, .s, .s, .s, .v, .v]] [] [] (all_cons (congrArg (fun x => AV.bool (!x)) c450) (all_cons (congrArg (fun x => AV.bool (!x)) c465) (all_cons (congrArg (fun x => AV.bool (!x)) c478) all_nil))) (by kernel_rfl)
                                        · refine some_e H468 fun e493 => ?_
                                          subst e493
                                          exact p_ret Tryz.mo 2 [.rg 0 [] [.v, .e (.bool false), .v, .v, .e (.bool true), .v, .v, .s, .s, .v, .v, .s, .s, .s, .s, .s, .s, .s, .s, .v, .v]] [] [] (all_cons (congrArg (fun x => AV.bool (!x)) c450) (all_cons (congrArg (fun x => AV.bool (!x)) c467) all_nil)) (by kernel_rfl)
                                      · refine some_e H453 fun e494 => ?_
                                        subst e494
                                        exact p_ret Tryz.mo 2 [.rg 0 [] [.v, .e (.bool true), .v, .s, .s, .v, .v, .s, .s, .v, .v, .s, .s, .s, .s, .s, .s, .s, .s, .v, .v]] [] [] (all_cons (congrArg (fun x => AV.bool (!x)) c452) all_nil) (by kernel_rfl)
                                  · refine some_e H356 fun e496 => ?_
                                    subst e496
                                    exact p_ret Tryz.mo 5 [.eqT 159 (.bool true), .rg 0 [] [.v]] [] [] (all_cons (congrArg (fun x => AV.bool (!x)) c355) all_nil) (by kernel_rfl)
                                · refine some_e H349 fun e497 => ?_
                                  subst e497
                                  exact p_ret Tryz.mo 5 [.rg 0 [] [.v, .v, .e (.bool false), .v, .v, .v, .c true (.bool true), .v, .v, .v, .v, .v, .e (.bool true), .v, .v, .s, .s, .s, .s, .v], .rg 0 [] [.v]] [] [] (all_cons (congrArg (fun x => AV.bool (!x)) c317) (all_cons Tryz.call53 (all_cons (AFn.eq (ref05_Equal_c y284.1 y287.1 y321 h322) (congrArg (AV.bool) c335)) (all_cons trivial (all_cons (congrArg (fun x => AV.bool (!x)) c348) all_nil))))) (by kernel_rfl)
                              · refine some_e H338 fun e498 => ?_
                                subst e498
                                exact p_ret Tryz.mo 5 [.rg 0 [] [.v, .v, .e (.bool false), .v, .v, .v, .c true (.bool false), .v, .v, .v, .s, .s, .s, .v, .v, .s, .s, .s, .s, .v], .rg 0 [] [.v]] [] [] (all_cons (congrArg (fun x => AV.bool (!x)) c317) (all_cons Tryz.call53 (all_cons (AFn.eq (ref05_Equal_c y284.1 y287.1 y321 h322) (congrArg (AV.bool) c337)) (all_cons trivial all_nil)))) (by kernel_rfl)
                            · refine some_e H320 fun e499 => ?_
                              subst e499
                              exact p_ret Tryz.mo 5 [.rg 0 [] [.v, .v, .e (.bool true), .v, .s, .s, .s, .s, .v, .v, .s, .s, .s, .v, .v, .s, .s, .s, .s, .v], .rg 0 [] [.v]] [] [] (all_cons (congrArg (fun x => AV.bool (!x)) c319) all_nil) (by kernel_rfl)
                          · refine some_e H283 fun e500 => ?_
                            subst e500
                            exact p_ret Tryz.mo 5 [.eqT 109 (.bool true), .rg 0 [] [.v]] [] [] (all_cons (congrArg (fun x => AV.bool (!x)) c282) all_nil) (by kernel_rfl)
                        · refine some_e H276 fun e501 => ?_
                          subst e501
                          exact p_ret Tryz.mo 5 [.rg 0 [] [.v, .e (.bool false), .v, .v, .e (.bool false), .v, .v, .v, .e (.bool false), .v, .v, .v, .e (.bool false), .v, .v, .v, .v, .c true (.bool false), .v, .v, .v, .s, .s, .s, .s, .v], .rg 0 [] [.v]] [] [] (all_cons (congrArg (fun x => AV.bool (!x)) c193) (all_cons (congrArg (fun x => AV.bool (!x)) c219) (all_cons (congrArg (fun x => AV.bool (!x)) c241) (all_cons (congrArg (fun x => AV.bool (!x)) c259) (all_cons Tryz.call53 (all_cons (AFn.eq (ref05_Equal_c y161.1 x0.1 y263 h264) (congrArg (AV.bool) c275)) (all_cons trivial all_nil))))))) (by kernel_rfl)
                      · refine some_e H262 fun e502 => ?_
                        subst e502
                        exact p_ret Tryz.mo 5 [.rg 0 [] [.v, .e (.bool false), .v, .v, .e (.bool false), .v, .v, .v, .e (.bool false), .v, .v, .v, .e (.bool true), .v, .v, .s, .s, .s, .s, .v, .v, .s, .s, .s, .s, .v], .rg 0 [] [.v]] [] [] (all_cons (congrArg (fun x => AV.bool (!x)) c193) (all_cons (congrArg (fun x => AV.bool (!x)) c219) (all_cons (congrArg (fun x => AV.bool (!x)) c241) (all_cons (congrArg (fun x => AV.bool (!x)) c261) all_nil)))) (by kernel_rfl)
                    · refine some_e H244 fun e503 => ?_
                      subst e503
                      exact p_ret Tryz.mo 5 [.rg 0 [] [.v, .e (.bool false), .v, .v, .e (.bool false), .v, .v, .v, .e (.bool true), .v, .v, .s, .s, .v, .v, .s, .s, .s, .s, .v, .v, .s, .s, .s, .s, .v], .rg 0 [] [.v]] [] [] (all_cons (congrArg (fun x => AV.bool (!x)) c193) (all_cons (congrArg (fun x => AV.bool (!x)) c219) (all_cons (congrArg (fun x => AV.bool (!x)) c243) all_nil))) (by kernel_rfl)
                  · refine some_e H222 fun e504 => ?_
                    subst e504
                    exact p_ret Tryz.mo 5 [.rg 0 [] [.v, .e (.bool false), .v, .v, .e (.bool true), .v, .v, .s, .s, .v, .v, .s, .s, .v, .v, .s, .s, .s, .s, .v, .v, .s, .s, .s, .s, .v], .rg 0 [] [.v]] [] [] (all_cons (congrArg (fun x => AV.bool (!x)) c193) (all_cons (congrArg (fun x => AV.bool (!x)) c221) all_nil)) (by kernel_rfl)
                · refine some_e H196 fun e505 => ?_
                  subst e505
                  exact p_ret Tryz.mo 5 [.rg 0 [] [.v, .e (.bool true), .v, .s, .s, .v, .v, .s, .s, .v, .v, .s, .s, .v, .v, .s, .s, .s, .s, .v, .v, .s, .s, .s, .s, .v], .rg 0 [] [.v]] [] [] (all_cons (congrArg (fun x => AV.bool (!x)) c195) all_nil) (by kernel_rfl)
              · refine some_e H154 fun e506 => ?_
                subst e506
                exact p_ret Tryz.mo 5 [.eqT 63 (.bool true), .rg 0 [] [.v]] [] [] (all_cons (congrArg (fun x => AV.bool (!x)) c153) all_nil) (by kernel_rfl)
            · refine some_e H147 fun e507 => ?_
              subst e507
              exact p_ret Tryz.mo 17 [.rg 0 [] [.m, .v], .rg 0 [] [.c true (.bool y1), .v], .eqT 29 (.bool false), .rg 8 [.v, .v, .v, .v, .v, .v, .v, .v] [.v], .rg 0 [] [.v, .c true (.bool true), .v, .v, .v, .c true (.bool true), .v, .v, .v, .v, .c true (.bool true), .v, .v, .v, .v, .c true (.bool true), .v, .v, .v, .v, .c true (.bool false), .v, .v, .v, .s, .s, .s, .v], .rg 0 [] [.v]] [] [] (all_cons Tryz.call45 (all_cons (AFn.is (law05_awake_c y1 h2)) (all_cons trivial (all_cons (congrArg (fun x => AV.bool (!x)) c4) (all_cons trivial (all_cons trivial (all_cons trivial (all_cons Tryz.call46 (all_cons (AFn.eq (ref05_Few_c x0.1 5 y8 h9) (congrArg (AV.bool) c46)) (all_cons trivial (all_cons Tryz.call46 (all_cons (AFn.eq (ref05_Few_c x0.2.1 5 y50 h51) (congrArg (AV.bool) c81)) (all_cons trivial (all_cons Tryz.call46 (all_cons (AFn.eq (ref05_Few_c x0.2.2 5 y85 h86) (congrArg (AV.bool) c109)) (all_cons trivial (all_cons Tryz.call52 (all_cons (AFn.eq (ref05_Valid_c x0.1 y113 h114) (congrArg (AV.bool) c130)) (all_cons trivial (all_cons Tryz.call52 (all_cons (AFn.eq (ref05_Valid_c x0.2.1 y134 h135) (congrArg (AV.bool) c146)) (all_cons trivial all_nil)))))))))))))))))))))) (by kernel_rfl)
          · refine some_e H133 fun e508 => ?_
            subst e508
            exact p_ret Tryz.mo 17 [.rg 0 [] [.m, .v], .rg 0 [] [.c true (.bool y1), .v], .eqT 29 (.bool false), .rg 8 [.v, .v, .v, .v, .v, .v, .v, .v] [.v], .rg 0 [] [.v, .c true (.bool true), .v, .v, .v, .c true (.bool true), .v, .v, .v, .v, .c true (.bool true), .v, .v, .v, .v, .c true (.bool false), .v, .v, .v, .s, .s, .s, .v, .v, .s, .s, .s, .v], .rg 0 [] [.v]] [] [] (all_cons Tryz.call45 (all_cons (AFn.is (law05_awake_c y1 h2)) (all_cons trivial (all_cons (congrArg (fun x => AV.bool (!x)) c4) (all_cons trivial (all_cons trivial (all_cons trivial (all_cons Tryz.call46 (all_cons (AFn.eq (ref05_Few_c x0.1 5 y8 h9) (congrArg (AV.bool) c46)) (all_cons trivial (all_cons Tryz.call46 (all_cons (AFn.eq (ref05_Few_c x0.2.1 5 y50 h51) (congrArg (AV.bool) c81)) (all_cons trivial (all_cons Tryz.call46 (all_cons (AFn.eq (ref05_Few_c x0.2.2 5 y85 h86) (congrArg (AV.bool) c109)) (all_cons trivial (all_cons Tryz.call52 (all_cons (AFn.eq (ref05_Valid_c x0.1 y113 h114) (congrArg (AV.bool) c132)) (all_cons trivial all_nil))))))))))))))))))) (by kernel_rfl)
        · refine some_e H112 fun e509 => ?_
          subst e509
          exact p_ret Tryz.mo 17 [.rg 0 [] [.m, .v], .rg 0 [] [.c true (.bool y1), .v], .eqT 29 (.bool false), .rg 8 [.v, .v, .v, .v, .v, .v, .v, .v] [.v], .rg 0 [] [.v, .c true (.bool true), .v, .v, .v, .c true (.bool true), .v, .v, .v, .v, .c true (.bool false), .v, .v, .v, .s, .s, .s, .v, .v, .s, .s, .s, .v, .v, .s, .s, .s, .v], .rg 0 [] [.v]] [] [] (all_cons Tryz.call45 (all_cons (AFn.is (law05_awake_c y1 h2)) (all_cons trivial (all_cons (congrArg (fun x => AV.bool (!x)) c4) (all_cons trivial (all_cons trivial (all_cons trivial (all_cons Tryz.call46 (all_cons (AFn.eq (ref05_Few_c x0.1 5 y8 h9) (congrArg (AV.bool) c46)) (all_cons trivial (all_cons Tryz.call46 (all_cons (AFn.eq (ref05_Few_c x0.2.1 5 y50 h51) (congrArg (AV.bool) c81)) (all_cons trivial (all_cons Tryz.call46 (all_cons (AFn.eq (ref05_Few_c x0.2.2 5 y85 h86) (congrArg (AV.bool) c111)) (all_cons trivial all_nil)))))))))))))))) (by kernel_rfl)
      · refine some_e H84 fun e510 => ?_
        subst e510
        exact p_ret Tryz.mo 17 [.rg 0 [] [.m, .v], .rg 0 [] [.c true (.bool y1), .v], .eqT 29 (.bool false), .rg 8 [.v, .v, .v, .v, .v, .v, .v, .v] [.v], .rg 0 [] [.v, .c true (.bool true), .v, .v, .v, .c true (.bool false), .v, .v, .v, .s, .s, .s, .v, .v, .s, .s, .s, .v, .v, .s, .s, .s, .v, .v, .s, .s, .s, .v], .rg 0 [] [.v]] [] [] (all_cons Tryz.call45 (all_cons (AFn.is (law05_awake_c y1 h2)) (all_cons trivial (all_cons (congrArg (fun x => AV.bool (!x)) c4) (all_cons trivial (all_cons trivial (all_cons trivial (all_cons Tryz.call46 (all_cons (AFn.eq (ref05_Few_c x0.1 5 y8 h9) (congrArg (AV.bool) c46)) (all_cons trivial (all_cons Tryz.call46 (all_cons (AFn.eq (ref05_Few_c x0.2.1 5 y50 h51) (congrArg (AV.bool) c83)) (all_cons trivial all_nil))))))))))))) (by kernel_rfl)
    · refine some_e H49 fun e511 => ?_
      subst e511
      exact p_ret Tryz.mo 17 [.rg 0 [] [.m, .v], .rg 0 [] [.c true (.bool y1), .v], .eqT 29 (.bool false), .rg 8 [.v, .v, .v, .v, .v, .v, .v, .v] [.v], .rg 0 [] [.v, .c true (.bool false), .v, .v, .s, .s, .s, .v, .v, .s, .s, .s, .v, .v, .s, .s, .s, .v, .v, .s, .s, .s, .v, .v, .s, .s, .s, .v], .rg 0 [] [.v]] [] [] (all_cons Tryz.call45 (all_cons (AFn.is (law05_awake_c y1 h2)) (all_cons trivial (all_cons (congrArg (fun x => AV.bool (!x)) c4) (all_cons trivial (all_cons trivial (all_cons trivial (all_cons Tryz.call46 (all_cons (AFn.eq (ref05_Few_c x0.1 5 y8 h9) (congrArg (AV.bool) c48)) (all_cons trivial all_nil)))))))))) (by kernel_rfl)
  · refine some_e H7 fun e512 => ?_
    subst e512
    exact p_ret Tryz.mo 10 [.rg 0 [] [.m, .v], .rg 0 [] [.c true (.bool y1), .v], .eqT 29 (.bool true), .rg 0 [] [.v]] [] [] (all_cons Tryz.call45 (all_cons (AFn.is (law05_awake_c y1 h2)) (all_cons trivial (all_cons (congrArg (fun x => AV.bool (!x)) c6) all_nil)))) (by kernel_rfl)

end Go.Proofs.YtjfpcjnopbfekaaGreatDoor
