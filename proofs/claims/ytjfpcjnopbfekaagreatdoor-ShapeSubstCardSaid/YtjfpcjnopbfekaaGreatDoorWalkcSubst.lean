/- What functions of the program compute, walked: each as a plain function, with the theorem that the code computes it wherever that answers. Printed by a program (gen3.py), part 3. -/
import Derived.Test.YtjfpcjnopbfekaaGreatDoorLibC
import Derived.Test.YtjfpcjnopbfekaaGreatDoorAbN
import Derived.KernelRfl
import Derived.Test.YtjfpcjnopbfekaaGreatDoorProg
import Derived.Test.YtjfpcjnopbfekaaGreatDoorWalkbSubst
set_option linter.unusedSimpArgs false
set_option linter.unusedVariables false
namespace Go.Proofs.YtjfpcjnopbfekaaGreatDoor
open Go.RowKit Go.Ab Go.Sh
/-- framewise/framewiseref11.ElemVar -/
def ref11_ElemVar (x0 : Str) : Option Bool :=
  (cnt (σ := Unit) (ε := Unit) (ρ := Bool) (fun i39 s38 =>
    bif decide (((x0.getD i39 0).toNat : Int) < 48) then (
      some (.ret false)
    ) else (
      bif decide (((x0.getD i39 0).toNat : Int) > 57) then (
        some (.ret false)
      ) else (
        some (.go ())
      )
    )
  ) (fun i39 s38 => ()) (x0.length - 1) 1 ()).bind <| aft fun u98 =>
  bif decide (((x0.length : Nat) : Int) ≥ 1) then (
    bif decide (((x0.length : Nat) : Int) ≤ 30) then (
      grd (0 < x0.length) <|
      bif decide (((x0.getD 0 0).toNat : Int) ≥ 65) then (
        some (decide (((x0.getD 0 0).toNat : Int) ≤ 90))
      ) else (
        some false
      )
    ) else (
      some false
    )
  ) else (
    some false
  )
def ref11_ElemVar_S1 (x0 : Str) (i39 : Nat) (s38 : Unit) : AS := ⟨38, [(0, .str x0), (2, .bool false), (3, .int .i64 ((i39 : Nat) : Int))], []⟩
def ref11_ElemVar_S2 (x0 : Str) (u63 : Unit) : AS := ⟨38, [(0, .str x0), (2, .bool false)], []⟩
theorem ref11_ElemVar_c (x0 : Str) (r : Bool) (H : ref11_ElemVar x0 = some r) : AFn Tryz.prog 39 [.str x0] (.bool r) := by
  unfold ref11_ElemVar at H
  refine acallX Tryz.func39 38 [.tmp 2] (by kernel_rfl) (by kernel_rfl) ?_
  refine p_at Tryz.mo 6 [.rg 0 [] [.v], .rg 0 [] [.v]] [.only [0, 2, 3] []] 6 [] (ref11_ElemVar_S1 x0 1 ()) all_nil (by kernel_rfl) ?_
  refine bnd H fun R60 h61 H62 => ?_
  refine p_joinO 1 (ref11_ElemVar_S2 x0) R60 (by kernel_rfl) ?_ (fun u98 e99 => ?_)
  · refine p_cnt (ref11_ElemVar_S1 x0) (by kernel_rfl) h61 (fun i39 s38 h64 e65 => ?_) (fun i39 s38 h72 q68 h69 h70 => ?_)
    · have c66 : decide (((i39 : Nat) : Int) < ((x0.length : Nat) : Int)) = false := decide_eq_false (by omega)
      subst e65
      exact p_bar Tryz.mo 5 [.rg 0 [] [.v, .v, .v, .e (.bool false)]] [.only [0, 2] []] (ref11_ElemVar_S2 x0 ()) (all_cons trivial (all_cons (congrArg (AV.bool) c66) all_nil)) (by kernel_rfl)
    · have c71 : decide (((i39 : Nat) : Int) < ((x0.length : Nat) : Int)) = true := decide_eq_true (by omega)
      refine bsp h69 (fun c77 H78 => ?_) (fun c79 H80 => ?_)
      · have c77p := of_decide_eq_true c77
        refine some_e H78 fun e81 => ?_
        subst e81
        have e82 := out_ret h70
        subst e82
        have H83 := aft_ret H62
        refine some_e H83 fun e84 => ?_
        subst e84
        exact p_ret Tryz.mo 13 [.rg 0 [] [.v, .v, .v, .e (.bool true)], .rg 0 [] [.v, .v, .v, .e (.bool true), .v, .s, .s, .s, .s, .v], .rg 0 [] [.v]] [] [] (all_cons trivial (all_cons (congrArg (AV.bool) c71) (all_cons (show (0 : Int) ≤ ((i39 : Nat) : Int) ∧ ((i39 : Nat) : Int) < (x0.length : Int) from by omega) (all_cons (congrArg (AV.bool) c77) all_nil)))) (by kernel_rfl)
      · have c79p := of_decide_eq_false c79
        refine bsp H80 (fun c85 H86 => ?_) (fun c87 H88 => ?_)
        · have c85p := of_decide_eq_true c85
          refine some_e H86 fun e89 => ?_
          subst e89
          have e90 := out_ret h70
          subst e90
          have H91 := aft_ret H62
          refine some_e H91 fun e92 => ?_
          subst e92
          exact p_ret Tryz.mo 14 [.rg 0 [] [.v, .v, .v, .e (.bool true)], .rg 0 [] [.v, .v, .v, .e (.bool false), .v, .v, .v, .v, .v, .v], .eqT 19 (.bool true), .rg 0 [] [.v]] [] [] (all_cons trivial (all_cons (congrArg (AV.bool) c71) (all_cons (show (0 : Int) ≤ ((i39 : Nat) : Int) ∧ ((i39 : Nat) : Int) < (x0.length : Int) from by omega) (all_cons (congrArg (AV.bool) c79) (all_cons (show (0 : Int) ≤ ((i39 : Nat) : Int) ∧ ((i39 : Nat) : Int) < (x0.length : Int) from by omega) (all_cons (congrArg (AV.bool) c85) all_nil)))))) (by kernel_rfl)
        · have c87p := of_decide_eq_false c87
          refine t_lens 0 (ps := [x0.length ≤ 9223372036854775807]) (by kernel_rfl) (fun l95 => ?_)
          have l96 : x0.length ≤ 9223372036854775807 := by simpa only [All, List.length_map] using l95
          clear l95
          refine some_e H88 fun e97 => ?_
          subst e97
          exact p_bar Tryz.mo 13 [.rg 0 [] [.v, .v, .v, .e (.bool true)], .rg 0 [] [.v, .v, .v, .e (.bool false), .v, .v, .v, .v, .v, .v], .eqT 19 (.bool false), .rg 0 [] [.v, .v, .v]] [.only [0, 2, 3] []] (ref11_ElemVar_S1 x0 (i39 + 1) ()) (all_cons trivial (all_cons (congrArg (AV.bool) c71) (all_cons (show (0 : Int) ≤ ((i39 : Nat) : Int) ∧ ((i39 : Nat) : Int) < (x0.length : Int) from by omega) (all_cons (congrArg (AV.bool) c79) (all_cons (show (0 : Int) ≤ ((i39 : Nat) : Int) ∧ ((i39 : Nat) : Int) < (x0.length : Int) from by omega) (all_cons (congrArg (AV.bool) c87) (all_cons (show I64 (((i39 : Nat) : Int) + 1) from by unfold I64; omega) all_nil))))))) (by kernel_rfl)
  · subst e99
    have H100 := aft_brk H62
    refine bsp H100 (fun c111 H112 => ?_) (fun c113 H114 => ?_)
    · have c111p := of_decide_eq_true c111
      refine bsp H112 (fun c121 H122 => ?_) (fun c123 H124 => ?_)
      · have c121p := of_decide_eq_true c121
        refine grd_e H122 fun g125 H126 => ?_
        refine bsp H126 (fun c127 H128 => ?_) (fun c129 H130 => ?_)
        · have c127p := of_decide_eq_true c127
          refine some_e H128 fun e131 => ?_
          subst e131
          exact p_ret Tryz.mo 3 [.rg 0 [] [.v, .v, .e (.bool true), .v, .v, .v, .e (.bool true), .v, .v, .v, .v, .e (.bool true), .v, .v, .v, .v, .v, .v, .v]] [] [] (all_cons trivial (all_cons (congrArg (AV.bool) c111) (all_cons trivial (all_cons (congrArg (AV.bool) c121) (all_cons (show (0 : Int) ≤ 0 ∧ 0 < (x0.length : Int) from by omega) (all_cons (congrArg (AV.bool) c127) (all_cons (show (0 : Int) ≤ 0 ∧ 0 < (x0.length : Int) from by omega) all_nil))))))) (by kernel_rfl)
        · have c129p := of_decide_eq_false c129
          refine some_e H130 fun e132 => ?_
          subst e132
          exact p_ret Tryz.mo 3 [.rg 0 [] [.v, .v, .e (.bool true), .v, .v, .v, .e (.bool true), .v, .v, .v, .v, .e (.bool false), .v, .v, .s, .s, .s, .v, .v]] [] [] (all_cons trivial (all_cons (congrArg (AV.bool) c111) (all_cons trivial (all_cons (congrArg (AV.bool) c121) (all_cons (show (0 : Int) ≤ 0 ∧ 0 < (x0.length : Int) from by omega) (all_cons (congrArg (AV.bool) c129) all_nil)))))) (by kernel_rfl)
      · have c123p := of_decide_eq_false c123
        refine some_e H124 fun e133 => ?_
        subst e133
        exact p_ret Tryz.mo 3 [.rg 0 [] [.v, .v, .e (.bool true), .v, .v, .v, .e (.bool false), .v, .v, .s, .s, .s, .v, .v, .s, .s, .s, .v, .v]] [] [] (all_cons trivial (all_cons (congrArg (AV.bool) c111) (all_cons trivial (all_cons (congrArg (AV.bool) c123) all_nil)))) (by kernel_rfl)
    · have c113p := of_decide_eq_false c113
      refine some_e H114 fun e134 => ?_
      subst e134
      exact p_ret Tryz.mo 3 [.rg 0 [] [.v, .v, .e (.bool false), .v, .s, .s, .s, .v, .v, .s, .s, .s, .v, .v, .s, .s, .s, .v, .v]] [] [] (all_cons trivial (all_cons (congrArg (AV.bool) c113) all_nil)) (by kernel_rfl)
/-- framewise/framewiseref11.Elem -/
def ref11_Elem (x0 : Str) : Option Bool :=
  bif (x0 == [105, 110, 116]) then (
    some true
  ) else (
    bif (x0 == [98, 111, 111, 108]) then (
      some true
    ) else (
      (ref11_ElemVar x0).bind fun y21 =>
      some y21
    )
  )
theorem ref11_Elem_c (x0 : Str) (r : Bool) (H : ref11_Elem x0 = some r) : AFn Tryz.prog 175 [.str x0] (.bool r) := by
  unfold ref11_Elem at H
  refine acallX Tryz.func175 13 [.tmp 2] (by kernel_rfl) (by kernel_rfl) ?_
  refine bsp H (fun c8 H9 => ?_) (fun c10 H11 => ?_)
  · refine some_e H9 fun e12 => ?_
    subst e12
    exact p_ret Tryz.mo 5 [.rg 0 [] [.v], .rg 0 [] [.v, .e (.bool true), .v, .s, .s, .v, .v, .s, .s, .v, .v]] [] [] (all_cons (congrArg (AV.bool) c8) all_nil) (by kernel_rfl)
  · refine bsp H11 (fun c16 H17 => ?_) (fun c18 H19 => ?_)
    · refine some_e H17 fun e20 => ?_
      subst e20
      exact p_ret Tryz.mo 5 [.rg 0 [] [.v], .rg 0 [] [.v, .e (.bool false), .v, .v, .e (.bool true), .v, .v, .s, .s, .v, .v]] [] [] (all_cons (congrArg (AV.bool) c10) (all_cons (congrArg (AV.bool) c16) all_nil)) (by kernel_rfl)
    · refine bnd H19 fun y21 h22 H23 => ?_
      refine some_e H23 fun e24 => ?_
      subst e24
      exact p_ret Tryz.mo 5 [.rg 0 [] [.v], .rg 0 [] [.v, .e (.bool false), .v, .v, .e (.bool false), .v, .v, .v, .c true (.bool y21), .v, .v]] [] [] (all_cons (congrArg (AV.bool) c10) (all_cons (congrArg (AV.bool) c18) (all_cons Tryz.call39 (all_cons (AFn.is (ref11_ElemVar_c x0 y21 h22)) all_nil)))) (by kernel_rfl)
/-- framewise/framewiseref11.validBind -/
def ref11_validBind (x0 : Bind) : Option Bool :=
  ((
    bif (x0.Row.Row == []) then (
      some (decide (((x0.Row.Dims.length : Nat) : Int) > 0))
    ) else (
      some true
    )
  ) : Option Bool).bind fun v1 =>
  bif (x0.Kind == 1) then (
    (ref04_Name x0.Var).bind fun y139 =>
    bif y139 then (
      (ref04_Valid x0.Dim).bind fun y157 =>
      bif y157 then (
        bif v1 then (
          some false
        ) else (
          some (x0.Elem == [])
        )
      ) else (
        some false
      )
    ) else (
      some false
    )
  ) else (
    bif (x0.Kind == 2) then (
      (ref04_Name x0.Var).bind fun y268 =>
      bif y268 then (
        (ref11_Valid x0.Row).bind fun y289 =>
        bif y289 then (
          (ref11_zero x0.Dim).bind fun y303 =>
          bif y303 then (
            some (x0.Elem == [])
          ) else (
            some false
          )
        ) else (
          some false
        )
      ) else (
        some false
      )
    ) else (
      bif (x0.Kind == 3) then (
        (ref11_ElemVar x0.Var).bind fun y360 =>
        bif y360 then (
          (ref11_Elem x0.Elem).bind fun y381 =>
          bif y381 then (
            (ref11_zero x0.Dim).bind fun y395 =>
            bif y395 then (
              some (!v1)
            ) else (
              some false
            )
          ) else (
            some false
          )
        ) else (
          some false
        )
      ) else (
        some false
      )
    )
  )
def ref11_validBind_S1 (x0 : Bind) (v1 : Bool) : AS := ⟨75, [(1, .hptr 1 0), (2, .bool false), (3, .bool v1)], [(1, .cells 41 [.int .i64 x0.Kind, .str x0.Var, .int .i64 x0.Dim.Const, .dslice (x0.Dim.Terms.map cCoef), .str x0.Row.Row, .dslice (x0.Row.Dims.map cLinear), .str x0.Elem])]⟩
theorem ref11_validBind_c (x0 : Bind) (r : Bool) (H : ref11_validBind x0 = some r) : AFn Tryz.prog 105 [.agg [.int .i64 x0.Kind, .str x0.Var, .int .i64 x0.Dim.Const, .dslice (x0.Dim.Terms.map cCoef), .str x0.Row.Row, .dslice (x0.Row.Dims.map cLinear), .str x0.Elem]] (.bool r) := by
  unfold ref11_validBind at H
  refine acallX Tryz.func105 75 [.tmp 2] (by kernel_rfl) (by kernel_rfl) ?_
  refine p_at Tryz.mo 3 [.rg 0 [] [.m, .v]] [.only [1, 2] [1]] 3 [] ⟨75, [(1, .hptr 1 0), (2, .bool false)], [(1, .cells 41 [.int .i64 x0.Kind, .str x0.Var, .int .i64 x0.Dim.Const, .dslice (x0.Dim.Terms.map cCoef), .str x0.Row.Row, .dslice (x0.Row.Dims.map cLinear), .str x0.Elem])]⟩ all_nil (by kernel_rfl) ?_
  refine bnd H fun v1 h2 H3 => ?_
  refine p_join 0 (ref11_validBind_S1 x0 v1) (by kernel_rfl) ?_ ?_
  · refine bsp h2 (fun c4 H5 => ?_) (fun c6 H7 => ?_)
    · refine some_e H5 fun e8 => ?_
      subst e8
      exact p_bar Tryz.mo 1 [.rg 0 [] [.v, .v, .v, .e (.bool false), .v, .v, .v, .v, .e (.int .i64 ((x0.Row.Dims.length : Nat) : Int)), .v, .v, .v]] [.only [1, 2, 3] [1]] (ref11_validBind_S1 x0 (decide (((x0.Row.Dims.length : Nat) : Int) > 0))) (all_cons (congrArg (fun x => AV.bool (!x)) c4) (all_cons trivial (all_cons (lenm cLinear x0.Row.Dims) all_nil))) (by kernel_rfl)
    · refine some_e H7 fun e9 => ?_
      subst e9
      exact p_bar Tryz.mo 1 [.rg 0 [] [.v, .v, .v, .e (.bool true), .v, .s, .s, .s, .s, .s, .v, .v]] [.only [1, 2, 3] [1]] (ref11_validBind_S1 x0 true) (all_cons (congrArg (fun x => AV.bool (!x)) c6) all_nil) (by kernel_rfl)
  · refine bsp H3 (fun c135 H136 => ?_) (fun c137 H138 => ?_)
    · refine bnd H136 fun y139 h140 H141 => ?_
      refine bsp H141 (fun c153 H154 => ?_) (fun c155 H156 => ?_)
      · refine bnd H154 fun y157 h158 H159 => ?_
        refine bsp H159 (fun c164 H165 => ?_) (fun c166 H167 => ?_)
        · refine bsp H165 (fun c168 H169 => ?_) (fun c170 H171 => ?_)
          · refine some_e H169 fun e172 => ?_
            subst e172
            exact p_ret Tryz.mo 12 [.rg 0 [] [.v, .v], .rg 0 [] [.v, .v], .eqT 17 (.bool true), .eqT 3 (.bool true), .rg 0 [] [.v, .v, .c true (.bool true), .v, .v, .v, .c true (.bool true), .v, .v, .v, .v, .v, .v, .s, .s, .s, .v, .v]] [] [] (all_cons (congrArg (AV.bool) c135) (all_cons (congrArg (AV.bool) c168) (all_cons Tryz.call100 (all_cons (AFn.eq (ref04_Name_c x0.Var y139 h140) (congrArg (AV.bool) c153)) (all_cons Tryz.call87 (all_cons (AFn.eq (ref04_Valid_c x0.Dim y157 h158) (congrArg (AV.bool) c164)) (all_cons trivial all_nil))))))) (by kernel_rfl)
          · refine some_e H171 fun e173 => ?_
            subst e173
            exact p_ret Tryz.mo 12 [.rg 0 [] [.v, .v], .rg 0 [] [.v, .v], .eqT 17 (.bool true), .eqT 3 (.bool false), .rg 0 [] [.v, .v, .c true (.bool true), .v, .v, .v, .c true (.bool true), .v, .v, .v, .v, .v, .v, .v, .v, .v, .v, .v]] [] [] (all_cons (congrArg (AV.bool) c135) (all_cons (congrArg (AV.bool) c170) (all_cons Tryz.call100 (all_cons (AFn.eq (ref04_Name_c x0.Var y139 h140) (congrArg (AV.bool) c153)) (all_cons Tryz.call87 (all_cons (AFn.eq (ref04_Valid_c x0.Dim y157 h158) (congrArg (AV.bool) c164)) (all_cons trivial all_nil))))))) (by kernel_rfl)
        · refine some_e H167 fun e174 => ?_
          subst e174
          exact p_ret Tryz.mo 11 [.rg 0 [] [.v, .v], .rg 0 [] [.v, .v], .eqT 17 (.bool true), .rg 0 [] [.v, .v, .c true (.bool true), .v, .v, .v, .c true (.bool false), .v, .v, .s, .s, .v, .v, .s, .s, .s, .v, .v]] [] [] (all_cons (congrArg (AV.bool) c135) (all_cons Tryz.call100 (all_cons (AFn.eq (ref04_Name_c x0.Var y139 h140) (congrArg (AV.bool) c153)) (all_cons Tryz.call87 (all_cons (AFn.eq (ref04_Valid_c x0.Dim y157 h158) (congrArg (AV.bool) c166)) all_nil))))) (by kernel_rfl)
      · refine some_e H156 fun e175 => ?_
        subst e175
        exact p_ret Tryz.mo 11 [.rg 0 [] [.v, .v], .rg 0 [] [.v, .v], .eqT 17 (.bool true), .rg 0 [] [.v, .v, .c true (.bool false), .v, .s, .s, .s, .v, .v, .s, .s, .v, .v, .s, .s, .s, .v, .v]] [] [] (all_cons (congrArg (AV.bool) c135) (all_cons Tryz.call100 (all_cons (AFn.eq (ref04_Name_c x0.Var y139 h140) (congrArg (AV.bool) c155)) all_nil))) (by kernel_rfl)
    · refine bsp H138 (fun c264 H265 => ?_) (fun c266 H267 => ?_)
      · refine bnd H265 fun y268 h269 H270 => ?_
        refine bsp H270 (fun c285 H286 => ?_) (fun c287 H288 => ?_)
        · refine bnd H286 fun y289 h290 H291 => ?_
          refine bsp H291 (fun c299 H300 => ?_) (fun c301 H302 => ?_)
          · refine bnd H300 fun y303 h304 H305 => ?_
            refine bsp H305 (fun c306 H307 => ?_) (fun c308 H309 => ?_)
            · refine some_e H307 fun e310 => ?_
              subst e310
              exact p_ret Tryz.mo 15 [.rg 0 [] [.v, .v], .rg 0 [] [.v, .v], .eqT 17 (.bool false), .rg 0 [] [.v, .v], .eqT 36 (.bool true), .rg 0 [] [.v, .v, .c true (.bool true), .v, .v, .v, .c true (.bool true), .v, .v, .v, .v, .c true (.bool true), .v, .v, .v, .v, .v, .v, .v]] [] [] (all_cons (congrArg (AV.bool) c137) (all_cons (congrArg (AV.bool) c264) (all_cons Tryz.call100 (all_cons (AFn.eq (ref04_Name_c x0.Var y268 h269) (congrArg (AV.bool) c285)) (all_cons Tryz.call32 (all_cons (AFn.eq (ref11_Valid_c x0.Row y289 h290) (congrArg (AV.bool) c299)) (all_cons Tryz.call174 (all_cons (AFn.eq (ref11_zero_c x0.Dim y303 h304) (congrArg (AV.bool) c306)) all_nil)))))))) (by kernel_rfl)
            · refine some_e H309 fun e311 => ?_
              subst e311
              exact p_ret Tryz.mo 15 [.rg 0 [] [.v, .v], .rg 0 [] [.v, .v], .eqT 17 (.bool false), .rg 0 [] [.v, .v], .eqT 36 (.bool true), .rg 0 [] [.v, .v, .c true (.bool true), .v, .v, .v, .c true (.bool true), .v, .v, .v, .v, .c true (.bool false), .v, .v, .s, .s, .s, .v, .v]] [] [] (all_cons (congrArg (AV.bool) c137) (all_cons (congrArg (AV.bool) c264) (all_cons Tryz.call100 (all_cons (AFn.eq (ref04_Name_c x0.Var y268 h269) (congrArg (AV.bool) c285)) (all_cons Tryz.call32 (all_cons (AFn.eq (ref11_Valid_c x0.Row y289 h290) (congrArg (AV.bool) c299)) (all_cons Tryz.call174 (all_cons (AFn.eq (ref11_zero_c x0.Dim y303 h304) (congrArg (AV.bool) c308)) all_nil)))))))) (by kernel_rfl)
          · refine some_e H302 fun e312 => ?_
            subst e312
            exact p_ret Tryz.mo 15 [.rg 0 [] [.v, .v], .rg 0 [] [.v, .v], .eqT 17 (.bool false), .rg 0 [] [.v, .v], .eqT 36 (.bool true), .rg 0 [] [.v, .v, .c true (.bool true), .v, .v, .v, .c true (.bool false), .v, .v, .s, .s, .s, .v, .v, .s, .s, .s, .v, .v]] [] [] (all_cons (congrArg (AV.bool) c137) (all_cons (congrArg (AV.bool) c264) (all_cons Tryz.call100 (all_cons (AFn.eq (ref04_Name_c x0.Var y268 h269) (congrArg (AV.bool) c285)) (all_cons Tryz.call32 (all_cons (AFn.eq (ref11_Valid_c x0.Row y289 h290) (congrArg (AV.bool) c301)) all_nil)))))) (by kernel_rfl)
        · refine some_e H288 fun e313 => ?_
          subst e313
          exact p_ret Tryz.mo 15 [.rg 0 [] [.v, .v], .rg 0 [] [.v, .v], .eqT 17 (.bool false), .rg 0 [] [.v, .v], .eqT 36 (.bool true), .rg 0 [] [.v, .v, .c true (.bool false), .v, .s, .s, .s, .v, .v, .s, .s, .s, .v, .v, .s, .s, .s, .v, .v]] [] [] (all_cons (congrArg (AV.bool) c137) (all_cons (congrArg (AV.bool) c264) (all_cons Tryz.call100 (all_cons (AFn.eq (ref04_Name_c x0.Var y268 h269) (congrArg (AV.bool) c287)) all_nil)))) (by kernel_rfl)
      · refine bsp H267 (fun c356 H357 => ?_) (fun c358 H359 => ?_)
        · refine bnd H357 fun y360 h361 H362 => ?_
          refine bsp H362 (fun c377 H378 => ?_) (fun c379 H380 => ?_)
          · refine bnd H378 fun y381 h382 H383 => ?_
            refine bsp H383 (fun c391 H392 => ?_) (fun c393 H394 => ?_)
            · refine bnd H392 fun y395 h396 H397 => ?_
              refine bsp H397 (fun c398 H399 => ?_) (fun c400 H401 => ?_)
              · refine some_e H399 fun e402 => ?_
                subst e402
                exact p_ret Tryz.mo 19 [.rg 0 [] [.v, .v], .rg 0 [] [.v, .v], .eqT 17 (.bool false), .rg 0 [] [.v, .v], .eqT 36 (.bool false), .rg 0 [] [.v, .v], .eqT 56 (.bool true), .rg 0 [] [.v, .v, .c true (.bool true), .v, .v, .v, .c true (.bool true), .v, .v, .v, .v, .c true (.bool true), .v, .v, .v, .v, .v, .v]] [] [] (all_cons (congrArg (AV.bool) c137) (all_cons (congrArg (AV.bool) c266) (all_cons (congrArg (AV.bool) c356) (all_cons Tryz.call39 (all_cons (AFn.eq (ref11_ElemVar_c x0.Var y360 h361) (congrArg (AV.bool) c377)) (all_cons Tryz.call175 (all_cons (AFn.eq (ref11_Elem_c x0.Elem y381 h382) (congrArg (AV.bool) c391)) (all_cons Tryz.call174 (all_cons (AFn.eq (ref11_zero_c x0.Dim y395 h396) (congrArg (AV.bool) c398)) (all_cons trivial all_nil)))))))))) (by kernel_rfl)
              · refine some_e H401 fun e403 => ?_
                subst e403
                exact p_ret Tryz.mo 19 [.rg 0 [] [.v, .v], .rg 0 [] [.v, .v], .eqT 17 (.bool false), .rg 0 [] [.v, .v], .eqT 36 (.bool false), .rg 0 [] [.v, .v], .eqT 56 (.bool true), .rg 0 [] [.v, .v, .c true (.bool true), .v, .v, .v, .c true (.bool true), .v, .v, .v, .v, .c true (.bool false), .v, .v, .s, .s, .v, .v]] [] [] (all_cons (congrArg (AV.bool) c137) (all_cons (congrArg (AV.bool) c266) (all_cons (congrArg (AV.bool) c356) (all_cons Tryz.call39 (all_cons (AFn.eq (ref11_ElemVar_c x0.Var y360 h361) (congrArg (AV.bool) c377)) (all_cons Tryz.call175 (all_cons (AFn.eq (ref11_Elem_c x0.Elem y381 h382) (congrArg (AV.bool) c391)) (all_cons Tryz.call174 (all_cons (AFn.eq (ref11_zero_c x0.Dim y395 h396) (congrArg (AV.bool) c400)) all_nil))))))))) (by kernel_rfl)
            · refine some_e H394 fun e404 => ?_
              subst e404
              exact p_ret Tryz.mo 19 [.rg 0 [] [.v, .v], .rg 0 [] [.v, .v], .eqT 17 (.bool false), .rg 0 [] [.v, .v], .eqT 36 (.bool false), .rg 0 [] [.v, .v], .eqT 56 (.bool true), .rg 0 [] [.v, .v, .c true (.bool true), .v, .v, .v, .c true (.bool false), .v, .v, .s, .s, .s, .v, .v, .s, .s, .v, .v]] [] [] (all_cons (congrArg (AV.bool) c137) (all_cons (congrArg (AV.bool) c266) (all_cons (congrArg (AV.bool) c356) (all_cons Tryz.call39 (all_cons (AFn.eq (ref11_ElemVar_c x0.Var y360 h361) (congrArg (AV.bool) c377)) (all_cons Tryz.call175 (all_cons (AFn.eq (ref11_Elem_c x0.Elem y381 h382) (congrArg (AV.bool) c393)) all_nil))))))) (by kernel_rfl)
          · refine some_e H380 fun e405 => ?_
            subst e405
            exact p_ret Tryz.mo 19 [.rg 0 [] [.v, .v], .rg 0 [] [.v, .v], .eqT 17 (.bool false), .rg 0 [] [.v, .v], .eqT 36 (.bool false), .rg 0 [] [.v, .v], .eqT 56 (.bool true), .rg 0 [] [.v, .v, .c true (.bool false), .v, .s, .s, .s, .v, .v, .s, .s, .s, .v, .v, .s, .s, .v, .v]] [] [] (all_cons (congrArg (AV.bool) c137) (all_cons (congrArg (AV.bool) c266) (all_cons (congrArg (AV.bool) c356) (all_cons Tryz.call39 (all_cons (AFn.eq (ref11_ElemVar_c x0.Var y360 h361) (congrArg (AV.bool) c379)) all_nil))))) (by kernel_rfl)
        · refine some_e H359 fun e406 => ?_
          subst e406
          exact p_ret Tryz.mo 20 [.rg 0 [] [.v, .v], .rg 0 [] [.v, .v], .eqT 17 (.bool false), .rg 0 [] [.v, .v], .eqT 36 (.bool false), .rg 0 [] [.v, .v], .eqT 56 (.bool false), .rg 0 [] [.v]] [] [] (all_cons (congrArg (AV.bool) c137) (all_cons (congrArg (AV.bool) c266) (all_cons (congrArg (AV.bool) c358) all_nil))) (by kernel_rfl)
/-- framewise/framewiseref11.Find -/
def ref11_Find (x0 : (List Bind)) (x1 : Int) (x2 : Str) : Option Int :=
  (cnt (σ := Unit) (ε := Unit) (ρ := Int) (fun i59 s58 =>
    ((
      bif (((x0.getD i59 (⟨0, [], ⟨0, []⟩, ⟨[], []⟩, []⟩)).Kind) == x1) then (
        bif (((x0.getD i59 (⟨0, [], ⟨0, []⟩, ⟨[], []⟩, []⟩)).Var) == x2) then (
          some (.ret (.ret ((i59 : Nat) : Int)))
        ) else (
          some (.brk ())
        )
      ) else (
        some (.brk ())
      )
    ) : Option (Out Unit (Stp Unit Unit Int))).bind (aft fun u114 =>
      some (.go ())
    )
  ) (fun i59 s58 => ()) (x0.length - 0) 0 ()).bind <| aft fun u138 =>
  some (-1)
def ref11_Find_S1 (x0 : (List Bind)) (x1 : Int) (x2 : Str) (i59 : Nat) (s58 : Unit) : AS := ⟨31, [(0, .dslice (x0.map cBind)), (1, .int .i64 x1), (2, .str x2), (6, .int .i64 0), (7, .int .i64 ((i59 : Nat) : Int))], []⟩
def ref11_Find_S2 (u93 : Unit) : AS := ⟨31, [(6, .int .i64 0)], []⟩
def ref11_Find_S3 (x0 : (List Bind)) (x1 : Int) (x2 : Str) (i59 : Nat) (u114 : Unit) : AS := ⟨31, [(0, .dslice (x0.map cBind)), (1, .int .i64 x1), (2, .str x2), (6, .int .i64 0), (7, .int .i64 ((i59 : Nat) : Int)), (11, .bool true), (29, .bool false)], []⟩
theorem ref11_Find_c (x0 : (List Bind)) (x1 : Int) (x2 : Str) (r : Int) (H : ref11_Find x0 x1 x2 = some r) : AFn Tryz.prog 21 [.dslice (x0.map cBind), .int .i64 x1, .str x2] (.int .i64 r) := by
  unfold ref11_Find at H
  refine acallX Tryz.func21 31 [.tmp 6] (by kernel_rfl) (by kernel_rfl) ?_
  refine p_at Tryz.mo 6 [.rg 0 [] [.v], .rg 0 [] [.v]] [.only [0, 1, 2, 6, 7] []] 6 [] (ref11_Find_S1 x0 x1 x2 0 ()) all_nil (by kernel_rfl) ?_
  refine bnd H fun R90 h91 H92 => ?_
  refine p_joinO 1 (ref11_Find_S2) R90 (by kernel_rfl) ?_ (fun u138 e139 => ?_)
  · refine p_cnt (ref11_Find_S1 x0 x1 x2) (by kernel_rfl) h91 (fun i59 s58 h94 e95 => ?_) (fun i59 s58 h102 q98 h99 h100 => ?_)
    · have c96 : decide (((i59 : Nat) : Int) < ((x0.length : Nat) : Int)) = false := decide_eq_false (by omega)
      subst e95
      exact p_bar Tryz.mo 5 [.rg 0 [] [.v, .v, .e (.int .i64 ((x0.length : Nat) : Int)), .e (.bool false)]] [.only [6] []] (ref11_Find_S2 ()) (all_cons trivial (all_cons (lenm cBind x0) (all_cons (congrArg (AV.bool) c96) all_nil))) (by kernel_rfl)
    · have c101 : decide (((i59 : Nat) : Int) < ((x0.length : Nat) : Int)) = true := decide_eq_true (by omega)
      refine p_at Tryz.mo 8 [.rg 0 [] [.v, .v, .e (.int .i64 ((x0.length : Nat) : Int)), .e (.bool true)]] [.only [0, 1, 2, 6, 7, 11] []] 8 [true] ⟨31, [(0, .dslice (x0.map cBind)), (1, .int .i64 x1), (2, .str x2), (6, .int .i64 0), (7, .int .i64 ((i59 : Nat) : Int)), (11, .bool true)], []⟩ (all_cons trivial (all_cons (lenm cBind x0) (all_cons (congrArg (AV.bool) c101) all_nil))) (by kernel_rfl) ?_
      refine bnd h99 fun v111 h112 H113 => ?_
      refine p_joinO 2 (ref11_Find_S3 x0 x1 x2 i59) v111 (by kernel_rfl) ?_ (fun u114 e137 => ?_)
      · refine bsp h112 (fun c115 H116 => ?_) (fun c117 H118 => ?_)
        · refine bsp H116 (fun c119 H120 => ?_) (fun c121 H122 => ?_)
          · refine some_e H120 fun e123 => ?_
            subst e123
            have H124 := aft_ret H113
            refine some_e H124 fun e125 => ?_
            subst e125
            have e126 := out_ret h100
            subst e126
            have H127 := aft_ret H92
            refine some_e H127 fun e128 => ?_
            subst e128
            exact p_ret Tryz.mo 6 [.rg 0 [] [.v, .v, .e (.dptr [.int .i64 ((x0.getD i59 (⟨0, [], ⟨0, []⟩, ⟨[], []⟩, []⟩)).Kind), .str ((x0.getD i59 (⟨0, [], ⟨0, []⟩, ⟨[], []⟩, []⟩)).Var), .int .i64 (((x0.getD i59 (⟨0, [], ⟨0, []⟩, ⟨[], []⟩, []⟩)).Dim).Const), .dslice ((((x0.getD i59 (⟨0, [], ⟨0, []⟩, ⟨[], []⟩, []⟩)).Dim).Terms).map cCoef), .str (((x0.getD i59 (⟨0, [], ⟨0, []⟩, ⟨[], []⟩, []⟩)).Row).Row), .dslice ((((x0.getD i59 (⟨0, [], ⟨0, []⟩, ⟨[], []⟩, []⟩)).Row).Dims).map cLinear), .str ((x0.getD i59 (⟨0, [], ⟨0, []⟩, ⟨[], []⟩, []⟩)).Elem)]), .v, .v, .v, .e (.bool true), .v, .v, .v, .e (.dptr [.int .i64 ((x0.getD i59 (⟨0, [], ⟨0, []⟩, ⟨[], []⟩, []⟩)).Kind), .str ((x0.getD i59 (⟨0, [], ⟨0, []⟩, ⟨[], []⟩, []⟩)).Var), .int .i64 (((x0.getD i59 (⟨0, [], ⟨0, []⟩, ⟨[], []⟩, []⟩)).Dim).Const), .dslice ((((x0.getD i59 (⟨0, [], ⟨0, []⟩, ⟨[], []⟩, []⟩)).Dim).Terms).map cCoef), .str (((x0.getD i59 (⟨0, [], ⟨0, []⟩, ⟨[], []⟩, []⟩)).Row).Row), .dslice ((((x0.getD i59 (⟨0, [], ⟨0, []⟩, ⟨[], []⟩, []⟩)).Row).Dims).map cLinear), .str ((x0.getD i59 (⟨0, [], ⟨0, []⟩, ⟨[], []⟩, []⟩)).Elem)]), .v, .v, .v, .v, .v], .eqT 29 (.bool true), .rg 0 [] [.v, .v]] [] [] (all_app (ix (f := cBind) (l := x0) (n := i59) (⟨0, [], ⟨0, []⟩, ⟨[], []⟩, []⟩) cBind_len (by decide) (by omega)) (all_cons (congrArg (AV.bool) c115) (all_app (ix (f := cBind) (l := x0) (n := i59) (⟨0, [], ⟨0, []⟩, ⟨[], []⟩, []⟩) cBind_len (by decide) (by omega)) (all_cons (congrArg (AV.bool) c119) all_nil)))) (by kernel_rfl)
          · refine some_e H122 fun e129 => ?_
            subst e129
            exact p_bar Tryz.mo 4 [.rg 0 [] [.v, .v, .e (.dptr [.int .i64 ((x0.getD i59 (⟨0, [], ⟨0, []⟩, ⟨[], []⟩, []⟩)).Kind), .str ((x0.getD i59 (⟨0, [], ⟨0, []⟩, ⟨[], []⟩, []⟩)).Var), .int .i64 (((x0.getD i59 (⟨0, [], ⟨0, []⟩, ⟨[], []⟩, []⟩)).Dim).Const), .dslice ((((x0.getD i59 (⟨0, [], ⟨0, []⟩, ⟨[], []⟩, []⟩)).Dim).Terms).map cCoef), .str (((x0.getD i59 (⟨0, [], ⟨0, []⟩, ⟨[], []⟩, []⟩)).Row).Row), .dslice ((((x0.getD i59 (⟨0, [], ⟨0, []⟩, ⟨[], []⟩, []⟩)).Row).Dims).map cLinear), .str ((x0.getD i59 (⟨0, [], ⟨0, []⟩, ⟨[], []⟩, []⟩)).Elem)]), .v, .v, .v, .e (.bool true), .v, .v, .v, .e (.dptr [.int .i64 ((x0.getD i59 (⟨0, [], ⟨0, []⟩, ⟨[], []⟩, []⟩)).Kind), .str ((x0.getD i59 (⟨0, [], ⟨0, []⟩, ⟨[], []⟩, []⟩)).Var), .int .i64 (((x0.getD i59 (⟨0, [], ⟨0, []⟩, ⟨[], []⟩, []⟩)).Dim).Const), .dslice ((((x0.getD i59 (⟨0, [], ⟨0, []⟩, ⟨[], []⟩, []⟩)).Dim).Terms).map cCoef), .str (((x0.getD i59 (⟨0, [], ⟨0, []⟩, ⟨[], []⟩, []⟩)).Row).Row), .dslice ((((x0.getD i59 (⟨0, [], ⟨0, []⟩, ⟨[], []⟩, []⟩)).Row).Dims).map cLinear), .str ((x0.getD i59 (⟨0, [], ⟨0, []⟩, ⟨[], []⟩, []⟩)).Elem)]), .v, .v, .v, .v, .v], .eqT 29 (.bool false)] [.only [0, 1, 2, 6, 7, 11, 29] []] (ref11_Find_S3 x0 x1 x2 i59 ()) (all_app (ix (f := cBind) (l := x0) (n := i59) (⟨0, [], ⟨0, []⟩, ⟨[], []⟩, []⟩) cBind_len (by decide) (by omega)) (all_cons (congrArg (AV.bool) c115) (all_app (ix (f := cBind) (l := x0) (n := i59) (⟨0, [], ⟨0, []⟩, ⟨[], []⟩, []⟩) cBind_len (by decide) (by omega)) (all_cons (congrArg (AV.bool) c121) all_nil)))) (by kernel_rfl)
        · refine some_e H118 fun e130 => ?_
          subst e130
          exact p_bar Tryz.mo 3 [.rg 0 [] [.v, .v, .e (.dptr [.int .i64 ((x0.getD i59 (⟨0, [], ⟨0, []⟩, ⟨[], []⟩, []⟩)).Kind), .str ((x0.getD i59 (⟨0, [], ⟨0, []⟩, ⟨[], []⟩, []⟩)).Var), .int .i64 (((x0.getD i59 (⟨0, [], ⟨0, []⟩, ⟨[], []⟩, []⟩)).Dim).Const), .dslice ((((x0.getD i59 (⟨0, [], ⟨0, []⟩, ⟨[], []⟩, []⟩)).Dim).Terms).map cCoef), .str (((x0.getD i59 (⟨0, [], ⟨0, []⟩, ⟨[], []⟩, []⟩)).Row).Row), .dslice ((((x0.getD i59 (⟨0, [], ⟨0, []⟩, ⟨[], []⟩, []⟩)).Row).Dims).map cLinear), .str ((x0.getD i59 (⟨0, [], ⟨0, []⟩, ⟨[], []⟩, []⟩)).Elem)]), .v, .v, .v, .e (.bool false), .v, .s, .s, .s, .s, .s, .s, .s, .v]] [.only [0, 1, 2, 6, 7, 11, 29] []] (ref11_Find_S3 x0 x1 x2 i59 ()) (all_app (ix (f := cBind) (l := x0) (n := i59) (⟨0, [], ⟨0, []⟩, ⟨[], []⟩, []⟩) cBind_len (by decide) (by omega)) (all_cons (congrArg (AV.bool) c117) all_nil)) (by kernel_rfl)
      · subst e137
        have H131 := aft_brk H113
        refine t_lens 0 (ps := [(x0.map cBind).length ≤ 9223372036854775807]) (by kernel_rfl) (fun l134 => ?_)
        have l135 : x0.length ≤ 9223372036854775807 := by simpa only [All, List.length_map] using l134
        clear l134
        refine some_e H131 fun e136 => ?_
        subst e136
        exact p_bar Tryz.mo 1 [.rg 0 [] [.v, .v, .v]] [.only [0, 1, 2, 6, 7] []] (ref11_Find_S1 x0 x1 x2 (i59 + 1) ()) (all_cons (show I64 (((i59 : Nat) : Int) + 1) from by unfold I64; omega) all_nil) (by kernel_rfl)
  · subst e139
    have H140 := aft_brk H92
    refine some_e H140 fun e141 => ?_
    subst e141
    exact p_ret Tryz.mo 3 [.rg 0 [] [.v]] [] [] all_nil (by kernel_rfl)
/-- framewise/framewiseref11.ValidBinds -/
def ref11_ValidBinds (x0 : (List Bind)) : Option Bool :=
  (cnt (σ := Unit) (ε := Unit) (ρ := Bool) (fun i57 s56 =>
    (ref11_validBind (Bind.mk ((x0.getD i57 (⟨0, [], ⟨0, []⟩, ⟨[], []⟩, []⟩)).Kind) ((x0.getD i57 (⟨0, [], ⟨0, []⟩, ⟨[], []⟩, []⟩)).Var) (Linear.mk (((x0.getD i57 (⟨0, [], ⟨0, []⟩, ⟨[], []⟩, []⟩)).Dim).Const) (((x0.getD i57 (⟨0, [], ⟨0, []⟩, ⟨[], []⟩, []⟩)).Dim).Terms)) (Shape.mk (((x0.getD i57 (⟨0, [], ⟨0, []⟩, ⟨[], []⟩, []⟩)).Row).Row) (((x0.getD i57 (⟨0, [], ⟨0, []⟩, ⟨[], []⟩, []⟩)).Row).Dims)) ((x0.getD i57 (⟨0, [], ⟨0, []⟩, ⟨[], []⟩, []⟩)).Elem))).bind fun y100 =>
    bif y100 then (
      (ref11_Find (x0.take i57) ((x0.getD i57 (⟨0, [], ⟨0, []⟩, ⟨[], []⟩, []⟩)).Kind) ((x0.getD i57 (⟨0, [], ⟨0, []⟩, ⟨[], []⟩, []⟩)).Var)).bind fun y114 =>
      bif decide (y114 ≥ 0) then (
        some (.ret false)
      ) else (
        some (.go ())
      )
    ) else (
      some (.ret false)
    )
  ) (fun i57 s56 => ()) (x0.length - 0) 0 ()).bind <| aft fun u134 =>
  some true
def ref11_ValidBinds_S1 (x0 : (List Bind)) (i57 : Nat) (s56 : Unit) : AS := ⟨33, [(0, .dslice (x0.map cBind)), (2, .bool false), (3, .int .i64 ((i57 : Nat) : Int))], []⟩
def ref11_ValidBinds_S2 (u90 : Unit) : AS := ⟨33, [(2, .bool false)], []⟩
theorem ref11_ValidBinds_c (x0 : (List Bind)) (r : Bool) (H : ref11_ValidBinds x0 = some r) : AFn Tryz.prog 37 [.dslice (x0.map cBind)] (.bool r) := by
  unfold ref11_ValidBinds at H
  refine acallX Tryz.func37 33 [.tmp 2] (by kernel_rfl) (by kernel_rfl) ?_
  refine p_at Tryz.mo 6 [.rg 0 [] [.v], .rg 0 [] [.v]] [.only [0, 2, 3] []] 6 [] (ref11_ValidBinds_S1 x0 0 ()) all_nil (by kernel_rfl) ?_
  refine bnd H fun R87 h88 H89 => ?_
  refine p_joinO 1 (ref11_ValidBinds_S2) R87 (by kernel_rfl) ?_ (fun u134 e135 => ?_)
  · refine p_cnt (ref11_ValidBinds_S1 x0) (by kernel_rfl) h88 (fun i57 s56 h91 e92 => ?_) (fun i57 s56 h99 q95 h96 h97 => ?_)
    · have c93 : decide (((i57 : Nat) : Int) < ((x0.length : Nat) : Int)) = false := decide_eq_false (by omega)
      subst e92
      exact p_bar Tryz.mo 5 [.rg 0 [] [.v, .v, .e (.int .i64 ((x0.length : Nat) : Int)), .e (.bool false)]] [.only [2] []] (ref11_ValidBinds_S2 ()) (all_cons trivial (all_cons (lenm cBind x0) (all_cons (congrArg (AV.bool) c93) all_nil))) (by kernel_rfl)
    · have c98 : decide (((i57 : Nat) : Int) < ((x0.length : Nat) : Int)) = true := decide_eq_true (by omega)
      refine bnd h96 fun y100 h101 H102 => ?_
      refine bsp H102 (fun c110 H111 => ?_) (fun c112 H113 => ?_)
      · refine bnd H111 fun y114 h115 H116 => ?_
        refine bsp H116 (fun c117 H118 => ?_) (fun c119 H120 => ?_)
        · have c117p := of_decide_eq_true c117
          refine some_e H118 fun e121 => ?_
          subst e121
          have e122 := out_ret h97
          subst e122
          have H123 := aft_ret H89
          refine some_e H123 fun e124 => ?_
          subst e124
          exact p_ret Tryz.mo 14 [.rg 0 [] [.v, .v, .e (.int .i64 ((x0.length : Nat) : Int)), .e (.bool true)], .rg 20 [.v, .v, .e (.dptr [.int .i64 ((x0.getD i57 (⟨0, [], ⟨0, []⟩, ⟨[], []⟩, []⟩)).Kind), .str ((x0.getD i57 (⟨0, [], ⟨0, []⟩, ⟨[], []⟩, []⟩)).Var), .int .i64 (((x0.getD i57 (⟨0, [], ⟨0, []⟩, ⟨[], []⟩, []⟩)).Dim).Const), .dslice ((((x0.getD i57 (⟨0, [], ⟨0, []⟩, ⟨[], []⟩, []⟩)).Dim).Terms).map cCoef), .str (((x0.getD i57 (⟨0, [], ⟨0, []⟩, ⟨[], []⟩, []⟩)).Row).Row), .dslice ((((x0.getD i57 (⟨0, [], ⟨0, []⟩, ⟨[], []⟩, []⟩)).Row).Dims).map cLinear), .str ((x0.getD i57 (⟨0, [], ⟨0, []⟩, ⟨[], []⟩, []⟩)).Elem)]), .v, .c true (.bool true), .v, .v, .v, .v, .e (.dslice ((x0.take i57).map cBind)), .v, .v, .e (.dptr [.int .i64 ((x0.getD i57 (⟨0, [], ⟨0, []⟩, ⟨[], []⟩, []⟩)).Kind), .str ((x0.getD i57 (⟨0, [], ⟨0, []⟩, ⟨[], []⟩, []⟩)).Var), .int .i64 (((x0.getD i57 (⟨0, [], ⟨0, []⟩, ⟨[], []⟩, []⟩)).Dim).Const), .dslice ((((x0.getD i57 (⟨0, [], ⟨0, []⟩, ⟨[], []⟩, []⟩)).Dim).Terms).map cCoef), .str (((x0.getD i57 (⟨0, [], ⟨0, []⟩, ⟨[], []⟩, []⟩)).Row).Row), .dslice ((((x0.getD i57 (⟨0, [], ⟨0, []⟩, ⟨[], []⟩, []⟩)).Row).Dims).map cLinear), .str ((x0.getD i57 (⟨0, [], ⟨0, []⟩, ⟨[], []⟩, []⟩)).Elem)]), .v, .v, .v, .v, .e (.dptr [.int .i64 ((x0.getD i57 (⟨0, [], ⟨0, []⟩, ⟨[], []⟩, []⟩)).Kind), .str ((x0.getD i57 (⟨0, [], ⟨0, []⟩, ⟨[], []⟩, []⟩)).Var), .int .i64 (((x0.getD i57 (⟨0, [], ⟨0, []⟩, ⟨[], []⟩, []⟩)).Dim).Const), .dslice ((((x0.getD i57 (⟨0, [], ⟨0, []⟩, ⟨[], []⟩, []⟩)).Dim).Terms).map cCoef), .str (((x0.getD i57 (⟨0, [], ⟨0, []⟩, ⟨[], []⟩, []⟩)).Row).Row), .dslice ((((x0.getD i57 (⟨0, [], ⟨0, []⟩, ⟨[], []⟩, []⟩)).Row).Dims).map cLinear), .str ((x0.getD i57 (⟨0, [], ⟨0, []⟩, ⟨[], []⟩, []⟩)).Elem)]), .v, .v] [.c true (.int .i64 y114), .v, .v], .eqT 32 (.bool true), .rg 0 [] [.v]] [] [] (all_cons trivial (all_cons (lenm cBind x0) (all_cons (congrArg (AV.bool) c98) (all_app (ix (f := cBind) (l := x0) (n := i57) (⟨0, [], ⟨0, []⟩, ⟨[], []⟩, []⟩) cBind_len (by decide) (by omega)) (all_cons Tryz.call105 (all_cons (AFn.eq (ref11_validBind_c (Bind.mk ((x0.getD i57 (⟨0, [], ⟨0, []⟩, ⟨[], []⟩, []⟩)).Kind) ((x0.getD i57 (⟨0, [], ⟨0, []⟩, ⟨[], []⟩, []⟩)).Var) (Linear.mk (((x0.getD i57 (⟨0, [], ⟨0, []⟩, ⟨[], []⟩, []⟩)).Dim).Const) (((x0.getD i57 (⟨0, [], ⟨0, []⟩, ⟨[], []⟩, []⟩)).Dim).Terms)) (Shape.mk (((x0.getD i57 (⟨0, [], ⟨0, []⟩, ⟨[], []⟩, []⟩)).Row).Row) (((x0.getD i57 (⟨0, [], ⟨0, []⟩, ⟨[], []⟩, []⟩)).Row).Dims)) ((x0.getD i57 (⟨0, [], ⟨0, []⟩, ⟨[], []⟩, []⟩)).Elem)) y100 h101) (congrArg (AV.bool) c110)) (all_cons trivial (all_cons (show ((0 : Int) ≤ 0 ∧ 0 ≤ ((i57 : Nat) : Int) ∧ ((i57 : Nat) : Int) ≤ ((x0.map cBind).length : Int)) ∧ UL 7 (x0.map cBind) from ⟨by first | omega | (simp only [List.length_map]; omega), UL.map cBind_len _⟩) (all_cons (slm_take cBind x0 i57) (all_app (ix (f := cBind) (l := x0) (n := i57) (⟨0, [], ⟨0, []⟩, ⟨[], []⟩, []⟩) cBind_len (by decide) (by omega)) (all_app (ix (f := cBind) (l := x0) (n := i57) (⟨0, [], ⟨0, []⟩, ⟨[], []⟩, []⟩) cBind_len (by decide) (by omega)) (all_cons Tryz.call21 (all_cons (AFn.is (ref11_Find_c (x0.take i57) ((x0.getD i57 (⟨0, [], ⟨0, []⟩, ⟨[], []⟩, []⟩)).Kind) ((x0.getD i57 (⟨0, [], ⟨0, []⟩, ⟨[], []⟩, []⟩)).Var) y114 h115)) (all_cons (congrArg (AV.bool) c117) all_nil)))))))))))))) (by kernel_rfl)
        · have c119p := of_decide_eq_false c119
          refine t_lens 0 (ps := [(x0.map cBind).length ≤ 9223372036854775807]) (by kernel_rfl) (fun l127 => ?_)
          have l128 : x0.length ≤ 9223372036854775807 := by simpa only [All, List.length_map] using l127
          clear l127
          refine some_e H120 fun e129 => ?_
          subst e129
          exact p_bar Tryz.mo 13 [.rg 0 [] [.v, .v, .e (.int .i64 ((x0.length : Nat) : Int)), .e (.bool true)], .rg 20 [.v, .v, .e (.dptr [.int .i64 ((x0.getD i57 (⟨0, [], ⟨0, []⟩, ⟨[], []⟩, []⟩)).Kind), .str ((x0.getD i57 (⟨0, [], ⟨0, []⟩, ⟨[], []⟩, []⟩)).Var), .int .i64 (((x0.getD i57 (⟨0, [], ⟨0, []⟩, ⟨[], []⟩, []⟩)).Dim).Const), .dslice ((((x0.getD i57 (⟨0, [], ⟨0, []⟩, ⟨[], []⟩, []⟩)).Dim).Terms).map cCoef), .str (((x0.getD i57 (⟨0, [], ⟨0, []⟩, ⟨[], []⟩, []⟩)).Row).Row), .dslice ((((x0.getD i57 (⟨0, [], ⟨0, []⟩, ⟨[], []⟩, []⟩)).Row).Dims).map cLinear), .str ((x0.getD i57 (⟨0, [], ⟨0, []⟩, ⟨[], []⟩, []⟩)).Elem)]), .v, .c true (.bool true), .v, .v, .v, .v, .e (.dslice ((x0.take i57).map cBind)), .v, .v, .e (.dptr [.int .i64 ((x0.getD i57 (⟨0, [], ⟨0, []⟩, ⟨[], []⟩, []⟩)).Kind), .str ((x0.getD i57 (⟨0, [], ⟨0, []⟩, ⟨[], []⟩, []⟩)).Var), .int .i64 (((x0.getD i57 (⟨0, [], ⟨0, []⟩, ⟨[], []⟩, []⟩)).Dim).Const), .dslice ((((x0.getD i57 (⟨0, [], ⟨0, []⟩, ⟨[], []⟩, []⟩)).Dim).Terms).map cCoef), .str (((x0.getD i57 (⟨0, [], ⟨0, []⟩, ⟨[], []⟩, []⟩)).Row).Row), .dslice ((((x0.getD i57 (⟨0, [], ⟨0, []⟩, ⟨[], []⟩, []⟩)).Row).Dims).map cLinear), .str ((x0.getD i57 (⟨0, [], ⟨0, []⟩, ⟨[], []⟩, []⟩)).Elem)]), .v, .v, .v, .v, .e (.dptr [.int .i64 ((x0.getD i57 (⟨0, [], ⟨0, []⟩, ⟨[], []⟩, []⟩)).Kind), .str ((x0.getD i57 (⟨0, [], ⟨0, []⟩, ⟨[], []⟩, []⟩)).Var), .int .i64 (((x0.getD i57 (⟨0, [], ⟨0, []⟩, ⟨[], []⟩, []⟩)).Dim).Const), .dslice ((((x0.getD i57 (⟨0, [], ⟨0, []⟩, ⟨[], []⟩, []⟩)).Dim).Terms).map cCoef), .str (((x0.getD i57 (⟨0, [], ⟨0, []⟩, ⟨[], []⟩, []⟩)).Row).Row), .dslice ((((x0.getD i57 (⟨0, [], ⟨0, []⟩, ⟨[], []⟩, []⟩)).Row).Dims).map cLinear), .str ((x0.getD i57 (⟨0, [], ⟨0, []⟩, ⟨[], []⟩, []⟩)).Elem)]), .v, .v] [.c true (.int .i64 y114), .v, .v], .eqT 32 (.bool false), .rg 0 [] [.v, .v, .v]] [.only [0, 2, 3] []] (ref11_ValidBinds_S1 x0 (i57 + 1) ()) (all_cons trivial (all_cons (lenm cBind x0) (all_cons (congrArg (AV.bool) c98) (all_app (ix (f := cBind) (l := x0) (n := i57) (⟨0, [], ⟨0, []⟩, ⟨[], []⟩, []⟩) cBind_len (by decide) (by omega)) (all_cons Tryz.call105 (all_cons (AFn.eq (ref11_validBind_c (Bind.mk ((x0.getD i57 (⟨0, [], ⟨0, []⟩, ⟨[], []⟩, []⟩)).Kind) ((x0.getD i57 (⟨0, [], ⟨0, []⟩, ⟨[], []⟩, []⟩)).Var) (Linear.mk (((x0.getD i57 (⟨0, [], ⟨0, []⟩, ⟨[], []⟩, []⟩)).Dim).Const) (((x0.getD i57 (⟨0, [], ⟨0, []⟩, ⟨[], []⟩, []⟩)).Dim).Terms)) (Shape.mk (((x0.getD i57 (⟨0, [], ⟨0, []⟩, ⟨[], []⟩, []⟩)).Row).Row) (((x0.getD i57 (⟨0, [], ⟨0, []⟩, ⟨[], []⟩, []⟩)).Row).Dims)) ((x0.getD i57 (⟨0, [], ⟨0, []⟩, ⟨[], []⟩, []⟩)).Elem)) y100 h101) (congrArg (AV.bool) c110)) (all_cons trivial (all_cons (show ((0 : Int) ≤ 0 ∧ 0 ≤ ((i57 : Nat) : Int) ∧ ((i57 : Nat) : Int) ≤ ((x0.map cBind).length : Int)) ∧ UL 7 (x0.map cBind) from ⟨by first | omega | (simp only [List.length_map]; omega), UL.map cBind_len _⟩) (all_cons (slm_take cBind x0 i57) (all_app (ix (f := cBind) (l := x0) (n := i57) (⟨0, [], ⟨0, []⟩, ⟨[], []⟩, []⟩) cBind_len (by decide) (by omega)) (all_app (ix (f := cBind) (l := x0) (n := i57) (⟨0, [], ⟨0, []⟩, ⟨[], []⟩, []⟩) cBind_len (by decide) (by omega)) (all_cons Tryz.call21 (all_cons (AFn.is (ref11_Find_c (x0.take i57) ((x0.getD i57 (⟨0, [], ⟨0, []⟩, ⟨[], []⟩, []⟩)).Kind) ((x0.getD i57 (⟨0, [], ⟨0, []⟩, ⟨[], []⟩, []⟩)).Var) y114 h115)) (all_cons (congrArg (AV.bool) c119) (all_cons (show I64 (((i57 : Nat) : Int) + 1) from by unfold I64; omega) all_nil))))))))))))))) (by kernel_rfl)
      · refine some_e H113 fun e130 => ?_
        subst e130
        have e131 := out_ret h97
        subst e131
        have H132 := aft_ret H89
        refine some_e H132 fun e133 => ?_
        subst e133
        exact p_ret Tryz.mo 13 [.rg 0 [] [.v, .v, .e (.int .i64 ((x0.length : Nat) : Int)), .e (.bool true)], .rg 20 [.v, .v, .e (.dptr [.int .i64 ((x0.getD i57 (⟨0, [], ⟨0, []⟩, ⟨[], []⟩, []⟩)).Kind), .str ((x0.getD i57 (⟨0, [], ⟨0, []⟩, ⟨[], []⟩, []⟩)).Var), .int .i64 (((x0.getD i57 (⟨0, [], ⟨0, []⟩, ⟨[], []⟩, []⟩)).Dim).Const), .dslice ((((x0.getD i57 (⟨0, [], ⟨0, []⟩, ⟨[], []⟩, []⟩)).Dim).Terms).map cCoef), .str (((x0.getD i57 (⟨0, [], ⟨0, []⟩, ⟨[], []⟩, []⟩)).Row).Row), .dslice ((((x0.getD i57 (⟨0, [], ⟨0, []⟩, ⟨[], []⟩, []⟩)).Row).Dims).map cLinear), .str ((x0.getD i57 (⟨0, [], ⟨0, []⟩, ⟨[], []⟩, []⟩)).Elem)]), .v, .c true (.bool false), .v, .v, .s, .s, .s, .s, .s, .s, .s, .s, .s, .s, .s, .s, .s] [.s, .s, .v], .rg 0 [] [.v]] [] [] (all_cons trivial (all_cons (lenm cBind x0) (all_cons (congrArg (AV.bool) c98) (all_app (ix (f := cBind) (l := x0) (n := i57) (⟨0, [], ⟨0, []⟩, ⟨[], []⟩, []⟩) cBind_len (by decide) (by omega)) (all_cons Tryz.call105 (all_cons (AFn.eq (ref11_validBind_c (Bind.mk ((x0.getD i57 (⟨0, [], ⟨0, []⟩, ⟨[], []⟩, []⟩)).Kind) ((x0.getD i57 (⟨0, [], ⟨0, []⟩, ⟨[], []⟩, []⟩)).Var) (Linear.mk (((x0.getD i57 (⟨0, [], ⟨0, []⟩, ⟨[], []⟩, []⟩)).Dim).Const) (((x0.getD i57 (⟨0, [], ⟨0, []⟩, ⟨[], []⟩, []⟩)).Dim).Terms)) (Shape.mk (((x0.getD i57 (⟨0, [], ⟨0, []⟩, ⟨[], []⟩, []⟩)).Row).Row) (((x0.getD i57 (⟨0, [], ⟨0, []⟩, ⟨[], []⟩, []⟩)).Row).Dims)) ((x0.getD i57 (⟨0, [], ⟨0, []⟩, ⟨[], []⟩, []⟩)).Elem)) y100 h101) (congrArg (AV.bool) c112)) (all_cons trivial all_nil))))))) (by kernel_rfl)
  · subst e135
    have H136 := aft_brk H89
    refine some_e H136 fun e137 => ?_
    subst e137
    exact p_ret Tryz.mo 3 [.rg 0 [] [.v]] [] [] all_nil (by kernel_rfl)
/-- framewise/framewiseref04.bound -/
def ref04_bound (x0 : (List Bind)) (x1 : Str) : Option (Linear × Bool) :=
  (cnt (σ := Unit) (ε := Unit) (ρ := (Linear × Bool)) (fun i37 s36 =>
    ((
      bif (((x0.getD i37 (⟨0, [], ⟨0, []⟩, ⟨[], []⟩, []⟩)).Kind) == 1) then (
        some (((x0.getD i37 (⟨0, [], ⟨0, []⟩, ⟨[], []⟩, []⟩)).Var) == x1)
      ) else (
        some false
      )
    ) : Option Bool).bind fun v70 =>
    bif v70 then (
      some (.ret ((Linear.mk (((x0.getD i37 (⟨0, [], ⟨0, []⟩, ⟨[], []⟩, []⟩)).Dim).Const) (((x0.getD i37 (⟨0, [], ⟨0, []⟩, ⟨[], []⟩, []⟩)).Dim).Terms)), true))
    ) else (
      some (.go ())
    )
  ) (fun i37 s36 => ()) (x0.length - 0) 0 ()).bind <| aft fun u92 =>
  some ((Linear.mk 0 []), false)
def ref04_bound_S1 (x0 : (List Bind)) (x1 : Str) (i37 : Nat) (s36 : Unit) : AS := ⟨34, [(0, .dslice (x0.map cBind)), (1, .str x1), (4, .hptr 4 0), (5, .bool false), (6, .int .i64 ((i37 : Nat) : Int))], [(4, .cells 39 [.int .i64 0, .eslice])]⟩
def ref04_bound_S2 (u60 : Unit) : AS := ⟨34, [(4, .hptr 4 0), (5, .bool false)], [(4, .cells 39 [.int .i64 0, .eslice])]⟩
def ref04_bound_S3 (x0 : (List Bind)) (x1 : Str) (i37 : Nat) (v70 : Bool) : AS := ⟨34, [(0, .dslice (x0.map cBind)), (1, .str x1), (4, .hptr 4 0), (5, .bool false), (6, .int .i64 ((i37 : Nat) : Int)), (10, .bool true), (27, .bool v70)], [(4, .cells 39 [.int .i64 0, .eslice])]⟩
theorem ref04_bound_c (x0 : (List Bind)) (x1 : Str) (r : (Linear × Bool)) (H : ref04_bound x0 x1 = some r) : AFn Tryz.prog 183 [.dslice (x0.map cBind), .str x1] (.tup [.agg [.int .i64 r.1.Const, .dslice (r.1.Terms.map cCoef)], .bool r.2]) := by
  unfold ref04_bound at H
  refine acallX Tryz.func183 34 [.cell 4 39, .tmp 5] (by kernel_rfl) (by kernel_rfl) ?_
  refine p_at Tryz.mo 6 [.rg 0 [] [.m, .v], .rg 0 [] [.v]] [.only [0, 1, 4, 5, 6] [4]] 6 [] (ref04_bound_S1 x0 x1 0 ()) all_nil (by kernel_rfl) ?_
  refine bnd H fun R57 h58 H59 => ?_
  refine p_joinO 1 (ref04_bound_S2) R57 (by kernel_rfl) ?_ (fun u92 e93 => ?_)
  · refine p_cnt (ref04_bound_S1 x0 x1) (by kernel_rfl) h58 (fun i37 s36 h61 e62 => ?_) (fun i37 s36 h69 q65 h66 h67 => ?_)
    · have c63 : decide (((i37 : Nat) : Int) < ((x0.length : Nat) : Int)) = false := decide_eq_false (by omega)
      subst e62
      exact p_bar Tryz.mo 5 [.rg 0 [] [.v, .v, .e (.int .i64 ((x0.length : Nat) : Int)), .e (.bool false)]] [.only [4, 5] [4]] (ref04_bound_S2 ()) (all_cons trivial (all_cons (lenm cBind x0) (all_cons (congrArg (AV.bool) c63) all_nil))) (by kernel_rfl)
    · have c68 : decide (((i37 : Nat) : Int) < ((x0.length : Nat) : Int)) = true := decide_eq_true (by omega)
      refine p_at Tryz.mo 8 [.rg 0 [] [.v, .v, .e (.int .i64 ((x0.length : Nat) : Int)), .e (.bool true)]] [.only [0, 1, 4, 5, 6, 10] [4]] 8 [true] ⟨34, [(0, .dslice (x0.map cBind)), (1, .str x1), (4, .hptr 4 0), (5, .bool false), (6, .int .i64 ((i37 : Nat) : Int)), (10, .bool true)], [(4, .cells 39 [.int .i64 0, .eslice])]⟩ (all_cons trivial (all_cons (lenm cBind x0) (all_cons (congrArg (AV.bool) c68) all_nil))) (by kernel_rfl) ?_
      refine bnd h66 fun v70 h71 H72 => ?_
      refine p_join 0 (ref04_bound_S3 x0 x1 i37 v70) (by kernel_rfl) ?_ ?_
      · refine bsp h71 (fun c73 H74 => ?_) (fun c75 H76 => ?_)
        · refine some_e H74 fun e77 => ?_
          subst e77
          exact p_bar Tryz.mo 1 [.rg 0 [] [.v, .v, .e (.dptr [.int .i64 ((x0.getD i37 (⟨0, [], ⟨0, []⟩, ⟨[], []⟩, []⟩)).Kind), .str ((x0.getD i37 (⟨0, [], ⟨0, []⟩, ⟨[], []⟩, []⟩)).Var), .int .i64 (((x0.getD i37 (⟨0, [], ⟨0, []⟩, ⟨[], []⟩, []⟩)).Dim).Const), .dslice ((((x0.getD i37 (⟨0, [], ⟨0, []⟩, ⟨[], []⟩, []⟩)).Dim).Terms).map cCoef), .str (((x0.getD i37 (⟨0, [], ⟨0, []⟩, ⟨[], []⟩, []⟩)).Row).Row), .dslice ((((x0.getD i37 (⟨0, [], ⟨0, []⟩, ⟨[], []⟩, []⟩)).Row).Dims).map cLinear), .str ((x0.getD i37 (⟨0, [], ⟨0, []⟩, ⟨[], []⟩, []⟩)).Elem)]), .v, .v, .e (.bool true), .v, .v, .v, .e (.dptr [.int .i64 ((x0.getD i37 (⟨0, [], ⟨0, []⟩, ⟨[], []⟩, []⟩)).Kind), .str ((x0.getD i37 (⟨0, [], ⟨0, []⟩, ⟨[], []⟩, []⟩)).Var), .int .i64 (((x0.getD i37 (⟨0, [], ⟨0, []⟩, ⟨[], []⟩, []⟩)).Dim).Const), .dslice ((((x0.getD i37 (⟨0, [], ⟨0, []⟩, ⟨[], []⟩, []⟩)).Dim).Terms).map cCoef), .str (((x0.getD i37 (⟨0, [], ⟨0, []⟩, ⟨[], []⟩, []⟩)).Row).Row), .dslice ((((x0.getD i37 (⟨0, [], ⟨0, []⟩, ⟨[], []⟩, []⟩)).Row).Dims).map cLinear), .str ((x0.getD i37 (⟨0, [], ⟨0, []⟩, ⟨[], []⟩, []⟩)).Elem)]), .v, .v, .v, .v, .v]] [.only [0, 1, 4, 5, 6, 10, 27] [4]] (ref04_bound_S3 x0 x1 i37 (((x0.getD i37 (⟨0, [], ⟨0, []⟩, ⟨[], []⟩, []⟩)).Var) == x1)) (all_app (ix (f := cBind) (l := x0) (n := i37) (⟨0, [], ⟨0, []⟩, ⟨[], []⟩, []⟩) cBind_len (by decide) (by omega)) (all_cons (congrArg (AV.bool) c73) (all_app (ix (f := cBind) (l := x0) (n := i37) (⟨0, [], ⟨0, []⟩, ⟨[], []⟩, []⟩) cBind_len (by decide) (by omega)) all_nil))) (by kernel_rfl)
        · refine some_e H76 fun e78 => ?_
          subst e78
          exact p_bar Tryz.mo 1 [.rg 0 [] [.v, .v, .e (.dptr [.int .i64 ((x0.getD i37 (⟨0, [], ⟨0, []⟩, ⟨[], []⟩, []⟩)).Kind), .str ((x0.getD i37 (⟨0, [], ⟨0, []⟩, ⟨[], []⟩, []⟩)).Var), .int .i64 (((x0.getD i37 (⟨0, [], ⟨0, []⟩, ⟨[], []⟩, []⟩)).Dim).Const), .dslice ((((x0.getD i37 (⟨0, [], ⟨0, []⟩, ⟨[], []⟩, []⟩)).Dim).Terms).map cCoef), .str (((x0.getD i37 (⟨0, [], ⟨0, []⟩, ⟨[], []⟩, []⟩)).Row).Row), .dslice ((((x0.getD i37 (⟨0, [], ⟨0, []⟩, ⟨[], []⟩, []⟩)).Row).Dims).map cLinear), .str ((x0.getD i37 (⟨0, [], ⟨0, []⟩, ⟨[], []⟩, []⟩)).Elem)]), .v, .v, .e (.bool false), .v, .s, .s, .s, .s, .s, .s, .s, .v]] [.only [0, 1, 4, 5, 6, 10, 27] [4]] (ref04_bound_S3 x0 x1 i37 false) (all_app (ix (f := cBind) (l := x0) (n := i37) (⟨0, [], ⟨0, []⟩, ⟨[], []⟩, []⟩) cBind_len (by decide) (by omega)) (all_cons (congrArg (AV.bool) c75) all_nil)) (by kernel_rfl)
      · refine bsp H72 (fun c79 H80 => ?_) (fun c81 H82 => ?_)
        · refine some_e H80 fun e83 => ?_
          subst e83
          have e84 := out_ret h67
          subst e84
          have H85 := aft_ret H59
          refine some_e H85 fun e86 => ?_
          subst e86
          exact p_ret Tryz.mo 5 [.eqT 27 (.bool true), .rg 0 [] [.v, .v, .e (.dptr [.int .i64 ((x0.getD i37 (⟨0, [], ⟨0, []⟩, ⟨[], []⟩, []⟩)).Kind), .str ((x0.getD i37 (⟨0, [], ⟨0, []⟩, ⟨[], []⟩, []⟩)).Var), .int .i64 (((x0.getD i37 (⟨0, [], ⟨0, []⟩, ⟨[], []⟩, []⟩)).Dim).Const), .dslice ((((x0.getD i37 (⟨0, [], ⟨0, []⟩, ⟨[], []⟩, []⟩)).Dim).Terms).map cCoef), .str (((x0.getD i37 (⟨0, [], ⟨0, []⟩, ⟨[], []⟩, []⟩)).Row).Row), .dslice ((((x0.getD i37 (⟨0, [], ⟨0, []⟩, ⟨[], []⟩, []⟩)).Row).Dims).map cLinear), .str ((x0.getD i37 (⟨0, [], ⟨0, []⟩, ⟨[], []⟩, []⟩)).Elem)]), .v, .v, .m, .v]] [] [] (all_cons (congrArg (AV.bool) c79) (all_app (ix (f := cBind) (l := x0) (n := i37) (⟨0, [], ⟨0, []⟩, ⟨[], []⟩, []⟩) cBind_len (by decide) (by omega)) all_nil)) (by kernel_rfl)
        · refine t_lens 0 (ps := [(x0.map cBind).length ≤ 9223372036854775807]) (by kernel_rfl) (fun l89 => ?_)
          have l90 : x0.length ≤ 9223372036854775807 := by simpa only [All, List.length_map] using l89
          clear l89
          refine some_e H82 fun e91 => ?_
          subst e91
          exact p_bar Tryz.mo 4 [.eqT 27 (.bool false), .rg 0 [] [.v, .v, .v]] [.only [0, 1, 4, 5, 6] [4]] (ref04_bound_S1 x0 x1 (i37 + 1) ()) (all_cons (congrArg (AV.bool) c81) (all_cons (show I64 (((i37 : Nat) : Int) + 1) from by unfold I64; omega) all_nil)) (by kernel_rfl)
  · subst e93
    have H94 := aft_brk H59
    refine some_e H94 fun e95 => ?_
    subst e95
    exact p_ret Tryz.mo 3 [.rg 0 [] [.b, .m, .v]] [.wkH 4 1 []] [] all_nil (by kernel_rfl)
/-- framewise/framewiseref04.Var -/
def ref04_Var (x0 : Str) : Option Linear :=
  some (Linear.mk 0 [(Coef.mk x0 1)])
theorem ref04_Var_c (x0 : Str) (r : Linear) (H : ref04_Var x0 = some r) : AFn Tryz.prog 184 [.str x0] (.agg [.int .i64 r.Const, .dslice (r.Terms.map cCoef)]) := by
  unfold ref04_Var at H
  refine acallX Tryz.func184 7 [.cell 2 39] (by kernel_rfl) (by kernel_rfl) ?_
  refine some_e H fun e1 => ?_
  subst e1
  exact p_ret Tryz.mo 5 [.rg 0 [] [.m], .rg 0 [] [.v, .b, .b, .b, .m]] [] [] all_nil (by kernel_rfl)
/-- framewise/framewiseref04.Plus -/
def ref04_Plus (x0 : Linear) (x1 : Str) (x2 : Int) : Option Linear :=
  (cnt (σ := (Bool × (List Coef))) (ε := (Bool × (List Coef))) (ρ := Empty) (fun i62 s61 =>
    ((
      bif s61.1 then (
        some (true, false)
      ) else (
        some (false, !(Op.bytesLess ((x0.Terms.getD i62 ⟨[], 0⟩).Var) x1 || ((x0.Terms.getD i62 ⟨[], 0⟩).Var) == x1))
      )
    ) : Option (Bool × Bool)).bind fun v113 =>
    ((
      bif v113.2 then (
        grd ((s61.2.length + 1) * 24 ≤ 140737488355328) <|
        some (true, true, (s61.2 ++ [(Coef.mk x1 x2)]))
      ) else (
        some (v113.1, false, s61.2)
      )
    ) : Option (Bool × Bool × (List Coef))).bind fun v126 =>
    ((
      bif (((x0.Terms.getD i62 ⟨[], 0⟩).Var) == x1) then (
        some (true, true, (w64 (((x0.Terms.getD i62 ⟨[], 0⟩).C) + x2)))
      ) else (
        some (v126.1, false, ((x0.Terms.getD i62 ⟨[], 0⟩).C))
      )
    ) : Option (Bool × Bool × Int)).bind fun v137 =>
    grd ((v126.2.2.length + 1) * 24 ≤ 140737488355328) <|
    some (.go (v137.1, (v126.2.2 ++ [(Coef.mk ((x0.Terms.getD i62 ⟨[], 0⟩).Var) v137.2.2)])))
  ) (fun i62 s61 => (s61.1, s61.2)) (x0.Terms.length - 0) 0 (false, [])).bind <| aftE fun u153 =>
  ((
    bif u153.1 then (
      some u153.2
    ) else (
      grd ((u153.2.length + 1) * 24 ≤ 140737488355328) <|
      some (u153.2 ++ [(Coef.mk x1 x2)])
    )
  ) : Option (List Coef)).bind fun v160 =>
  (whl (σ := (Int × Int × (List Coef))) (ε := (Int × (List Coef))) (ρ := Empty) (fun s232 =>
    bif decide (s232.2.1 < ((s232.2.2.length : Nat) : Int)) then (
      grd (0 ≤ s232.2.1 ∧ s232.2.1 < (s232.2.2.length : Int)) <|
      grd (s232.2.1.toNat < s232.2.2.length) <|
      ((
        bif (((s232.2.2.getD s232.2.1.toNat ⟨[], 0⟩).C) == 0) then (
          some (s232.1, false, s232.2.2)
        ) else (
          grd (0 ≤ s232.1 ∧ s232.1 < (s232.2.2.length : Int)) <|
          grd (s232.1.toNat < s232.2.2.length) <|
          some ((w64 (s232.1 + 1)), true, (s232.2.2.set s232.1.toNat (Coef.mk ((s232.2.2.getD s232.2.1.toNat ⟨[], 0⟩).Var) ((s232.2.2.getD s232.2.1.toNat ⟨[], 0⟩).C))))
        )
      ) : Option (Int × Bool × (List Coef))).bind fun v284 =>
      some (.go (v284.1, (w64 (s232.2.1 + 1)), v284.2.2))
    ) else (
      some (.brk (s232.1, s232.2.2))
    )
  ) 4294967296 (0, 0, v160)).bind <| aftE fun u300 =>
  grd (0 ≤ u300.1 ∧ u300.1 ≤ (u300.2.length : Int)) <|
  some (Linear.mk x0.Const (u300.2.take u300.1.toNat))
def ref04_Plus_S1 (x0 : Linear) (x1 : Str) (x2 : Int) (i62 : Nat) (s61 : (Bool × (List Coef))) : AS := ⟨100, [(1, .str x1), (2, .int .i64 x2), (3, .hptr 3 0), (6, .hptr 6 0), (7, .hptr 7 0), (8, .bool s61.1), (9, .int .i64 ((i62 : Nat) : Int))], [(3, .cells 39 [.int .i64 x0.Const, .dslice (x0.Terms.map cCoef)]), (6, .cells 39 [.int .i64 0, .eslice]), (7, .cells 39 [.int .i64 x0.Const, .rslice 57]), (57, .row 44 2 (s61.2.map cCoef))]⟩
def ref04_Plus_S2 (x0 : Linear) (x1 : Str) (x2 : Int) (u103 : (Bool × (List Coef))) : AS := ⟨100, [(1, .str x1), (2, .int .i64 x2), (6, .hptr 6 0), (7, .hptr 7 0), (8, .bool u103.1)], [(6, .cells 39 [.int .i64 0, .eslice]), (7, .cells 39 [.int .i64 x0.Const, .rslice 57]), (57, .row 44 2 (u103.2.map cCoef))]⟩
def ref04_Plus_S3 (x0 : Linear) (x1 : Str) (x2 : Int) (i62 : Nat) (s61 : (Bool × (List Coef))) (v113 : (Bool × Bool)) : AS := ⟨100, [(1, .str x1), (2, .int .i64 x2), (3, .hptr 3 0), (6, .hptr 6 0), (7, .hptr 7 0), (8, .bool v113.1), (9, .int .i64 ((i62 : Nat) : Int)), (10, .hptr 10 0), (20, .bool true), (35, .bool v113.2)], [(3, .cells 39 [.int .i64 x0.Const, .dslice (x0.Terms.map cCoef)]), (6, .cells 39 [.int .i64 0, .eslice]), (7, .cells 39 [.int .i64 x0.Const, .rslice 57]), (10, .cells 44 [.str ((x0.Terms.getD i62 ⟨[], 0⟩).Var), .int .i64 ((x0.Terms.getD i62 ⟨[], 0⟩).C)]), (57, .row 44 2 (s61.2.map cCoef))]⟩
def ref04_Plus_S4 (x0 : Linear) (x1 : Str) (x2 : Int) (i62 : Nat) (v126 : (Bool × Bool × (List Coef))) : AS := ⟨100, [(1, .str x1), (2, .int .i64 x2), (3, .hptr 3 0), (6, .hptr 6 0), (7, .hptr 7 0), (8, .bool v126.1), (9, .int .i64 ((i62 : Nat) : Int)), (10, .hptr 10 0), (20, .bool true), (35, .bool v126.2.1)], [(3, .cells 39 [.int .i64 x0.Const, .dslice (x0.Terms.map cCoef)]), (6, .cells 39 [.int .i64 0, .eslice]), (7, .cells 39 [.int .i64 x0.Const, .rslice 57]), (10, .cells 44 [.str ((x0.Terms.getD i62 ⟨[], 0⟩).Var), .int .i64 ((x0.Terms.getD i62 ⟨[], 0⟩).C)]), (57, .row 44 2 (v126.2.2.map cCoef))]⟩
def ref04_Plus_S5 (x0 : Linear) (x1 : Str) (x2 : Int) (i62 : Nat) (v126 : (Bool × Bool × (List Coef))) (v137 : (Bool × Bool × Int)) : AS := ⟨100, [(1, .str x1), (2, .int .i64 x2), (3, .hptr 3 0), (6, .hptr 6 0), (7, .hptr 7 0), (8, .bool v137.1), (9, .int .i64 ((i62 : Nat) : Int)), (10, .hptr 10 0), (20, .bool true), (35, .bool v126.2.1), (47, .bool v137.2.1)], [(3, .cells 39 [.int .i64 x0.Const, .dslice (x0.Terms.map cCoef)]), (6, .cells 39 [.int .i64 0, .eslice]), (7, .cells 39 [.int .i64 x0.Const, .rslice 57]), (10, .cells 44 [.str ((x0.Terms.getD i62 ⟨[], 0⟩).Var), .int .i64 v137.2.2]), (57, .row 44 2 (v126.2.2.map cCoef))]⟩
def ref04_Plus_S6 (x0 : Linear) (v160 : (List Coef)) : AS := ⟨100, [(6, .hptr 6 0), (7, .hptr 7 0)], [(6, .cells 39 [.int .i64 0, .eslice]), (7, .cells 39 [.int .i64 x0.Const, .rslice 67]), (67, .row 44 2 (v160.map cCoef))]⟩
def ref04_Plus_S7 (x0 : Linear) (s232 : (Int × Int × (List Coef))) : AS := ⟨100, [(6, .hptr 6 0), (7, .hptr 7 0), (11, .int .i64 s232.1), (12, .int .i64 s232.2.1)], [(6, .cells 39 [.int .i64 0, .eslice]), (7, .cells 39 [.int .i64 x0.Const, .rslice 67]), (67, .row 44 2 (s232.2.2.map cCoef))]⟩
def ref04_Plus_S8 (x0 : Linear) (u264 : (Int × (List Coef))) : AS := ⟨100, [(6, .hptr 6 0), (7, .hptr 7 0), (11, .int .i64 u264.1)], [(6, .cells 39 [.int .i64 0, .eslice]), (7, .cells 39 [.int .i64 x0.Const, .rslice 67]), (67, .row 44 2 (u264.2.map cCoef))]⟩
def ref04_Plus_S9 (x0 : Linear) (s232 : (Int × Int × (List Coef))) (v284 : (Int × Bool × (List Coef))) : AS := ⟨100, [(6, .hptr 6 0), (7, .hptr 7 0), (11, .int .i64 v284.1), (12, .int .i64 s232.2.1), (73, .bool true), (82, .bool v284.2.1)], [(6, .cells 39 [.int .i64 0, .eslice]), (7, .cells 39 [.int .i64 x0.Const, .rslice 67]), (67, .row 44 2 (v284.2.2.map cCoef))]⟩
theorem ref04_Plus_c (x0 : Linear) (x1 : Str) (x2 : Int) (r : Linear) (H : ref04_Plus x0 x1 x2 = some r) : AFn Tryz.prog 163 [.agg [.int .i64 x0.Const, .dslice (x0.Terms.map cCoef)], .str x1, .int .i64 x2] (.agg [.int .i64 r.Const, .dslice (r.Terms.map cCoef)]) := by
  unfold ref04_Plus at H
  refine acallX Tryz.func163 100 [.cell 6 39] (by kernel_rfl) (by kernel_rfl) ?_
  refine p_at Tryz.mo 10 [.rg 0 [] [.m, .m], .rg 0 [] [.v, .v, .b, .m, .m], .rg 0 [] [.v], .rg 0 [] [.v]] [.erH 7 1 57 44 2, .only [1, 2, 3, 6, 7, 8, 9] [3, 6, 7, 57]] 10 [] (ref04_Plus_S1 x0 x1 x2 0 (false, [])) all_nil (by kernel_rfl) ?_
  refine bnd H fun R100 h101 H102 => ?_
  refine p_joinO 1 (ref04_Plus_S2 x0 x1 x2) R100 (by kernel_rfl) ?_ (fun u153 e154 => ?_)
  · refine p_cnt (ref04_Plus_S1 x0 x1 x2) (by kernel_rfl) h101 (fun i62 s61 h104 e105 => ?_) (fun i62 s61 h112 q108 h109 h110 => ?_)
    · have c106 : decide (((i62 : Nat) : Int) < ((x0.Terms.length : Nat) : Int)) = false := decide_eq_false (by omega)
      subst e105
      exact p_bar Tryz.mo 5 [.rg 0 [] [.v, .v, .v, .e (.int .i64 ((x0.Terms.length : Nat) : Int)), .e (.bool false)]] [.only [1, 2, 6, 7, 8] [6, 7, 57]] (ref04_Plus_S2 x0 x1 x2 (s61.1, s61.2)) (all_cons trivial (all_cons (lenm cCoef x0.Terms) (all_cons (congrArg (AV.bool) c106) all_nil))) (by kernel_rfl)
    · have c111 : decide (((i62 : Nat) : Int) < ((x0.Terms.length : Nat) : Int)) = true := decide_eq_true (by omega)
      refine p_at Tryz.mo 11 [.rg 0 [] [.v, .v, .v, .e (.int .i64 ((x0.Terms.length : Nat) : Int)), .e (.bool true)], .rg 0 [] [.v, .v, .v, .e (.dptr [.str ((x0.Terms.getD i62 ⟨[], 0⟩).Var), .int .i64 ((x0.Terms.getD i62 ⟨[], 0⟩).C)]), .v, .m, .m]] [.only [1, 2, 3, 6, 7, 8, 9, 10, 20] [3, 6, 7, 10, 57]] 11 [true] ⟨100, [(1, .str x1), (2, .int .i64 x2), (3, .hptr 3 0), (6, .hptr 6 0), (7, .hptr 7 0), (8, .bool s61.1), (9, .int .i64 ((i62 : Nat) : Int)), (10, .hptr 10 0), (20, .bool true)], [(3, .cells 39 [.int .i64 x0.Const, .dslice (x0.Terms.map cCoef)]), (6, .cells 39 [.int .i64 0, .eslice]), (7, .cells 39 [.int .i64 x0.Const, .rslice 57]), (10, .cells 44 [.str ((x0.Terms.getD i62 ⟨[], 0⟩).Var), .int .i64 ((x0.Terms.getD i62 ⟨[], 0⟩).C)]), (57, .row 44 2 (s61.2.map cCoef))]⟩ (all_cons trivial (all_cons (lenm cCoef x0.Terms) (all_cons (congrArg (AV.bool) c111) (all_app (ix (f := cCoef) (l := x0.Terms) (n := i62) ⟨[], 0⟩ cCoef_len (by decide) (by omega)) all_nil)))) (by kernel_rfl) ?_
      refine bnd h109 fun v113 h114 H115 => ?_
      refine p_join 0 (ref04_Plus_S3 x0 x1 x2 i62 s61 v113) (by kernel_rfl) ?_ ?_
      · refine bsp h114 (fun c116 H117 => ?_) (fun c118 H119 => ?_)
        · refine some_e H117 fun e120 => ?_
          subst e120
          exact p_bar Tryz.mo 2 [.eqT 8 (.bool true), .rg 0 [] [.v, .v, .v, .s, .s, .s, .s, .v]] [.only [1, 2, 3, 6, 7, 8, 9, 10, 20, 35] [3, 6, 7, 10, 57]] (ref04_Plus_S3 x0 x1 x2 i62 s61 (true, false)) (all_cons (congrArg (AV.bool) c116) (all_cons trivial all_nil)) (by kernel_rfl)
        · refine some_e H119 fun e121 => ?_
          subst e121
          exact p_bar Tryz.mo 2 [.eqT 8 (.bool false), .rg 0 [] [.v, .v, .v, .v, .v, .v, .v, .v]] [.only [1, 2, 3, 6, 7, 8, 9, 10, 20, 35] [3, 6, 7, 10, 57]] (ref04_Plus_S3 x0 x1 x2 i62 s61 (false, !(Op.bytesLess ((x0.Terms.getD i62 ⟨[], 0⟩).Var) x1 || ((x0.Terms.getD i62 ⟨[], 0⟩).Var) == x1))) (all_cons (congrArg (AV.bool) c118) (all_cons trivial all_nil)) (by kernel_rfl)
      · refine bnd H115 fun v126 h127 H128 => ?_
        refine p_join 0 (ref04_Plus_S4 x0 x1 x2 i62 v126) (by kernel_rfl) ?_ ?_
        · refine bsp h127 (fun c129 H130 => ?_) (fun c131 H132 => ?_)
          · refine grd_e H130 fun g133 H134 => ?_
            refine some_e H134 fun e135 => ?_
            subst e135
            exact p_bar Tryz.mo 5 [.eqT 35 (.bool true), .rg 0 [] [.v, .v, .v, .v, .b, .b, .ap, .rwH 42 (.row 44 2 ((s61.2 ++ [(Coef.mk x1 x2)]).map cCoef)), .v, .m], .rg 0 [] [.v]] [.ren [(3, 3), (6, 6), (7, 7), (10, 10), (42, 57)], .only [1, 2, 3, 6, 7, 8, 9, 10, 20, 35] [3, 6, 7, 10, 57]] (ref04_Plus_S4 x0 x1 x2 i62 (true, true, (s61.2 ++ [(Coef.mk x1 x2)]))) (all_cons (congrArg (AV.bool) c129) (all_app (apR (c := cCoef) cCoef_ok s61.2 [(Coef.mk x1 x2)] 24 (by decide) (by simpa using g133)) (all_cons (apQ 44 2 cCoef s61.2 [(Coef.mk x1 x2)]) all_nil))) (by kernel_rfl)
          · refine some_e H132 fun e136 => ?_
            subst e136
            exact p_bar Tryz.mo 3 [.eqT 35 (.bool false)] [.only [1, 2, 3, 6, 7, 8, 9, 10, 20, 35] [3, 6, 7, 10, 57]] (ref04_Plus_S4 x0 x1 x2 i62 (v113.1, false, s61.2)) (all_cons (congrArg (AV.bool) c131) all_nil) (by kernel_rfl)
        · refine p_at Tryz.mo 3 [.rg 0 [] [.v, .v, .v, .v]] [.only [1, 2, 3, 6, 7, 8, 9, 10, 20, 35, 47] [3, 6, 7, 10, 57]] 3 [] ⟨100, [(1, .str x1), (2, .int .i64 x2), (3, .hptr 3 0), (6, .hptr 6 0), (7, .hptr 7 0), (8, .bool v126.1), (9, .int .i64 ((i62 : Nat) : Int)), (10, .hptr 10 0), (20, .bool true), (35, .bool v126.2.1), (47, .bool (((x0.Terms.getD i62 ⟨[], 0⟩).Var) == x1))], [(3, .cells 39 [.int .i64 x0.Const, .dslice (x0.Terms.map cCoef)]), (6, .cells 39 [.int .i64 0, .eslice]), (7, .cells 39 [.int .i64 x0.Const, .rslice 57]), (10, .cells 44 [.str ((x0.Terms.getD i62 ⟨[], 0⟩).Var), .int .i64 ((x0.Terms.getD i62 ⟨[], 0⟩).C)]), (57, .row 44 2 (v126.2.2.map cCoef))]⟩ all_nil (by kernel_rfl) ?_
          refine bnd H128 fun v137 h138 H139 => ?_
          refine p_join 0 (ref04_Plus_S5 x0 x1 x2 i62 v126 v137) (by kernel_rfl) ?_ ?_
          · refine bsp h138 (fun c140 H141 => ?_) (fun c142 H143 => ?_)
            · refine some_e H141 fun e144 => ?_
              subst e144
              exact p_bar Tryz.mo 5 [.eqT 47 (.bool true), .rg 0 [] [.v, .v, .v, .w, .v, .m], .rg 0 [] [.v]] [.only [1, 2, 3, 6, 7, 8, 9, 10, 20, 35, 47] [3, 6, 7, 10, 57]] (ref04_Plus_S5 x0 x1 x2 i62 v126 (true, true, (w64 (((x0.Terms.getD i62 ⟨[], 0⟩).C) + x2)))) (all_cons (congrArg (AV.bool) c140) all_nil) (by kernel_rfl)
            · refine some_e H143 fun e145 => ?_
              subst e145
              exact p_bar Tryz.mo 3 [.eqT 47 (.bool false)] [.only [1, 2, 3, 6, 7, 8, 9, 10, 20, 35, 47] [3, 6, 7, 10, 57]] (ref04_Plus_S5 x0 x1 x2 i62 v126 (v126.1, false, ((x0.Terms.getD i62 ⟨[], 0⟩).C))) (all_cons (congrArg (AV.bool) c142) all_nil) (by kernel_rfl)
          · refine grd_e H139 fun g146 H147 => ?_
            refine t_lensH 3 1 (ps := [(x0.Terms.map cCoef).length ≤ 9223372036854775807]) (by kernel_rfl) (fun l150 => ?_)
            have l151 : x0.Terms.length ≤ 9223372036854775807 := by simpa only [All, List.length_map] using l150
            clear l150
            refine some_e H147 fun e152 => ?_
            subst e152
            exact p_bar Tryz.mo 2 [.rg 0 [] [.v, .v, .v, .b, .ap, .rwH 57 (.row 44 2 ((v126.2.2 ++ [(Coef.mk ((x0.Terms.getD i62 ⟨[], 0⟩).Var) v137.2.2)]).map cCoef)), .v, .m], .rg 0 [] [.v, .v, .v]] [.only [1, 2, 3, 6, 7, 8, 9] [3, 6, 7, 57]] (ref04_Plus_S1 x0 x1 x2 (i62 + 1) (v137.1, (v126.2.2 ++ [(Coef.mk ((x0.Terms.getD i62 ⟨[], 0⟩).Var) v137.2.2)]))) (all_app (apR (c := cCoef) cCoef_ok v126.2.2 [(Coef.mk ((x0.Terms.getD i62 ⟨[], 0⟩).Var) v137.2.2)] 24 (by decide) (by simpa using g146)) (all_cons (apQ 44 2 cCoef v126.2.2 [(Coef.mk ((x0.Terms.getD i62 ⟨[], 0⟩).Var) v137.2.2)]) (all_cons (show I64 (((i62 : Nat) : Int) + 1) from by unfold I64; omega) all_nil))) (by kernel_rfl)
  · subst e154
    have H155 := aftE_brk H102
    refine p_at Tryz.mo 3 [.rg 0 [] [.v, .v]] [.only [1, 2, 6, 7, 60] [6, 7, 57]] 3 [] ⟨100, [(1, .str x1), (2, .int .i64 x2), (6, .hptr 6 0), (7, .hptr 7 0), (60, .bool (!u153.1))], [(6, .cells 39 [.int .i64 0, .eslice]), (7, .cells 39 [.int .i64 x0.Const, .rslice 57]), (57, .row 44 2 (u153.2.map cCoef))]⟩ (all_cons trivial all_nil) (by kernel_rfl) ?_
    refine bnd H155 fun v160 h161 H162 => ?_
    refine p_join 0 (ref04_Plus_S6 x0 v160) (by kernel_rfl) ?_ ?_
    · refine bsp h161 (fun c163 H164 => ?_) (fun c165 H166 => ?_)
      · refine some_e H164 fun e167 => ?_
        subst e167
        exact p_bar Tryz.mo 3 [.eqT 60 (.bool false)] [.ren [(6, 6), (7, 7), (57, 67)], .only [6, 7] [6, 7, 67]] (ref04_Plus_S6 x0 u153.2) (all_cons (congrArg (fun x => AV.bool (!x)) c163) all_nil) (by kernel_rfl)
      · refine grd_e H166 fun g168 H169 => ?_
        refine some_e H169 fun e170 => ?_
        subst e170
        exact p_bar Tryz.mo 3 [.eqT 60 (.bool true), .rg 0 [] [.v, .v, .v, .v, .b, .b, .ap, .rwH 67 (.row 44 2 ((u153.2 ++ [(Coef.mk x1 x2)]).map cCoef)), .v, .m]] [.only [6, 7] [6, 7, 67]] (ref04_Plus_S6 x0 (u153.2 ++ [(Coef.mk x1 x2)])) (all_cons (congrArg (fun x => AV.bool (!x)) c165) (all_app (apR (c := cCoef) cCoef_ok u153.2 [(Coef.mk x1 x2)] 24 (by decide) (by simpa using g168)) (all_cons (apQ 44 2 cCoef u153.2 [(Coef.mk x1 x2)]) all_nil))) (by kernel_rfl)
    · refine p_at Tryz.mo 6 [.rg 0 [] [.v], .rg 0 [] [.v]] [.only [6, 7, 11, 12] [6, 7, 67]] 6 [] (ref04_Plus_S7 x0 (0, 0, v160)) all_nil (by kernel_rfl) ?_
      refine bnd H162 fun R261 h262 H263 => ?_
      refine p_joinO 1 (ref04_Plus_S8 x0) R261 (by kernel_rfl) ?_ (fun u300 e301 => ?_)
      · refine p_whl (ref04_Plus_S7 x0) (by kernel_rfl) h262 (fun s232 q265 h266 h267 => ?_)
        · refine bsp h266 (fun c268 H269 => ?_) (fun c270 H271 => ?_)
          · have c268p := of_decide_eq_true c268
            refine grd_e H269 fun g272 H273 => ?_
            refine grd_e H273 fun g274 H275 => ?_
            refine p_at Tryz.mo 10 [.rg 0 [] [.v, .v, .v, .e (.int .i64 ((s232.2.2.length : Nat) : Int)), .v], .eqT 73 (.bool true), .rg 0 [] [.v, .v, .v, .v, .v, .rl s232.2.1.toNat 1 (.int .i64 ((s232.2.2.getD s232.2.1.toNat ⟨[], 0⟩).C)), .v]] [.only [6, 7, 11, 12, 73, 82] [6, 7, 67]] 9 [true] ⟨100, [(6, .hptr 6 0), (7, .hptr 7 0), (11, .int .i64 s232.1), (12, .int .i64 s232.2.1), (73, .bool true), (82, .bool (((s232.2.2.getD s232.2.1.toNat ⟨[], 0⟩).C) != 0))], [(6, .cells 39 [.int .i64 0, .eslice]), (7, .cells 39 [.int .i64 x0.Const, .rslice 67]), (67, .row 44 2 (s232.2.2.map cCoef))]⟩ (all_cons trivial (all_cons (lenm cCoef s232.2.2) (all_cons (congrArg (AV.bool) c268) (all_cons (show (0 : Int) ≤ s232.2.1 ∧ s232.2.1 < ((s232.2.2.map cCoef).length : Int) from by rw [List.length_map]; exact g272) (all_cons (rlP (f := cCoef) (l := s232.2.2) (n := s232.2.1.toNat) 2 1 1 (by omega) (by decide)) (all_cons (rl1 (f := cCoef) (l := s232.2.2) (n := s232.2.1.toNat) ⟨[], 0⟩ 1 (by omega)) all_nil)))))) (by kernel_rfl) ?_
            refine bnd H275 fun v284 h285 H286 => ?_
            refine p_join 1 (ref04_Plus_S9 x0 s232 v284) (by kernel_rfl) ?_ ?_
            · refine bsp h285 (fun c287 H288 => ?_) (fun c289 H290 => ?_)
              · refine some_e H288 fun e291 => ?_
                subst e291
                exact p_bar Tryz.mo 3 [.eqT 82 (.bool false)] [.only [6, 7, 11, 12, 73, 82] [6, 7, 67]] (ref04_Plus_S9 x0 s232 (s232.1, false, s232.2.2)) (all_cons (congrArg (fun x => AV.bool (!x)) c287) all_nil) (by kernel_rfl)
              · refine grd_e H290 fun g292 H293 => ?_
                refine grd_e H293 fun g294 H295 => ?_
                refine some_e H295 fun e296 => ?_
                subst e296
                exact p_bar Tryz.mo 5 [.eqT 82 (.bool true), .rg 8 [.v, .v, .v, .v, .v, .v, .v, .rl s232.2.1.toNat 0 (.agg [.str ((s232.2.2.getD s232.2.1.toNat ⟨[], 0⟩).Var), .int .i64 ((s232.2.2.getD s232.2.1.toNat ⟨[], 0⟩).C)])] [.v, .rs s232.1.toNat 0, .rwH 67 (.row 44 2 ((s232.2.2.set s232.1.toNat (Coef.mk ((s232.2.2.getD s232.2.1.toNat ⟨[], 0⟩).Var) ((s232.2.2.getD s232.2.1.toNat ⟨[], 0⟩).C))).map cCoef))], .rg 0 [] [.v, .w, .v]] [.only [6, 7, 11, 12, 73, 82] [6, 7, 67]] (ref04_Plus_S9 x0 s232 ((w64 (s232.1 + 1)), true, (s232.2.2.set s232.1.toNat (Coef.mk ((s232.2.2.getD s232.2.1.toNat ⟨[], 0⟩).Var) ((s232.2.2.getD s232.2.1.toNat ⟨[], 0⟩).C))))) (all_cons (congrArg (fun x => AV.bool (!x)) c289) (all_cons (show (0 : Int) ≤ s232.2.1 ∧ s232.2.1 < ((s232.2.2.map cCoef).length : Int) from by rw [List.length_map]; exact g272) (all_cons (rlP (f := cCoef) (l := s232.2.2) (n := s232.2.1.toNat) 2 0 2 (by omega) (by decide)) (all_cons (rlA (f := cCoef) (l := s232.2.2) (n := s232.2.1.toNat) ⟨[], 0⟩ 0 2 (by omega)) (all_cons (show (0 : Int) ≤ s232.1 ∧ s232.1 < ((s232.2.2.map cCoef).length : Int) from by rw [List.length_map]; exact g292) (all_cons (rlP (f := cCoef) (l := s232.2.2) (n := s232.1.toNat) 2 0 2 (by omega) (by decide)) (all_cons (rsQ (f := cCoef) 44 2 s232.2.2 s232.1.toNat ⟨[], 0⟩ (Coef.mk ((s232.2.2.getD s232.2.1.toNat ⟨[], 0⟩).Var) ((s232.2.2.getD s232.2.1.toNat ⟨[], 0⟩).C)) 0 [.str ((s232.2.2.getD s232.2.1.toNat ⟨[], 0⟩).Var), .int .i64 ((s232.2.2.getD s232.2.1.toNat ⟨[], 0⟩).C)] (by omega) rfl) all_nil))))))) (by kernel_rfl)
            · refine some_e H286 fun e297 => ?_
              subst e297
              exact p_bar Tryz.mo 1 [.rg 0 [] [.v, .w, .v]] [.only [6, 7, 11, 12] [6, 7, 67]] (ref04_Plus_S7 x0 (v284.1, (w64 (s232.2.1 + 1)), v284.2.2)) all_nil (by kernel_rfl)
          · have c270p := of_decide_eq_false c270
            refine some_e H271 fun e298 => ?_
            subst e298
            have e299 := out_brk h267
            subst e299
            exact p_bar Tryz.mo 6 [.rg 0 [] [.v, .v, .v, .e (.int .i64 ((s232.2.2.length : Nat) : Int)), .v], .eqT 73 (.bool false)] [.only [6, 7, 11] [6, 7, 67]] (ref04_Plus_S8 x0 (s232.1, s232.2.2)) (all_cons trivial (all_cons (lenm cCoef s232.2.2) (all_cons (congrArg (AV.bool) c270) all_nil))) (by kernel_rfl)
      · subst e301
        have H302 := aftE_brk H263
        refine grd_e H302 fun g303 H304 => ?_
        refine some_e H304 fun e305 => ?_
        subst e305
        exact p_ret Tryz.mo 5 [.rg 0 [] [.v, .v, .v, .fz 67, .e (.dslice ((u300.2.take u300.1.toNat).map cCoef)), .v, .m], .rg 0 [] [.v, .m]] [] [] (all_cons (show ((0 : Int) ≤ 0 ∧ 0 ≤ u300.1 ∧ u300.1 ≤ ((u300.2.map cCoef).length : Int)) ∧ UL 2 (u300.2.map cCoef) from ⟨by first | omega | (simp only [List.length_map]; omega), UL.map cCoef_len _⟩) (all_cons (slm_take cCoef u300.2 u300.1.toNat) all_nil)) (by kernel_rfl)
/-- framewise/framewiseref04.Times -/
def ref04_Times (x0 : Linear) (x1 : Linear) (x2 : Int) : Option Linear :=
  grd ((0 + x0.Terms.length) * 24 ≤ 140737488355328) <|
  (cnt (σ := (Int × (List Coef))) (ε := (Int × (List Coef))) (ρ := Empty) (fun i25 s24 =>
    (ref04_Plus (Linear.mk s24.1 s24.2) ((x1.Terms.getD i25 ⟨[], 0⟩).Var) (w64 (x2 * ((x1.Terms.getD i25 ⟨[], 0⟩).C)))).bind fun y50 =>
    some (.go (y50.Const, y50.Terms))
  ) (fun i25 s24 => (s24.1, s24.2)) (x1.Terms.length - 0) 0 ((w64 (x0.Const + (w64 (x2 * x1.Const)))), x0.Terms)).bind <| aftE fun u58 =>
  some (Linear.mk u58.1 u58.2)
def ref04_Times_S1 (x1 : Linear) (x2 : Int) (i25 : Nat) (s24 : (Int × (List Coef))) : AS := ⟨45, [(2, .int .i64 x2), (4, .hptr 4 0), (6, .hptr 6 0), (7, .hptr 7 0), (8, .int .i64 ((i25 : Nat) : Int))], [(4, .cells 39 [.int .i64 x1.Const, .dslice (x1.Terms.map cCoef)]), (6, .cells 39 [.int .i64 0, .eslice]), (7, .cells 39 [.int .i64 s24.1, .dslice (s24.2.map cCoef)])]⟩
def ref04_Times_S2 (u40 : (Int × (List Coef))) : AS := ⟨45, [(6, .hptr 6 0), (7, .hptr 7 0)], [(6, .cells 39 [.int .i64 0, .eslice]), (7, .cells 39 [.int .i64 u40.1, .dslice (u40.2.map cCoef)])]⟩
theorem ref04_Times_c (x0 : Linear) (x1 : Linear) (x2 : Int) (r : Linear) (H : ref04_Times x0 x1 x2 = some r) : AFn Tryz.prog 185 [.agg [.int .i64 x0.Const, .dslice (x0.Terms.map cCoef)], .agg [.int .i64 x1.Const, .dslice (x1.Terms.map cCoef)], .int .i64 x2] (.agg [.int .i64 r.Const, .dslice (r.Terms.map cCoef)]) := by
  unfold ref04_Times at H
  refine acallX Tryz.func185 45 [.cell 6 39] (by kernel_rfl) (by kernel_rfl) ?_
  refine grd_e H fun g1 H2 => ?_
  refine p_at Tryz.mo 8 [.rg 0 [] [.m, .m, .m], .rg 13 [.v, .v, .v, .v, .v, .w, .w, .b, .v, .v, .apx (x0.Terms.map cCoef), .b, .m] [.m], .rg 0 [] [.v]] [.fz 19, .only [2, 4, 6, 7, 8] [4, 6, 7]] 8 [] (ref04_Times_S1 x1 x2 0 ((w64 (x0.Const + (w64 (x2 * x1.Const)))), x0.Terms)) (all_app (apXP (c := cCoef) cCoef_ok [] x0.Terms 24 (by decide) (by simpa using g1) rfl) all_nil) (by kernel_rfl) ?_
  refine bnd H2 fun R37 h38 H39 => ?_
  refine p_joinO 1 (ref04_Times_S2) R37 (by kernel_rfl) ?_ (fun u58 e59 => ?_)
  · refine p_cnt (ref04_Times_S1 x1 x2) (by kernel_rfl) h38 (fun i25 s24 h41 e42 => ?_) (fun i25 s24 h49 q45 h46 h47 => ?_)
    · have c43 : decide (((i25 : Nat) : Int) < ((x1.Terms.length : Nat) : Int)) = false := decide_eq_false (by omega)
      subst e42
      exact p_bar Tryz.mo 5 [.rg 0 [] [.v, .v, .v, .e (.int .i64 ((x1.Terms.length : Nat) : Int)), .e (.bool false)]] [.only [6, 7] [6, 7]] (ref04_Times_S2 (s24.1, s24.2)) (all_cons trivial (all_cons (lenm cCoef x1.Terms) (all_cons (congrArg (AV.bool) c43) all_nil))) (by kernel_rfl)
    · have c48 : decide (((i25 : Nat) : Int) < ((x1.Terms.length : Nat) : Int)) = true := decide_eq_true (by omega)
      refine bnd h46 fun y50 h51 H52 => ?_
      refine t_lensH 4 1 (ps := [(x1.Terms.map cCoef).length ≤ 9223372036854775807]) (by kernel_rfl) (fun l55 => ?_)
      have l56 : x1.Terms.length ≤ 9223372036854775807 := by simpa only [All, List.length_map] using l55
      clear l55
      refine some_e H52 fun e57 => ?_
      subst e57
      exact p_bar Tryz.mo 9 [.rg 0 [] [.v, .v, .v, .e (.int .i64 ((x1.Terms.length : Nat) : Int)), .e (.bool true)], .rg 15 [.v, .v, .v, .v, .e (.dptr [.str ((x1.Terms.getD i25 ⟨[], 0⟩).Var), .int .i64 ((x1.Terms.getD i25 ⟨[], 0⟩).C)]), .v, .v, .v, .v, .v, .v, .e (.dptr [.str ((x1.Terms.getD i25 ⟨[], 0⟩).Var), .int .i64 ((x1.Terms.getD i25 ⟨[], 0⟩).C)]), .v, .v, .w] [.c true (.agg [.int .i64 y50.Const, .dslice (y50.Terms.map cCoef)]), .m], .rg 0 [] [.v, .v, .v]] [.only [2, 4, 6, 7, 8] [4, 6, 7]] (ref04_Times_S1 x1 x2 (i25 + 1) (y50.Const, y50.Terms)) (all_cons trivial (all_cons (lenm cCoef x1.Terms) (all_cons (congrArg (AV.bool) c48) (all_app (ix (f := cCoef) (l := x1.Terms) (n := i25) ⟨[], 0⟩ cCoef_len (by decide) (by omega)) (all_app (ix (f := cCoef) (l := x1.Terms) (n := i25) ⟨[], 0⟩ cCoef_len (by decide) (by omega)) (all_cons Tryz.call163 (all_cons (AFn.is (ref04_Plus_c (Linear.mk s24.1 s24.2) ((x1.Terms.getD i25 ⟨[], 0⟩).Var) (w64 (x2 * ((x1.Terms.getD i25 ⟨[], 0⟩).C))) y50 h51)) (all_cons (show I64 (((i25 : Nat) : Int) + 1) from by unfold I64; omega) all_nil)))))))) (by kernel_rfl)
  · subst e59
    have H60 := aftE_brk H39
    refine some_e H60 fun e61 => ?_
    subst e61
    exact p_ret Tryz.mo 3 [.rg 0 [] [.v, .m]] [] [] all_nil (by kernel_rfl)
/-- framewise/framewiseref04.limited -/
def ref04_limited (x0 : Linear) : Option (Linear × Int) :=
  (ref04_Valid x0).bind fun y1 =>
  bif y1 then (
    some (x0, 0)
  ) else (
    some ((Linear.mk 0 []), 3)
  )
theorem ref04_limited_c (x0 : Linear) (r : (Linear × Int)) (H : ref04_limited x0 = some r) : AFn Tryz.prog 164 [.agg [.int .i64 x0.Const, .dslice (x0.Terms.map cCoef)]] (.tup [.agg [.int .i64 r.1.Const, .dslice (r.1.Terms.map cCoef)], .int .i64 r.2]) := by
  unfold ref04_limited at H
  refine acallX Tryz.func164 9 [.cell 2 39, .tmp 3] (by kernel_rfl) (by kernel_rfl) ?_
  refine bnd H fun y1 h2 H3 => ?_
  refine bsp H3 (fun c4 H5 => ?_) (fun c6 H7 => ?_)
  · refine some_e H5 fun e8 => ?_
    subst e8
    exact p_ret Tryz.mo 11 [.rg 0 [] [.m, .m, .v], .rg 0 [] [.v, .c true (.bool y1), .v], .eqT 6 (.bool false), .rg 0 [] [.v, .m, .v]] [] [] (all_cons Tryz.call87 (all_cons (AFn.is (ref04_Valid_c x0 y1 h2)) (all_cons trivial (all_cons (congrArg (fun x => AV.bool (!x)) c4) all_nil)))) (by kernel_rfl)
  · refine some_e H7 fun e9 => ?_
    subst e9
    exact p_ret Tryz.mo 10 [.rg 0 [] [.m, .m, .v], .rg 0 [] [.v, .c true (.bool y1), .v], .eqT 6 (.bool true), .rg 0 [] [.b, .m, .v]] [.wkH 2 1 []] [] (all_cons Tryz.call87 (all_cons (AFn.is (ref04_Valid_c x0 y1 h2)) (all_cons trivial (all_cons (congrArg (fun x => AV.bool (!x)) c6) all_nil)))) (by kernel_rfl)
/-- framewise/framewiseref04.Subst -/
def ref04_Subst (x0 : Linear) (x1 : (List Bind)) : Option (Linear × Int) :=
  (ref04_Valid x0).bind fun y1 =>
  bif y1 then (
    (cnt (σ := (Int × (List Coef))) (ε := (Int × (List Coef))) (ρ := (Linear × Int)) (fun i82 s81 =>
      (ref04_bound x1 ((x0.Terms.getD i82 ⟨[], 0⟩).Var)).bind fun y133 =>
      ((
        bif y133.2 then (
          some (false, y133.1.Const, y133.1.Terms)
        ) else (
          (ref04_Var ((x0.Terms.getD i82 ⟨[], 0⟩).Var)).bind fun y150 =>
          some (true, y150.Const, y150.Terms)
        )
      ) : Option (Bool × Int × (List Coef))).bind fun v142 =>
      (ref04_Valid (Linear.mk v142.2.1 v142.2.2)).bind fun y154 =>
      bif y154 then (
        (ref04_Times (Linear.mk s81.1 s81.2) (Linear.mk v142.2.1 v142.2.2) ((x0.Terms.getD i82 ⟨[], 0⟩).C)).bind fun y161 =>
        some (.go (y161.Const, y161.Terms))
      ) else (
        some (.ret ((Linear.mk 0 []), 1))
      )
    ) (fun i82 s81 => (s81.1, s81.2)) (x0.Terms.length - 0) 0 (x0.Const, [])).bind <| aft fun u173 =>
    (ref04_limited (Linear.mk u173.1 u173.2)).bind fun y176 =>
    some (y176.1, y176.2)
  ) else (
    some ((Linear.mk 0 []), 1)
  )
def ref04_Subst_S1 (x0 : Linear) (x1 : (List Bind)) (i82 : Nat) (s81 : (Int × (List Coef))) : AS := ⟨55, [(1, .dslice (x1.map cBind)), (2, .hptr 2 0), (4, .hptr 4 0), (5, .int .i64 0), (6, .hptr 6 0), (7, .int .i64 ((i82 : Nat) : Int))], [(2, .cells 39 [.int .i64 x0.Const, .dslice (x0.Terms.map cCoef)]), (4, .cells 39 [.int .i64 0, .eslice]), (6, .cells 39 [.int .i64 s81.1, .dslice (s81.2.map cCoef)])]⟩
def ref04_Subst_S2 (u123 : (Int × (List Coef))) : AS := ⟨55, [(4, .hptr 4 0), (5, .int .i64 0), (6, .hptr 6 0)], [(4, .cells 39 [.int .i64 0, .eslice]), (6, .cells 39 [.int .i64 u123.1, .dslice (u123.2.map cCoef)])]⟩
def ref04_Subst_S3 (x0 : Linear) (x1 : (List Bind)) (i82 : Nat) (s81 : (Int × (List Coef))) (y133 : (Linear × Bool)) (v142 : (Bool × Int × (List Coef))) : AS := ⟨55, [(1, .dslice (x1.map cBind)), (2, .hptr 2 0), (4, .hptr 4 0), (5, .int .i64 0), (6, .hptr 6 0), (7, .int .i64 ((i82 : Nat) : Int)), (8, .hptr 8 0), (9, .hptr 9 0), (10, .bool y133.2), (22, .bool true), (38, .bool v142.1)], [(2, .cells 39 [.int .i64 x0.Const, .dslice (x0.Terms.map cCoef)]), (4, .cells 39 [.int .i64 0, .eslice]), (6, .cells 39 [.int .i64 s81.1, .dslice (s81.2.map cCoef)]), (8, .cells 44 [.str ((x0.Terms.getD i82 ⟨[], 0⟩).Var), .int .i64 ((x0.Terms.getD i82 ⟨[], 0⟩).C)]), (9, .cells 39 [.int .i64 v142.2.1, .dslice (v142.2.2.map cCoef)])]⟩
theorem ref04_Subst_c (x0 : Linear) (x1 : (List Bind)) (r : (Linear × Int)) (H : ref04_Subst x0 x1 = some r) : AFn Tryz.prog 107 [.agg [.int .i64 x0.Const, .dslice (x0.Terms.map cCoef)], .dslice (x1.map cBind)] (.tup [.agg [.int .i64 r.1.Const, .dslice (r.1.Terms.map cCoef)], .int .i64 r.2]) := by
  unfold ref04_Subst at H
  refine acallX Tryz.func107 55 [.cell 4 39, .tmp 5] (by kernel_rfl) (by kernel_rfl) ?_
  refine bnd H fun y1 h2 H3 => ?_
  refine bsp H3 (fun c4 H5 => ?_) (fun c6 H7 => ?_)
  · refine p_at Tryz.mo 14 [.rg 0 [] [.m, .m, .v], .rg 0 [] [.v, .c true (.bool y1), .v], .eqT 13 (.bool false), .rg 0 [] [.v, .v, .b, .m, .m], .rg 0 [] [.v]] [.wkH 6 1 [], .only [1, 2, 4, 5, 6, 7] [2, 4, 6]] 13 [false] (ref04_Subst_S1 x0 x1 0 (x0.Const, [])) (all_cons Tryz.call87 (all_cons (AFn.is (ref04_Valid_c x0 y1 h2)) (all_cons trivial (all_cons (congrArg (fun x => AV.bool (!x)) c4) all_nil)))) (by kernel_rfl) ?_
    refine bnd H5 fun R120 h121 H122 => ?_
    refine p_joinO 1 (ref04_Subst_S2) R120 (by kernel_rfl) ?_ (fun u173 e174 => ?_)
    · refine p_cnt (ref04_Subst_S1 x0 x1) (by kernel_rfl) h121 (fun i82 s81 h124 e125 => ?_) (fun i82 s81 h132 q128 h129 h130 => ?_)
      · have c126 : decide (((i82 : Nat) : Int) < ((x0.Terms.length : Nat) : Int)) = false := decide_eq_false (by omega)
        subst e125
        exact p_bar Tryz.mo 5 [.rg 0 [] [.v, .v, .v, .e (.int .i64 ((x0.Terms.length : Nat) : Int)), .e (.bool false)]] [.only [4, 5, 6] [4, 6]] (ref04_Subst_S2 (s81.1, s81.2)) (all_cons trivial (all_cons (lenm cCoef x0.Terms) (all_cons (congrArg (AV.bool) c126) all_nil))) (by kernel_rfl)
      · have c131 : decide (((i82 : Nat) : Int) < ((x0.Terms.length : Nat) : Int)) = true := decide_eq_true (by omega)
        refine bnd h129 fun y133 h134 H135 => ?_
        refine p_at Tryz.mo 14 [.rg 0 [] [.v, .v, .v, .e (.int .i64 ((x0.Terms.length : Nat) : Int)), .e (.bool true)], .rg 0 [] [.v, .v, .v, .e (.dptr [.str ((x0.Terms.getD i82 ⟨[], 0⟩).Var), .int .i64 ((x0.Terms.getD i82 ⟨[], 0⟩).C)]), .v, .m, .m], .rg 0 [] [.v, .v, .v, .c true (.tup [.agg [.int .i64 y133.1.Const, .dslice (y133.1.Terms.map cCoef)], .bool y133.2]), .v, .v, .v, .m, .m, .v], .rg 0 [] [.v, .v]] [.only [1, 2, 4, 5, 6, 7, 8, 9, 10, 22, 38] [2, 4, 6, 8, 9]] 14 [true] ⟨55, [(1, .dslice (x1.map cBind)), (2, .hptr 2 0), (4, .hptr 4 0), (5, .int .i64 0), (6, .hptr 6 0), (7, .int .i64 ((i82 : Nat) : Int)), (8, .hptr 8 0), (9, .hptr 9 0), (10, .bool y133.2), (22, .bool true), (38, .bool (!y133.2))], [(2, .cells 39 [.int .i64 x0.Const, .dslice (x0.Terms.map cCoef)]), (4, .cells 39 [.int .i64 0, .eslice]), (6, .cells 39 [.int .i64 s81.1, .dslice (s81.2.map cCoef)]), (8, .cells 44 [.str ((x0.Terms.getD i82 ⟨[], 0⟩).Var), .int .i64 ((x0.Terms.getD i82 ⟨[], 0⟩).C)]), (9, .cells 39 [.int .i64 y133.1.Const, .dslice (y133.1.Terms.map cCoef)])]⟩ (all_cons trivial (all_cons (lenm cCoef x0.Terms) (all_cons (congrArg (AV.bool) c131) (all_app (ix (f := cCoef) (l := x0.Terms) (n := i82) ⟨[], 0⟩ cCoef_len (by decide) (by omega)) (all_cons Tryz.call183 (all_cons (AFn.is (ref04_bound_c x1 ((x0.Terms.getD i82 ⟨[], 0⟩).Var) y133 h134)) (all_cons trivial all_nil))))))) (by kernel_rfl) ?_
        refine bnd H135 fun v142 h143 H144 => ?_
        refine p_join 0 (ref04_Subst_S3 x0 x1 i82 s81 y133 v142) (by kernel_rfl) ?_ ?_
        · refine bsp h143 (fun c145 H146 => ?_) (fun c147 H148 => ?_)
          · refine some_e H146 fun e149 => ?_
            subst e149
            exact p_bar Tryz.mo 3 [.eqT 38 (.bool false)] [.only [1, 2, 4, 5, 6, 7, 8, 9, 10, 22, 38] [2, 4, 6, 8, 9]] (ref04_Subst_S3 x0 x1 i82 s81 y133 (false, y133.1.Const, y133.1.Terms)) (all_cons (congrArg (fun x => AV.bool (!x)) c145) all_nil) (by kernel_rfl)
          · refine bnd H148 fun y150 h151 H152 => ?_
            refine some_e H152 fun e153 => ?_
            subst e153
            exact p_bar Tryz.mo 3 [.eqT 38 (.bool true), .rg 0 [] [.v, .v, .c true (.agg [.int .i64 y150.Const, .dslice (y150.Terms.map cCoef)]), .m]] [.only [1, 2, 4, 5, 6, 7, 8, 9, 10, 22, 38] [2, 4, 6, 8, 9]] (ref04_Subst_S3 x0 x1 i82 s81 y133 (true, y150.Const, y150.Terms)) (all_cons (congrArg (fun x => AV.bool (!x)) c147) (all_cons Tryz.call184 (all_cons (AFn.is (ref04_Var_c ((x0.Terms.getD i82 ⟨[], 0⟩).Var) y150 h151)) all_nil))) (by kernel_rfl)
        · refine bnd H144 fun y154 h155 H156 => ?_
          refine bsp H156 (fun c157 H158 => ?_) (fun c159 H160 => ?_)
          · refine bnd H158 fun y161 h162 H163 => ?_
            refine t_lensH 2 1 (ps := [(x0.Terms.map cCoef).length ≤ 9223372036854775807]) (by kernel_rfl) (fun l166 => ?_)
            have l167 : x0.Terms.length ≤ 9223372036854775807 := by simpa only [All, List.length_map] using l166
            clear l166
            refine some_e H163 fun e168 => ?_
            subst e168
            exact p_bar Tryz.mo 8 [.rg 0 [] [.v, .c true (.bool y154), .v], .eqT 44 (.bool false), .rg 0 [] [.v, .v, .v, .v, .c true (.agg [.int .i64 y161.Const, .dslice (y161.Terms.map cCoef)]), .m], .rg 0 [] [.v, .v, .v]] [.only [1, 2, 4, 5, 6, 7] [2, 4, 6]] (ref04_Subst_S1 x0 x1 (i82 + 1) (y161.Const, y161.Terms)) (all_cons Tryz.call87 (all_cons (AFn.is (ref04_Valid_c (Linear.mk v142.2.1 v142.2.2) y154 h155)) (all_cons trivial (all_cons (congrArg (fun x => AV.bool (!x)) c157) (all_cons Tryz.call185 (all_cons (AFn.is (ref04_Times_c (Linear.mk s81.1 s81.2) (Linear.mk v142.2.1 v142.2.2) ((x0.Terms.getD i82 ⟨[], 0⟩).C) y161 h162)) (all_cons (show I64 (((i82 : Nat) : Int) + 1) from by unfold I64; omega) all_nil))))))) (by kernel_rfl)
          · refine some_e H160 fun e169 => ?_
            subst e169
            have e170 := out_ret h130
            subst e170
            have H171 := aft_ret H122
            refine some_e H171 fun e172 => ?_
            subst e172
            exact p_ret Tryz.mo 8 [.rg 0 [] [.v, .c true (.bool y154), .v], .eqT 44 (.bool true), .rg 0 [] [.b, .m, .v]] [.wkH 4 1 []] [] (all_cons Tryz.call87 (all_cons (AFn.is (ref04_Valid_c (Linear.mk v142.2.1 v142.2.2) y154 h155)) (all_cons trivial (all_cons (congrArg (fun x => AV.bool (!x)) c159) all_nil)))) (by kernel_rfl)
    · subst e174
      have H175 := aft_brk H122
      refine bnd H175 fun y176 h177 H178 => ?_
      refine some_e H178 fun e179 => ?_
      subst e179
      exact p_ret Tryz.mo 3 [.rg 0 [] [.v, .c true (.tup [.agg [.int .i64 y176.1.Const, .dslice (y176.1.Terms.map cCoef)], .int .i64 y176.2]), .v, .v, .m, .v]] [] [] (all_cons Tryz.call164 (all_cons (AFn.is (ref04_limited_c (Linear.mk u173.1 u173.2) y176 h177)) all_nil)) (by kernel_rfl)
  · refine some_e H7 fun e180 => ?_
    subst e180
    exact p_ret Tryz.mo 10 [.rg 0 [] [.m, .m, .v], .rg 0 [] [.v, .c true (.bool y1), .v], .eqT 13 (.bool true), .rg 0 [] [.b, .m, .v]] [.wkH 4 1 []] [] (all_cons Tryz.call87 (all_cons (AFn.is (ref04_Valid_c x0 y1 h2)) (all_cons trivial (all_cons (congrArg (fun x => AV.bool (!x)) c6) all_nil)))) (by kernel_rfl)
/-- framewise/framewiseref11.join -/
def ref11_join (x0 : Str) (x1 : (List Linear)) (x2 : (List Linear)) : Option (Shape × Int) :=
  bif decide ((w64 (((x1.length : Nat) : Int) + ((x2.length : Nat) : Int))) > 6) then (
    some ((Shape.mk [] []), 3)
  ) else (
    grd (x1.length * 32 ≤ 140737488355328) <|
    grd ((x1.length + x2.length) * 32 ≤ 140737488355328) <|
    some ((Shape.mk x0 (x1 ++ x2)), 0)
  )
theorem ref11_join_c (x0 : Str) (x1 : (List Linear)) (x2 : (List Linear)) (r : (Shape × Int)) (H : ref11_join x0 x1 x2 = some r) : AFn Tryz.prog 108 [.str x0, .dslice (x1.map cLinear), .dslice (x2.map cLinear)] (.tup [.agg [.str r.1.Row, .dslice (r.1.Dims.map cLinear)], .int .i64 r.2]) := by
  unfold ref11_join at H
  refine acallX Tryz.func108 22 [.cell 6 24, .tmp 7] (by kernel_rfl) (by kernel_rfl) ?_
  refine bsp H (fun c1 H2 => ?_) (fun c3 H4 => ?_)
  · have c1p := of_decide_eq_true c1
    refine some_e H2 fun e5 => ?_
    subst e5
    exact p_ret Tryz.mo 10 [.rg 0 [] [.m, .v], .rg 0 [] [.v, .e (.int .i64 ((x1.length : Nat) : Int)), .v, .e (.int .i64 ((x2.length : Nat) : Int)), .w, .v], .eqT 13 (.bool true), .rg 0 [] [.b, .m, .v]] [.wkH 6 1 []] [] (all_cons trivial (all_cons (lenm cLinear x1) (all_cons trivial (all_cons (lenm cLinear x2) (all_cons (congrArg (AV.bool) c1) all_nil))))) (by kernel_rfl)
  · have c3p := of_decide_eq_false c3
    refine grd_e H4 fun g6 H7 => ?_
    refine grd_e H7 fun g8 H9 => ?_
    refine some_e H9 fun e10 => ?_
    subst e10
    exact p_ret Tryz.mo 11 [.rg 0 [] [.m, .v], .rg 0 [] [.v, .e (.int .i64 ((x1.length : Nat) : Int)), .v, .e (.int .i64 ((x2.length : Nat) : Int)), .w, .v], .eqT 13 (.bool false), .rg 0 [] [.v, .b, .v, .er 16 18 39 2, .ap, .rwH 18 (.row 39 2 (x1.map cLinear)), .v, .ap, .rwH 20 (.row 39 2 ((x1 ++ x2).map cLinear)), .b, .m, .v]] [.fz 20] [] (all_cons trivial (all_cons (lenm cLinear x1) (all_cons trivial (all_cons (lenm cLinear x2) (all_cons (congrArg (AV.bool) c3) (all_app (apR (c := cLinear) cLinear_ok [] x1 32 (by decide) (by simpa using g6)) (all_cons (apQ0 39 2 cLinear x1) (all_app (apR (c := cLinear) cLinear_ok x1 x2 32 (by decide) (by simpa using g8)) (all_cons (apQ 39 2 cLinear x1 x2) all_nil))))))))) (by kernel_rfl)
/-- framewise/framewiseref11.Subst -/
def ref11_Subst (x0 : Shape) (x1 : (List Bind)) : Option (Shape × Int) :=
  (ref11_Valid x0).bind fun y1 =>
  bif y1 then (
    (ref11_ValidBinds x1).bind fun y15 =>
    bif y15 then (
      (cnt (σ := (List Linear)) (ε := (List Linear)) (ρ := (Shape × Int)) (fun i53 s52 =>
        (ref04_Subst (Linear.mk ((x0.Dims.getD i53 ⟨0, []⟩).Const) ((x0.Dims.getD i53 ⟨0, []⟩).Terms)) x1).bind fun y84 =>
        bif (y84.2 == 0) then (
          grd ((s52.length + 1) * 32 ≤ 140737488355328) <|
          some (.go (s52 ++ [y84.1]))
        ) else (
          some (.ret ((Shape.mk [] []), y84.2))
        )
      ) (fun i53 s52 => s52) (x0.Dims.length - 0) 0 []).bind <| aft fun u102 =>
      (ref11_Find x1 2 x0.Row).bind fun y105 =>
      ((
        bif (x0.Row == []) then (
          some true
        ) else (
          some (decide (y105 < 0))
        )
      ) : Option Bool).bind fun v108 =>
      bif v108 then (
        (ref11_join x0.Row [] u102).bind fun y124 =>
        some (y124.1, y124.2)
      ) else (
        grd (0 ≤ y105 ∧ y105 < (x1.length : Int)) <|
        (ref11_join (((x1.getD y105.toNat (⟨0, [], ⟨0, []⟩, ⟨[], []⟩, []⟩)).Row).Row) (((x1.getD y105.toNat (⟨0, [], ⟨0, []⟩, ⟨[], []⟩, []⟩)).Row).Dims) u102).bind fun y130 =>
        some (y130.1, y130.2)
      )
    ) else (
      some ((Shape.mk [] []), 1)
    )
  ) else (
    some ((Shape.mk [] []), 1)
  )
def ref11_Subst_S1 (x0 : Shape) (x1 : (List Bind)) (i53 : Nat) (s52 : (List Linear)) : AS := ⟨78, [(1, .dslice (x1.map cBind)), (2, .hptr 2 0), (4, .hptr 4 0), (5, .int .i64 0), (6, .rslice 44), (7, .int .i64 ((i53 : Nat) : Int))], [(2, .cells 24 [.str x0.Row, .dslice (x0.Dims.map cLinear)]), (4, .cells 24 [.str [], .eslice]), (44, .row 39 2 (s52.map cLinear))]⟩
def ref11_Subst_S2 (x0 : Shape) (x1 : (List Bind)) (u74 : (List Linear)) : AS := ⟨78, [(1, .dslice (x1.map cBind)), (2, .hptr 2 0), (4, .hptr 4 0), (5, .int .i64 0), (6, .rslice 44)], [(2, .cells 24 [.str x0.Row, .dslice (x0.Dims.map cLinear)]), (4, .cells 24 [.str [], .eslice]), (44, .row 39 2 (u74.map cLinear))]⟩
def ref11_Subst_S3 (x0 : Shape) (x1 : (List Bind)) (u102 : (List Linear)) (y105 : Int) (v108 : Bool) : AS := ⟨78, [(1, .dslice (x1.map cBind)), (2, .hptr 2 0), (4, .hptr 4 0), (5, .int .i64 0), (6, .rslice 44), (10, .int .i64 y105), (55, .bool v108)], [(2, .cells 24 [.str x0.Row, .dslice (x0.Dims.map cLinear)]), (4, .cells 24 [.str [], .eslice]), (44, .row 39 2 (u102.map cLinear))]⟩
theorem ref11_Subst_c (x0 : Shape) (x1 : (List Bind)) (r : (Shape × Int)) (H : ref11_Subst x0 x1 = some r) : AFn Tryz.prog 40 [.agg [.str x0.Row, .dslice (x0.Dims.map cLinear)], .dslice (x1.map cBind)] (.tup [.agg [.str r.1.Row, .dslice (r.1.Dims.map cLinear)], .int .i64 r.2]) := by
  unfold ref11_Subst at H
  refine acallX Tryz.func40 78 [.cell 4 24, .tmp 5] (by kernel_rfl) (by kernel_rfl) ?_
  refine bnd H fun y1 h2 H3 => ?_
  refine bsp H3 (fun c11 H12 => ?_) (fun c13 H14 => ?_)
  · refine bnd H12 fun y15 h16 H17 => ?_
    refine bsp H17 (fun c18 H19 => ?_) (fun c20 H21 => ?_)
    · refine p_at Tryz.mo 14 [.rg 0 [] [.m, .m, .v], .rg 0 [] [.v, .c true (.bool true), .v, .v, .v, .c true (.bool y15), .v, .v], .eqT 18 (.bool false), .rg 0 [] [.v], .rg 0 [] [.v]] [.er 6 44 39 2, .only [1, 2, 4, 5, 6, 7] [2, 4, 44]] 13 [false] (ref11_Subst_S1 x0 x1 0 []) (all_cons Tryz.call32 (all_cons (AFn.eq (ref11_Valid_c x0 y1 h2) (congrArg (AV.bool) c11)) (all_cons trivial (all_cons Tryz.call37 (all_cons (AFn.is (ref11_ValidBinds_c x1 y15 h16)) (all_cons trivial (all_cons (congrArg (fun x => AV.bool (!x)) c18) all_nil))))))) (by kernel_rfl) ?_
      refine bnd H19 fun R71 h72 H73 => ?_
      refine p_joinO 1 (ref11_Subst_S2 x0 x1) R71 (by kernel_rfl) ?_ (fun u102 e103 => ?_)
      · refine p_cnt (ref11_Subst_S1 x0 x1) (by kernel_rfl) h72 (fun i53 s52 h75 e76 => ?_) (fun i53 s52 h83 q79 h80 h81 => ?_)
        · have c77 : decide (((i53 : Nat) : Int) < ((x0.Dims.length : Nat) : Int)) = false := decide_eq_false (by omega)
          subst e76
          exact p_bar Tryz.mo 5 [.rg 0 [] [.v, .v, .v, .e (.int .i64 ((x0.Dims.length : Nat) : Int)), .e (.bool false)]] [.only [1, 2, 4, 5, 6] [2, 4, 44]] (ref11_Subst_S2 x0 x1 s52) (all_cons trivial (all_cons (lenm cLinear x0.Dims) (all_cons (congrArg (AV.bool) c77) all_nil))) (by kernel_rfl)
        · have c82 : decide (((i53 : Nat) : Int) < ((x0.Dims.length : Nat) : Int)) = true := decide_eq_true (by omega)
          refine bnd h80 fun y84 h85 H86 => ?_
          refine bsp H86 (fun c87 H88 => ?_) (fun c89 H90 => ?_)
          · refine grd_e H88 fun g91 H92 => ?_
            refine t_lensH 2 1 (ps := [(x0.Dims.map cLinear).length ≤ 9223372036854775807]) (by kernel_rfl) (fun l95 => ?_)
            have l96 : x0.Dims.length ≤ 9223372036854775807 := by simpa only [All, List.length_map] using l95
            clear l95
            refine some_e H92 fun e97 => ?_
            subst e97
            exact p_bar Tryz.mo 17 [.rg 0 [] [.v, .v, .v, .e (.int .i64 ((x0.Dims.length : Nat) : Int)), .e (.bool true)], .rg 0 [] [.v, .v, .v, .e (.dptr [.int .i64 ((x0.Dims.getD i53 ⟨0, []⟩).Const), .dslice (((x0.Dims.getD i53 ⟨0, []⟩).Terms).map cCoef)]), .v, .v, .c true (.tup [.agg [.int .i64 y84.1.Const, .dslice (y84.1.Terms.map cCoef)], .int .i64 y84.2]), .v, .v, .v, .m, .m, .v], .rg 0 [] [.v, .v], .eqT 38 (.bool false), .rg 0 [] [.v, .v, .b, .ap, .rwH 44 (.row 39 2 ((s52 ++ [y84.1]).map cLinear)), .v], .rg 0 [] [.v, .v, .v]] [.only [1, 2, 4, 5, 6, 7] [2, 4, 44]] (ref11_Subst_S1 x0 x1 (i53 + 1) (s52 ++ [y84.1])) (all_cons trivial (all_cons (lenm cLinear x0.Dims) (all_cons (congrArg (AV.bool) c82) (all_app (ix (f := cLinear) (l := x0.Dims) (n := i53) ⟨0, []⟩ cLinear_len (by decide) (by omega)) (all_cons Tryz.call107 (all_cons (AFn.is (ref04_Subst_c (Linear.mk ((x0.Dims.getD i53 ⟨0, []⟩).Const) ((x0.Dims.getD i53 ⟨0, []⟩).Terms)) x1 y84 h85)) (all_cons (congrArg (fun x => AV.bool (!x)) c87) (all_app (apR (c := cLinear) cLinear_ok s52 [y84.1] 32 (by decide) (by simpa using g91)) (all_cons (apQ 39 2 cLinear s52 [y84.1]) (all_cons (show I64 (((i53 : Nat) : Int) + 1) from by unfold I64; omega) all_nil)))))))))) (by kernel_rfl)
          · refine some_e H90 fun e98 => ?_
            subst e98
            have e99 := out_ret h81
            subst e99
            have H100 := aft_ret H73
            refine some_e H100 fun e101 => ?_
            subst e101
            exact p_ret Tryz.mo 17 [.rg 0 [] [.v, .v, .v, .e (.int .i64 ((x0.Dims.length : Nat) : Int)), .e (.bool true)], .rg 0 [] [.v, .v, .v, .e (.dptr [.int .i64 ((x0.Dims.getD i53 ⟨0, []⟩).Const), .dslice (((x0.Dims.getD i53 ⟨0, []⟩).Terms).map cCoef)]), .v, .v, .c true (.tup [.agg [.int .i64 y84.1.Const, .dslice (y84.1.Terms.map cCoef)], .int .i64 y84.2]), .v, .v, .v, .m, .m, .v], .rg 0 [] [.v, .v], .eqT 38 (.bool true), .rg 0 [] [.b, .v, .m, .v]] [.wkH 4 1 []] [] (all_cons trivial (all_cons (lenm cLinear x0.Dims) (all_cons (congrArg (AV.bool) c82) (all_app (ix (f := cLinear) (l := x0.Dims) (n := i53) ⟨0, []⟩ cLinear_len (by decide) (by omega)) (all_cons Tryz.call107 (all_cons (AFn.is (ref04_Subst_c (Linear.mk ((x0.Dims.getD i53 ⟨0, []⟩).Const) ((x0.Dims.getD i53 ⟨0, []⟩).Terms)) x1 y84 h85)) (all_cons (congrArg (fun x => AV.bool (!x)) c89) all_nil))))))) (by kernel_rfl)
      · subst e103
        have H104 := aft_brk H73
        refine bnd H104 fun y105 h106 H107 => ?_
        refine p_at Tryz.mo 4 [.rg 0 [] [.v, .v, .v, .c true (.int .i64 y105), .v]] [.only [1, 2, 4, 5, 6, 10] [2, 4, 44]] 4 [] ⟨78, [(1, .dslice (x1.map cBind)), (2, .hptr 2 0), (4, .hptr 4 0), (5, .int .i64 0), (6, .rslice 44), (10, .int .i64 y105)], [(2, .cells 24 [.str x0.Row, .dslice (x0.Dims.map cLinear)]), (4, .cells 24 [.str [], .eslice]), (44, .row 39 2 (u102.map cLinear))]⟩ (all_cons Tryz.call21 (all_cons (AFn.is (ref11_Find_c x1 2 x0.Row y105 h106)) all_nil)) (by kernel_rfl) ?_
        refine bnd H107 fun v108 h109 H110 => ?_
        refine p_join 0 (ref11_Subst_S3 x0 x1 u102 y105 v108) (by kernel_rfl) ?_ ?_
        · refine bsp h109 (fun c111 H112 => ?_) (fun c113 H114 => ?_)
          · refine some_e H112 fun e115 => ?_
            subst e115
            exact p_bar Tryz.mo 1 [.rg 0 [] [.v, .v, .e (.bool true), .v, .s, .s, .v]] [.only [1, 2, 4, 5, 6, 10, 55] [2, 4, 44]] (ref11_Subst_S3 x0 x1 u102 y105 true) (all_cons (congrArg (AV.bool) c111) all_nil) (by kernel_rfl)
          · refine some_e H114 fun e116 => ?_
            subst e116
            exact p_bar Tryz.mo 1 [.rg 0 [] [.v, .v, .e (.bool false), .v, .v, .v, .v]] [.only [1, 2, 4, 5, 6, 10, 55] [2, 4, 44]] (ref11_Subst_S3 x0 x1 u102 y105 (decide (y105 < 0))) (all_cons (congrArg (AV.bool) c113) all_nil) (by kernel_rfl)
        · refine bsp H110 (fun c120 H121 => ?_) (fun c122 H123 => ?_)
          · refine bnd H121 fun y124 h125 H126 => ?_
            refine some_e H126 fun e127 => ?_
            subst e127
            exact p_ret Tryz.mo 5 [.eqT 55 (.bool true), .rg 0 [] [.v, .v, .v, .fz 44, .cw true [(1, [])] (.tup [.agg [.str y124.1.Row, .dslice (y124.1.Dims.map cLinear)], .int .i64 y124.2]), .v, .v, .m, .v]] [] [] (all_cons (congrArg (AV.bool) c120) (all_cons Tryz.call108 (all_cons (AFn.is (ref11_join_c x0.Row [] u102 y124 h125)) all_nil))) (by kernel_rfl)
          · refine grd_e H123 fun g128 H129 => ?_
            refine bnd H129 fun y130 h131 H132 => ?_
            refine some_e H132 fun e133 => ?_
            subst e133
            exact p_ret Tryz.mo 7 [.eqT 55 (.bool false), .cv [.fz 44], .rg 16 [.v, .v, .e (.dptr [.int .i64 ((x1.getD y105.toNat (⟨0, [], ⟨0, []⟩, ⟨[], []⟩, []⟩)).Kind), .str ((x1.getD y105.toNat (⟨0, [], ⟨0, []⟩, ⟨[], []⟩, []⟩)).Var), .int .i64 (((x1.getD y105.toNat (⟨0, [], ⟨0, []⟩, ⟨[], []⟩, []⟩)).Dim).Const), .dslice ((((x1.getD y105.toNat (⟨0, [], ⟨0, []⟩, ⟨[], []⟩, []⟩)).Dim).Terms).map cCoef), .str (((x1.getD y105.toNat (⟨0, [], ⟨0, []⟩, ⟨[], []⟩, []⟩)).Row).Row), .dslice ((((x1.getD y105.toNat (⟨0, [], ⟨0, []⟩, ⟨[], []⟩, []⟩)).Row).Dims).map cLinear), .str ((x1.getD y105.toNat (⟨0, [], ⟨0, []⟩, ⟨[], []⟩, []⟩)).Elem)]), .v, .v, .v, .v, .v, .e (.dptr [.int .i64 ((x1.getD y105.toNat (⟨0, [], ⟨0, []⟩, ⟨[], []⟩, []⟩)).Kind), .str ((x1.getD y105.toNat (⟨0, [], ⟨0, []⟩, ⟨[], []⟩, []⟩)).Var), .int .i64 (((x1.getD y105.toNat (⟨0, [], ⟨0, []⟩, ⟨[], []⟩, []⟩)).Dim).Const), .dslice ((((x1.getD y105.toNat (⟨0, [], ⟨0, []⟩, ⟨[], []⟩, []⟩)).Dim).Terms).map cCoef), .str (((x1.getD y105.toNat (⟨0, [], ⟨0, []⟩, ⟨[], []⟩, []⟩)).Row).Row), .dslice ((((x1.getD y105.toNat (⟨0, [], ⟨0, []⟩, ⟨[], []⟩, []⟩)).Row).Dims).map cLinear), .str ((x1.getD y105.toNat (⟨0, [], ⟨0, []⟩, ⟨[], []⟩, []⟩)).Elem)]), .v, .v, .v, .v, .c true (.tup [.agg [.str y130.1.Row, .dslice (y130.1.Dims.map cLinear)], .int .i64 y130.2]), .v, .v] [.m, .v]] [] [] (all_cons (congrArg (AV.bool) c122) (all_app (ixz (f := cBind) (l := x1) (n := y105) (⟨0, [], ⟨0, []⟩, ⟨[], []⟩, []⟩) cBind_len (by decide) (by exact g128)) (all_app (ixz (f := cBind) (l := x1) (n := y105) (⟨0, [], ⟨0, []⟩, ⟨[], []⟩, []⟩) cBind_len (by decide) (by exact g128)) (all_cons Tryz.call108 (all_cons (AFn.is (ref11_join_c (((x1.getD y105.toNat (⟨0, [], ⟨0, []⟩, ⟨[], []⟩, []⟩)).Row).Row) (((x1.getD y105.toNat (⟨0, [], ⟨0, []⟩, ⟨[], []⟩, []⟩)).Row).Dims) u102 y130 h131)) all_nil))))) (by kernel_rfl)
    · refine some_e H21 fun e134 => ?_
      subst e134
      exact p_ret Tryz.mo 10 [.rg 0 [] [.m, .m, .v], .rg 0 [] [.v, .c true (.bool true), .v, .v, .v, .c true (.bool y15), .v, .v], .eqT 18 (.bool true), .rg 0 [] [.b, .m, .v]] [.wkH 4 1 []] [] (all_cons Tryz.call32 (all_cons (AFn.eq (ref11_Valid_c x0 y1 h2) (congrArg (AV.bool) c11)) (all_cons trivial (all_cons Tryz.call37 (all_cons (AFn.is (ref11_ValidBinds_c x1 y15 h16)) (all_cons trivial (all_cons (congrArg (fun x => AV.bool (!x)) c20) all_nil))))))) (by kernel_rfl)
  · refine some_e H14 fun e135 => ?_
    subst e135
    exact p_ret Tryz.mo 9 [.rg 0 [] [.m, .m, .v], .rg 0 [] [.v, .c true (.bool false), .v, .v, .s, .s, .s, .v], .rg 0 [] [.b, .m, .v]] [.wkH 4 1 []] [] (all_cons Tryz.call32 (all_cons (AFn.eq (ref11_Valid_c x0 y1 h2) (congrArg (AV.bool) c13)) (all_cons trivial all_nil))) (by kernel_rfl)
/-- framewise/framewiseref04.Compare -/
def ref04_Compare (x0 : Linear) (x1 : Linear) : Option Int :=
  (cnt (σ := Unit) (ε := Unit) (ρ := Int) (fun i147 s146 =>
    bif decide (((i147 : Nat) : Int) < ((x1.Terms.length : Nat) : Int)) then (
      ((
        bif (Op.bytesLess ((x0.Terms.getD i147 ⟨[], 0⟩).Var) ((x1.Terms.getD i147 ⟨[], 0⟩).Var)) then (
          some (.ret (.ret (-1)))
        ) else (
          bif (((x0.Terms.getD i147 ⟨[], 0⟩).Var) == ((x1.Terms.getD i147 ⟨[], 0⟩).Var)) then (
            bif decide (((x0.Terms.getD i147 ⟨[], 0⟩).C) < ((x1.Terms.getD i147 ⟨[], 0⟩).C)) then (
              some (.ret (.ret (-1)))
            ) else (
              bif ((((x0.Terms.getD i147 ⟨[], 0⟩).Var) == ((x1.Terms.getD i147 ⟨[], 0⟩).Var)) && ((((x0.Terms.getD i147 ⟨[], 0⟩).C) == ((x1.Terms.getD i147 ⟨[], 0⟩).C)) && true)) then (
                some (.brk ())
              ) else (
                some (.ret (.ret 1))
              )
            )
          ) else (
            bif ((((x0.Terms.getD i147 ⟨[], 0⟩).Var) == ((x1.Terms.getD i147 ⟨[], 0⟩).Var)) && ((((x0.Terms.getD i147 ⟨[], 0⟩).C) == ((x1.Terms.getD i147 ⟨[], 0⟩).C)) && true)) then (
              some (.brk ())
            ) else (
              some (.ret (.ret 1))
            )
          )
        )
      ) : Option (Out Unit (Stp Unit Unit Int))).bind (aft fun u274 =>
        some (.go ())
      )
    ) else (
      some (.brk ())
    )
  ) (fun i147 s146 => ()) (x0.Terms.length - 0) 0 ()).bind <| aft fun u330 =>
  bif decide (((x0.Terms.length : Nat) : Int) < ((x1.Terms.length : Nat) : Int)) then (
    some (-1)
  ) else (
    bif (((x0.Terms.length : Nat) : Int) == ((x1.Terms.length : Nat) : Int)) then (
      bif decide (x0.Const < x1.Const) then (
        some (-1)
      ) else (
        bif decide (((x0.Terms.length : Nat) : Int) > ((x1.Terms.length : Nat) : Int)) then (
          some 1
        ) else (
          bif decide (x0.Const > x1.Const) then (
            some 1
          ) else (
            some 0
          )
        )
      )
    ) else (
      bif decide (((x0.Terms.length : Nat) : Int) > ((x1.Terms.length : Nat) : Int)) then (
        some 1
      ) else (
        bif decide (x0.Const > x1.Const) then (
          some 1
        ) else (
          some 0
        )
      )
    )
  )
def ref04_Compare_S1 (x0 : Linear) (x1 : Linear) (i147 : Nat) (s146 : Unit) : AS := ⟨95, [(2, .hptr 2 0), (3, .hptr 3 0), (4, .int .i64 0), (5, .int .i64 ((i147 : Nat) : Int))], [(2, .cells 39 [.int .i64 x0.Const, .dslice (x0.Terms.map cCoef)]), (3, .cells 39 [.int .i64 x1.Const, .dslice (x1.Terms.map cCoef)])]⟩
def ref04_Compare_S2 (x0 : Linear) (x1 : Linear) (u225 : Unit) : AS := ⟨95, [(2, .hptr 2 0), (3, .hptr 3 0), (4, .int .i64 0)], [(2, .cells 39 [.int .i64 x0.Const, .dslice (x0.Terms.map cCoef)]), (3, .cells 39 [.int .i64 x1.Const, .dslice (x1.Terms.map cCoef)])]⟩
def ref04_Compare_S3 (x0 : Linear) (x1 : Linear) (i147 : Nat) (u274 : Unit) : AS := ⟨95, [(2, .hptr 2 0), (3, .hptr 3 0), (4, .int .i64 0), (5, .int .i64 ((i147 : Nat) : Int)), (6, .hptr 6 0), (7, .hptr 7 0), (19, .bool true), (32, .bool false), (52, .bool false)], [(2, .cells 39 [.int .i64 x0.Const, .dslice (x0.Terms.map cCoef)]), (3, .cells 39 [.int .i64 x1.Const, .dslice (x1.Terms.map cCoef)]), (6, .cells 44 [.str ((x0.Terms.getD i147 ⟨[], 0⟩).Var), .int .i64 ((x0.Terms.getD i147 ⟨[], 0⟩).C)]), (7, .cells 44 [.str ((x1.Terms.getD i147 ⟨[], 0⟩).Var), .int .i64 ((x1.Terms.getD i147 ⟨[], 0⟩).C)])]⟩
theorem ref04_Compare_c (x0 : Linear) (x1 : Linear) (r : Int) (H : ref04_Compare x0 x1 = some r) : AFn Tryz.prog 165 [.agg [.int .i64 x0.Const, .dslice (x0.Terms.map cCoef)], .agg [.int .i64 x1.Const, .dslice (x1.Terms.map cCoef)]] (.int .i64 r) := by
  unfold ref04_Compare at H
  refine acallX Tryz.func165 95 [.tmp 4] (by kernel_rfl) (by kernel_rfl) ?_
  refine p_at Tryz.mo 6 [.rg 0 [] [.m, .m, .v], .rg 0 [] [.v]] [.only [2, 3, 4, 5] [2, 3]] 6 [] (ref04_Compare_S1 x0 x1 0 ()) all_nil (by kernel_rfl) ?_
  refine bnd H fun R222 h223 H224 => ?_
  refine p_joinO 1 (ref04_Compare_S2 x0 x1) R222 (by kernel_rfl) ?_ (fun u330 e331 => ?_)
  · refine p_cnt (ref04_Compare_S1 x0 x1) (by kernel_rfl) h223 (fun i147 s146 h226 e227 => ?_) (fun i147 s146 h234 q230 h231 h232 => ?_)
    · have c228 : decide (((i147 : Nat) : Int) < ((x0.Terms.length : Nat) : Int)) = false := decide_eq_false (by omega)
      subst e227
      exact p_bar Tryz.mo 5 [.rg 0 [] [.v, .v, .v, .e (.int .i64 ((x0.Terms.length : Nat) : Int)), .e (.bool false), .v, .s, .s, .s, .s, .s, .v]] [.only [2, 3, 4] [2, 3]] (ref04_Compare_S2 x0 x1 ()) (all_cons trivial (all_cons (lenm cCoef x0.Terms) (all_cons (congrArg (AV.bool) c228) all_nil))) (by kernel_rfl)
    · have c233 : decide (((i147 : Nat) : Int) < ((x0.Terms.length : Nat) : Int)) = true := decide_eq_true (by omega)
      refine bsp h231 (fun c235 H236 => ?_) (fun c237 H238 => ?_)
      · have c235p := of_decide_eq_true c235
        refine p_at Tryz.mo 12 [.rg 0 [] [.v, .v, .v, .e (.int .i64 ((x0.Terms.length : Nat) : Int)), .e (.bool true), .v, .v, .v, .v, .e (.int .i64 ((x1.Terms.length : Nat) : Int)), .v, .v], .eqT 19 (.bool true), .rg 13 [.v, .v, .v, .e (.dptr [.str ((x0.Terms.getD i147 ⟨[], 0⟩).Var), .int .i64 ((x0.Terms.getD i147 ⟨[], 0⟩).C)]), .v, .v, .v, .v, .e (.dptr [.str ((x1.Terms.getD i147 ⟨[], 0⟩).Var), .int .i64 ((x1.Terms.getD i147 ⟨[], 0⟩).C)]), .v, .m, .m, .m] [.m]] [.only [2, 3, 4, 5, 6, 7, 19] [2, 3, 6, 7]] 11 [true] ⟨95, [(2, .hptr 2 0), (3, .hptr 3 0), (4, .int .i64 0), (5, .int .i64 ((i147 : Nat) : Int)), (6, .hptr 6 0), (7, .hptr 7 0), (19, .bool true)], [(2, .cells 39 [.int .i64 x0.Const, .dslice (x0.Terms.map cCoef)]), (3, .cells 39 [.int .i64 x1.Const, .dslice (x1.Terms.map cCoef)]), (6, .cells 44 [.str ((x0.Terms.getD i147 ⟨[], 0⟩).Var), .int .i64 ((x0.Terms.getD i147 ⟨[], 0⟩).C)]), (7, .cells 44 [.str ((x1.Terms.getD i147 ⟨[], 0⟩).Var), .int .i64 ((x1.Terms.getD i147 ⟨[], 0⟩).C)])]⟩ (all_cons trivial (all_cons (lenm cCoef x0.Terms) (all_cons (congrArg (AV.bool) c233) (all_cons trivial (all_cons (lenm cCoef x1.Terms) (all_cons (congrArg (AV.bool) c235) (all_app (ix (f := cCoef) (l := x0.Terms) (n := i147) ⟨[], 0⟩ cCoef_len (by decide) (by omega)) (all_app (ix (f := cCoef) (l := x1.Terms) (n := i147) ⟨[], 0⟩ cCoef_len (by decide) (by omega)) all_nil)))))))) (by kernel_rfl) ?_
        refine bnd H236 fun v271 h272 H273 => ?_
        refine p_joinO 3 (ref04_Compare_S3 x0 x1 i147) v271 (by kernel_rfl) ?_ (fun u274 e327 => ?_)
        · refine bsp h272 (fun c275 H276 => ?_) (fun c277 H278 => ?_)
          · refine some_e H276 fun e279 => ?_
            subst e279
            have H280 := aft_ret H273
            refine some_e H280 fun e281 => ?_
            subst e281
            have e282 := out_ret h232
            subst e282
            have H283 := aft_ret H224
            refine some_e H283 fun e284 => ?_
            subst e284
            exact p_ret Tryz.mo 5 [.rg 0 [] [.v, .v, .v, .v, .e (.bool true), .v, .s, .s, .s, .s, .s, .s, .s, .s, .s, .s, .s, .s, .v, .v], .rg 0 [] [.v]] [] [] (all_cons (congrArg (AV.bool) c275) all_nil) (by kernel_rfl)
          · refine bsp H278 (fun c285 H286 => ?_) (fun c287 H288 => ?_)
            · refine bsp H286 (fun c289 H290 => ?_) (fun c291 H292 => ?_)
              · have c289p := of_decide_eq_true c289
                refine some_e H290 fun e293 => ?_
                subst e293
                have H294 := aft_ret H273
                refine some_e H294 fun e295 => ?_
                subst e295
                have e296 := out_ret h232
                subst e296
                have H297 := aft_ret H224
                refine some_e H297 fun e298 => ?_
                subst e298
                exact p_ret Tryz.mo 6 [.rg 0 [] [.v, .v, .v, .v, .e (.bool false), .v, .v, .v, .v, .v, .e (.bool true), .v, .v, .v, .v, .v, .v, .v, .v, .v], .eqT 32 (.bool true), .rg 0 [] [.v]] [] [] (all_cons (congrArg (AV.bool) c277) (all_cons (congrArg (AV.bool) c285) (all_cons (congrArg (AV.bool) c289) all_nil))) (by kernel_rfl)
              · have c291p := of_decide_eq_false c291
                refine bsp H292 (fun c299 H300 => ?_) (fun c301 H302 => ?_)
                · refine some_e H300 fun e303 => ?_
                  subst e303
                  exact p_bar Tryz.mo 8 [.rg 0 [] [.v, .v, .v, .v, .e (.bool false), .v, .v, .v, .v, .v, .e (.bool true), .v, .v, .v, .v, .v, .v, .v, .v, .v], .eqT 32 (.bool false), .rg 0 [] [.v, .v, .w, .v], .eqT 52 (.bool false)] [.only [2, 3, 4, 5, 6, 7, 19, 32, 52] [2, 3, 6, 7]] (ref04_Compare_S3 x0 x1 i147 ()) (all_cons (congrArg (AV.bool) c277) (all_cons (congrArg (AV.bool) c285) (all_cons (congrArg (AV.bool) c291) (all_cons (congrArg (fun x => AV.bool (!x)) c299) all_nil)))) (by kernel_rfl)
                · refine some_e H302 fun e304 => ?_
                  subst e304
                  have H305 := aft_ret H273
                  refine some_e H305 fun e306 => ?_
                  subst e306
                  have e307 := out_ret h232
                  subst e307
                  have H308 := aft_ret H224
                  refine some_e H308 fun e309 => ?_
                  subst e309
                  exact p_ret Tryz.mo 10 [.rg 0 [] [.v, .v, .v, .v, .e (.bool false), .v, .v, .v, .v, .v, .e (.bool true), .v, .v, .v, .v, .v, .v, .v, .v, .v], .eqT 32 (.bool false), .rg 0 [] [.v, .v, .w, .v], .eqT 52 (.bool true), .rg 0 [] [.v]] [] [] (all_cons (congrArg (AV.bool) c277) (all_cons (congrArg (AV.bool) c285) (all_cons (congrArg (AV.bool) c291) (all_cons (congrArg (fun x => AV.bool (!x)) c301) all_nil)))) (by kernel_rfl)
            · refine bsp H288 (fun c310 H311 => ?_) (fun c312 H313 => ?_)
              · refine some_e H311 fun e314 => ?_
                subst e314
                exact p_bar Tryz.mo 7 [.rg 0 [] [.v, .v, .v, .v, .e (.bool false), .v, .v, .v, .v, .v, .e (.bool false), .v, .s, .s, .s, .s, .s, .v, .v, .v], .rg 0 [] [.v, .v, .w, .v], .eqT 52 (.bool false)] [.only [2, 3, 4, 5, 6, 7, 19, 32, 52] [2, 3, 6, 7]] (ref04_Compare_S3 x0 x1 i147 ()) (all_cons (congrArg (AV.bool) c277) (all_cons (congrArg (AV.bool) c287) (all_cons (congrArg (fun x => AV.bool (!x)) c310) all_nil))) (by kernel_rfl)
              · refine some_e H313 fun e315 => ?_
                subst e315
                have H316 := aft_ret H273
                refine some_e H316 fun e317 => ?_
                subst e317
                have e318 := out_ret h232
                subst e318
                have H319 := aft_ret H224
                refine some_e H319 fun e320 => ?_
                subst e320
                exact p_ret Tryz.mo 9 [.rg 0 [] [.v, .v, .v, .v, .e (.bool false), .v, .v, .v, .v, .v, .e (.bool false), .v, .s, .s, .s, .s, .s, .v, .v, .v], .rg 0 [] [.v, .v, .w, .v], .eqT 52 (.bool true), .rg 0 [] [.v]] [] [] (all_cons (congrArg (AV.bool) c277) (all_cons (congrArg (AV.bool) c287) (all_cons (congrArg (fun x => AV.bool (!x)) c312) all_nil))) (by kernel_rfl)
        · subst e327
          have H321 := aft_brk H273
          refine t_lensH 2 1 (ps := [(x0.Terms.map cCoef).length ≤ 9223372036854775807]) (by kernel_rfl) (fun l324 => ?_)
          have l325 : x0.Terms.length ≤ 9223372036854775807 := by simpa only [All, List.length_map] using l324
          clear l324
          refine some_e H321 fun e326 => ?_
          subst e326
          exact p_bar Tryz.mo 1 [.rg 0 [] [.v, .v, .v]] [.only [2, 3, 4, 5] [2, 3]] (ref04_Compare_S1 x0 x1 (i147 + 1) ()) (all_cons (show I64 (((i147 : Nat) : Int) + 1) from by unfold I64; omega) all_nil) (by kernel_rfl)
      · have c237p := of_decide_eq_false c237
        refine some_e H238 fun e328 => ?_
        subst e328
        have e329 := out_brk h232
        subst e329
        exact p_bar Tryz.mo 6 [.rg 0 [] [.v, .v, .v, .e (.int .i64 ((x0.Terms.length : Nat) : Int)), .e (.bool true), .v, .v, .v, .v, .e (.int .i64 ((x1.Terms.length : Nat) : Int)), .v, .v], .eqT 19 (.bool false)] [.only [2, 3, 4] [2, 3]] (ref04_Compare_S2 x0 x1 ()) (all_cons trivial (all_cons (lenm cCoef x0.Terms) (all_cons (congrArg (AV.bool) c233) (all_cons trivial (all_cons (lenm cCoef x1.Terms) (all_cons (congrArg (AV.bool) c237) all_nil)))))) (by kernel_rfl)
  · subst e331
    have H332 := aft_brk H224
    refine bsp H332 (fun c357 H358 => ?_) (fun c359 H360 => ?_)
    · have c357p := of_decide_eq_true c357
      refine some_e H358 fun e361 => ?_
      subst e361
      exact p_ret Tryz.mo 8 [.rg 0 [] [.v, .v, .e (.int .i64 ((x0.Terms.length : Nat) : Int)), .v, .v, .e (.int .i64 ((x1.Terms.length : Nat) : Int)), .e (.bool true), .v, .s, .s, .s, .s, .s, .s, .s, .s, .s, .s, .s, .s, .s, .s, .v, .v], .rg 0 [] [.v]] [] [] (all_cons trivial (all_cons (lenm cCoef x0.Terms) (all_cons trivial (all_cons (lenm cCoef x1.Terms) (all_cons (congrArg (AV.bool) c357) all_nil))))) (by kernel_rfl)
    · have c359p := of_decide_eq_false c359
      refine bsp H360 (fun c382 H383 => ?_) (fun c384 H385 => ?_)
      · refine bsp H383 (fun c394 H395 => ?_) (fun c396 H397 => ?_)
        · have c394p := of_decide_eq_true c394
          refine some_e H395 fun e398 => ?_
          subst e398
          exact p_ret Tryz.mo 9 [.rg 0 [] [.v, .v, .e (.int .i64 ((x0.Terms.length : Nat) : Int)), .v, .v, .e (.int .i64 ((x1.Terms.length : Nat) : Int)), .e (.bool false), .v, .v, .v, .e (.int .i64 ((x0.Terms.length : Nat) : Int)), .v, .v, .e (.int .i64 ((x1.Terms.length : Nat) : Int)), .e (.bool true), .v, .v, .v, .v, .v, .v, .v, .v, .v], .eqT 56 (.bool true), .rg 0 [] [.v]] [] [] (all_cons trivial (all_cons (lenm cCoef x0.Terms) (all_cons trivial (all_cons (lenm cCoef x1.Terms) (all_cons (congrArg (AV.bool) c359) (all_cons trivial (all_cons (lenm cCoef x0.Terms) (all_cons trivial (all_cons (lenm cCoef x1.Terms) (all_cons (congrArg (AV.bool) c382) (all_cons (congrArg (AV.bool) c394) all_nil))))))))))) (by kernel_rfl)
        · have c396p := of_decide_eq_false c396
          refine bsp H397 (fun c403 H404 => ?_) (fun c405 H406 => ?_)
          · have c403p := of_decide_eq_true c403
            refine some_e H404 fun e407 => ?_
            subst e407
            exact p_ret Tryz.mo 12 [.rg 0 [] [.v, .v, .e (.int .i64 ((x0.Terms.length : Nat) : Int)), .v, .v, .e (.int .i64 ((x1.Terms.length : Nat) : Int)), .e (.bool false), .v, .v, .v, .e (.int .i64 ((x0.Terms.length : Nat) : Int)), .v, .v, .e (.int .i64 ((x1.Terms.length : Nat) : Int)), .e (.bool true), .v, .v, .v, .v, .v, .v, .v, .v, .v], .eqT 56 (.bool false), .rg 0 [] [.v, .v, .e (.int .i64 ((x0.Terms.length : Nat) : Int)), .v, .v, .e (.int .i64 ((x1.Terms.length : Nat) : Int)), .e (.bool true), .v, .s, .s, .s, .s, .s, .v, .v], .rg 0 [] [.v]] [] [] (all_cons trivial (all_cons (lenm cCoef x0.Terms) (all_cons trivial (all_cons (lenm cCoef x1.Terms) (all_cons (congrArg (AV.bool) c359) (all_cons trivial (all_cons (lenm cCoef x0.Terms) (all_cons trivial (all_cons (lenm cCoef x1.Terms) (all_cons (congrArg (AV.bool) c382) (all_cons (congrArg (AV.bool) c396) (all_cons trivial (all_cons (lenm cCoef x0.Terms) (all_cons trivial (all_cons (lenm cCoef x1.Terms) (all_cons (congrArg (AV.bool) c403) all_nil)))))))))))))))) (by kernel_rfl)
          · have c405p := of_decide_eq_false c405
            refine bsp H406 (fun c408 H409 => ?_) (fun c410 H411 => ?_)
            · have c408p := of_decide_eq_true c408
              refine some_e H409 fun e412 => ?_
              subst e412
              exact p_ret Tryz.mo 13 [.rg 0 [] [.v, .v, .e (.int .i64 ((x0.Terms.length : Nat) : Int)), .v, .v, .e (.int .i64 ((x1.Terms.length : Nat) : Int)), .e (.bool false), .v, .v, .v, .e (.int .i64 ((x0.Terms.length : Nat) : Int)), .v, .v, .e (.int .i64 ((x1.Terms.length : Nat) : Int)), .e (.bool true), .v, .v, .v, .v, .v, .v, .v, .v, .v], .eqT 56 (.bool false), .rg 0 [] [.v, .v, .e (.int .i64 ((x0.Terms.length : Nat) : Int)), .v, .v, .e (.int .i64 ((x1.Terms.length : Nat) : Int)), .e (.bool false), .v, .v, .v, .v, .v, .v, .v, .v], .eqT 80 (.bool true), .rg 0 [] [.v]] [] [] (all_cons trivial (all_cons (lenm cCoef x0.Terms) (all_cons trivial (all_cons (lenm cCoef x1.Terms) (all_cons (congrArg (AV.bool) c359) (all_cons trivial (all_cons (lenm cCoef x0.Terms) (all_cons trivial (all_cons (lenm cCoef x1.Terms) (all_cons (congrArg (AV.bool) c382) (all_cons (congrArg (AV.bool) c396) (all_cons trivial (all_cons (lenm cCoef x0.Terms) (all_cons trivial (all_cons (lenm cCoef x1.Terms) (all_cons (congrArg (AV.bool) c405) (all_cons (congrArg (AV.bool) c408) all_nil))))))))))))))))) (by kernel_rfl)
            · have c410p := of_decide_eq_false c410
              refine some_e H411 fun e413 => ?_
              subst e413
              exact p_ret Tryz.mo 14 [.rg 0 [] [.v, .v, .e (.int .i64 ((x0.Terms.length : Nat) : Int)), .v, .v, .e (.int .i64 ((x1.Terms.length : Nat) : Int)), .e (.bool false), .v, .v, .v, .e (.int .i64 ((x0.Terms.length : Nat) : Int)), .v, .v, .e (.int .i64 ((x1.Terms.length : Nat) : Int)), .e (.bool true), .v, .v, .v, .v, .v, .v, .v, .v, .v], .eqT 56 (.bool false), .rg 0 [] [.v, .v, .e (.int .i64 ((x0.Terms.length : Nat) : Int)), .v, .v, .e (.int .i64 ((x1.Terms.length : Nat) : Int)), .e (.bool false), .v, .v, .v, .v, .v, .v, .v, .v], .eqT 80 (.bool false), .rg 0 [] [.v]] [] [] (all_cons trivial (all_cons (lenm cCoef x0.Terms) (all_cons trivial (all_cons (lenm cCoef x1.Terms) (all_cons (congrArg (AV.bool) c359) (all_cons trivial (all_cons (lenm cCoef x0.Terms) (all_cons trivial (all_cons (lenm cCoef x1.Terms) (all_cons (congrArg (AV.bool) c382) (all_cons (congrArg (AV.bool) c396) (all_cons trivial (all_cons (lenm cCoef x0.Terms) (all_cons trivial (all_cons (lenm cCoef x1.Terms) (all_cons (congrArg (AV.bool) c405) (all_cons (congrArg (AV.bool) c410) all_nil))))))))))))))))) (by kernel_rfl)
      · refine bsp H385 (fun c418 H419 => ?_) (fun c420 H421 => ?_)
        · have c418p := of_decide_eq_true c418
          refine some_e H419 fun e422 => ?_
          subst e422
          exact p_ret Tryz.mo 11 [.rg 0 [] [.v, .v, .e (.int .i64 ((x0.Terms.length : Nat) : Int)), .v, .v, .e (.int .i64 ((x1.Terms.length : Nat) : Int)), .e (.bool false), .v, .v, .v, .e (.int .i64 ((x0.Terms.length : Nat) : Int)), .v, .v, .e (.int .i64 ((x1.Terms.length : Nat) : Int)), .e (.bool false), .v, .s, .s, .s, .s, .s, .v, .v, .v], .rg 0 [] [.v, .v, .e (.int .i64 ((x0.Terms.length : Nat) : Int)), .v, .v, .e (.int .i64 ((x1.Terms.length : Nat) : Int)), .e (.bool true), .v, .s, .s, .s, .s, .s, .v, .v], .rg 0 [] [.v]] [] [] (all_cons trivial (all_cons (lenm cCoef x0.Terms) (all_cons trivial (all_cons (lenm cCoef x1.Terms) (all_cons (congrArg (AV.bool) c359) (all_cons trivial (all_cons (lenm cCoef x0.Terms) (all_cons trivial (all_cons (lenm cCoef x1.Terms) (all_cons (congrArg (AV.bool) c384) (all_cons trivial (all_cons (lenm cCoef x0.Terms) (all_cons trivial (all_cons (lenm cCoef x1.Terms) (all_cons (congrArg (AV.bool) c418) all_nil))))))))))))))) (by kernel_rfl)
        · have c420p := of_decide_eq_false c420
          refine bsp H421 (fun c423 H424 => ?_) (fun c425 H426 => ?_)
          · have c423p := of_decide_eq_true c423
            refine some_e H424 fun e427 => ?_
            subst e427
            exact p_ret Tryz.mo 12 [.rg 0 [] [.v, .v, .e (.int .i64 ((x0.Terms.length : Nat) : Int)), .v, .v, .e (.int .i64 ((x1.Terms.length : Nat) : Int)), .e (.bool false), .v, .v, .v, .e (.int .i64 ((x0.Terms.length : Nat) : Int)), .v, .v, .e (.int .i64 ((x1.Terms.length : Nat) : Int)), .e (.bool false), .v, .s, .s, .s, .s, .s, .v, .v, .v], .rg 0 [] [.v, .v, .e (.int .i64 ((x0.Terms.length : Nat) : Int)), .v, .v, .e (.int .i64 ((x1.Terms.length : Nat) : Int)), .e (.bool false), .v, .v, .v, .v, .v, .v, .v, .v], .eqT 80 (.bool true), .rg 0 [] [.v]] [] [] (all_cons trivial (all_cons (lenm cCoef x0.Terms) (all_cons trivial (all_cons (lenm cCoef x1.Terms) (all_cons (congrArg (AV.bool) c359) (all_cons trivial (all_cons (lenm cCoef x0.Terms) (all_cons trivial (all_cons (lenm cCoef x1.Terms) (all_cons (congrArg (AV.bool) c384) (all_cons trivial (all_cons (lenm cCoef x0.Terms) (all_cons trivial (all_cons (lenm cCoef x1.Terms) (all_cons (congrArg (AV.bool) c420) (all_cons (congrArg (AV.bool) c423) all_nil)))))))))))))))) (by kernel_rfl)
          · have c425p := of_decide_eq_false c425
            refine some_e H426 fun e428 => ?_
            subst e428
            exact p_ret Tryz.mo 13 [.rg 0 [] [.v, .v, .e (.int .i64 ((x0.Terms.length : Nat) : Int)), .v, .v, .e (.int .i64 ((x1.Terms.length : Nat) : Int)), .e (.bool false), .v, .v, .v, .e (.int .i64 ((x0.Terms.length : Nat) : Int)), .v, .v, .e (.int .i64 ((x1.Terms.length : Nat) : Int)), .e (.bool false), .v, .s, .s, .s, .s, .s, .v, .v, .v], .rg 0 [] [.v, .v, .e (.int .i64 ((x0.Terms.length : Nat) : Int)), .v, .v, .e (.int .i64 ((x1.Terms.length : Nat) : Int)), .e (.bool false), .v, .v, .v, .v, .v, .v, .v, .v], .eqT 80 (.bool false), .rg 0 [] [.v]] [] [] (all_cons trivial (all_cons (lenm cCoef x0.Terms) (all_cons trivial (all_cons (lenm cCoef x1.Terms) (all_cons (congrArg (AV.bool) c359) (all_cons trivial (all_cons (lenm cCoef x0.Terms) (all_cons trivial (all_cons (lenm cCoef x1.Terms) (all_cons (congrArg (AV.bool) c384) (all_cons trivial (all_cons (lenm cCoef x0.Terms) (all_cons trivial (all_cons (lenm cCoef x1.Terms) (all_cons (congrArg (AV.bool) c420) (all_cons (congrArg (AV.bool) c425) all_nil)))))))))))))))) (by kernel_rfl)
/-- framewise/framewiseref04.Equal -/
def ref04_Equal (x0 : Linear) (x1 : Linear) : Option Bool :=
  (ref04_Compare x0 x1).bind fun y1 =>
  some (y1 == 0)
theorem ref04_Equal_c (x0 : Linear) (x1 : Linear) (r : Bool) (H : ref04_Equal x0 x1 = some r) : AFn Tryz.prog 95 [.agg [.int .i64 x0.Const, .dslice (x0.Terms.map cCoef)], .agg [.int .i64 x1.Const, .dslice (x1.Terms.map cCoef)]] (.bool r) := by
  unfold ref04_Equal at H
  refine acallX Tryz.func95 9 [.tmp 4] (by kernel_rfl) (by kernel_rfl) ?_
  refine bnd H fun y1 h2 H3 => ?_
  refine some_e H3 fun e4 => ?_
  subst e4
  exact p_ret Tryz.mo 5 [.rg 0 [] [.m, .m, .v], .rg 0 [] [.v, .v, .c true (.int .i64 y1), .v, .v]] [] [] (all_cons Tryz.call165 (all_cons (AFn.is (ref04_Compare_c x0 x1 y1 h2)) all_nil)) (by kernel_rfl)
/-- framewise/framewiseref11.Equal -/
def ref11_Equal (x0 : Shape) (x1 : Shape) : Option Bool :=
  bif (x0.Row == x1.Row) then (
    bif (((x0.Dims.length : Nat) : Int) == ((x1.Dims.length : Nat) : Int)) then (
      (cnt (σ := Unit) (ε := Unit) (ρ := Bool) (fun i45 s44 =>
        grd (i45 < x1.Dims.length) <|
        (ref04_Equal (Linear.mk ((x0.Dims.getD i45 ⟨0, []⟩).Const) ((x0.Dims.getD i45 ⟨0, []⟩).Terms)) (Linear.mk ((x1.Dims.getD i45 ⟨0, []⟩).Const) ((x1.Dims.getD i45 ⟨0, []⟩).Terms))).bind fun y78 =>
        bif y78 then (
          some (.go ())
        ) else (
          some (.ret false)
        )
      ) (fun i45 s44 => ()) (x0.Dims.length - 0) 0 ()).bind <| aft fun u94 =>
      some true
    ) else (
      some false
    )
  ) else (
    some false
  )
def ref11_Equal_S1 (x0 : Shape) (x1 : Shape) (i45 : Nat) (s44 : Unit) : AS := ⟨39, [(2, .hptr 2 0), (3, .hptr 3 0), (4, .bool false), (5, .int .i64 ((i45 : Nat) : Int))], [(2, .cells 24 [.str x0.Row, .dslice (x0.Dims.map cLinear)]), (3, .cells 24 [.str x1.Row, .dslice (x1.Dims.map cLinear)])]⟩
def ref11_Equal_S2 (u66 : Unit) : AS := ⟨39, [(4, .bool false)], []⟩
theorem ref11_Equal_c (x0 : Shape) (x1 : Shape) (r : Bool) (H : ref11_Equal x0 x1 = some r) : AFn Tryz.prog 28 [.agg [.str x0.Row, .dslice (x0.Dims.map cLinear)], .agg [.str x1.Row, .dslice (x1.Dims.map cLinear)]] (.bool r) := by
  unfold ref11_Equal at H
  refine acallX Tryz.func28 39 [.tmp 4] (by kernel_rfl) (by kernel_rfl) ?_
  refine bsp H (fun c5 H6 => ?_) (fun c7 H8 => ?_)
  · refine bsp H6 (fun c9 H10 => ?_) (fun c11 H12 => ?_)
    · refine p_at Tryz.mo 12 [.rg 0 [] [.m, .m, .v], .rg 0 [] [.v, .v, .v, .v, .e (.bool false), .v, .v, .v, .e (.int .i64 ((x0.Dims.length : Nat) : Int)), .v, .v, .e (.int .i64 ((x1.Dims.length : Nat) : Int)), .v, .v], .eqT 19 (.bool false), .rg 0 [] [.v]] [.only [2, 3, 4, 5] [2, 3]] 11 [false] (ref11_Equal_S1 x0 x1 0 ()) (all_cons (congrArg (fun x => AV.bool (!x)) c5) (all_cons trivial (all_cons (lenm cLinear x0.Dims) (all_cons trivial (all_cons (lenm cLinear x1.Dims) (all_cons (congrArg (fun x => AV.bool (!x)) c9) all_nil)))))) (by kernel_rfl) ?_
      refine bnd H10 fun R63 h64 H65 => ?_
      refine p_joinO 1 (ref11_Equal_S2) R63 (by kernel_rfl) ?_ (fun u94 e95 => ?_)
      · refine p_cnt (ref11_Equal_S1 x0 x1) (by kernel_rfl) h64 (fun i45 s44 h67 e68 => ?_) (fun i45 s44 h75 q71 h72 h73 => ?_)
        · have c69 : decide (((i45 : Nat) : Int) < ((x0.Dims.length : Nat) : Int)) = false := decide_eq_false (by omega)
          subst e68
          exact p_bar Tryz.mo 5 [.rg 0 [] [.v, .v, .v, .e (.int .i64 ((x0.Dims.length : Nat) : Int)), .e (.bool false)]] [.only [4] []] (ref11_Equal_S2 ()) (all_cons trivial (all_cons (lenm cLinear x0.Dims) (all_cons (congrArg (AV.bool) c69) all_nil))) (by kernel_rfl)
        · have c74 : decide (((i45 : Nat) : Int) < ((x0.Dims.length : Nat) : Int)) = true := decide_eq_true (by omega)
          refine grd_e h72 fun g76 H77 => ?_
          refine bnd H77 fun y78 h79 H80 => ?_
          refine bsp H80 (fun c81 H82 => ?_) (fun c83 H84 => ?_)
          · refine t_lensH 2 1 (ps := [(x0.Dims.map cLinear).length ≤ 9223372036854775807]) (by kernel_rfl) (fun l87 => ?_)
            have l88 : x0.Dims.length ≤ 9223372036854775807 := by simpa only [All, List.length_map] using l87
            clear l87
            refine some_e H82 fun e89 => ?_
            subst e89
            exact p_bar Tryz.mo 13 [.rg 0 [] [.v, .v, .v, .e (.int .i64 ((x0.Dims.length : Nat) : Int)), .e (.bool true)], .rg 10 [.v, .v, .v, .e (.dptr [.int .i64 ((x0.Dims.getD i45 ⟨0, []⟩).Const), .dslice (((x0.Dims.getD i45 ⟨0, []⟩).Terms).map cCoef)]), .v, .v, .v, .v, .e (.dptr [.int .i64 ((x1.Dims.getD i45 ⟨0, []⟩).Const), .dslice (((x1.Dims.getD i45 ⟨0, []⟩).Terms).map cCoef)]), .v] [.c true (.bool y78), .v], .eqT 38 (.bool false), .rg 0 [] [.v, .v, .v]] [.only [2, 3, 4, 5] [2, 3]] (ref11_Equal_S1 x0 x1 (i45 + 1) ()) (all_cons trivial (all_cons (lenm cLinear x0.Dims) (all_cons (congrArg (AV.bool) c74) (all_app (ix (f := cLinear) (l := x0.Dims) (n := i45) ⟨0, []⟩ cLinear_len (by decide) (by omega)) (all_app (ix (f := cLinear) (l := x1.Dims) (n := i45) ⟨0, []⟩ cLinear_len (by decide) (by omega)) (all_cons Tryz.call95 (all_cons (AFn.is (ref04_Equal_c (Linear.mk ((x0.Dims.getD i45 ⟨0, []⟩).Const) ((x0.Dims.getD i45 ⟨0, []⟩).Terms)) (Linear.mk ((x1.Dims.getD i45 ⟨0, []⟩).Const) ((x1.Dims.getD i45 ⟨0, []⟩).Terms)) y78 h79)) (all_cons trivial (all_cons (congrArg (fun x => AV.bool (!x)) c81) (all_cons (show I64 (((i45 : Nat) : Int) + 1) from by unfold I64; omega) all_nil)))))))))) (by kernel_rfl)
          · refine some_e H84 fun e90 => ?_
            subst e90
            have e91 := out_ret h73
            subst e91
            have H92 := aft_ret H65
            refine some_e H92 fun e93 => ?_
            subst e93
            exact p_ret Tryz.mo 14 [.rg 0 [] [.v, .v, .v, .e (.int .i64 ((x0.Dims.length : Nat) : Int)), .e (.bool true)], .rg 10 [.v, .v, .v, .e (.dptr [.int .i64 ((x0.Dims.getD i45 ⟨0, []⟩).Const), .dslice (((x0.Dims.getD i45 ⟨0, []⟩).Terms).map cCoef)]), .v, .v, .v, .v, .e (.dptr [.int .i64 ((x1.Dims.getD i45 ⟨0, []⟩).Const), .dslice (((x1.Dims.getD i45 ⟨0, []⟩).Terms).map cCoef)]), .v] [.c true (.bool y78), .v], .eqT 38 (.bool true), .rg 0 [] [.v]] [] [] (all_cons trivial (all_cons (lenm cLinear x0.Dims) (all_cons (congrArg (AV.bool) c74) (all_app (ix (f := cLinear) (l := x0.Dims) (n := i45) ⟨0, []⟩ cLinear_len (by decide) (by omega)) (all_app (ix (f := cLinear) (l := x1.Dims) (n := i45) ⟨0, []⟩ cLinear_len (by decide) (by omega)) (all_cons Tryz.call95 (all_cons (AFn.is (ref04_Equal_c (Linear.mk ((x0.Dims.getD i45 ⟨0, []⟩).Const) ((x0.Dims.getD i45 ⟨0, []⟩).Terms)) (Linear.mk ((x1.Dims.getD i45 ⟨0, []⟩).Const) ((x1.Dims.getD i45 ⟨0, []⟩).Terms)) y78 h79)) (all_cons trivial (all_cons (congrArg (fun x => AV.bool (!x)) c83) all_nil))))))))) (by kernel_rfl)
      · subst e95
        have H96 := aft_brk H65
        refine some_e H96 fun e97 => ?_
        subst e97
        exact p_ret Tryz.mo 3 [.rg 0 [] [.v]] [] [] all_nil (by kernel_rfl)
    · refine some_e H12 fun e98 => ?_
      subst e98
      exact p_ret Tryz.mo 10 [.rg 0 [] [.m, .m, .v], .rg 0 [] [.v, .v, .v, .v, .e (.bool false), .v, .v, .v, .e (.int .i64 ((x0.Dims.length : Nat) : Int)), .v, .v, .e (.int .i64 ((x1.Dims.length : Nat) : Int)), .v, .v], .eqT 19 (.bool true), .rg 0 [] [.v]] [] [] (all_cons (congrArg (fun x => AV.bool (!x)) c5) (all_cons trivial (all_cons (lenm cLinear x0.Dims) (all_cons trivial (all_cons (lenm cLinear x1.Dims) (all_cons (congrArg (fun x => AV.bool (!x)) c11) all_nil)))))) (by kernel_rfl)
  · refine some_e H8 fun e99 => ?_
    subst e99
    exact p_ret Tryz.mo 9 [.rg 0 [] [.m, .m, .v], .rg 0 [] [.v, .v, .v, .v, .e (.bool true), .v, .s, .s, .s, .s, .s, .s, .s, .v], .rg 0 [] [.v]] [] [] (all_cons (congrArg (fun x => AV.bool (!x)) c7) all_nil) (by kernel_rfl)
/-- framewise/shape.Concat -/
noncomputable def shape_Concat (x0 : Shape) (x1 : Shape) : Option (Shape × Int) :=
  (shape_Valid x0).bind fun y1 =>
  bif y1 then (
    (shape_Valid x1).bind fun y19 =>
    bif y19 then (
      bif (x1.Row == []) then (
        (lib_ConcatL [x0.Dims, x1.Dims]).bind fun y34 =>
        (shape_made x0.Row y34).bind fun y37 =>
        some (y37.1, y37.2)
      ) else (
        some ((Shape.mk [] []), 13)
      )
    ) else (
      some ((Shape.mk [] []), 1)
    )
  ) else (
    some ((Shape.mk [] []), 1)
  )
theorem shape_Concat_c (x0 : Shape) (x1 : Shape) (r : (Shape × Int)) (H : shape_Concat x0 x1 = some r) : AFn Tryz.prog 41 [.agg [.str x0.Row, .dslice (x0.Dims.map cLinear)], .agg [.str x1.Row, .dslice (x1.Dims.map cLinear)]] (.tup [.agg [.str r.1.Row, .dslice (r.1.Dims.map cLinear)], .int .i64 r.2]) := by
  unfold shape_Concat at H
  refine acallX Tryz.func41 32 [.cell 4 24, .tmp 5] (by kernel_rfl) (by kernel_rfl) ?_
  refine bnd H fun y1 h2 H3 => ?_
  refine bsp H3 (fun c15 H16 => ?_) (fun c17 H18 => ?_)
  · refine bnd H16 fun y19 h20 H21 => ?_
    refine bsp H21 (fun c26 H27 => ?_) (fun c28 H29 => ?_)
    · refine bsp H27 (fun c30 H31 => ?_) (fun c32 H33 => ?_)
      · refine bnd H31 fun y34 h35 H36 => ?_
        refine bnd H36 fun y37 h38 H39 => ?_
        refine some_e H39 fun e40 => ?_
        subst e40
        exact p_ret Tryz.mo 16 [.rg 0 [] [.m, .m, .m, .v], .rg 0 [] [.v, .c true (.bool true), .v, .v, .v, .c true (.bool y19), .v, .v, .v], .eqT 6 (.bool false), .rg 0 [] [.v, .v, .v, .v], .eqT 16 (.bool false), .rg 11 [.v, .v, .v, .v, .v, .v, .b, .c true (.dslice (y34.map cLinear)), .c true (.tup [.agg [.str y37.1.Row, .dslice (y37.1.Dims.map cLinear)], .int .i64 y37.2]), .v, .v] [.m, .v]] [] [] (all_cons Tryz.call31 (all_cons (AFn.eq (shape_Valid_c x0 y1 h2) (congrArg (AV.bool) c15)) (all_cons trivial (all_cons Tryz.call31 (all_cons (AFn.is (shape_Valid_c x1 y19 h20)) (all_cons trivial (all_cons (congrArg (fun x => AV.bool (!x)) c26) (all_cons (congrArg (fun x => AV.bool (!x)) c30) (all_cons Tryz.call109 (all_cons (AFn.is (lib_ConcatL_c cLinear [x0.Dims, x1.Dims] cLinear_ok y34 h35)) (all_cons Tryz.call84 (all_cons (AFn.is (shape_made_c x0.Row y34 y37 h38)) all_nil)))))))))))) (by kernel_rfl)
      · refine some_e H33 fun e41 => ?_
        subst e41
        exact p_ret Tryz.mo 15 [.rg 0 [] [.m, .m, .m, .v], .rg 0 [] [.v, .c true (.bool true), .v, .v, .v, .c true (.bool y19), .v, .v, .v], .eqT 6 (.bool false), .rg 0 [] [.v, .v, .v, .v], .eqT 16 (.bool true), .rg 0 [] [.b, .m, .v]] [.wkH 4 1 []] [] (all_cons Tryz.call31 (all_cons (AFn.eq (shape_Valid_c x0 y1 h2) (congrArg (AV.bool) c15)) (all_cons trivial (all_cons Tryz.call31 (all_cons (AFn.is (shape_Valid_c x1 y19 h20)) (all_cons trivial (all_cons (congrArg (fun x => AV.bool (!x)) c26) (all_cons (congrArg (fun x => AV.bool (!x)) c32) all_nil)))))))) (by kernel_rfl)
    · refine some_e H29 fun e42 => ?_
      subst e42
      exact p_ret Tryz.mo 11 [.rg 0 [] [.m, .m, .m, .v], .rg 0 [] [.v, .c true (.bool true), .v, .v, .v, .c true (.bool y19), .v, .v, .v], .eqT 6 (.bool true), .rg 0 [] [.b, .m, .v]] [.wkH 4 1 []] [] (all_cons Tryz.call31 (all_cons (AFn.eq (shape_Valid_c x0 y1 h2) (congrArg (AV.bool) c15)) (all_cons trivial (all_cons Tryz.call31 (all_cons (AFn.is (shape_Valid_c x1 y19 h20)) (all_cons trivial (all_cons (congrArg (fun x => AV.bool (!x)) c28) all_nil))))))) (by kernel_rfl)
  · refine some_e H18 fun e43 => ?_
    subst e43
    exact p_ret Tryz.mo 10 [.rg 0 [] [.m, .m, .m, .v], .rg 0 [] [.v, .c true (.bool false), .v, .v, .s, .s, .s, .v, .v], .rg 0 [] [.b, .m, .v]] [.wkH 4 1 []] [] (all_cons Tryz.call31 (all_cons (AFn.eq (shape_Valid_c x0 y1 h2) (congrArg (AV.bool) c17)) (all_cons trivial all_nil))) (by kernel_rfl)
/-- framewise/framewiselaw11.ShapeSubst -/
noncomputable def law11_ShapeSubst (x0 : Shape) (x1 : Shape) (x2 : (List Bind)) : Option Bool :=
  (law11_awake).bind fun y1 =>
  bif y1 then (
    (ref11_Few x0).bind fun y41 =>
    bif y41 then (
      (ref11_Few x1).bind fun y71 =>
      bif y71 then (
        (ref11_FewBinds x2).bind fun y91 =>
        bif y91 then (
          (shape_Subst x0 x2).bind fun y101 =>
          (ref11_Subst x0 x2).bind fun y104 =>
          (shape_Subst x0 []).bind fun y107 =>
          (ref11_Equal y101.1 y104.1).bind fun y110 =>
          ((
            bif y110 then (
              bif (y101.2 == y104.2) then (
                (ref11_Valid x0).bind fun y185 =>
                bif ((y107.2 == 0) == y185) then (
                  bif (y107.2 == 0) then (
                    bif (true == y185) then (
                      (ref11_Equal y107.1 x0).bind fun y200 =>
                      bif y200 then (
                        some (.brk ())
                      ) else (
                        some (.ret false)
                      )
                    ) else (
                      some (.ret false)
                    )
                  ) else (
                    bif (false == y185) then (
                      some (.brk ())
                    ) else (
                      some (.ret false)
                    )
                  )
                ) else (
                  some (.ret false)
                )
              ) else (
                some (.ret false)
              )
            ) else (
              some (.ret false)
            )
          ) : Option (Out Unit Bool)).bind (aft fun u176 =>
            (shape_Concat x0 x1).bind fun y232 =>
            (shape_Subst x1 x2).bind fun y235 =>
            bif (y101.2 == 0) then (
              bif (y232.2 == 0) then (
                bif (y235.2 == 0) then (
                  (shape_Subst y232.1 x2).bind fun y262 =>
                  (shape_Concat y101.1 y235.1).bind fun y265 =>
                  bif (y262.2 == y265.2) then (
                    (ref11_Equal y262.1 y265.1).bind fun y275 =>
                    some y275
                  ) else (
                    some false
                  )
                ) else (
                  some true
                )
              ) else (
                some true
              )
            ) else (
              some true
            )
          )
        ) else (
          (law11_awake).bind fun y284 =>
          some y284
        )
      ) else (
        (law11_awake).bind fun y288 =>
        some y288
      )
    ) else (
      (law11_awake).bind fun y292 =>
      some y292
    )
  ) else (
    (law11_awake).bind fun y296 =>
    some y296
  )
def law11_ShapeSubst_S1 (x0 : Shape) (x1 : Shape) (x2 : (List Bind)) (y101 : (Shape × Int)) (u176 : Unit) : AS := ⟨124, [(2, .dslice (x2.map cBind)), (3, .hptr 3 0), (4, .hptr 4 0), (6, .bool false), (7, .hptr 7 0), (8, .int .i64 y101.2)], [(3, .cells 24 [.str x0.Row, .dslice (x0.Dims.map cLinear)]), (4, .cells 24 [.str x1.Row, .dslice (x1.Dims.map cLinear)]), (7, .cells 24 [.str y101.1.Row, .dslice (y101.1.Dims.map cLinear)])]⟩
theorem law11_ShapeSubst_c (x0 : Shape) (x1 : Shape) (x2 : (List Bind)) (r : Bool) (H : law11_ShapeSubst x0 x1 x2 = some r) : AFn Tryz.prog 6 [.agg [.str x0.Row, .dslice (x0.Dims.map cLinear)], .agg [.str x1.Row, .dslice (x1.Dims.map cLinear)], .dslice (x2.map cBind)] (.bool r) := by
  unfold law11_ShapeSubst at H
  refine acallX Tryz.func6 124 [.tmp 6] (by kernel_rfl) (by kernel_rfl) ?_
  refine bnd H fun y1 h2 H3 => ?_
  refine bsp H3 (fun c37 H38 => ?_) (fun c39 H40 => ?_)
  · refine bnd H38 fun y41 h42 H43 => ?_
    refine bsp H43 (fun c67 H68 => ?_) (fun c69 H70 => ?_)
    · refine bnd H68 fun y71 h72 H73 => ?_
      refine bsp H73 (fun c87 H88 => ?_) (fun c89 H90 => ?_)
      · refine bnd H88 fun y91 h92 H93 => ?_
        refine bsp H93 (fun c97 H98 => ?_) (fun c99 H100 => ?_)
        · refine bnd H98 fun y101 h102 H103 => ?_
          refine bnd H103 fun y104 h105 H106 => ?_
          refine bnd H106 fun y107 h108 H109 => ?_
          refine bnd H109 fun y110 h111 H112 => ?_
          refine p_at Tryz.mo 16 [.rg 0 [] [.m, .m, .v], .rg 0 [] [.c true (.bool true), .v, .v, .v, .c true (.bool true), .v, .v, .v, .v, .c true (.bool true), .v, .v, .v, .v, .c true (.bool y91), .v, .v], .eqT 37 (.bool false), .rg 0 [] [.v, .v, .c true (.tup [.agg [.str y101.1.Row, .dslice (y101.1.Dims.map cLinear)], .int .i64 y101.2]), .v, .v, .v, .m, .m, .v], .rg 0 [] [.v, .v, .c true (.tup [.agg [.str y104.1.Row, .dslice (y104.1.Dims.map cLinear)], .int .i64 y104.2]), .v, .v, .v, .m, .m, .v], .rg 0 [] [.v, .cw true [(1, [])] (.tup [.agg [.str y107.1.Row, .dslice (y107.1.Dims.map cLinear)], .int .i64 y107.2]), .v, .v, .v, .m, .m, .v]] [.only [2, 3, 4, 6, 7, 8, 9, 10, 11, 12] [3, 4, 7, 9, 11]] 15 [false] ⟨124, [(2, .dslice (x2.map cBind)), (3, .hptr 3 0), (4, .hptr 4 0), (6, .bool false), (7, .hptr 7 0), (8, .int .i64 y101.2), (9, .hptr 9 0), (10, .int .i64 y104.2), (11, .hptr 11 0), (12, .int .i64 y107.2)], [(3, .cells 24 [.str x0.Row, .dslice (x0.Dims.map cLinear)]), (4, .cells 24 [.str x1.Row, .dslice (x1.Dims.map cLinear)]), (7, .cells 24 [.str y101.1.Row, .dslice (y101.1.Dims.map cLinear)]), (9, .cells 24 [.str y104.1.Row, .dslice (y104.1.Dims.map cLinear)]), (11, .cells 24 [.str y107.1.Row, .dslice (y107.1.Dims.map cLinear)])]⟩ (all_cons Tryz.call15 (all_cons (AFn.eq (law11_awake_c y1 h2) (congrArg (AV.bool) c37)) (all_cons trivial (all_cons Tryz.call16 (all_cons (AFn.eq (ref11_Few_c x0 y41 h42) (congrArg (AV.bool) c67)) (all_cons trivial (all_cons Tryz.call16 (all_cons (AFn.eq (ref11_Few_c x1 y71 h72) (congrArg (AV.bool) c87)) (all_cons trivial (all_cons Tryz.call17 (all_cons (AFn.is (ref11_FewBinds_c x2 y91 h92)) (all_cons trivial (all_cons (congrArg (fun x => AV.bool (!x)) c97) (all_cons Tryz.call18 (all_cons (AFn.is (shape_Subst_c x0 x2 y101 h102)) (all_cons Tryz.call40 (all_cons (AFn.is (ref11_Subst_c x0 x2 y104 h105)) (all_cons Tryz.call18 (all_cons (AFn.is (shape_Subst_c x0 [] y107 h108)) all_nil))))))))))))))))))) (by kernel_rfl) ?_
          refine bnd H112 fun v173 h174 H175 => ?_
          refine p_joinO 1 (law11_ShapeSubst_S1 x0 x1 x2 y101) v173 (by kernel_rfl) ?_ (fun u176 e283 => ?_)
          · refine bsp h174 (fun c177 H178 => ?_) (fun c179 H180 => ?_)
            · refine bsp H178 (fun c181 H182 => ?_) (fun c183 H184 => ?_)
              · refine bnd H182 fun y185 h186 H187 => ?_
                refine bsp H187 (fun c188 H189 => ?_) (fun c190 H191 => ?_)
                · refine bsp H189 (fun c192 H193 => ?_) (fun c194 H195 => ?_)
                  · refine bsp H193 (fun c196 H197 => ?_) (fun c198 H199 => ?_)
                    · refine bnd H197 fun y200 h201 H202 => ?_
                      refine bsp H202 (fun c203 H204 => ?_) (fun c205 H206 => ?_)
                      · refine some_e H204 fun e207 => ?_
                        subst e207
                        exact p_bar Tryz.mo 4 [.rg 0 [] [.v, .v, .c true (.bool true), .v, .v, .v, .v, .e (.bool false), .v, .v, .v, .e (.bool true), .v, .c true (.bool y185), .e (.bool false), .v, .v, .v, .e (.bool true), .v, .v, .v, .c true (.bool y200), .v, .v, .v], .eqT 81 (.bool false)] [.only [2, 3, 4, 6, 7, 8] [3, 4, 7]] (law11_ShapeSubst_S1 x0 x1 x2 y101 ()) (all_cons Tryz.call28 (all_cons (AFn.eq (ref11_Equal_c y101.1 y104.1 y110 h111) (congrArg (AV.bool) c177)) (all_cons trivial (all_cons (congrArg (fun x => AV.bool (!x)) c181) (all_cons (congrArg (AV.bool) c192) (all_cons Tryz.call32 (all_cons (AFn.is (ref11_Valid_c x0 y185 h186)) (all_cons (congrArg (fun x => AV.bool (!x)) c196) (all_cons (congrArg (AV.bool) c192) (all_cons Tryz.call28 (all_cons (AFn.is (ref11_Equal_c y107.1 x0 y200 h201)) (all_cons trivial (all_cons (congrArg (fun x => AV.bool (!x)) c203) all_nil))))))))))))) (by kernel_rfl)
                      · refine some_e H206 fun e208 => ?_
                        subst e208
                        have H209 := aft_ret H175
                        refine some_e H209 fun e210 => ?_
                        subst e210
                        exact p_ret Tryz.mo 6 [.rg 0 [] [.v, .v, .c true (.bool true), .v, .v, .v, .v, .e (.bool false), .v, .v, .v, .e (.bool true), .v, .c true (.bool y185), .e (.bool false), .v, .v, .v, .e (.bool true), .v, .v, .v, .c true (.bool y200), .v, .v, .v], .eqT 81 (.bool true), .rg 0 [] [.v]] [] [] (all_cons Tryz.call28 (all_cons (AFn.eq (ref11_Equal_c y101.1 y104.1 y110 h111) (congrArg (AV.bool) c177)) (all_cons trivial (all_cons (congrArg (fun x => AV.bool (!x)) c181) (all_cons (congrArg (AV.bool) c192) (all_cons Tryz.call32 (all_cons (AFn.is (ref11_Valid_c x0 y185 h186)) (all_cons (congrArg (fun x => AV.bool (!x)) c196) (all_cons (congrArg (AV.bool) c192) (all_cons Tryz.call28 (all_cons (AFn.is (ref11_Equal_c y107.1 x0 y200 h201)) (all_cons trivial (all_cons (congrArg (fun x => AV.bool (!x)) c205) all_nil))))))))))))) (by kernel_rfl)
                    · refine some_e H199 fun e211 => ?_
                      subst e211
                      have H212 := aft_ret H175
                      refine some_e H212 fun e213 => ?_
                      subst e213
                      exact p_ret Tryz.mo 5 [.rg 0 [] [.v, .v, .c true (.bool true), .v, .v, .v, .v, .e (.bool false), .v, .v, .v, .e (.bool true), .v, .c true (.bool y185), .e (.bool true), .v, .v, .s, .s, .s, .s, .s, .s, .s, .s, .v], .rg 0 [] [.v]] [] [] (all_cons Tryz.call28 (all_cons (AFn.eq (ref11_Equal_c y101.1 y104.1 y110 h111) (congrArg (AV.bool) c177)) (all_cons trivial (all_cons (congrArg (fun x => AV.bool (!x)) c181) (all_cons (congrArg (AV.bool) c192) (all_cons Tryz.call32 (all_cons (AFn.is (ref11_Valid_c x0 y185 h186)) (all_cons (congrArg (fun x => AV.bool (!x)) c198) all_nil)))))))) (by kernel_rfl)
                  · refine bsp H195 (fun c214 H215 => ?_) (fun c216 H217 => ?_)
                    · refine some_e H215 fun e218 => ?_
                      subst e218
                      exact p_bar Tryz.mo 3 [.rg 0 [] [.v, .v, .c true (.bool true), .v, .v, .v, .v, .e (.bool false), .v, .v, .v, .e (.bool false), .v, .c true (.bool y185), .e (.bool false), .v, .v, .v, .e (.bool false), .v, .s, .s, .s, .s, .v, .v]] [.only [2, 3, 4, 6, 7, 8] [3, 4, 7]] (law11_ShapeSubst_S1 x0 x1 x2 y101 ()) (all_cons Tryz.call28 (all_cons (AFn.eq (ref11_Equal_c y101.1 y104.1 y110 h111) (congrArg (AV.bool) c177)) (all_cons trivial (all_cons (congrArg (fun x => AV.bool (!x)) c181) (all_cons (congrArg (AV.bool) c194) (all_cons Tryz.call32 (all_cons (AFn.is (ref11_Valid_c x0 y185 h186)) (all_cons (congrArg (fun x => AV.bool (!x)) c214) (all_cons (congrArg (AV.bool) c194) all_nil))))))))) (by kernel_rfl)
                    · refine some_e H217 fun e219 => ?_
                      subst e219
                      have H220 := aft_ret H175
                      refine some_e H220 fun e221 => ?_
                      subst e221
                      exact p_ret Tryz.mo 5 [.rg 0 [] [.v, .v, .c true (.bool true), .v, .v, .v, .v, .e (.bool false), .v, .v, .v, .e (.bool false), .v, .c true (.bool y185), .e (.bool true), .v, .v, .s, .s, .s, .s, .s, .s, .s, .s, .v], .rg 0 [] [.v]] [] [] (all_cons Tryz.call28 (all_cons (AFn.eq (ref11_Equal_c y101.1 y104.1 y110 h111) (congrArg (AV.bool) c177)) (all_cons trivial (all_cons (congrArg (fun x => AV.bool (!x)) c181) (all_cons (congrArg (AV.bool) c194) (all_cons Tryz.call32 (all_cons (AFn.is (ref11_Valid_c x0 y185 h186)) (all_cons (congrArg (fun x => AV.bool (!x)) c216) all_nil)))))))) (by kernel_rfl)
                · refine some_e H191 fun e222 => ?_
                  subst e222
                  have H223 := aft_ret H175
                  refine some_e H223 fun e224 => ?_
                  subst e224
                  exact p_ret Tryz.mo 5 [.rg 0 [] [.v, .v, .c true (.bool true), .v, .v, .v, .v, .e (.bool false), .v, .v, .v, .v, .v, .c true (.bool y185), .e (.bool true), .v, .v, .s, .s, .s, .s, .s, .s, .s, .s, .v], .rg 0 [] [.v]] [] [] (all_cons Tryz.call28 (all_cons (AFn.eq (ref11_Equal_c y101.1 y104.1 y110 h111) (congrArg (AV.bool) c177)) (all_cons trivial (all_cons (congrArg (fun x => AV.bool (!x)) c181) (all_cons Tryz.call32 (all_cons (AFn.is (ref11_Valid_c x0 y185 h186)) (all_cons (congrArg (fun x => AV.bool (!x)) c190) all_nil))))))) (by kernel_rfl)
              · refine some_e H184 fun e225 => ?_
                subst e225
                have H226 := aft_ret H175
                refine some_e H226 fun e227 => ?_
                subst e227
                exact p_ret Tryz.mo 5 [.rg 0 [] [.v, .v, .c true (.bool true), .v, .v, .v, .v, .e (.bool true), .v, .v, .s, .s, .s, .s, .s, .v, .v, .s, .s, .s, .s, .s, .s, .s, .s, .v], .rg 0 [] [.v]] [] [] (all_cons Tryz.call28 (all_cons (AFn.eq (ref11_Equal_c y101.1 y104.1 y110 h111) (congrArg (AV.bool) c177)) (all_cons trivial (all_cons (congrArg (fun x => AV.bool (!x)) c183) all_nil)))) (by kernel_rfl)
            · refine some_e H180 fun e228 => ?_
              subst e228
              have H229 := aft_ret H175
              refine some_e H229 fun e230 => ?_
              subst e230
              exact p_ret Tryz.mo 5 [.rg 0 [] [.v, .v, .c true (.bool false), .v, .v, .s, .s, .s, .v, .v, .s, .s, .s, .s, .s, .v, .v, .s, .s, .s, .s, .s, .s, .s, .s, .v], .rg 0 [] [.v]] [] [] (all_cons Tryz.call28 (all_cons (AFn.eq (ref11_Equal_c y101.1 y104.1 y110 h111) (congrArg (AV.bool) c179)) (all_cons trivial all_nil))) (by kernel_rfl)
          · subst e283
            have H231 := aft_brk H175
            refine bnd H231 fun y232 h233 H234 => ?_
            refine bnd H234 fun y235 h236 H237 => ?_
            refine bsp H237 (fun c246 H247 => ?_) (fun c248 H249 => ?_)
            · refine bsp H247 (fun c254 H255 => ?_) (fun c256 H257 => ?_)
              · refine bsp H255 (fun c258 H259 => ?_) (fun c260 H261 => ?_)
                · refine bnd H259 fun y262 h263 H264 => ?_
                  refine bnd H264 fun y265 h266 H267 => ?_
                  refine bsp H267 (fun c271 H272 => ?_) (fun c273 H274 => ?_)
                  · refine bnd H272 fun y275 h276 H277 => ?_
                    refine some_e H277 fun e278 => ?_
                    subst e278
                    exact p_ret Tryz.mo 17 [.rg 0 [] [.v, .v, .c true (.tup [.agg [.str y232.1.Row, .dslice (y232.1.Dims.map cLinear)], .int .i64 y232.2]), .v, .v, .v, .m, .m, .v], .rg 0 [] [.v, .v, .c true (.tup [.agg [.str y235.1.Row, .dslice (y235.1.Dims.map cLinear)], .int .i64 y235.2]), .v, .v, .v, .m, .m, .v], .rg 0 [] [.v, .e (.bool false), .v, .v, .e (.bool false), .v, .v, .v, .v, .v], .eqT 103 (.bool false), .rg 0 [] [.v, .v, .c true (.tup [.agg [.str y262.1.Row, .dslice (y262.1.Dims.map cLinear)], .int .i64 y262.2]), .v, .v, .v, .m, .m, .v], .rg 0 [] [.v, .v, .c true (.tup [.agg [.str y265.1.Row, .dslice (y265.1.Dims.map cLinear)], .int .i64 y265.2]), .v, .v, .v, .m, .m, .v], .rg 0 [] [.v, .v, .e (.bool true), .v, .v, .v, .c true (.bool y275), .v, .v]] [] [] (all_cons Tryz.call41 (all_cons (AFn.is (shape_Concat_c x0 x1 y232 h233)) (all_cons Tryz.call18 (all_cons (AFn.is (shape_Subst_c x1 x2 y235 h236)) (all_cons (congrArg (fun x => AV.bool (!x)) c246) (all_cons (congrArg (fun x => AV.bool (!x)) c254) (all_cons (congrArg (fun x => AV.bool (!x)) c258) (all_cons Tryz.call18 (all_cons (AFn.is (shape_Subst_c y232.1 x2 y262 h263)) (all_cons Tryz.call41 (all_cons (AFn.is (shape_Concat_c y101.1 y235.1 y265 h266)) (all_cons (congrArg (AV.bool) c271) (all_cons Tryz.call28 (all_cons (AFn.is (ref11_Equal_c y262.1 y265.1 y275 h276)) all_nil)))))))))))))) (by kernel_rfl)
                  · refine some_e H274 fun e279 => ?_
                    subst e279
                    exact p_ret Tryz.mo 17 [.rg 0 [] [.v, .v, .c true (.tup [.agg [.str y232.1.Row, .dslice (y232.1.Dims.map cLinear)], .int .i64 y232.2]), .v, .v, .v, .m, .m, .v], .rg 0 [] [.v, .v, .c true (.tup [.agg [.str y235.1.Row, .dslice (y235.1.Dims.map cLinear)], .int .i64 y235.2]), .v, .v, .v, .m, .m, .v], .rg 0 [] [.v, .e (.bool false), .v, .v, .e (.bool false), .v, .v, .v, .v, .v], .eqT 103 (.bool false), .rg 0 [] [.v, .v, .c true (.tup [.agg [.str y262.1.Row, .dslice (y262.1.Dims.map cLinear)], .int .i64 y262.2]), .v, .v, .v, .m, .m, .v], .rg 0 [] [.v, .v, .c true (.tup [.agg [.str y265.1.Row, .dslice (y265.1.Dims.map cLinear)], .int .i64 y265.2]), .v, .v, .v, .m, .m, .v], .rg 0 [] [.v, .v, .e (.bool false), .v, .s, .s, .s, .v, .v]] [] [] (all_cons Tryz.call41 (all_cons (AFn.is (shape_Concat_c x0 x1 y232 h233)) (all_cons Tryz.call18 (all_cons (AFn.is (shape_Subst_c x1 x2 y235 h236)) (all_cons (congrArg (fun x => AV.bool (!x)) c246) (all_cons (congrArg (fun x => AV.bool (!x)) c254) (all_cons (congrArg (fun x => AV.bool (!x)) c258) (all_cons Tryz.call18 (all_cons (AFn.is (shape_Subst_c y232.1 x2 y262 h263)) (all_cons Tryz.call41 (all_cons (AFn.is (shape_Concat_c y101.1 y235.1 y265 h266)) (all_cons (congrArg (AV.bool) c273) all_nil)))))))))))) (by kernel_rfl)
                · refine some_e H261 fun e280 => ?_
                  subst e280
                  exact p_ret Tryz.mo 12 [.rg 0 [] [.v, .v, .c true (.tup [.agg [.str y232.1.Row, .dslice (y232.1.Dims.map cLinear)], .int .i64 y232.2]), .v, .v, .v, .m, .m, .v], .rg 0 [] [.v, .v, .c true (.tup [.agg [.str y235.1.Row, .dslice (y235.1.Dims.map cLinear)], .int .i64 y235.2]), .v, .v, .v, .m, .m, .v], .rg 0 [] [.v, .e (.bool false), .v, .v, .e (.bool false), .v, .v, .v, .v, .v], .eqT 103 (.bool true), .rg 0 [] [.v]] [] [] (all_cons Tryz.call41 (all_cons (AFn.is (shape_Concat_c x0 x1 y232 h233)) (all_cons Tryz.call18 (all_cons (AFn.is (shape_Subst_c x1 x2 y235 h236)) (all_cons (congrArg (fun x => AV.bool (!x)) c246) (all_cons (congrArg (fun x => AV.bool (!x)) c254) (all_cons (congrArg (fun x => AV.bool (!x)) c260) all_nil))))))) (by kernel_rfl)
              · refine some_e H257 fun e281 => ?_
                subst e281
                exact p_ret Tryz.mo 11 [.rg 0 [] [.v, .v, .c true (.tup [.agg [.str y232.1.Row, .dslice (y232.1.Dims.map cLinear)], .int .i64 y232.2]), .v, .v, .v, .m, .m, .v], .rg 0 [] [.v, .v, .c true (.tup [.agg [.str y235.1.Row, .dslice (y235.1.Dims.map cLinear)], .int .i64 y235.2]), .v, .v, .v, .m, .m, .v], .rg 0 [] [.v, .e (.bool false), .v, .v, .e (.bool true), .v, .v, .s, .s, .v], .rg 0 [] [.v]] [] [] (all_cons Tryz.call41 (all_cons (AFn.is (shape_Concat_c x0 x1 y232 h233)) (all_cons Tryz.call18 (all_cons (AFn.is (shape_Subst_c x1 x2 y235 h236)) (all_cons (congrArg (fun x => AV.bool (!x)) c246) (all_cons (congrArg (fun x => AV.bool (!x)) c256) all_nil)))))) (by kernel_rfl)
            · refine some_e H249 fun e282 => ?_
              subst e282
              exact p_ret Tryz.mo 11 [.rg 0 [] [.v, .v, .c true (.tup [.agg [.str y232.1.Row, .dslice (y232.1.Dims.map cLinear)], .int .i64 y232.2]), .v, .v, .v, .m, .m, .v], .rg 0 [] [.v, .v, .c true (.tup [.agg [.str y235.1.Row, .dslice (y235.1.Dims.map cLinear)], .int .i64 y235.2]), .v, .v, .v, .m, .m, .v], .rg 0 [] [.v, .e (.bool true), .v, .s, .s, .v, .v, .s, .s, .v], .rg 0 [] [.v]] [] [] (all_cons Tryz.call41 (all_cons (AFn.is (shape_Concat_c x0 x1 y232 h233)) (all_cons Tryz.call18 (all_cons (AFn.is (shape_Subst_c x1 x2 y235 h236)) (all_cons (congrArg (fun x => AV.bool (!x)) c248) all_nil))))) (by kernel_rfl)
        · refine bnd H100 fun y284 h285 H286 => ?_
          refine some_e H286 fun e287 => ?_
          subst e287
          exact p_ret Tryz.mo 10 [.rg 0 [] [.m, .m, .v], .rg 0 [] [.c true (.bool true), .v, .v, .v, .c true (.bool true), .v, .v, .v, .v, .c true (.bool true), .v, .v, .v, .v, .c true (.bool y91), .v, .v], .eqT 37 (.bool true), .rg 0 [] [.c true (.bool y284), .v]] [] [] (all_cons Tryz.call15 (all_cons (AFn.eq (law11_awake_c y1 h2) (congrArg (AV.bool) c37)) (all_cons trivial (all_cons Tryz.call16 (all_cons (AFn.eq (ref11_Few_c x0 y41 h42) (congrArg (AV.bool) c67)) (all_cons trivial (all_cons Tryz.call16 (all_cons (AFn.eq (ref11_Few_c x1 y71 h72) (congrArg (AV.bool) c87)) (all_cons trivial (all_cons Tryz.call17 (all_cons (AFn.is (ref11_FewBinds_c x2 y91 h92)) (all_cons trivial (all_cons (congrArg (fun x => AV.bool (!x)) c99) (all_cons Tryz.call15 (all_cons (AFn.is (law11_awake_c y284 h285)) all_nil))))))))))))))) (by kernel_rfl)
      · refine bnd H90 fun y288 h289 H290 => ?_
        refine some_e H290 fun e291 => ?_
        subst e291
        exact p_ret Tryz.mo 9 [.rg 0 [] [.m, .m, .v], .rg 0 [] [.c true (.bool true), .v, .v, .v, .c true (.bool true), .v, .v, .v, .v, .c true (.bool false), .v, .v, .v, .s, .s, .s, .v], .rg 0 [] [.c true (.bool y288), .v]] [] [] (all_cons Tryz.call15 (all_cons (AFn.eq (law11_awake_c y1 h2) (congrArg (AV.bool) c37)) (all_cons trivial (all_cons Tryz.call16 (all_cons (AFn.eq (ref11_Few_c x0 y41 h42) (congrArg (AV.bool) c67)) (all_cons trivial (all_cons Tryz.call16 (all_cons (AFn.eq (ref11_Few_c x1 y71 h72) (congrArg (AV.bool) c89)) (all_cons trivial (all_cons Tryz.call15 (all_cons (AFn.is (law11_awake_c y288 h289)) all_nil))))))))))) (by kernel_rfl)
    · refine bnd H70 fun y292 h293 H294 => ?_
      refine some_e H294 fun e295 => ?_
      subst e295
      exact p_ret Tryz.mo 9 [.rg 0 [] [.m, .m, .v], .rg 0 [] [.c true (.bool true), .v, .v, .v, .c true (.bool false), .v, .v, .v, .s, .s, .s, .v, .v, .s, .s, .s, .v], .rg 0 [] [.c true (.bool y292), .v]] [] [] (all_cons Tryz.call15 (all_cons (AFn.eq (law11_awake_c y1 h2) (congrArg (AV.bool) c37)) (all_cons trivial (all_cons Tryz.call16 (all_cons (AFn.eq (ref11_Few_c x0 y41 h42) (congrArg (AV.bool) c69)) (all_cons trivial (all_cons Tryz.call15 (all_cons (AFn.is (law11_awake_c y292 h293)) all_nil)))))))) (by kernel_rfl)
  · refine bnd H40 fun y296 h297 H298 => ?_
    refine some_e H298 fun e299 => ?_
    subst e299
    exact p_ret Tryz.mo 9 [.rg 0 [] [.m, .m, .v], .rg 0 [] [.c true (.bool false), .v, .v, .s, .s, .s, .v, .v, .s, .s, .s, .v, .v, .s, .s, .s, .v], .rg 0 [] [.c true (.bool y296), .v]] [] [] (all_cons Tryz.call15 (all_cons (AFn.eq (law11_awake_c y1 h2) (congrArg (AV.bool) c39)) (all_cons trivial (all_cons Tryz.call15 (all_cons (AFn.is (law11_awake_c y296 h297)) all_nil))))) (by kernel_rfl)

end Go.Proofs.YtjfpcjnopbfekaaGreatDoor
