/- What functions of the program compute, walked: each as a plain function, with the theorem that the code computes it wherever that answers. Printed by a program (gen3.py), part 3. -/
import Derived.Test.YtopejmjihbkieaaGreatDoorLibT
import Derived.Test.YtopejmjihbkieaaGreatDoorAbN
import Derived.KernelRfl
import Derived.Test.YtopejmjihbkieaaGreatDoorProg
import Derived.Test.YtopejmjihbkieaaGreatDoorWalkbValues
set_option linter.unusedSimpArgs false
set_option linter.unusedVariables false
namespace Go.Proofs.YtopejmjihbkieaaGreatDoor
open Go.RowKit Go.Ab Go.Sh
/-- framewise/framewiseref11.Rank -/
def ref11_Rank (x0 : Shape) : Option (Int × Bool) :=
  (ref11_Valid x0).bind fun y1 =>
  bif y1 then (
    bif (x0.Row == []) then (
      some (((x0.Dims.length : Nat) : Int), true)
    ) else (
      some (0, false)
    )
  ) else (
    some (0, false)
  )
theorem ref11_Rank_c (x0 : Shape) (r : (Int × Bool)) (H : ref11_Rank x0 = some r) : AFn Tryz.prog 25 [.agg [.str x0.Row, .dslice (x0.Dims.map cLinear)]] (.tup [.int .i64 r.1, .bool r.2]) := by
  unfold ref11_Rank at H
  refine acallX Tryz.func25 15 [.tmp 2, .tmp 3] (by kernel_rfl) (by kernel_rfl) ?_
  refine bnd H fun y1 h2 H3 => ?_
  refine bsp H3 (fun c8 H9 => ?_) (fun c10 H11 => ?_)
  · refine bsp H9 (fun c12 H13 => ?_) (fun c14 H15 => ?_)
    · refine some_e H13 fun e16 => ?_
      subst e16
      exact p_ret Tryz.mo 11 [.rg 0 [] [.m, .v, .v], .rg 0 [] [.v, .c true (.bool true), .v, .v, .v, .v, .v, .v], .eqT 11 (.bool false), .rg 0 [] [.v, .v, .e (.int .i64 ((x0.Dims.length : Nat) : Int)), .v, .v]] [] [] (all_cons Tryz.call27 (all_cons (AFn.eq (ref11_Valid_c x0 y1 h2) (congrArg (AV.bool) c8)) (all_cons trivial (all_cons (congrArg (fun x => AV.bool (!x)) c12) (all_cons trivial (all_cons (lenm cLinear x0.Dims) all_nil)))))) (by kernel_rfl)
    · refine some_e H15 fun e17 => ?_
      subst e17
      exact p_ret Tryz.mo 10 [.rg 0 [] [.m, .v, .v], .rg 0 [] [.v, .c true (.bool true), .v, .v, .v, .v, .v, .v], .eqT 11 (.bool true), .rg 0 [] [.v, .v]] [] [] (all_cons Tryz.call27 (all_cons (AFn.eq (ref11_Valid_c x0 y1 h2) (congrArg (AV.bool) c8)) (all_cons trivial (all_cons (congrArg (fun x => AV.bool (!x)) c14) all_nil)))) (by kernel_rfl)
  · refine some_e H11 fun e18 => ?_
    subst e18
    exact p_ret Tryz.mo 9 [.rg 0 [] [.m, .v, .v], .rg 0 [] [.v, .c true (.bool false), .v, .v, .s, .s, .s, .v], .rg 0 [] [.v, .v]] [] [] (all_cons Tryz.call27 (all_cons (AFn.eq (ref11_Valid_c x0 y1 h2) (congrArg (AV.bool) c10)) (all_cons trivial all_nil))) (by kernel_rfl)
/-- framewise/linear.Vars -/
def linear_Vars (x0 : Linear) : Option (List Str) :=
  (cnt (σ := (List Str)) (ε := (List Str)) (ρ := Empty) (fun i18 s17 =>
    grd ((s17.length + 1) * 16 ≤ 140737488355328) <|
    some (.go (s17 ++ [((x0.Terms.getD i18 ⟨[], 0⟩).Var)]))
  ) (fun i18 s17 => s17) (x0.Terms.length - 0) 0 []).bind <| aftE fun u49 =>
  some u49
def linear_Vars_S1 (x0 : Linear) (i18 : Nat) (s17 : (List Str)) : AS := ⟨20, [(2, .eslice), (3, .rslice 17), (7, .dslice (x0.Terms.map cCoef)), (8, .int .i64 ((x0.Terms.length : Nat) : Int)), (9, .int .i64 ((i18 : Nat) : Int))], [(17, .row 9 1 (s17.map cStr))]⟩
def linear_Vars_S2 (u32 : (List Str)) : AS := ⟨20, [(2, .eslice), (3, .rslice 17)], [(17, .row 9 1 (u32.map cStr))]⟩
theorem linear_Vars_c (x0 : Linear) (r : (List Str)) (H : linear_Vars x0 = some r) : AFn Tryz.prog 94 [.agg [.int .i64 x0.Const, .dslice (x0.Terms.map cCoef)]] (.dslice (r.map cStr)) := by
  unfold linear_Vars at H
  refine acallX Tryz.func94 20 [.tmp 2] (by kernel_rfl) (by kernel_rfl) ?_
  refine p_at Tryz.mo 8 [.rg 0 [] [.m, .v], .rg 0 [] [.v], .rg 0 [] [.v, .v, .e (.int .i64 ((x0.Terms.length : Nat) : Int)), .v]] [.er 3 17 9 1, .only [2, 3, 7, 8, 9] [17]] 8 [] (linear_Vars_S1 x0 0 []) (all_cons trivial (all_cons (lenm cCoef x0.Terms) all_nil)) (by kernel_rfl) ?_
  refine bnd H fun R29 h30 H31 => ?_
  refine p_joinO 1 (linear_Vars_S2) R29 (by kernel_rfl) ?_ (fun u49 e50 => ?_)
  · refine p_cnt (linear_Vars_S1 x0) (by kernel_rfl) h30 (fun i18 s17 h33 e34 => ?_) (fun i18 s17 h41 q37 h38 h39 => ?_)
    · have c35 : decide (((i18 : Nat) : Int) < ((x0.Terms.length : Nat) : Int)) = false := decide_eq_false (by omega)
      subst e34
      exact p_bar Tryz.mo 5 [.rg 0 [] [.e (.bool false)]] [.only [2, 3] [17]] (linear_Vars_S2 s17) (all_cons (congrArg (AV.bool) c35) all_nil) (by kernel_rfl)
    · have c40 : decide (((i18 : Nat) : Int) < ((x0.Terms.length : Nat) : Int)) = true := decide_eq_true (by omega)
      refine grd_e h38 fun g42 H43 => ?_
      refine t_lens 7 (ps := [(x0.Terms.map cCoef).length ≤ 9223372036854775807]) (by kernel_rfl) (fun l46 => ?_)
      have l47 : x0.Terms.length ≤ 9223372036854775807 := by simpa only [All, List.length_map] using l46
      clear l46
      refine some_e H43 fun e48 => ?_
      subst e48
      exact p_bar Tryz.mo 11 [.rg 0 [] [.e (.bool true)], .rg 0 [] [.e (.dptr [.str ((x0.Terms.getD i18 ⟨[], 0⟩).Var), .int .i64 ((x0.Terms.getD i18 ⟨[], 0⟩).C)]), .v, .m, .m], .rg 0 [] [.v, .v, .v, .b, .ap, .rwH 17 (.row 9 1 ((s17 ++ [((x0.Terms.getD i18 ⟨[], 0⟩).Var)]).map cStr)), .v], .rg 0 [] [.v, .v]] [.only [2, 3, 7, 8, 9] [17]] (linear_Vars_S1 x0 (i18 + 1) (s17 ++ [((x0.Terms.getD i18 ⟨[], 0⟩).Var)])) (all_cons (congrArg (AV.bool) c40) (all_app (ix (f := cCoef) (l := x0.Terms) (n := i18) ⟨[], 0⟩ cCoef_len (by decide) (by omega)) (all_app (apR (c := cStr) cStr_ok s17 [((x0.Terms.getD i18 ⟨[], 0⟩).Var)] 16 (by decide) (by simpa using g42)) (all_cons (apQ 9 1 cStr s17 [((x0.Terms.getD i18 ⟨[], 0⟩).Var)]) (all_cons (show I64 (((i18 : Nat) : Int) + 1) from by unfold I64; omega) all_nil))))) (by kernel_rfl)
  · subst e50
    have H51 := aftE_brk H31
    refine some_e H51 fun e52 => ?_
    subst e52
    exact p_ret Tryz.mo 3 [.rg 0 [] [.v, .v]] [.fz 17] [] all_nil (by kernel_rfl)
/-- framewise/shape.Vars -/
def shape_Vars (x0 : Shape) : Option (List Bind) :=
  (shape_Valid x0).bind fun y1 =>
  bif y1 then (
    ((
      bif (x0.Row == []) then (
        some []
      ) else (
        some [(Bind.mk 2 x0.Row (Linear.mk 0 []) (Shape.mk [] []) [])]
      )
    ) : Option (List Bind)).bind fun v8 =>
    (cnt (σ := (List Bind)) (ε := (List Bind)) (ρ := Empty) (fun i236 s235 =>
      (linear_Vars (Linear.mk ((x0.Dims.getD i236 ⟨0, []⟩).Const) ((x0.Dims.getD i236 ⟨0, []⟩).Terms))).bind fun y360 =>
      (cnt (σ := (List Bind)) (ε := ((List Bind) × Nat)) (ρ := Empty) (fun i410 s409 =>
        (shape_find s409 1 (y360.getD i410 [])).bind fun y448 =>
        ((
          bif decide (y448 < 0) then (
            grd ((s409.length + 1) * 112 ≤ 140737488355328) <|
            some ((s409 ++ [(Bind.mk 1 (y360.getD i410 []) (Linear.mk 0 []) (Shape.mk [] []) [])]), true)
          ) else (
            some (s409, false)
          )
        ) : Option ((List Bind) × Bool)).bind fun v455 =>
        some (.go v455.1)
      ) (fun i410 s409 => (s409, i410)) (y360.length - 0) 0 s235).bind <| aftE fun u471 =>
      some (.go u471.1)
    ) (fun i236 s235 => s235) (x0.Dims.length - 0) 0 v8).bind <| aftE fun u479 =>
    some u479
  ) else (
    some []
  )
def shape_Vars_S1 (x0 : Shape) (v8 : (List Bind)) : AS := ⟨46, [(1, .hptr 1 0), (2, .eslice), (3, .rslice 19)], [(1, .cells 24 [.str x0.Row, .dslice (x0.Dims.map cLinear)]), (19, .row 55 7 (v8.map cBind))]⟩
def shape_Vars_S2 (x0 : Shape) (i236 : Nat) (s235 : (List Bind)) : AS := ⟨46, [(2, .eslice), (3, .rslice 19), (21, .dslice (x0.Dims.map cLinear)), (22, .int .i64 ((x0.Dims.length : Nat) : Int)), (23, .int .i64 ((i236 : Nat) : Int))], [(19, .row 55 7 (s235.map cBind))]⟩
def shape_Vars_S3 (u350 : (List Bind)) : AS := ⟨46, [(2, .eslice), (3, .rslice 19)], [(19, .row 55 7 (u350.map cBind))]⟩
def shape_Vars_S4 (x0 : Shape) (i236 : Nat) (y360 : (List Str)) (i410 : Nat) (s409 : (List Bind)) : AS := ⟨46, [(2, .eslice), (3, .rslice 19), (5, .hptr 5 0), (21, .dslice (x0.Dims.map cLinear)), (22, .int .i64 ((x0.Dims.length : Nat) : Int)), (23, .int .i64 ((i236 : Nat) : Int)), (24, .bool true), (28, .dslice (y360.map cStr)), (29, .int .i64 ((y360.length : Nat) : Int)), (30, .int .i64 ((i410 : Nat) : Int))], [(5, .cells 53 [.int .i64 ((x0.Dims.getD i236 ⟨0, []⟩).Const), .dslice (((x0.Dims.getD i236 ⟨0, []⟩).Terms).map cCoef)]), (19, .row 55 7 (s409.map cBind))]⟩
def shape_Vars_S5 (x0 : Shape) (i236 : Nat) (y360 : (List Str)) (u438 : ((List Bind) × Nat)) : AS := ⟨46, [(2, .eslice), (3, .rslice 19), (5, .hptr 5 0), (21, .dslice (x0.Dims.map cLinear)), (22, .int .i64 ((x0.Dims.length : Nat) : Int)), (23, .int .i64 ((i236 : Nat) : Int)), (24, .bool true), (28, .dslice (y360.map cStr)), (29, .int .i64 ((y360.length : Nat) : Int)), (30, .int .i64 ((u438.2 : Nat) : Int)), (31, .bool false)], [(5, .cells 53 [.int .i64 ((x0.Dims.getD i236 ⟨0, []⟩).Const), .dslice (((x0.Dims.getD i236 ⟨0, []⟩).Terms).map cCoef)]), (19, .row 55 7 (u438.1.map cBind))]⟩
def shape_Vars_S6 (x0 : Shape) (i236 : Nat) (y360 : (List Str)) (i410 : Nat) (v455 : ((List Bind) × Bool)) : AS := ⟨46, [(2, .eslice), (3, .rslice 19), (5, .hptr 5 0), (7, .str (y360.getD i410 [])), (21, .dslice (x0.Dims.map cLinear)), (22, .int .i64 ((x0.Dims.length : Nat) : Int)), (23, .int .i64 ((i236 : Nat) : Int)), (24, .bool true), (28, .dslice (y360.map cStr)), (29, .int .i64 ((y360.length : Nat) : Int)), (30, .int .i64 ((i410 : Nat) : Int)), (31, .bool true), (37, .bool v455.2)], [(5, .cells 53 [.int .i64 ((x0.Dims.getD i236 ⟨0, []⟩).Const), .dslice (((x0.Dims.getD i236 ⟨0, []⟩).Terms).map cCoef)]), (19, .row 55 7 (v455.1.map cBind))]⟩
theorem shape_Vars_c (x0 : Shape) (r : (List Bind)) (H : shape_Vars x0 = some r) : AFn Tryz.prog 29 [.agg [.str x0.Row, .dslice (x0.Dims.map cLinear)]] (.dslice (r.map cBind)) := by
  unfold shape_Vars at H
  refine acallX Tryz.func29 46 [.tmp 2] (by kernel_rfl) (by kernel_rfl) ?_
  refine bnd H fun y1 h2 H3 => ?_
  refine bsp H3 (fun c4 H5 => ?_) (fun c6 H7 => ?_)
  · refine p_at Tryz.mo 13 [.rg 0 [] [.m, .v], .rg 0 [] [.v, .c true (.bool y1), .v], .eqT 10 (.bool false), .rg 0 [] [.v], .rg 0 [] [.v, .v, .v]] [.only [1, 2, 3, 13] [1]] 12 [false] ⟨46, [(1, .hptr 1 0), (2, .eslice), (3, .eslice), (13, .bool (!(x0.Row == [])))], [(1, .cells 24 [.str x0.Row, .dslice (x0.Dims.map cLinear)])]⟩ (all_cons Tryz.call26 (all_cons (AFn.is (shape_Valid_c x0 y1 h2)) (all_cons trivial (all_cons (congrArg (fun x => AV.bool (!x)) c4) all_nil)))) (by kernel_rfl) ?_
    refine bnd H5 fun v8 h9 H10 => ?_
    refine p_join 0 (shape_Vars_S1 x0 v8) (by kernel_rfl) ?_ ?_
    · refine bsp h9 (fun c11 H12 => ?_) (fun c13 H14 => ?_)
      · refine some_e H12 fun e15 => ?_
        subst e15
        exact p_bar Tryz.mo 3 [.eqT 13 (.bool false)] [.er 3 19 55 7, .only [1, 2, 3] [1, 19]] (shape_Vars_S1 x0 []) (all_cons (congrArg (fun x => AV.bool (!x)) c11) all_nil) (by kernel_rfl)
      · refine some_e H14 fun e16 => ?_
        subst e16
        exact p_bar Tryz.mo 3 [.eqT 13 (.bool true), .rg 0 [] [.v, .v, .v, .b, .b, .wk 18 [(0, 3)], .wk 18 [(0, 5)], .er 14 19 55 7, .ap, .rwH 19 (.row 55 7 ([(Bind.mk 2 x0.Row (Linear.mk 0 []) (Shape.mk [] []) [])].map cBind)), .v]] [.only [1, 2, 3] [1, 19]] (shape_Vars_S1 x0 [(Bind.mk 2 x0.Row (Linear.mk 0 []) (Shape.mk [] []) [])]) (all_cons (congrArg (fun x => AV.bool (!x)) c13) (all_app (apR (c := cBind) cBind_ok [] [(Bind.mk 2 x0.Row (Linear.mk 0 []) (Shape.mk [] []) [])] 112 (by decide) (by simp)) (all_cons (apQ0 55 7 cBind [(Bind.mk 2 x0.Row (Linear.mk 0 []) (Shape.mk [] []) [])]) all_nil))) (by kernel_rfl)
    · refine p_at Tryz.mo 4 [.rg 0 [] [.v, .v, .e (.int .i64 ((x0.Dims.length : Nat) : Int)), .v]] [.only [2, 3, 21, 22, 23] [19]] 4 [] (shape_Vars_S2 x0 0 v8) (all_cons trivial (all_cons (lenm cLinear x0.Dims) all_nil)) (by kernel_rfl) ?_
      refine bnd H10 fun R347 h348 H349 => ?_
      refine p_joinO 1 (shape_Vars_S3) R347 (by kernel_rfl) ?_ (fun u479 e480 => ?_)
      · refine p_cnt (shape_Vars_S2 x0) (by kernel_rfl) h348 (fun i236 s235 h351 e352 => ?_) (fun i236 s235 h359 q355 h356 h357 => ?_)
        · have c353 : decide (((i236 : Nat) : Int) < ((x0.Dims.length : Nat) : Int)) = false := decide_eq_false (by omega)
          subst e352
          exact p_bar Tryz.mo 5 [.rg 0 [] [.e (.bool false)]] [.only [2, 3] [19]] (shape_Vars_S3 s235) (all_cons (congrArg (AV.bool) c353) all_nil) (by kernel_rfl)
        · have c358 : decide (((i236 : Nat) : Int) < ((x0.Dims.length : Nat) : Int)) = true := decide_eq_true (by omega)
          refine bnd h356 fun y360 h361 H362 => ?_
          refine p_at Tryz.mo 12 [.rg 0 [] [.e (.bool true)], .rg 0 [] [.e (.dptr [.int .i64 ((x0.Dims.getD i236 ⟨0, []⟩).Const), .dslice (((x0.Dims.getD i236 ⟨0, []⟩).Terms).map cCoef)]), .v, .m, .m], .rg 0 [] [.v, .c true (.dslice (y360.map cStr)), .e (.int .i64 ((y360.length : Nat) : Int)), .v]] [.only [2, 3, 5, 21, 22, 23, 24, 28, 29, 30] [5, 19]] 12 [true] (shape_Vars_S4 x0 i236 y360 0 s235) (all_cons (congrArg (AV.bool) c358) (all_app (ix (f := cLinear) (l := x0.Dims) (n := i236) ⟨0, []⟩ cLinear_len (by decide) (by omega)) (all_cons Tryz.call94 (all_cons (AFn.is (linear_Vars_c (Linear.mk ((x0.Dims.getD i236 ⟨0, []⟩).Const) ((x0.Dims.getD i236 ⟨0, []⟩).Terms)) y360 h361)) (all_cons trivial (all_cons (lenm cStr y360) all_nil)))))) (by kernel_rfl) ?_
          refine bnd H362 fun R435 h436 H437 => ?_
          refine p_joinO 2 (shape_Vars_S5 x0 i236 y360) R435 (by kernel_rfl) ?_ (fun u471 e472 => ?_)
          · refine p_cnt (shape_Vars_S4 x0 i236 y360) (by kernel_rfl) h436 (fun i410 s409 h439 e440 => ?_) (fun i410 s409 h447 q443 h444 h445 => ?_)
            · have c441 : decide (((i410 : Nat) : Int) < ((y360.length : Nat) : Int)) = false := decide_eq_false (by omega)
              subst e440
              exact p_bar Tryz.mo 5 [.rg 0 [] [.e (.bool false)]] [.only [2, 3, 5, 21, 22, 23, 24, 28, 29, 30, 31] [5, 19]] (shape_Vars_S5 x0 i236 y360 (s409, i410)) (all_cons (congrArg (AV.bool) c441) all_nil) (by kernel_rfl)
            · have c446 : decide (((i410 : Nat) : Int) < ((y360.length : Nat) : Int)) = true := decide_eq_true (by omega)
              refine bnd h444 fun y448 h449 H450 => ?_
              refine p_at Tryz.mo 11 [.rg 0 [] [.e (.bool true)], .rg 0 [] [.e (.dptr [.str (y360.getD i410 [])]), .v, .v], .rg 0 [] [.v, .v, .c false (.int .i64 y448), .v]] [.only [2, 3, 5, 7, 21, 22, 23, 24, 28, 29, 30, 31, 37] [5, 19]] 11 [true] ⟨46, [(2, .eslice), (3, .rslice 19), (5, .hptr 5 0), (7, .str (y360.getD i410 [])), (21, .dslice (x0.Dims.map cLinear)), (22, .int .i64 ((x0.Dims.length : Nat) : Int)), (23, .int .i64 ((i236 : Nat) : Int)), (24, .bool true), (28, .dslice (y360.map cStr)), (29, .int .i64 ((y360.length : Nat) : Int)), (30, .int .i64 ((i410 : Nat) : Int)), (31, .bool true), (37, .bool (decide (y448 < 0)))], [(5, .cells 53 [.int .i64 ((x0.Dims.getD i236 ⟨0, []⟩).Const), .dslice (((x0.Dims.getD i236 ⟨0, []⟩).Terms).map cCoef)]), (19, .row 55 7 (s409.map cBind))]⟩ (all_cons (congrArg (AV.bool) c446) (all_app (ix (f := cStr) (l := y360) (n := i410) [] cStr_len (by decide) (by omega)) (all_cons Tryz.call95 (all_cons (AFn.is (shape_find_c s409 1 (y360.getD i410 []) y448 h449)) all_nil)))) (by kernel_rfl) ?_
              refine bnd H450 fun v455 h456 H457 => ?_
              refine p_join 1 (shape_Vars_S6 x0 i236 y360 i410 v455) (by kernel_rfl) ?_ ?_
              · refine bsp h456 (fun c458 H459 => ?_) (fun c460 H461 => ?_)
                · have c458p := of_decide_eq_true c458
                  refine grd_e H459 fun g462 H463 => ?_
                  refine some_e H463 fun e464 => ?_
                  subst e464
                  exact p_bar Tryz.mo 3 [.eqT 37 (.bool true), .rg 0 [] [.v, .v, .b, .b, .wk 41 [(0, 3)], .wk 41 [(0, 5)], .ap, .rwH 42 (.row 55 7 ((s409 ++ [(Bind.mk 1 (y360.getD i410 []) (Linear.mk 0 []) (Shape.mk [] []) [])]).map cBind)), .v]] [.ren [(5, 5), (42, 19)], .only [2, 3, 5, 7, 21, 22, 23, 24, 28, 29, 30, 31, 37] [5, 19]] (shape_Vars_S6 x0 i236 y360 i410 ((s409 ++ [(Bind.mk 1 (y360.getD i410 []) (Linear.mk 0 []) (Shape.mk [] []) [])]), true)) (all_cons (congrArg (AV.bool) c458) (all_app (apR (c := cBind) cBind_ok s409 [(Bind.mk 1 (y360.getD i410 []) (Linear.mk 0 []) (Shape.mk [] []) [])] 112 (by decide) (by simpa using g462)) (all_cons (apQ 55 7 cBind s409 [(Bind.mk 1 (y360.getD i410 []) (Linear.mk 0 []) (Shape.mk [] []) [])]) all_nil))) (by kernel_rfl)
                · have c460p := of_decide_eq_false c460
                  refine some_e H461 fun e465 => ?_
                  subst e465
                  exact p_bar Tryz.mo 3 [.eqT 37 (.bool false)] [.only [2, 3, 5, 7, 21, 22, 23, 24, 28, 29, 30, 31, 37] [5, 19]] (shape_Vars_S6 x0 i236 y360 i410 (s409, false)) (all_cons (congrArg (AV.bool) c460) all_nil) (by kernel_rfl)
              · refine t_lens 28 (ps := [(y360.map cStr).length ≤ 9223372036854775807]) (by kernel_rfl) (fun l468 => ?_)
                have l469 : y360.length ≤ 9223372036854775807 := by simpa only [All, List.length_map] using l468
                clear l468
                refine some_e H457 fun e470 => ?_
                subst e470
                exact p_bar Tryz.mo 1 [.rg 0 [] [.v, .v]] [.only [2, 3, 5, 21, 22, 23, 24, 28, 29, 30] [5, 19]] (shape_Vars_S4 x0 i236 y360 (i410 + 1) v455.1) (all_cons (show I64 (((i410 : Nat) : Int) + 1) from by unfold I64; omega) all_nil) (by kernel_rfl)
          · subst e472
            have H473 := aftE_brk H437
            refine t_lens 21 (ps := [(x0.Dims.map cLinear).length ≤ 9223372036854775807]) (by kernel_rfl) (fun l476 => ?_)
            have l477 : x0.Dims.length ≤ 9223372036854775807 := by simpa only [All, List.length_map] using l476
            clear l476
            refine some_e H473 fun e478 => ?_
            subst e478
            exact p_bar Tryz.mo 1 [.rg 0 [] [.v, .v]] [.only [2, 3, 21, 22, 23] [19]] (shape_Vars_S2 x0 (i236 + 1) u471.1) (all_cons (show I64 (((i236 : Nat) : Int) + 1) from by unfold I64; omega) all_nil) (by kernel_rfl)
      · subst e480
        have H481 := aftE_brk H349
        refine some_e H481 fun e482 => ?_
        subst e482
        exact p_ret Tryz.mo 3 [.rg 0 [] [.v, .v]] [.fz 19] [] all_nil (by kernel_rfl)
  · refine some_e H7 fun e483 => ?_
    subst e483
    exact p_ret Tryz.mo 10 [.rg 0 [] [.m, .v], .rg 0 [] [.v, .c true (.bool y1), .v], .eqT 10 (.bool true), .rg 0 [] [.v]] [.wk 2 []] [] (all_cons Tryz.call26 (all_cons (AFn.is (shape_Valid_c x0 y1 h2)) (all_cons trivial (all_cons (congrArg (fun x => AV.bool (!x)) c6) all_nil)))) (by kernel_rfl)
/-- framewise/framewiseref11.Find -/
def ref11_Find (x0 : (List Bind)) (x1 : Int) (x2 : Str) : Option Int :=
  (cnt (σ := Unit) (ε := Unit) (ρ := Int) (fun i59 s58 =>
    ((
      bif (((x0.getD i59 (⟨0, [], ⟨0, []⟩, ⟨[], []⟩, []⟩)).Kind) == x1) then (
        bif (((x0.getD i59 (⟨0, [], ⟨0, []⟩, ⟨[], []⟩, []⟩)).Var) == x2) then (
          some (.ret (.ret ((i59 : Nat) : Int)))
        ) else (
          some (.brk ())
        )
      ) else (
        some (.brk ())
      )
    ) : Option (Out Unit (Stp Unit Unit Int))).bind (aft fun u114 =>
      some (.go ())
    )
  ) (fun i59 s58 => ()) (x0.length - 0) 0 ()).bind <| aft fun u138 =>
  some (-1)
def ref11_Find_S1 (x0 : (List Bind)) (x1 : Int) (x2 : Str) (i59 : Nat) (s58 : Unit) : AS := ⟨31, [(0, .dslice (x0.map cBind)), (1, .int .i64 x1), (2, .str x2), (6, .int .i64 0), (7, .int .i64 ((i59 : Nat) : Int))], []⟩
def ref11_Find_S2 (u93 : Unit) : AS := ⟨31, [(6, .int .i64 0)], []⟩
def ref11_Find_S3 (x0 : (List Bind)) (x1 : Int) (x2 : Str) (i59 : Nat) (u114 : Unit) : AS := ⟨31, [(0, .dslice (x0.map cBind)), (1, .int .i64 x1), (2, .str x2), (6, .int .i64 0), (7, .int .i64 ((i59 : Nat) : Int)), (11, .bool true), (29, .bool false)], []⟩
theorem ref11_Find_c (x0 : (List Bind)) (x1 : Int) (x2 : Str) (r : Int) (H : ref11_Find x0 x1 x2 = some r) : AFn Tryz.prog 38 [.dslice (x0.map cBind), .int .i64 x1, .str x2] (.int .i64 r) := by
  unfold ref11_Find at H
  refine acallX Tryz.func38 31 [.tmp 6] (by kernel_rfl) (by kernel_rfl) ?_
  refine p_at Tryz.mo 6 [.rg 0 [] [.v], .rg 0 [] [.v]] [.only [0, 1, 2, 6, 7] []] 6 [] (ref11_Find_S1 x0 x1 x2 0 ()) all_nil (by kernel_rfl) ?_
  refine bnd H fun R90 h91 H92 => ?_
  refine p_joinO 1 (ref11_Find_S2) R90 (by kernel_rfl) ?_ (fun u138 e139 => ?_)
  · refine p_cnt (ref11_Find_S1 x0 x1 x2) (by kernel_rfl) h91 (fun i59 s58 h94 e95 => ?_) (fun i59 s58 h102 q98 h99 h100 => ?_)
    · have c96 : decide (((i59 : Nat) : Int) < ((x0.length : Nat) : Int)) = false := decide_eq_false (by omega)
      subst e95
      exact p_bar Tryz.mo 5 [.rg 0 [] [.v, .v, .e (.int .i64 ((x0.length : Nat) : Int)), .e (.bool false)]] [.only [6] []] (ref11_Find_S2 ()) (all_cons trivial (all_cons (lenm cBind x0) (all_cons (congrArg (AV.bool) c96) all_nil))) (by kernel_rfl)
    · have c101 : decide (((i59 : Nat) : Int) < ((x0.length : Nat) : Int)) = true := decide_eq_true (by omega)
      refine p_at Tryz.mo 8 [.rg 0 [] [.v, .v, .e (.int .i64 ((x0.length : Nat) : Int)), .e (.bool true)]] [.only [0, 1, 2, 6, 7, 11] []] 8 [true] ⟨31, [(0, .dslice (x0.map cBind)), (1, .int .i64 x1), (2, .str x2), (6, .int .i64 0), (7, .int .i64 ((i59 : Nat) : Int)), (11, .bool true)], []⟩ (all_cons trivial (all_cons (lenm cBind x0) (all_cons (congrArg (AV.bool) c101) all_nil))) (by kernel_rfl) ?_
      refine bnd h99 fun v111 h112 H113 => ?_
      refine p_joinO 2 (ref11_Find_S3 x0 x1 x2 i59) v111 (by kernel_rfl) ?_ (fun u114 e137 => ?_)
      · refine bsp h112 (fun c115 H116 => ?_) (fun c117 H118 => ?_)
        · refine bsp H116 (fun c119 H120 => ?_) (fun c121 H122 => ?_)
          · refine some_e H120 fun e123 => ?_
            subst e123
            have H124 := aft_ret H113
            refine some_e H124 fun e125 => ?_
            subst e125
            have e126 := out_ret h100
            subst e126
            have H127 := aft_ret H92
            refine some_e H127 fun e128 => ?_
            subst e128
            exact p_ret Tryz.mo 6 [.rg 0 [] [.v, .v, .e (.dptr [.int .i64 ((x0.getD i59 (⟨0, [], ⟨0, []⟩, ⟨[], []⟩, []⟩)).Kind), .str ((x0.getD i59 (⟨0, [], ⟨0, []⟩, ⟨[], []⟩, []⟩)).Var), .int .i64 (((x0.getD i59 (⟨0, [], ⟨0, []⟩, ⟨[], []⟩, []⟩)).Dim).Const), .dslice ((((x0.getD i59 (⟨0, [], ⟨0, []⟩, ⟨[], []⟩, []⟩)).Dim).Terms).map cCoef), .str (((x0.getD i59 (⟨0, [], ⟨0, []⟩, ⟨[], []⟩, []⟩)).Row).Row), .dslice ((((x0.getD i59 (⟨0, [], ⟨0, []⟩, ⟨[], []⟩, []⟩)).Row).Dims).map cLinear), .str ((x0.getD i59 (⟨0, [], ⟨0, []⟩, ⟨[], []⟩, []⟩)).Elem)]), .v, .v, .v, .e (.bool true), .v, .v, .v, .e (.dptr [.int .i64 ((x0.getD i59 (⟨0, [], ⟨0, []⟩, ⟨[], []⟩, []⟩)).Kind), .str ((x0.getD i59 (⟨0, [], ⟨0, []⟩, ⟨[], []⟩, []⟩)).Var), .int .i64 (((x0.getD i59 (⟨0, [], ⟨0, []⟩, ⟨[], []⟩, []⟩)).Dim).Const), .dslice ((((x0.getD i59 (⟨0, [], ⟨0, []⟩, ⟨[], []⟩, []⟩)).Dim).Terms).map cCoef), .str (((x0.getD i59 (⟨0, [], ⟨0, []⟩, ⟨[], []⟩, []⟩)).Row).Row), .dslice ((((x0.getD i59 (⟨0, [], ⟨0, []⟩, ⟨[], []⟩, []⟩)).Row).Dims).map cLinear), .str ((x0.getD i59 (⟨0, [], ⟨0, []⟩, ⟨[], []⟩, []⟩)).Elem)]), .v, .v, .v, .v, .v], .eqT 29 (.bool true), .rg 0 [] [.v, .v]] [] [] (all_app (ix (f := cBind) (l := x0) (n := i59) (⟨0, [], ⟨0, []⟩, ⟨[], []⟩, []⟩) cBind_len (by decide) (by omega)) (all_cons (congrArg (AV.bool) c115) (all_app (ix (f := cBind) (l := x0) (n := i59) (⟨0, [], ⟨0, []⟩, ⟨[], []⟩, []⟩) cBind_len (by decide) (by omega)) (all_cons (congrArg (AV.bool) c119) all_nil)))) (by kernel_rfl)
          · refine some_e H122 fun e129 => ?_
            subst e129
            exact p_bar Tryz.mo 4 [.rg 0 [] [.v, .v, .e (.dptr [.int .i64 ((x0.getD i59 (⟨0, [], ⟨0, []⟩, ⟨[], []⟩, []⟩)).Kind), .str ((x0.getD i59 (⟨0, [], ⟨0, []⟩, ⟨[], []⟩, []⟩)).Var), .int .i64 (((x0.getD i59 (⟨0, [], ⟨0, []⟩, ⟨[], []⟩, []⟩)).Dim).Const), .dslice ((((x0.getD i59 (⟨0, [], ⟨0, []⟩, ⟨[], []⟩, []⟩)).Dim).Terms).map cCoef), .str (((x0.getD i59 (⟨0, [], ⟨0, []⟩, ⟨[], []⟩, []⟩)).Row).Row), .dslice ((((x0.getD i59 (⟨0, [], ⟨0, []⟩, ⟨[], []⟩, []⟩)).Row).Dims).map cLinear), .str ((x0.getD i59 (⟨0, [], ⟨0, []⟩, ⟨[], []⟩, []⟩)).Elem)]), .v, .v, .v, .e (.bool true), .v, .v, .v, .e (.dptr [.int .i64 ((x0.getD i59 (⟨0, [], ⟨0, []⟩, ⟨[], []⟩, []⟩)).Kind), .str ((x0.getD i59 (⟨0, [], ⟨0, []⟩, ⟨[], []⟩, []⟩)).Var), .int .i64 (((x0.getD i59 (⟨0, [], ⟨0, []⟩, ⟨[], []⟩, []⟩)).Dim).Const), .dslice ((((x0.getD i59 (⟨0, [], ⟨0, []⟩, ⟨[], []⟩, []⟩)).Dim).Terms).map cCoef), .str (((x0.getD i59 (⟨0, [], ⟨0, []⟩, ⟨[], []⟩, []⟩)).Row).Row), .dslice ((((x0.getD i59 (⟨0, [], ⟨0, []⟩, ⟨[], []⟩, []⟩)).Row).Dims).map cLinear), .str ((x0.getD i59 (⟨0, [], ⟨0, []⟩, ⟨[], []⟩, []⟩)).Elem)]), .v, .v, .v, .v, .v], .eqT 29 (.bool false)] [.only [0, 1, 2, 6, 7, 11, 29] []] (ref11_Find_S3 x0 x1 x2 i59 ()) (all_app (ix (f := cBind) (l := x0) (n := i59) (⟨0, [], ⟨0, []⟩, ⟨[], []⟩, []⟩) cBind_len (by decide) (by omega)) (all_cons (congrArg (AV.bool) c115) (all_app (ix (f := cBind) (l := x0) (n := i59) (⟨0, [], ⟨0, []⟩, ⟨[], []⟩, []⟩) cBind_len (by decide) (by omega)) (all_cons (congrArg (AV.bool) c121) all_nil)))) (by kernel_rfl)
        · refine some_e H118 fun e130 => ?_
          subst e130
          exact p_bar Tryz.mo 3 [.rg 0 [] [.v, .v, .e (.dptr [.int .i64 ((x0.getD i59 (⟨0, [], ⟨0, []⟩, ⟨[], []⟩, []⟩)).Kind), .str ((x0.getD i59 (⟨0, [], ⟨0, []⟩, ⟨[], []⟩, []⟩)).Var), .int .i64 (((x0.getD i59 (⟨0, [], ⟨0, []⟩, ⟨[], []⟩, []⟩)).Dim).Const), .dslice ((((x0.getD i59 (⟨0, [], ⟨0, []⟩, ⟨[], []⟩, []⟩)).Dim).Terms).map cCoef), .str (((x0.getD i59 (⟨0, [], ⟨0, []⟩, ⟨[], []⟩, []⟩)).Row).Row), .dslice ((((x0.getD i59 (⟨0, [], ⟨0, []⟩, ⟨[], []⟩, []⟩)).Row).Dims).map cLinear), .str ((x0.getD i59 (⟨0, [], ⟨0, []⟩, ⟨[], []⟩, []⟩)).Elem)]), .v, .v, .v, .e (.bool false), .v, .s, .s, .s, .s, .s, .s, .s, .v]] [.only [0, 1, 2, 6, 7, 11, 29] []] (ref11_Find_S3 x0 x1 x2 i59 ()) (all_app (ix (f := cBind) (l := x0) (n := i59) (⟨0, [], ⟨0, []⟩, ⟨[], []⟩, []⟩) cBind_len (by decide) (by omega)) (all_cons (congrArg (AV.bool) c117) all_nil)) (by kernel_rfl)
      · subst e137
        have H131 := aft_brk H113
        refine t_lens 0 (ps := [(x0.map cBind).length ≤ 9223372036854775807]) (by kernel_rfl) (fun l134 => ?_)
        have l135 : x0.length ≤ 9223372036854775807 := by simpa only [All, List.length_map] using l134
        clear l134
        refine some_e H131 fun e136 => ?_
        subst e136
        exact p_bar Tryz.mo 1 [.rg 0 [] [.v, .v, .v]] [.only [0, 1, 2, 6, 7] []] (ref11_Find_S1 x0 x1 x2 (i59 + 1) ()) (all_cons (show I64 (((i59 : Nat) : Int) + 1) from by unfold I64; omega) all_nil) (by kernel_rfl)
  · subst e139
    have H140 := aft_brk H92
    refine some_e H140 fun e141 => ?_
    subst e141
    exact p_ret Tryz.mo 3 [.rg 0 [] [.v]] [] [] all_nil (by kernel_rfl)
/-- framewise/framewiseref11.AddVar -/
def ref11_AddVar (x0 : Int) (x1 : Str) (x2 : (List Bind)) : Option (List Bind) :=
  (ref11_Find x2 x0 x1).bind fun y10 =>
  bif decide (y10 ≥ 0) then (
    some x2
  ) else (
    grd ((x2.length + 1) * 112 ≤ 140737488355328) <|
    some (x2 ++ [(Bind.mk x0 x1 (Linear.mk 0 []) (Shape.mk [] []) [])])
  )
theorem ref11_AddVar_c (x0 : Int) (x1 : Str) (x2 : (List Bind)) (r : (List Bind)) (H : ref11_AddVar x0 x1 x2 = some r) : ACall Tryz.prog 96 [.rslice 1000, .int .i64 x0, .str x1] [(1000, .row 55 7 (x2.map cBind))] (fun r2 h2 => r2 = (.rslice 0) ∧ h2 = [(0, .row 55 7 (r.map cBind))]) := by
  unfold ref11_AddVar at H
  refine acallX Tryz.func96 19 [.tmp 6] (by kernel_rfl) (by kernel_rfl) ?_
  refine bnd H fun y10 h11 H12 => ?_
  refine bsp H12 (fun c13 H14 => ?_) (fun c15 H16 => ?_)
  · have c13p := of_decide_eq_true c13
    refine some_e H14 fun e17 => ?_
    subst e17
    exact p_ret Tryz.mo 10 [.rg 0 [] [.v], .rg 0 [] [.v, .v, .v, .c false (.int .i64 y10), .v], .eqT 11 (.bool true), .rg 0 [] [.v, .v]] [.ren [(1000, 0)]] [0] (all_cons Tryz.call38 (all_cons (AFn.is (ref11_Find_c x2 x0 x1 y10 h11)) (all_cons (congrArg (AV.bool) c13) all_nil))) (by kernel_rfl)
  · have c15p := of_decide_eq_false c15
    refine grd_e H16 fun g18 H19 => ?_
    refine some_e H19 fun e20 => ?_
    subst e20
    exact p_ret Tryz.mo 11 [.rg 0 [] [.v], .rg 0 [] [.v, .v, .v, .c false (.int .i64 y10), .v], .eqT 11 (.bool false), .rg 0 [] [.v, .v, .v, .b, .b, .wk 17 [(0, 3)], .wk 17 [(0, 5)], .ap, .rwH 18 (.row 55 7 ((x2 ++ [(Bind.mk x0 x1 (Linear.mk 0 []) (Shape.mk [] []) [])]).map cBind)), .v]] [.ren [(18, 0)]] [0] (all_cons Tryz.call38 (all_cons (AFn.is (ref11_Find_c x2 x0 x1 y10 h11)) (all_cons (congrArg (AV.bool) c15) (all_app (apR (c := cBind) cBind_ok x2 [(Bind.mk x0 x1 (Linear.mk 0 []) (Shape.mk [] []) [])] 112 (by decide) (by simpa using g18)) (all_cons (apQ 55 7 cBind x2 [(Bind.mk x0 x1 (Linear.mk 0 []) (Shape.mk [] []) [])]) all_nil))))) (by kernel_rfl)
/-- framewise/framewiseref11.Vars -/
def ref11_Vars (x0 : Shape) : Option (List Bind) :=
  (ref11_Valid x0).bind fun y1 =>
  bif y1 then (
    ((
      bif (x0.Row == []) then (
        some []
      ) else (
        (ref11_AddVar 2 x0.Row []).bind fun y22 =>
        some y22
      )
    ) : Option (List Bind)).bind fun v14 =>
    (cnt (σ := (List Bind)) (ε := (List Bind)) (ρ := Empty) (fun i141 s140 =>
      (whl (σ := ((List Bind) × Int)) (ε := ((List Bind) × Int)) (ρ := Empty) (fun s240 =>
        bif decide (s240.2 < ((((x0.Dims.getD i141 ⟨0, []⟩).Terms).length : Nat) : Int)) then (
          grd (0 ≤ s240.2 ∧ s240.2 < (((x0.Dims.getD i141 ⟨0, []⟩).Terms).length : Int)) <|
          (ref11_AddVar 1 ((((x0.Dims.getD i141 ⟨0, []⟩).Terms).getD s240.2.toNat ⟨[], 0⟩).Var) s240.1).bind fun y264 =>
          some (.go (y264, (w64 (s240.2 + 1))))
        ) else (
          some (.brk (s240.1, s240.2))
        )
      ) 4294967296 (s140, 0)).bind <| aftE fun u270 =>
      some (.go u270.1)
    ) (fun i141 s140 => s140) (x0.Dims.length - 0) 0 v14).bind <| aftE fun u278 =>
    some u278
  ) else (
    some []
  )
def ref11_Vars_S1 (x0 : Shape) (v14 : (List Bind)) : AS := ⟨47, [(1, .hptr 1 0), (2, .eslice), (3, .rslice 15)], [(1, .cells 24 [.str x0.Row, .dslice (x0.Dims.map cLinear)]), (15, .row 55 7 (v14.map cBind))]⟩
def ref11_Vars_S2 (x0 : Shape) (i141 : Nat) (s140 : (List Bind)) : AS := ⟨47, [(1, .hptr 1 0), (2, .eslice), (3, .rslice 951), (4, .int .i64 ((i141 : Nat) : Int))], [(1, .cells 24 [.str x0.Row, .dslice (x0.Dims.map cLinear)]), (951, .row 55 7 (s140.map cBind))]⟩
def ref11_Vars_S3 (u203 : (List Bind)) : AS := ⟨47, [(2, .eslice), (3, .rslice 951)], [(951, .row 55 7 (u203.map cBind))]⟩
def ref11_Vars_S4 (x0 : Shape) (i141 : Nat) (s240 : ((List Bind) × Int)) : AS := ⟨47, [(1, .hptr 1 0), (2, .eslice), (3, .rslice 951), (4, .int .i64 ((i141 : Nat) : Int)), (5, .int .i64 s240.2), (20, .bool true)], [(1, .cells 24 [.str x0.Row, .dslice (x0.Dims.map cLinear)]), (951, .row 55 7 (s240.1.map cBind))]⟩
def ref11_Vars_S5 (x0 : Shape) (i141 : Nat) (u254 : ((List Bind) × Int)) : AS := ⟨47, [(1, .hptr 1 0), (2, .eslice), (3, .rslice 951), (4, .int .i64 ((i141 : Nat) : Int)), (5, .int .i64 u254.2), (20, .bool true), (31, .bool false)], [(1, .cells 24 [.str x0.Row, .dslice (x0.Dims.map cLinear)]), (951, .row 55 7 (u254.1.map cBind))]⟩
theorem ref11_Vars_c (x0 : Shape) (r : (List Bind)) (H : ref11_Vars x0 = some r) : AFn Tryz.prog 30 [.agg [.str x0.Row, .dslice (x0.Dims.map cLinear)]] (.dslice (r.map cBind)) := by
  unfold ref11_Vars at H
  refine acallX Tryz.func30 47 [.tmp 2] (by kernel_rfl) (by kernel_rfl) ?_
  refine bnd H fun y1 h2 H3 => ?_
  refine bsp H3 (fun c4 H5 => ?_) (fun c6 H7 => ?_)
  · refine p_at Tryz.mo 13 [.rg 0 [] [.m, .v], .rg 0 [] [.v, .c true (.bool y1), .v], .eqT 8 (.bool false), .rg 0 [] [.v], .rg 0 [] [.v, .v, .v]] [.only [1, 2, 3, 11] [1]] 12 [false] ⟨47, [(1, .hptr 1 0), (2, .eslice), (3, .eslice), (11, .bool (!(x0.Row == [])))], [(1, .cells 24 [.str x0.Row, .dslice (x0.Dims.map cLinear)])]⟩ (all_cons Tryz.call27 (all_cons (AFn.is (ref11_Valid_c x0 y1 h2)) (all_cons trivial (all_cons (congrArg (fun x => AV.bool (!x)) c4) all_nil)))) (by kernel_rfl) ?_
    refine bnd H5 fun v14 h15 H16 => ?_
    refine p_join 0 (ref11_Vars_S1 x0 v14) (by kernel_rfl) ?_ ?_
    · refine bsp h15 (fun c17 H18 => ?_) (fun c19 H20 => ?_)
      · refine some_e H18 fun e21 => ?_
        subst e21
        exact p_bar Tryz.mo 3 [.eqT 11 (.bool false)] [.er 3 15 55 7, .only [1, 2, 3] [1, 15]] (ref11_Vars_S1 x0 []) (all_cons (congrArg (fun x => AV.bool (!x)) c17) all_nil) (by kernel_rfl)
      · refine bnd H20 fun y22 h23 H24 => ?_
        refine some_e H24 fun e25 => ?_
        subst e25
        exact p_bar Tryz.mo 3 [.eqT 11 (.bool true), .rg 0 [] [.v, .v, .v, .er 12 12 55 7, .hR [(12, 1000)] 15 (.rslice 0) [(0, .row 55 7 (y22.map cBind))], .v]] [.only [1, 2, 3] [1, 15]] (ref11_Vars_S1 x0 y22) (all_cons (congrArg (fun x => AV.bool (!x)) c19) (all_cons Tryz.call96 (all_cons (ref11_AddVar_c 2 x0.Row [] y22 h23) all_nil))) (by kernel_rfl)
    · refine p_at Tryz.mo 4 [.rg 0 [] [.v]] [.ren [(1, 1), (15, 951)], .only [1, 2, 3, 4] [1, 951]] 4 [] (ref11_Vars_S2 x0 0 v14) all_nil (by kernel_rfl) ?_
      refine bnd H16 fun R200 h201 H202 => ?_
      refine p_joinO 1 (ref11_Vars_S3) R200 (by kernel_rfl) ?_ (fun u278 e279 => ?_)
      · refine p_cnt (ref11_Vars_S2 x0) (by kernel_rfl) h201 (fun i141 s140 h204 e205 => ?_) (fun i141 s140 h212 q208 h209 h210 => ?_)
        · have c206 : decide (((i141 : Nat) : Int) < ((x0.Dims.length : Nat) : Int)) = false := decide_eq_false (by omega)
          subst e205
          exact p_bar Tryz.mo 5 [.rg 0 [] [.v, .v, .v, .e (.int .i64 ((x0.Dims.length : Nat) : Int)), .e (.bool false)]] [.only [2, 3] [951]] (ref11_Vars_S3 s140) (all_cons trivial (all_cons (lenm cLinear x0.Dims) (all_cons (congrArg (AV.bool) c206) all_nil))) (by kernel_rfl)
        · have c211 : decide (((i141 : Nat) : Int) < ((x0.Dims.length : Nat) : Int)) = true := decide_eq_true (by omega)
          refine p_at Tryz.mo 10 [.rg 0 [] [.v, .v, .v, .e (.int .i64 ((x0.Dims.length : Nat) : Int)), .e (.bool true)], .rg 0 [] [.v]] [.only [1, 2, 3, 4, 5, 20] [1, 951]] 10 [true] (ref11_Vars_S4 x0 i141 (s140, 0)) (all_cons trivial (all_cons (lenm cLinear x0.Dims) (all_cons (congrArg (AV.bool) c211) all_nil))) (by kernel_rfl) ?_
          refine bnd h209 fun R251 h252 H253 => ?_
          refine p_joinO 2 (ref11_Vars_S5 x0 i141) R251 (by kernel_rfl) ?_ (fun u270 e271 => ?_)
          · refine p_whl (ref11_Vars_S4 x0 i141) (by kernel_rfl) h252 (fun s240 q255 h256 h257 => ?_)
            · refine bsp h256 (fun c258 H259 => ?_) (fun c260 H261 => ?_)
              · have c258p := of_decide_eq_true c258
                refine grd_e H259 fun g262 H263 => ?_
                refine bnd H263 fun y264 h265 H266 => ?_
                refine some_e H266 fun e267 => ?_
                subst e267
                exact p_bar Tryz.mo 10 [.rg 0 [] [.v, .v, .v, .v, .e (.dptr [.int .i64 ((x0.Dims.getD i141 ⟨0, []⟩).Const), .dslice (((x0.Dims.getD i141 ⟨0, []⟩).Terms).map cCoef)]), .v, .v, .e (.int .i64 ((((x0.Dims.getD i141 ⟨0, []⟩).Terms).length : Nat) : Int)), .v], .eqT 31 (.bool true), .rg 0 [] [.v, .v, .v, .v, .e (.dptr [.int .i64 ((x0.Dims.getD i141 ⟨0, []⟩).Const), .dslice (((x0.Dims.getD i141 ⟨0, []⟩).Terms).map cCoef)]), .v, .v, .v, .e (.dptr [.str ((((x0.Dims.getD i141 ⟨0, []⟩).Terms).getD s240.2.toNat ⟨[], 0⟩).Var), .int .i64 ((((x0.Dims.getD i141 ⟨0, []⟩).Terms).getD s240.2.toNat ⟨[], 0⟩).C)]), .v, .v, .hR [(951, 1000)] 45 (.rslice 0) [(0, .row 55 7 (y264.map cBind))], .v], .rg 0 [] [.v, .w, .v]] [.ren [(1, 1), (45, 951)], .only [1, 2, 3, 4, 5, 20] [1, 951]] (ref11_Vars_S4 x0 i141 (y264, (w64 (s240.2 + 1)))) (all_app (ix (f := cLinear) (l := x0.Dims) (n := i141) ⟨0, []⟩ cLinear_len (by decide) (by omega)) (all_cons trivial (all_cons (lenm cCoef ((x0.Dims.getD i141 ⟨0, []⟩).Terms)) (all_cons (congrArg (AV.bool) c258) (all_app (ix (f := cLinear) (l := x0.Dims) (n := i141) ⟨0, []⟩ cLinear_len (by decide) (by omega)) (all_app (ixz (f := cCoef) (l := ((x0.Dims.getD i141 ⟨0, []⟩).Terms)) (n := s240.2) ⟨[], 0⟩ cCoef_len (by decide) (by exact g262)) (all_cons Tryz.call96 (all_cons (ref11_AddVar_c 1 ((((x0.Dims.getD i141 ⟨0, []⟩).Terms).getD s240.2.toNat ⟨[], 0⟩).Var) s240.1 y264 h265) all_nil)))))))) (by kernel_rfl)
              · have c260p := of_decide_eq_false c260
                refine some_e H261 fun e268 => ?_
                subst e268
                have e269 := out_brk h257
                subst e269
                exact p_bar Tryz.mo 6 [.rg 0 [] [.v, .v, .v, .v, .e (.dptr [.int .i64 ((x0.Dims.getD i141 ⟨0, []⟩).Const), .dslice (((x0.Dims.getD i141 ⟨0, []⟩).Terms).map cCoef)]), .v, .v, .e (.int .i64 ((((x0.Dims.getD i141 ⟨0, []⟩).Terms).length : Nat) : Int)), .v], .eqT 31 (.bool false)] [.only [1, 2, 3, 4, 5, 20, 31] [1, 951]] (ref11_Vars_S5 x0 i141 (s240.1, s240.2)) (all_app (ix (f := cLinear) (l := x0.Dims) (n := i141) ⟨0, []⟩ cLinear_len (by decide) (by omega)) (all_cons trivial (all_cons (lenm cCoef ((x0.Dims.getD i141 ⟨0, []⟩).Terms)) (all_cons (congrArg (AV.bool) c260) all_nil)))) (by kernel_rfl)
          · subst e271
            have H272 := aftE_brk H253
            refine t_lensH 1 1 (ps := [(x0.Dims.map cLinear).length ≤ 9223372036854775807]) (by kernel_rfl) (fun l275 => ?_)
            have l276 : x0.Dims.length ≤ 9223372036854775807 := by simpa only [All, List.length_map] using l275
            clear l275
            refine some_e H272 fun e277 => ?_
            subst e277
            exact p_bar Tryz.mo 1 [.rg 0 [] [.v, .v, .v]] [.only [1, 2, 3, 4] [1, 951]] (ref11_Vars_S2 x0 (i141 + 1) u270.1) (all_cons (show I64 (((i141 : Nat) : Int) + 1) from by unfold I64; omega) all_nil) (by kernel_rfl)
      · subst e279
        have H280 := aftE_brk H202
        refine some_e H280 fun e281 => ?_
        subst e281
        exact p_ret Tryz.mo 3 [.rg 0 [] [.v, .v]] [.fz 951] [] all_nil (by kernel_rfl)
  · refine some_e H7 fun e282 => ?_
    subst e282
    exact p_ret Tryz.mo 10 [.rg 0 [] [.m, .v], .rg 0 [] [.v, .c true (.bool y1), .v], .eqT 8 (.bool true), .rg 0 [] [.v]] [.wk 2 []] [] (all_cons Tryz.call27 (all_cons (AFn.is (ref11_Valid_c x0 y1 h2)) (all_cons trivial (all_cons (congrArg (fun x => AV.bool (!x)) c6) all_nil)))) (by kernel_rfl)
/-- framewise/framewiseref11.SameVars -/
def ref11_SameVars (x0 : (List Bind)) (x1 : (List Bind)) : Option Bool :=
  bif (((x0.length : Nat) : Int) == ((x1.length : Nat) : Int)) then (
    (cnt (σ := Unit) (ε := Unit) (ρ := Bool) (fun i47 s46 =>
      grd (i47 < x1.length) <|
      bif (((x0.getD i47 (⟨0, [], ⟨0, []⟩, ⟨[], []⟩, []⟩)).Kind) == ((x1.getD i47 (⟨0, [], ⟨0, []⟩, ⟨[], []⟩, []⟩)).Kind)) then (
        bif (((x0.getD i47 (⟨0, [], ⟨0, []⟩, ⟨[], []⟩, []⟩)).Var) == ((x1.getD i47 (⟨0, [], ⟨0, []⟩, ⟨[], []⟩, []⟩)).Var)) then (
          some (.go ())
        ) else (
          some (.ret false)
        )
      ) else (
        some (.ret false)
      )
    ) (fun i47 s46 => ()) (x0.length - 0) 0 ()).bind <| aft fun u110 =>
    some true
  ) else (
    some false
  )
def ref11_SameVars_S1 (x0 : (List Bind)) (x1 : (List Bind)) (i47 : Nat) (s46 : Unit) : AS := ⟨41, [(0, .dslice (x0.map cBind)), (1, .dslice (x1.map cBind)), (4, .bool false), (5, .int .i64 ((i47 : Nat) : Int))], []⟩
def ref11_SameVars_S2 (u73 : Unit) : AS := ⟨41, [(4, .bool false)], []⟩
theorem ref11_SameVars_c (x0 : (List Bind)) (x1 : (List Bind)) (r : Bool) (H : ref11_SameVars x0 x1 = some r) : AFn Tryz.prog 28 [.dslice (x0.map cBind), .dslice (x1.map cBind)] (.bool r) := by
  unfold ref11_SameVars at H
  refine acallX Tryz.func28 41 [.tmp 4] (by kernel_rfl) (by kernel_rfl) ?_
  refine bsp H (fun c1 H2 => ?_) (fun c3 H4 => ?_)
  · refine p_at Tryz.mo 12 [.rg 0 [] [.v], .rg 0 [] [.v, .e (.int .i64 ((x0.length : Nat) : Int)), .v, .e (.int .i64 ((x1.length : Nat) : Int)), .v], .eqT 10 (.bool false), .rg 0 [] [.v]] [.only [0, 1, 4, 5] []] 11 [false] (ref11_SameVars_S1 x0 x1 0 ()) (all_cons trivial (all_cons (lenm cBind x0) (all_cons trivial (all_cons (lenm cBind x1) (all_cons (congrArg (fun x => AV.bool (!x)) c1) all_nil))))) (by kernel_rfl) ?_
    refine bnd H2 fun R70 h71 H72 => ?_
    refine p_joinO 1 (ref11_SameVars_S2) R70 (by kernel_rfl) ?_ (fun u110 e111 => ?_)
    · refine p_cnt (ref11_SameVars_S1 x0 x1) (by kernel_rfl) h71 (fun i47 s46 h74 e75 => ?_) (fun i47 s46 h82 q78 h79 h80 => ?_)
      · have c76 : decide (((i47 : Nat) : Int) < ((x0.length : Nat) : Int)) = false := decide_eq_false (by omega)
        subst e75
        exact p_bar Tryz.mo 5 [.rg 0 [] [.v, .v, .e (.int .i64 ((x0.length : Nat) : Int)), .e (.bool false)]] [.only [4] []] (ref11_SameVars_S2 ()) (all_cons trivial (all_cons (lenm cBind x0) (all_cons (congrArg (AV.bool) c76) all_nil))) (by kernel_rfl)
      · have c81 : decide (((i47 : Nat) : Int) < ((x0.length : Nat) : Int)) = true := decide_eq_true (by omega)
        refine grd_e h79 fun g83 H84 => ?_
        refine bsp H84 (fun c89 H90 => ?_) (fun c91 H92 => ?_)
        · refine bsp H90 (fun c93 H94 => ?_) (fun c95 H96 => ?_)
          · refine t_lens 0 (ps := [(x0.map cBind).length ≤ 9223372036854775807]) (by kernel_rfl) (fun l99 => ?_)
            have l100 : x0.length ≤ 9223372036854775807 := by simpa only [All, List.length_map] using l99
            clear l99
            refine some_e H94 fun e101 => ?_
            subst e101
            exact p_bar Tryz.mo 13 [.rg 0 [] [.v, .v, .e (.int .i64 ((x0.length : Nat) : Int)), .e (.bool true)], .rg 22 [.v, .v, .e (.dptr [.int .i64 ((x0.getD i47 (⟨0, [], ⟨0, []⟩, ⟨[], []⟩, []⟩)).Kind), .str ((x0.getD i47 (⟨0, [], ⟨0, []⟩, ⟨[], []⟩, []⟩)).Var), .int .i64 (((x0.getD i47 (⟨0, [], ⟨0, []⟩, ⟨[], []⟩, []⟩)).Dim).Const), .dslice ((((x0.getD i47 (⟨0, [], ⟨0, []⟩, ⟨[], []⟩, []⟩)).Dim).Terms).map cCoef), .str (((x0.getD i47 (⟨0, [], ⟨0, []⟩, ⟨[], []⟩, []⟩)).Row).Row), .dslice ((((x0.getD i47 (⟨0, [], ⟨0, []⟩, ⟨[], []⟩, []⟩)).Row).Dims).map cLinear), .str ((x0.getD i47 (⟨0, [], ⟨0, []⟩, ⟨[], []⟩, []⟩)).Elem)]), .v, .v, .v, .v, .e (.dptr [.int .i64 ((x1.getD i47 (⟨0, [], ⟨0, []⟩, ⟨[], []⟩, []⟩)).Kind), .str ((x1.getD i47 (⟨0, [], ⟨0, []⟩, ⟨[], []⟩, []⟩)).Var), .int .i64 (((x1.getD i47 (⟨0, [], ⟨0, []⟩, ⟨[], []⟩, []⟩)).Dim).Const), .dslice ((((x1.getD i47 (⟨0, [], ⟨0, []⟩, ⟨[], []⟩, []⟩)).Dim).Terms).map cCoef), .str (((x1.getD i47 (⟨0, [], ⟨0, []⟩, ⟨[], []⟩, []⟩)).Row).Row), .dslice ((((x1.getD i47 (⟨0, [], ⟨0, []⟩, ⟨[], []⟩, []⟩)).Row).Dims).map cLinear), .str ((x1.getD i47 (⟨0, [], ⟨0, []⟩, ⟨[], []⟩, []⟩)).Elem)]), .v, .v, .e (.bool false), .v, .v, .v, .e (.dptr [.int .i64 ((x0.getD i47 (⟨0, [], ⟨0, []⟩, ⟨[], []⟩, []⟩)).Kind), .str ((x0.getD i47 (⟨0, [], ⟨0, []⟩, ⟨[], []⟩, []⟩)).Var), .int .i64 (((x0.getD i47 (⟨0, [], ⟨0, []⟩, ⟨[], []⟩, []⟩)).Dim).Const), .dslice ((((x0.getD i47 (⟨0, [], ⟨0, []⟩, ⟨[], []⟩, []⟩)).Dim).Terms).map cCoef), .str (((x0.getD i47 (⟨0, [], ⟨0, []⟩, ⟨[], []⟩, []⟩)).Row).Row), .dslice ((((x0.getD i47 (⟨0, [], ⟨0, []⟩, ⟨[], []⟩, []⟩)).Row).Dims).map cLinear), .str ((x0.getD i47 (⟨0, [], ⟨0, []⟩, ⟨[], []⟩, []⟩)).Elem)]), .v, .v, .v, .v, .e (.dptr [.int .i64 ((x1.getD i47 (⟨0, [], ⟨0, []⟩, ⟨[], []⟩, []⟩)).Kind), .str ((x1.getD i47 (⟨0, [], ⟨0, []⟩, ⟨[], []⟩, []⟩)).Var), .int .i64 (((x1.getD i47 (⟨0, [], ⟨0, []⟩, ⟨[], []⟩, []⟩)).Dim).Const), .dslice ((((x1.getD i47 (⟨0, [], ⟨0, []⟩, ⟨[], []⟩, []⟩)).Dim).Terms).map cCoef), .str (((x1.getD i47 (⟨0, [], ⟨0, []⟩, ⟨[], []⟩, []⟩)).Row).Row), .dslice ((((x1.getD i47 (⟨0, [], ⟨0, []⟩, ⟨[], []⟩, []⟩)).Row).Dims).map cLinear), .str ((x1.getD i47 (⟨0, [], ⟨0, []⟩, ⟨[], []⟩, []⟩)).Elem)]), .v, .v] [.v, .v], .eqT 40 (.bool false), .rg 0 [] [.v, .v, .v]] [.only [0, 1, 4, 5] []] (ref11_SameVars_S1 x0 x1 (i47 + 1) ()) (all_cons trivial (all_cons (lenm cBind x0) (all_cons (congrArg (AV.bool) c81) (all_app (ix (f := cBind) (l := x0) (n := i47) (⟨0, [], ⟨0, []⟩, ⟨[], []⟩, []⟩) cBind_len (by decide) (by omega)) (all_app (ix (f := cBind) (l := x1) (n := i47) (⟨0, [], ⟨0, []⟩, ⟨[], []⟩, []⟩) cBind_len (by decide) (by omega)) (all_cons (congrArg (fun x => AV.bool (!x)) c89) (all_app (ix (f := cBind) (l := x0) (n := i47) (⟨0, [], ⟨0, []⟩, ⟨[], []⟩, []⟩) cBind_len (by decide) (by omega)) (all_app (ix (f := cBind) (l := x1) (n := i47) (⟨0, [], ⟨0, []⟩, ⟨[], []⟩, []⟩) cBind_len (by decide) (by omega)) (all_cons (congrArg (fun x => AV.bool (!x)) c93) (all_cons (show I64 (((i47 : Nat) : Int) + 1) from by unfold I64; omega) all_nil)))))))))) (by kernel_rfl)
          · refine some_e H96 fun e102 => ?_
            subst e102
            have e103 := out_ret h80
            subst e103
            have H104 := aft_ret H72
            refine some_e H104 fun e105 => ?_
            subst e105
            exact p_ret Tryz.mo 14 [.rg 0 [] [.v, .v, .e (.int .i64 ((x0.length : Nat) : Int)), .e (.bool true)], .rg 22 [.v, .v, .e (.dptr [.int .i64 ((x0.getD i47 (⟨0, [], ⟨0, []⟩, ⟨[], []⟩, []⟩)).Kind), .str ((x0.getD i47 (⟨0, [], ⟨0, []⟩, ⟨[], []⟩, []⟩)).Var), .int .i64 (((x0.getD i47 (⟨0, [], ⟨0, []⟩, ⟨[], []⟩, []⟩)).Dim).Const), .dslice ((((x0.getD i47 (⟨0, [], ⟨0, []⟩, ⟨[], []⟩, []⟩)).Dim).Terms).map cCoef), .str (((x0.getD i47 (⟨0, [], ⟨0, []⟩, ⟨[], []⟩, []⟩)).Row).Row), .dslice ((((x0.getD i47 (⟨0, [], ⟨0, []⟩, ⟨[], []⟩, []⟩)).Row).Dims).map cLinear), .str ((x0.getD i47 (⟨0, [], ⟨0, []⟩, ⟨[], []⟩, []⟩)).Elem)]), .v, .v, .v, .v, .e (.dptr [.int .i64 ((x1.getD i47 (⟨0, [], ⟨0, []⟩, ⟨[], []⟩, []⟩)).Kind), .str ((x1.getD i47 (⟨0, [], ⟨0, []⟩, ⟨[], []⟩, []⟩)).Var), .int .i64 (((x1.getD i47 (⟨0, [], ⟨0, []⟩, ⟨[], []⟩, []⟩)).Dim).Const), .dslice ((((x1.getD i47 (⟨0, [], ⟨0, []⟩, ⟨[], []⟩, []⟩)).Dim).Terms).map cCoef), .str (((x1.getD i47 (⟨0, [], ⟨0, []⟩, ⟨[], []⟩, []⟩)).Row).Row), .dslice ((((x1.getD i47 (⟨0, [], ⟨0, []⟩, ⟨[], []⟩, []⟩)).Row).Dims).map cLinear), .str ((x1.getD i47 (⟨0, [], ⟨0, []⟩, ⟨[], []⟩, []⟩)).Elem)]), .v, .v, .e (.bool false), .v, .v, .v, .e (.dptr [.int .i64 ((x0.getD i47 (⟨0, [], ⟨0, []⟩, ⟨[], []⟩, []⟩)).Kind), .str ((x0.getD i47 (⟨0, [], ⟨0, []⟩, ⟨[], []⟩, []⟩)).Var), .int .i64 (((x0.getD i47 (⟨0, [], ⟨0, []⟩, ⟨[], []⟩, []⟩)).Dim).Const), .dslice ((((x0.getD i47 (⟨0, [], ⟨0, []⟩, ⟨[], []⟩, []⟩)).Dim).Terms).map cCoef), .str (((x0.getD i47 (⟨0, [], ⟨0, []⟩, ⟨[], []⟩, []⟩)).Row).Row), .dslice ((((x0.getD i47 (⟨0, [], ⟨0, []⟩, ⟨[], []⟩, []⟩)).Row).Dims).map cLinear), .str ((x0.getD i47 (⟨0, [], ⟨0, []⟩, ⟨[], []⟩, []⟩)).Elem)]), .v, .v, .v, .v, .e (.dptr [.int .i64 ((x1.getD i47 (⟨0, [], ⟨0, []⟩, ⟨[], []⟩, []⟩)).Kind), .str ((x1.getD i47 (⟨0, [], ⟨0, []⟩, ⟨[], []⟩, []⟩)).Var), .int .i64 (((x1.getD i47 (⟨0, [], ⟨0, []⟩, ⟨[], []⟩, []⟩)).Dim).Const), .dslice ((((x1.getD i47 (⟨0, [], ⟨0, []⟩, ⟨[], []⟩, []⟩)).Dim).Terms).map cCoef), .str (((x1.getD i47 (⟨0, [], ⟨0, []⟩, ⟨[], []⟩, []⟩)).Row).Row), .dslice ((((x1.getD i47 (⟨0, [], ⟨0, []⟩, ⟨[], []⟩, []⟩)).Row).Dims).map cLinear), .str ((x1.getD i47 (⟨0, [], ⟨0, []⟩, ⟨[], []⟩, []⟩)).Elem)]), .v, .v] [.v, .v], .eqT 40 (.bool true), .rg 0 [] [.v]] [] [] (all_cons trivial (all_cons (lenm cBind x0) (all_cons (congrArg (AV.bool) c81) (all_app (ix (f := cBind) (l := x0) (n := i47) (⟨0, [], ⟨0, []⟩, ⟨[], []⟩, []⟩) cBind_len (by decide) (by omega)) (all_app (ix (f := cBind) (l := x1) (n := i47) (⟨0, [], ⟨0, []⟩, ⟨[], []⟩, []⟩) cBind_len (by decide) (by omega)) (all_cons (congrArg (fun x => AV.bool (!x)) c89) (all_app (ix (f := cBind) (l := x0) (n := i47) (⟨0, [], ⟨0, []⟩, ⟨[], []⟩, []⟩) cBind_len (by decide) (by omega)) (all_app (ix (f := cBind) (l := x1) (n := i47) (⟨0, [], ⟨0, []⟩, ⟨[], []⟩, []⟩) cBind_len (by decide) (by omega)) (all_cons (congrArg (fun x => AV.bool (!x)) c95) all_nil))))))))) (by kernel_rfl)
        · refine some_e H92 fun e106 => ?_
          subst e106
          have e107 := out_ret h80
          subst e107
          have H108 := aft_ret H72
          refine some_e H108 fun e109 => ?_
          subst e109
          exact p_ret Tryz.mo 13 [.rg 0 [] [.v, .v, .e (.int .i64 ((x0.length : Nat) : Int)), .e (.bool true)], .rg 22 [.v, .v, .e (.dptr [.int .i64 ((x0.getD i47 (⟨0, [], ⟨0, []⟩, ⟨[], []⟩, []⟩)).Kind), .str ((x0.getD i47 (⟨0, [], ⟨0, []⟩, ⟨[], []⟩, []⟩)).Var), .int .i64 (((x0.getD i47 (⟨0, [], ⟨0, []⟩, ⟨[], []⟩, []⟩)).Dim).Const), .dslice ((((x0.getD i47 (⟨0, [], ⟨0, []⟩, ⟨[], []⟩, []⟩)).Dim).Terms).map cCoef), .str (((x0.getD i47 (⟨0, [], ⟨0, []⟩, ⟨[], []⟩, []⟩)).Row).Row), .dslice ((((x0.getD i47 (⟨0, [], ⟨0, []⟩, ⟨[], []⟩, []⟩)).Row).Dims).map cLinear), .str ((x0.getD i47 (⟨0, [], ⟨0, []⟩, ⟨[], []⟩, []⟩)).Elem)]), .v, .v, .v, .v, .e (.dptr [.int .i64 ((x1.getD i47 (⟨0, [], ⟨0, []⟩, ⟨[], []⟩, []⟩)).Kind), .str ((x1.getD i47 (⟨0, [], ⟨0, []⟩, ⟨[], []⟩, []⟩)).Var), .int .i64 (((x1.getD i47 (⟨0, [], ⟨0, []⟩, ⟨[], []⟩, []⟩)).Dim).Const), .dslice ((((x1.getD i47 (⟨0, [], ⟨0, []⟩, ⟨[], []⟩, []⟩)).Dim).Terms).map cCoef), .str (((x1.getD i47 (⟨0, [], ⟨0, []⟩, ⟨[], []⟩, []⟩)).Row).Row), .dslice ((((x1.getD i47 (⟨0, [], ⟨0, []⟩, ⟨[], []⟩, []⟩)).Row).Dims).map cLinear), .str ((x1.getD i47 (⟨0, [], ⟨0, []⟩, ⟨[], []⟩, []⟩)).Elem)]), .v, .v, .e (.bool true), .v, .s, .s, .s, .s, .s, .s, .s, .s, .s, .s] [.s, .v], .rg 0 [] [.v]] [] [] (all_cons trivial (all_cons (lenm cBind x0) (all_cons (congrArg (AV.bool) c81) (all_app (ix (f := cBind) (l := x0) (n := i47) (⟨0, [], ⟨0, []⟩, ⟨[], []⟩, []⟩) cBind_len (by decide) (by omega)) (all_app (ix (f := cBind) (l := x1) (n := i47) (⟨0, [], ⟨0, []⟩, ⟨[], []⟩, []⟩) cBind_len (by decide) (by omega)) (all_cons (congrArg (fun x => AV.bool (!x)) c91) all_nil)))))) (by kernel_rfl)
    · subst e111
      have H112 := aft_brk H72
      refine some_e H112 fun e113 => ?_
      subst e113
      exact p_ret Tryz.mo 3 [.rg 0 [] [.v]] [] [] all_nil (by kernel_rfl)
  · refine some_e H4 fun e114 => ?_
    subst e114
    exact p_ret Tryz.mo 10 [.rg 0 [] [.v], .rg 0 [] [.v, .e (.int .i64 ((x0.length : Nat) : Int)), .v, .e (.int .i64 ((x1.length : Nat) : Int)), .v], .eqT 10 (.bool true), .rg 0 [] [.v]] [] [] (all_cons trivial (all_cons (lenm cBind x0) (all_cons trivial (all_cons (lenm cBind x1) (all_cons (congrArg (fun x => AV.bool (!x)) c3) all_nil))))) (by kernel_rfl)
/-- framewise/framewiseref04.Compare -/
def ref04_Compare (x0 : Linear) (x1 : Linear) : Option Int :=
  (cnt (σ := Unit) (ε := Unit) (ρ := Int) (fun i147 s146 =>
    bif decide (((i147 : Nat) : Int) < ((x1.Terms.length : Nat) : Int)) then (
      ((
        bif (Op.bytesLess ((x0.Terms.getD i147 ⟨[], 0⟩).Var) ((x1.Terms.getD i147 ⟨[], 0⟩).Var)) then (
          some (.ret (.ret (-1)))
        ) else (
          bif (((x0.Terms.getD i147 ⟨[], 0⟩).Var) == ((x1.Terms.getD i147 ⟨[], 0⟩).Var)) then (
            bif decide (((x0.Terms.getD i147 ⟨[], 0⟩).C) < ((x1.Terms.getD i147 ⟨[], 0⟩).C)) then (
              some (.ret (.ret (-1)))
            ) else (
              bif ((((x0.Terms.getD i147 ⟨[], 0⟩).Var) == ((x1.Terms.getD i147 ⟨[], 0⟩).Var)) && ((((x0.Terms.getD i147 ⟨[], 0⟩).C) == ((x1.Terms.getD i147 ⟨[], 0⟩).C)) && true)) then (
                some (.brk ())
              ) else (
                some (.ret (.ret 1))
              )
            )
          ) else (
            bif ((((x0.Terms.getD i147 ⟨[], 0⟩).Var) == ((x1.Terms.getD i147 ⟨[], 0⟩).Var)) && ((((x0.Terms.getD i147 ⟨[], 0⟩).C) == ((x1.Terms.getD i147 ⟨[], 0⟩).C)) && true)) then (
              some (.brk ())
            ) else (
              some (.ret (.ret 1))
            )
          )
        )
      ) : Option (Out Unit (Stp Unit Unit Int))).bind (aft fun u274 =>
        some (.go ())
      )
    ) else (
      some (.brk ())
    )
  ) (fun i147 s146 => ()) (x0.Terms.length - 0) 0 ()).bind <| aft fun u330 =>
  bif decide (((x0.Terms.length : Nat) : Int) < ((x1.Terms.length : Nat) : Int)) then (
    some (-1)
  ) else (
    bif (((x0.Terms.length : Nat) : Int) == ((x1.Terms.length : Nat) : Int)) then (
      bif decide (x0.Const < x1.Const) then (
        some (-1)
      ) else (
        bif decide (((x0.Terms.length : Nat) : Int) > ((x1.Terms.length : Nat) : Int)) then (
          some 1
        ) else (
          bif decide (x0.Const > x1.Const) then (
            some 1
          ) else (
            some 0
          )
        )
      )
    ) else (
      bif decide (((x0.Terms.length : Nat) : Int) > ((x1.Terms.length : Nat) : Int)) then (
        some 1
      ) else (
        bif decide (x0.Const > x1.Const) then (
          some 1
        ) else (
          some 0
        )
      )
    )
  )
def ref04_Compare_S1 (x0 : Linear) (x1 : Linear) (i147 : Nat) (s146 : Unit) : AS := ⟨95, [(2, .hptr 2 0), (3, .hptr 3 0), (4, .int .i64 0), (5, .int .i64 ((i147 : Nat) : Int))], [(2, .cells 53 [.int .i64 x0.Const, .dslice (x0.Terms.map cCoef)]), (3, .cells 53 [.int .i64 x1.Const, .dslice (x1.Terms.map cCoef)])]⟩
def ref04_Compare_S2 (x0 : Linear) (x1 : Linear) (u225 : Unit) : AS := ⟨95, [(2, .hptr 2 0), (3, .hptr 3 0), (4, .int .i64 0)], [(2, .cells 53 [.int .i64 x0.Const, .dslice (x0.Terms.map cCoef)]), (3, .cells 53 [.int .i64 x1.Const, .dslice (x1.Terms.map cCoef)])]⟩
def ref04_Compare_S3 (x0 : Linear) (x1 : Linear) (i147 : Nat) (u274 : Unit) : AS := ⟨95, [(2, .hptr 2 0), (3, .hptr 3 0), (4, .int .i64 0), (5, .int .i64 ((i147 : Nat) : Int)), (6, .hptr 6 0), (7, .hptr 7 0), (19, .bool true), (32, .bool false), (52, .bool false)], [(2, .cells 53 [.int .i64 x0.Const, .dslice (x0.Terms.map cCoef)]), (3, .cells 53 [.int .i64 x1.Const, .dslice (x1.Terms.map cCoef)]), (6, .cells 58 [.str ((x0.Terms.getD i147 ⟨[], 0⟩).Var), .int .i64 ((x0.Terms.getD i147 ⟨[], 0⟩).C)]), (7, .cells 58 [.str ((x1.Terms.getD i147 ⟨[], 0⟩).Var), .int .i64 ((x1.Terms.getD i147 ⟨[], 0⟩).C)])]⟩
theorem ref04_Compare_c (x0 : Linear) (x1 : Linear) (r : Int) (H : ref04_Compare x0 x1 = some r) : AFn Tryz.prog 147 [.agg [.int .i64 x0.Const, .dslice (x0.Terms.map cCoef)], .agg [.int .i64 x1.Const, .dslice (x1.Terms.map cCoef)]] (.int .i64 r) := by
  unfold ref04_Compare at H
  refine acallX Tryz.func147 95 [.tmp 4] (by kernel_rfl) (by kernel_rfl) ?_
  refine p_at Tryz.mo 6 [.rg 0 [] [.m, .m, .v], .rg 0 [] [.v]] [.only [2, 3, 4, 5] [2, 3]] 6 [] (ref04_Compare_S1 x0 x1 0 ()) all_nil (by kernel_rfl) ?_
  refine bnd H fun R222 h223 H224 => ?_
  refine p_joinO 1 (ref04_Compare_S2 x0 x1) R222 (by kernel_rfl) ?_ (fun u330 e331 => ?_)
  · refine p_cnt (ref04_Compare_S1 x0 x1) (by kernel_rfl) h223 (fun i147 s146 h226 e227 => ?_) (fun i147 s146 h234 q230 h231 h232 => ?_)
    · have c228 : decide (((i147 : Nat) : Int) < ((x0.Terms.length : Nat) : Int)) = false := decide_eq_false (by omega)
      subst e227
      exact p_bar Tryz.mo 5 [.rg 0 [] [.v, .v, .v, .e (.int .i64 ((x0.Terms.length : Nat) : Int)), .e (.bool false), .v, .s, .s, .s, .s, .s, .v]] [.only [2, 3, 4] [2, 3]] (ref04_Compare_S2 x0 x1 ()) (all_cons trivial (all_cons (lenm cCoef x0.Terms) (all_cons (congrArg (AV.bool) c228) all_nil))) (by kernel_rfl)
    · have c233 : decide (((i147 : Nat) : Int) < ((x0.Terms.length : Nat) : Int)) = true := decide_eq_true (by omega)
      refine bsp h231 (fun c235 H236 => ?_) (fun c237 H238 => ?_)
      · have c235p := of_decide_eq_true c235
        refine p_at Tryz.mo 12 [.rg 0 [] [.v, .v, .v, .e (.int .i64 ((x0.Terms.length : Nat) : Int)), .e (.bool true), .v, .v, .v, .v, .e (.int .i64 ((x1.Terms.length : Nat) : Int)), .v, .v], .eqT 19 (.bool true), .rg 13 [.v, .v, .v, .e (.dptr [.str ((x0.Terms.getD i147 ⟨[], 0⟩).Var), .int .i64 ((x0.Terms.getD i147 ⟨[], 0⟩).C)]), .v, .v, .v, .v, .e (.dptr [.str ((x1.Terms.getD i147 ⟨[], 0⟩).Var), .int .i64 ((x1.Terms.getD i147 ⟨[], 0⟩).C)]), .v, .m, .m, .m] [.m]] [.only [2, 3, 4, 5, 6, 7, 19] [2, 3, 6, 7]] 11 [true] ⟨95, [(2, .hptr 2 0), (3, .hptr 3 0), (4, .int .i64 0), (5, .int .i64 ((i147 : Nat) : Int)), (6, .hptr 6 0), (7, .hptr 7 0), (19, .bool true)], [(2, .cells 53 [.int .i64 x0.Const, .dslice (x0.Terms.map cCoef)]), (3, .cells 53 [.int .i64 x1.Const, .dslice (x1.Terms.map cCoef)]), (6, .cells 58 [.str ((x0.Terms.getD i147 ⟨[], 0⟩).Var), .int .i64 ((x0.Terms.getD i147 ⟨[], 0⟩).C)]), (7, .cells 58 [.str ((x1.Terms.getD i147 ⟨[], 0⟩).Var), .int .i64 ((x1.Terms.getD i147 ⟨[], 0⟩).C)])]⟩ (all_cons trivial (all_cons (lenm cCoef x0.Terms) (all_cons (congrArg (AV.bool) c233) (all_cons trivial (all_cons (lenm cCoef x1.Terms) (all_cons (congrArg (AV.bool) c235) (all_app (ix (f := cCoef) (l := x0.Terms) (n := i147) ⟨[], 0⟩ cCoef_len (by decide) (by omega)) (all_app (ix (f := cCoef) (l := x1.Terms) (n := i147) ⟨[], 0⟩ cCoef_len (by decide) (by omega)) all_nil)))))))) (by kernel_rfl) ?_
        refine bnd H236 fun v271 h272 H273 => ?_
        refine p_joinO 3 (ref04_Compare_S3 x0 x1 i147) v271 (by kernel_rfl) ?_ (fun u274 e327 => ?_)
        · refine bsp h272 (fun c275 H276 => ?_) (fun c277 H278 => ?_)
          · refine some_e H276 fun e279 => ?_
            subst e279
            have H280 := aft_ret H273
            refine some_e H280 fun e281 => ?_
            subst e281
            have e282 := out_ret h232
            subst e282
            have H283 := aft_ret H224
            refine some_e H283 fun e284 => ?_
            subst e284
            exact p_ret Tryz.mo 5 [.rg 0 [] [.v, .v, .v, .v, .e (.bool true), .v, .s, .s, .s, .s, .s, .s, .s, .s, .s, .s, .s, .s, .v, .v], .rg 0 [] [.v]] [] [] (all_cons (congrArg (AV.bool) c275) all_nil) (by kernel_rfl)
          · refine bsp H278 (fun c285 H286 => ?_) (fun c287 H288 => ?_)
            · refine bsp H286 (fun c289 H290 => ?_) (fun c291 H292 => ?_)
              · have c289p := of_decide_eq_true c289
                refine some_e H290 fun e293 => ?_
                subst e293
                have H294 := aft_ret H273
                refine some_e H294 fun e295 => ?_
                subst e295
                have e296 := out_ret h232
                subst e296
                have H297 := aft_ret H224
                refine some_e H297 fun e298 => ?_
                subst e298
                exact p_ret Tryz.mo 6 [.rg 0 [] [.v, .v, .v, .v, .e (.bool false), .v, .v, .v, .v, .v, .e (.bool true), .v, .v, .v, .v, .v, .v, .v, .v, .v], .eqT 32 (.bool true), .rg 0 [] [.v]] [] [] (all_cons (congrArg (AV.bool) c277) (all_cons (congrArg (AV.bool) c285) (all_cons (congrArg (AV.bool) c289) all_nil))) (by kernel_rfl)
              · have c291p := of_decide_eq_false c291
                refine bsp H292 (fun c299 H300 => ?_) (fun c301 H302 => ?_)
                · refine some_e H300 fun e303 => ?_
                  subst e303
                  exact p_bar Tryz.mo 8 [.rg 0 [] [.v, .v, .v, .v, .e (.bool false), .v, .v, .v, .v, .v, .e (.bool true), .v, .v, .v, .v, .v, .v, .v, .v, .v], .eqT 32 (.bool false), .rg 0 [] [.v, .v, .w, .v], .eqT 52 (.bool false)] [.only [2, 3, 4, 5, 6, 7, 19, 32, 52] [2, 3, 6, 7]] (ref04_Compare_S3 x0 x1 i147 ()) (all_cons (congrArg (AV.bool) c277) (all_cons (congrArg (AV.bool) c285) (all_cons (congrArg (AV.bool) c291) (all_cons (congrArg (fun x => AV.bool (!x)) c299) all_nil)))) (by kernel_rfl)
                · refine some_e H302 fun e304 => ?_
                  subst e304
                  have H305 := aft_ret H273
                  refine some_e H305 fun e306 => ?_
                  subst e306
                  have e307 := out_ret h232
                  subst e307
                  have H308 := aft_ret H224
                  refine some_e H308 fun e309 => ?_
                  subst e309
                  exact p_ret Tryz.mo 10 [.rg 0 [] [.v, .v, .v, .v, .e (.bool false), .v, .v, .v, .v, .v, .e (.bool true), .v, .v, .v, .v, .v, .v, .v, .v, .v], .eqT 32 (.bool false), .rg 0 [] [.v, .v, .w, .v], .eqT 52 (.bool true), .rg 0 [] [.v]] [] [] (all_cons (congrArg (AV.bool) c277) (all_cons (congrArg (AV.bool) c285) (all_cons (congrArg (AV.bool) c291) (all_cons (congrArg (fun x => AV.bool (!x)) c301) all_nil)))) (by kernel_rfl)
            · refine bsp H288 (fun c310 H311 => ?_) (fun c312 H313 => ?_)
              · refine some_e H311 fun e314 => ?_
                subst e314
                exact p_bar Tryz.mo 7 [.rg 0 [] [.v, .v, .v, .v, .e (.bool false), .v, .v, .v, .v, .v, .e (.bool false), .v, .s, .s, .s, .s, .s, .v, .v, .v], .rg 0 [] [.v, .v, .w, .v], .eqT 52 (.bool false)] [.only [2, 3, 4, 5, 6, 7, 19, 32, 52] [2, 3, 6, 7]] (ref04_Compare_S3 x0 x1 i147 ()) (all_cons (congrArg (AV.bool) c277) (all_cons (congrArg (AV.bool) c287) (all_cons (congrArg (fun x => AV.bool (!x)) c310) all_nil))) (by kernel_rfl)
              · refine some_e H313 fun e315 => ?_
                subst e315
                have H316 := aft_ret H273
                refine some_e H316 fun e317 => ?_
                subst e317
                have e318 := out_ret h232
                subst e318
                have H319 := aft_ret H224
                refine some_e H319 fun e320 => ?_
                subst e320
                exact p_ret Tryz.mo 9 [.rg 0 [] [.v, .v, .v, .v, .e (.bool false), .v, .v, .v, .v, .v, .e (.bool false), .v, .s, .s, .s, .s, .s, .v, .v, .v], .rg 0 [] [.v, .v, .w, .v], .eqT 52 (.bool true), .rg 0 [] [.v]] [] [] (all_cons (congrArg (AV.bool) c277) (all_cons (congrArg (AV.bool) c287) (all_cons (congrArg (fun x => AV.bool (!x)) c312) all_nil))) (by kernel_rfl)
        · subst e327
          have H321 := aft_brk H273
          refine t_lensH 2 1 (ps := [(x0.Terms.map cCoef).length ≤ 9223372036854775807]) (by kernel_rfl) (fun l324 => ?_)
          have l325 : x0.Terms.length ≤ 9223372036854775807 := by simpa only [All, List.length_map] using l324
          clear l324
          refine some_e H321 fun e326 => ?_
          subst e326
          exact p_bar Tryz.mo 1 [.rg 0 [] [.v, .v, .v]] [.only [2, 3, 4, 5] [2, 3]] (ref04_Compare_S1 x0 x1 (i147 + 1) ()) (all_cons (show I64 (((i147 : Nat) : Int) + 1) from by unfold I64; omega) all_nil) (by kernel_rfl)
      · have c237p := of_decide_eq_false c237
        refine some_e H238 fun e328 => ?_
        subst e328
        have e329 := out_brk h232
        subst e329
        exact p_bar Tryz.mo 6 [.rg 0 [] [.v, .v, .v, .e (.int .i64 ((x0.Terms.length : Nat) : Int)), .e (.bool true), .v, .v, .v, .v, .e (.int .i64 ((x1.Terms.length : Nat) : Int)), .v, .v], .eqT 19 (.bool false)] [.only [2, 3, 4] [2, 3]] (ref04_Compare_S2 x0 x1 ()) (all_cons trivial (all_cons (lenm cCoef x0.Terms) (all_cons (congrArg (AV.bool) c233) (all_cons trivial (all_cons (lenm cCoef x1.Terms) (all_cons (congrArg (AV.bool) c237) all_nil)))))) (by kernel_rfl)
  · subst e331
    have H332 := aft_brk H224
    refine bsp H332 (fun c357 H358 => ?_) (fun c359 H360 => ?_)
    · have c357p := of_decide_eq_true c357
      refine some_e H358 fun e361 => ?_
      subst e361
      exact p_ret Tryz.mo 8 [.rg 0 [] [.v, .v, .e (.int .i64 ((x0.Terms.length : Nat) : Int)), .v, .v, .e (.int .i64 ((x1.Terms.length : Nat) : Int)), .e (.bool true), .v, .s, .s, .s, .s, .s, .s, .s, .s, .s, .s, .s, .s, .s, .s, .v, .v], .rg 0 [] [.v]] [] [] (all_cons trivial (all_cons (lenm cCoef x0.Terms) (all_cons trivial (all_cons (lenm cCoef x1.Terms) (all_cons (congrArg (AV.bool) c357) all_nil))))) (by kernel_rfl)
    · have c359p := of_decide_eq_false c359
      refine bsp H360 (fun c382 H383 => ?_) (fun c384 H385 => ?_)
      · refine bsp H383 (fun c394 H395 => ?_) (fun c396 H397 => ?_)
        · have c394p := of_decide_eq_true c394
          refine some_e H395 fun e398 => ?_
          subst e398
          exact p_ret Tryz.mo 9 [.rg 0 [] [.v, .v, .e (.int .i64 ((x0.Terms.length : Nat) : Int)), .v, .v, .e (.int .i64 ((x1.Terms.length : Nat) : Int)), .e (.bool false), .v, .v, .v, .e (.int .i64 ((x0.Terms.length : Nat) : Int)), .v, .v, .e (.int .i64 ((x1.Terms.length : Nat) : Int)), .e (.bool true), .v, .v, .v, .v, .v, .v, .v, .v, .v], .eqT 56 (.bool true), .rg 0 [] [.v]] [] [] (all_cons trivial (all_cons (lenm cCoef x0.Terms) (all_cons trivial (all_cons (lenm cCoef x1.Terms) (all_cons (congrArg (AV.bool) c359) (all_cons trivial (all_cons (lenm cCoef x0.Terms) (all_cons trivial (all_cons (lenm cCoef x1.Terms) (all_cons (congrArg (AV.bool) c382) (all_cons (congrArg (AV.bool) c394) all_nil))))))))))) (by kernel_rfl)
        · have c396p := of_decide_eq_false c396
          refine bsp H397 (fun c403 H404 => ?_) (fun c405 H406 => ?_)
          · have c403p := of_decide_eq_true c403
            refine some_e H404 fun e407 => ?_
            subst e407
            exact p_ret Tryz.mo 12 [.rg 0 [] [.v, .v, .e (.int .i64 ((x0.Terms.length : Nat) : Int)), .v, .v, .e (.int .i64 ((x1.Terms.length : Nat) : Int)), .e (.bool false), .v, .v, .v, .e (.int .i64 ((x0.Terms.length : Nat) : Int)), .v, .v, .e (.int .i64 ((x1.Terms.length : Nat) : Int)), .e (.bool true), .v, .v, .v, .v, .v, .v, .v, .v, .v], .eqT 56 (.bool false), .rg 0 [] [.v, .v, .e (.int .i64 ((x0.Terms.length : Nat) : Int)), .v, .v, .e (.int .i64 ((x1.Terms.length : Nat) : Int)), .e (.bool true), .v, .s, .s, .s, .s, .s, .v, .v], .rg 0 [] [.v]] [] [] (all_cons trivial (all_cons (lenm cCoef x0.Terms) (all_cons trivial (all_cons (lenm cCoef x1.Terms) (all_cons (congrArg (AV.bool) c359) (all_cons trivial (all_cons (lenm cCoef x0.Terms) (all_cons trivial (all_cons (lenm cCoef x1.Terms) (all_cons (congrArg (AV.bool) c382) (all_cons (congrArg (AV.bool) c396) (all_cons trivial (all_cons (lenm cCoef x0.Terms) (all_cons trivial (all_cons (lenm cCoef x1.Terms) (all_cons (congrArg (AV.bool) c403) all_nil)))))))))))))))) (by kernel_rfl)
          · have c405p := of_decide_eq_false c405
            refine bsp H406 (fun c408 H409 => ?_) (fun c410 H411 => ?_)
            · have c408p := of_decide_eq_true c408
              refine some_e H409 fun e412 => ?_
              subst e412
              exact p_ret Tryz.mo 13 [.rg 0 [] [.v, .v, .e (.int .i64 ((x0.Terms.length : Nat) : Int)), .v, .v, .e (.int .i64 ((x1.Terms.length : Nat) : Int)), .e (.bool false), .v, .v, .v, .e (.int .i64 ((x0.Terms.length : Nat) : Int)), .v, .v, .e (.int .i64 ((x1.Terms.length : Nat) : Int)), .e (.bool true), .v, .v, .v, .v, .v, .v, .v, .v, .v], .eqT 56 (.bool false), .rg 0 [] [.v, .v, .e (.int .i64 ((x0.Terms.length : Nat) : Int)), .v, .v, .e (.int .i64 ((x1.Terms.length : Nat) : Int)), .e (.bool false), .v, .v, .v, .v, .v, .v, .v, .v], .eqT 80 (.bool true), .rg 0 [] [.v]] [] [] (all_cons trivial (all_cons (lenm cCoef x0.Terms) (all_cons trivial (all_cons (lenm cCoef x1.Terms) (all_cons (congrArg (AV.bool) c359) (all_cons trivial (all_cons (lenm cCoef x0.Terms) (all_cons trivial (all_cons (lenm cCoef x1.Terms) (all_cons (congrArg (AV.bool) c382) (all_cons (congrArg (AV.bool) c396) (all_cons trivial (all_cons (lenm cCoef x0.Terms) (all_cons trivial (all_cons (lenm cCoef x1.Terms) (all_cons (congrArg (AV.bool) c405) (all_cons (congrArg (AV.bool) c408) all_nil))))))))))))))))) (by kernel_rfl)
            · have c410p := of_decide_eq_false c410
              refine some_e H411 fun e413 => ?_
              subst e413
              exact p_ret Tryz.mo 14 [.rg 0 [] [.v, .v, .e (.int .i64 ((x0.Terms.length : Nat) : Int)), .v, .v, .e (.int .i64 ((x1.Terms.length : Nat) : Int)), .e (.bool false), .v, .v, .v, .e (.int .i64 ((x0.Terms.length : Nat) : Int)), .v, .v, .e (.int .i64 ((x1.Terms.length : Nat) : Int)), .e (.bool true), .v, .v, .v, .v, .v, .v, .v, .v, .v], .eqT 56 (.bool false), .rg 0 [] [.v, .v, .e (.int .i64 ((x0.Terms.length : Nat) : Int)), .v, .v, .e (.int .i64 ((x1.Terms.length : Nat) : Int)), .e (.bool false), .v, .v, .v, .v, .v, .v, .v, .v], .eqT 80 (.bool false), .rg 0 [] [.v]] [] [] (all_cons trivial (all_cons (lenm cCoef x0.Terms) (all_cons trivial (all_cons (lenm cCoef x1.Terms) (all_cons (congrArg (AV.bool) c359) (all_cons trivial (all_cons (lenm cCoef x0.Terms) (all_cons trivial (all_cons (lenm cCoef x1.Terms) (all_cons (congrArg (AV.bool) c382) (all_cons (congrArg (AV.bool) c396) (all_cons trivial (all_cons (lenm cCoef x0.Terms) (all_cons trivial (all_cons (lenm cCoef x1.Terms) (all_cons (congrArg (AV.bool) c405) (all_cons (congrArg (AV.bool) c410) all_nil))))))))))))))))) (by kernel_rfl)
      · refine bsp H385 (fun c418 H419 => ?_) (fun c420 H421 => ?_)
        · have c418p := of_decide_eq_true c418
          refine some_e H419 fun e422 => ?_
          subst e422
          exact p_ret Tryz.mo 11 [.rg 0 [] [.v, .v, .e (.int .i64 ((x0.Terms.length : Nat) : Int)), .v, .v, .e (.int .i64 ((x1.Terms.length : Nat) : Int)), .e (.bool false), .v, .v, .v, .e (.int .i64 ((x0.Terms.length : Nat) : Int)), .v, .v, .e (.int .i64 ((x1.Terms.length : Nat) : Int)), .e (.bool false), .v, .s, .s, .s, .s, .s, .v, .v, .v], .rg 0 [] [.v, .v, .e (.int .i64 ((x0.Terms.length : Nat) : Int)), .v, .v, .e (.int .i64 ((x1.Terms.length : Nat) : Int)), .e (.bool true), .v, .s, .s, .s, .s, .s, .v, .v], .rg 0 [] [.v]] [] [] (all_cons trivial (all_cons (lenm cCoef x0.Terms) (all_cons trivial (all_cons (lenm cCoef x1.Terms) (all_cons (congrArg (AV.bool) c359) (all_cons trivial (all_cons (lenm cCoef x0.Terms) (all_cons trivial (all_cons (lenm cCoef x1.Terms) (all_cons (congrArg (AV.bool) c384) (all_cons trivial (all_cons (lenm cCoef x0.Terms) (all_cons trivial (all_cons (lenm cCoef x1.Terms) (all_cons (congrArg (AV.bool) c418) all_nil))))))))))))))) (by kernel_rfl)
        · have c420p := of_decide_eq_false c420
          refine bsp H421 (fun c423 H424 => ?_) (fun c425 H426 => ?_)
          · have c423p := of_decide_eq_true c423
            refine some_e H424 fun e427 => ?_
            subst e427
            exact p_ret Tryz.mo 12 [.rg 0 [] [.v, .v, .e (.int .i64 ((x0.Terms.length : Nat) : Int)), .v, .v, .e (.int .i64 ((x1.Terms.length : Nat) : Int)), .e (.bool false), .v, .v, .v, .e (.int .i64 ((x0.Terms.length : Nat) : Int)), .v, .v, .e (.int .i64 ((x1.Terms.length : Nat) : Int)), .e (.bool false), .v, .s, .s, .s, .s, .s, .v, .v, .v], .rg 0 [] [.v, .v, .e (.int .i64 ((x0.Terms.length : Nat) : Int)), .v, .v, .e (.int .i64 ((x1.Terms.length : Nat) : Int)), .e (.bool false), .v, .v, .v, .v, .v, .v, .v, .v], .eqT 80 (.bool true), .rg 0 [] [.v]] [] [] (all_cons trivial (all_cons (lenm cCoef x0.Terms) (all_cons trivial (all_cons (lenm cCoef x1.Terms) (all_cons (congrArg (AV.bool) c359) (all_cons trivial (all_cons (lenm cCoef x0.Terms) (all_cons trivial (all_cons (lenm cCoef x1.Terms) (all_cons (congrArg (AV.bool) c384) (all_cons trivial (all_cons (lenm cCoef x0.Terms) (all_cons trivial (all_cons (lenm cCoef x1.Terms) (all_cons (congrArg (AV.bool) c420) (all_cons (congrArg (AV.bool) c423) all_nil)))))))))))))))) (by kernel_rfl)
          · have c425p := of_decide_eq_false c425
            refine some_e H426 fun e428 => ?_
            subst e428
            exact p_ret Tryz.mo 13 [.rg 0 [] [.v, .v, .e (.int .i64 ((x0.Terms.length : Nat) : Int)), .v, .v, .e (.int .i64 ((x1.Terms.length : Nat) : Int)), .e (.bool false), .v, .v, .v, .e (.int .i64 ((x0.Terms.length : Nat) : Int)), .v, .v, .e (.int .i64 ((x1.Terms.length : Nat) : Int)), .e (.bool false), .v, .s, .s, .s, .s, .s, .v, .v, .v], .rg 0 [] [.v, .v, .e (.int .i64 ((x0.Terms.length : Nat) : Int)), .v, .v, .e (.int .i64 ((x1.Terms.length : Nat) : Int)), .e (.bool false), .v, .v, .v, .v, .v, .v, .v, .v], .eqT 80 (.bool false), .rg 0 [] [.v]] [] [] (all_cons trivial (all_cons (lenm cCoef x0.Terms) (all_cons trivial (all_cons (lenm cCoef x1.Terms) (all_cons (congrArg (AV.bool) c359) (all_cons trivial (all_cons (lenm cCoef x0.Terms) (all_cons trivial (all_cons (lenm cCoef x1.Terms) (all_cons (congrArg (AV.bool) c384) (all_cons trivial (all_cons (lenm cCoef x0.Terms) (all_cons trivial (all_cons (lenm cCoef x1.Terms) (all_cons (congrArg (AV.bool) c420) (all_cons (congrArg (AV.bool) c425) all_nil)))))))))))))))) (by kernel_rfl)
/-- framewise/framewiseref04.Equal -/
def ref04_Equal (x0 : Linear) (x1 : Linear) : Option Bool :=
  (ref04_Compare x0 x1).bind fun y1 =>
  some (y1 == 0)
theorem ref04_Equal_c (x0 : Linear) (x1 : Linear) (r : Bool) (H : ref04_Equal x0 x1 = some r) : AFn Tryz.prog 87 [.agg [.int .i64 x0.Const, .dslice (x0.Terms.map cCoef)], .agg [.int .i64 x1.Const, .dslice (x1.Terms.map cCoef)]] (.bool r) := by
  unfold ref04_Equal at H
  refine acallX Tryz.func87 9 [.tmp 4] (by kernel_rfl) (by kernel_rfl) ?_
  refine bnd H fun y1 h2 H3 => ?_
  refine some_e H3 fun e4 => ?_
  subst e4
  exact p_ret Tryz.mo 5 [.rg 0 [] [.m, .m, .v], .rg 0 [] [.v, .v, .c true (.int .i64 y1), .v, .v]] [] [] (all_cons Tryz.call147 (all_cons (AFn.is (ref04_Compare_c x0 x1 y1 h2)) all_nil)) (by kernel_rfl)
/-- framewise/framewiseref11.Equal -/
def ref11_Equal (x0 : Shape) (x1 : Shape) : Option Bool :=
  bif (x0.Row == x1.Row) then (
    bif (((x0.Dims.length : Nat) : Int) == ((x1.Dims.length : Nat) : Int)) then (
      (cnt (σ := Unit) (ε := Unit) (ρ := Bool) (fun i45 s44 =>
        grd (i45 < x1.Dims.length) <|
        (ref04_Equal (Linear.mk ((x0.Dims.getD i45 ⟨0, []⟩).Const) ((x0.Dims.getD i45 ⟨0, []⟩).Terms)) (Linear.mk ((x1.Dims.getD i45 ⟨0, []⟩).Const) ((x1.Dims.getD i45 ⟨0, []⟩).Terms))).bind fun y78 =>
        bif y78 then (
          some (.go ())
        ) else (
          some (.ret false)
        )
      ) (fun i45 s44 => ()) (x0.Dims.length - 0) 0 ()).bind <| aft fun u94 =>
      some true
    ) else (
      some false
    )
  ) else (
    some false
  )
def ref11_Equal_S1 (x0 : Shape) (x1 : Shape) (i45 : Nat) (s44 : Unit) : AS := ⟨39, [(2, .hptr 2 0), (3, .hptr 3 0), (4, .bool false), (5, .int .i64 ((i45 : Nat) : Int))], [(2, .cells 24 [.str x0.Row, .dslice (x0.Dims.map cLinear)]), (3, .cells 24 [.str x1.Row, .dslice (x1.Dims.map cLinear)])]⟩
def ref11_Equal_S2 (u66 : Unit) : AS := ⟨39, [(4, .bool false)], []⟩
theorem ref11_Equal_c (x0 : Shape) (x1 : Shape) (r : Bool) (H : ref11_Equal x0 x1 = some r) : AFn Tryz.prog 22 [.agg [.str x0.Row, .dslice (x0.Dims.map cLinear)], .agg [.str x1.Row, .dslice (x1.Dims.map cLinear)]] (.bool r) := by
  unfold ref11_Equal at H
  refine acallX Tryz.func22 39 [.tmp 4] (by kernel_rfl) (by kernel_rfl) ?_
  refine bsp H (fun c5 H6 => ?_) (fun c7 H8 => ?_)
  · refine bsp H6 (fun c9 H10 => ?_) (fun c11 H12 => ?_)
    · refine p_at Tryz.mo 12 [.rg 0 [] [.m, .m, .v], .rg 0 [] [.v, .v, .v, .v, .e (.bool false), .v, .v, .v, .e (.int .i64 ((x0.Dims.length : Nat) : Int)), .v, .v, .e (.int .i64 ((x1.Dims.length : Nat) : Int)), .v, .v], .eqT 19 (.bool false), .rg 0 [] [.v]] [.only [2, 3, 4, 5] [2, 3]] 11 [false] (ref11_Equal_S1 x0 x1 0 ()) (all_cons (congrArg (fun x => AV.bool (!x)) c5) (all_cons trivial (all_cons (lenm cLinear x0.Dims) (all_cons trivial (all_cons (lenm cLinear x1.Dims) (all_cons (congrArg (fun x => AV.bool (!x)) c9) all_nil)))))) (by kernel_rfl) ?_
      refine bnd H10 fun R63 h64 H65 => ?_
      refine p_joinO 1 (ref11_Equal_S2) R63 (by kernel_rfl) ?_ (fun u94 e95 => ?_)
      · refine p_cnt (ref11_Equal_S1 x0 x1) (by kernel_rfl) h64 (fun i45 s44 h67 e68 => ?_) (fun i45 s44 h75 q71 h72 h73 => ?_)
        · have c69 : decide (((i45 : Nat) : Int) < ((x0.Dims.length : Nat) : Int)) = false := decide_eq_false (by omega)
          subst e68
          exact p_bar Tryz.mo 5 [.rg 0 [] [.v, .v, .v, .e (.int .i64 ((x0.Dims.length : Nat) : Int)), .e (.bool false)]] [.only [4] []] (ref11_Equal_S2 ()) (all_cons trivial (all_cons (lenm cLinear x0.Dims) (all_cons (congrArg (AV.bool) c69) all_nil))) (by kernel_rfl)
        · have c74 : decide (((i45 : Nat) : Int) < ((x0.Dims.length : Nat) : Int)) = true := decide_eq_true (by omega)
          refine grd_e h72 fun g76 H77 => ?_
          refine bnd H77 fun y78 h79 H80 => ?_
          refine bsp H80 (fun c81 H82 => ?_) (fun c83 H84 => ?_)
          · refine t_lensH 2 1 (ps := [(x0.Dims.map cLinear).length ≤ 9223372036854775807]) (by kernel_rfl) (fun l87 => ?_)
            have l88 : x0.Dims.length ≤ 9223372036854775807 := by simpa only [All, List.length_map] using l87
            clear l87
            refine some_e H82 fun e89 => ?_
            subst e89
            exact p_bar Tryz.mo 13 [.rg 0 [] [.v, .v, .v, .e (.int .i64 ((x0.Dims.length : Nat) : Int)), .e (.bool true)], .rg 10 [.v, .v, .v, .e (.dptr [.int .i64 ((x0.Dims.getD i45 ⟨0, []⟩).Const), .dslice (((x0.Dims.getD i45 ⟨0, []⟩).Terms).map cCoef)]), .v, .v, .v, .v, .e (.dptr [.int .i64 ((x1.Dims.getD i45 ⟨0, []⟩).Const), .dslice (((x1.Dims.getD i45 ⟨0, []⟩).Terms).map cCoef)]), .v] [.c true (.bool y78), .v], .eqT 38 (.bool false), .rg 0 [] [.v, .v, .v]] [.only [2, 3, 4, 5] [2, 3]] (ref11_Equal_S1 x0 x1 (i45 + 1) ()) (all_cons trivial (all_cons (lenm cLinear x0.Dims) (all_cons (congrArg (AV.bool) c74) (all_app (ix (f := cLinear) (l := x0.Dims) (n := i45) ⟨0, []⟩ cLinear_len (by decide) (by omega)) (all_app (ix (f := cLinear) (l := x1.Dims) (n := i45) ⟨0, []⟩ cLinear_len (by decide) (by omega)) (all_cons Tryz.call87 (all_cons (AFn.is (ref04_Equal_c (Linear.mk ((x0.Dims.getD i45 ⟨0, []⟩).Const) ((x0.Dims.getD i45 ⟨0, []⟩).Terms)) (Linear.mk ((x1.Dims.getD i45 ⟨0, []⟩).Const) ((x1.Dims.getD i45 ⟨0, []⟩).Terms)) y78 h79)) (all_cons trivial (all_cons (congrArg (fun x => AV.bool (!x)) c81) (all_cons (show I64 (((i45 : Nat) : Int) + 1) from by unfold I64; omega) all_nil)))))))))) (by kernel_rfl)
          · refine some_e H84 fun e90 => ?_
            subst e90
            have e91 := out_ret h73
            subst e91
            have H92 := aft_ret H65
            refine some_e H92 fun e93 => ?_
            subst e93
            exact p_ret Tryz.mo 14 [.rg 0 [] [.v, .v, .v, .e (.int .i64 ((x0.Dims.length : Nat) : Int)), .e (.bool true)], .rg 10 [.v, .v, .v, .e (.dptr [.int .i64 ((x0.Dims.getD i45 ⟨0, []⟩).Const), .dslice (((x0.Dims.getD i45 ⟨0, []⟩).Terms).map cCoef)]), .v, .v, .v, .v, .e (.dptr [.int .i64 ((x1.Dims.getD i45 ⟨0, []⟩).Const), .dslice (((x1.Dims.getD i45 ⟨0, []⟩).Terms).map cCoef)]), .v] [.c true (.bool y78), .v], .eqT 38 (.bool true), .rg 0 [] [.v]] [] [] (all_cons trivial (all_cons (lenm cLinear x0.Dims) (all_cons (congrArg (AV.bool) c74) (all_app (ix (f := cLinear) (l := x0.Dims) (n := i45) ⟨0, []⟩ cLinear_len (by decide) (by omega)) (all_app (ix (f := cLinear) (l := x1.Dims) (n := i45) ⟨0, []⟩ cLinear_len (by decide) (by omega)) (all_cons Tryz.call87 (all_cons (AFn.is (ref04_Equal_c (Linear.mk ((x0.Dims.getD i45 ⟨0, []⟩).Const) ((x0.Dims.getD i45 ⟨0, []⟩).Terms)) (Linear.mk ((x1.Dims.getD i45 ⟨0, []⟩).Const) ((x1.Dims.getD i45 ⟨0, []⟩).Terms)) y78 h79)) (all_cons trivial (all_cons (congrArg (fun x => AV.bool (!x)) c83) all_nil))))))))) (by kernel_rfl)
      · subst e95
        have H96 := aft_brk H65
        refine some_e H96 fun e97 => ?_
        subst e97
        exact p_ret Tryz.mo 3 [.rg 0 [] [.v]] [] [] all_nil (by kernel_rfl)
    · refine some_e H12 fun e98 => ?_
      subst e98
      exact p_ret Tryz.mo 10 [.rg 0 [] [.m, .m, .v], .rg 0 [] [.v, .v, .v, .v, .e (.bool false), .v, .v, .v, .e (.int .i64 ((x0.Dims.length : Nat) : Int)), .v, .v, .e (.int .i64 ((x1.Dims.length : Nat) : Int)), .v, .v], .eqT 19 (.bool true), .rg 0 [] [.v]] [] [] (all_cons (congrArg (fun x => AV.bool (!x)) c5) (all_cons trivial (all_cons (lenm cLinear x0.Dims) (all_cons trivial (all_cons (lenm cLinear x1.Dims) (all_cons (congrArg (fun x => AV.bool (!x)) c11) all_nil)))))) (by kernel_rfl)
  · refine some_e H8 fun e99 => ?_
    subst e99
    exact p_ret Tryz.mo 9 [.rg 0 [] [.m, .m, .v], .rg 0 [] [.v, .v, .v, .v, .e (.bool true), .v, .s, .s, .s, .s, .s, .s, .s, .v], .rg 0 [] [.v]] [] [] (all_cons (congrArg (fun x => AV.bool (!x)) c7) all_nil) (by kernel_rfl)
/-- framewise/framewiseref11.zero -/
def ref11_zero (x0 : Linear) : Option Bool :=
  bif (x0.Const == 0) then (
    some (((x0.Terms.length : Nat) : Int) == 0)
  ) else (
    some false
  )
theorem ref11_zero_c (x0 : Linear) (r : Bool) (H : ref11_zero x0 = some r) : AFn Tryz.prog 158 [.agg [.int .i64 x0.Const, .dslice (x0.Terms.map cCoef)]] (.bool r) := by
  unfold ref11_zero at H
  refine acallX Tryz.func158 12 [.tmp 2] (by kernel_rfl) (by kernel_rfl) ?_
  refine bsp H (fun c1 H2 => ?_) (fun c3 H4 => ?_)
  · refine some_e H2 fun e5 => ?_
    subst e5
    exact p_ret Tryz.mo 5 [.rg 0 [] [.m, .v], .rg 0 [] [.v, .v, .e (.bool true), .v, .v, .v, .e (.int .i64 ((x0.Terms.length : Nat) : Int)), .v, .v, .v]] [] [] (all_cons (congrArg (AV.bool) c1) (all_cons trivial (all_cons (lenm cCoef x0.Terms) all_nil))) (by kernel_rfl)
  · refine some_e H4 fun e6 => ?_
    subst e6
    exact p_ret Tryz.mo 5 [.rg 0 [] [.m, .v], .rg 0 [] [.v, .v, .e (.bool false), .v, .s, .s, .s, .s, .v, .v]] [] [] (all_cons (congrArg (AV.bool) c3) all_nil) (by kernel_rfl)
/-- framewise/framewiseref11.ElemVar -/
def ref11_ElemVar (x0 : Str) : Option Bool :=
  (cnt (σ := Unit) (ε := Unit) (ρ := Bool) (fun i39 s38 =>
    bif decide (((x0.getD i39 0).toNat : Int) < 48) then (
      some (.ret false)
    ) else (
      bif decide (((x0.getD i39 0).toNat : Int) > 57) then (
        some (.ret false)
      ) else (
        some (.go ())
      )
    )
  ) (fun i39 s38 => ()) (x0.length - 1) 1 ()).bind <| aft fun u98 =>
  bif decide (((x0.length : Nat) : Int) ≥ 1) then (
    bif decide (((x0.length : Nat) : Int) ≤ 30) then (
      grd (0 < x0.length) <|
      bif decide (((x0.getD 0 0).toNat : Int) ≥ 65) then (
        some (decide (((x0.getD 0 0).toNat : Int) ≤ 90))
      ) else (
        some false
      )
    ) else (
      some false
    )
  ) else (
    some false
  )
def ref11_ElemVar_S1 (x0 : Str) (i39 : Nat) (s38 : Unit) : AS := ⟨38, [(0, .str x0), (2, .bool false), (3, .int .i64 ((i39 : Nat) : Int))], []⟩
def ref11_ElemVar_S2 (x0 : Str) (u63 : Unit) : AS := ⟨38, [(0, .str x0), (2, .bool false)], []⟩
theorem ref11_ElemVar_c (x0 : Str) (r : Bool) (H : ref11_ElemVar x0 = some r) : AFn Tryz.prog 34 [.str x0] (.bool r) := by
  unfold ref11_ElemVar at H
  refine acallX Tryz.func34 38 [.tmp 2] (by kernel_rfl) (by kernel_rfl) ?_
  refine p_at Tryz.mo 6 [.rg 0 [] [.v], .rg 0 [] [.v]] [.only [0, 2, 3] []] 6 [] (ref11_ElemVar_S1 x0 1 ()) all_nil (by kernel_rfl) ?_
  refine bnd H fun R60 h61 H62 => ?_
  refine p_joinO 1 (ref11_ElemVar_S2 x0) R60 (by kernel_rfl) ?_ (fun u98 e99 => ?_)
  · refine p_cnt (ref11_ElemVar_S1 x0) (by kernel_rfl) h61 (fun i39 s38 h64 e65 => ?_) (fun i39 s38 h72 q68 h69 h70 => ?_)
    · have c66 : decide (((i39 : Nat) : Int) < ((x0.length : Nat) : Int)) = false := decide_eq_false (by omega)
      subst e65
      exact p_bar Tryz.mo 5 [.rg 0 [] [.v, .v, .v, .e (.bool false)]] [.only [0, 2] []] (ref11_ElemVar_S2 x0 ()) (all_cons trivial (all_cons (congrArg (AV.bool) c66) all_nil)) (by kernel_rfl)
    · have c71 : decide (((i39 : Nat) : Int) < ((x0.length : Nat) : Int)) = true := decide_eq_true (by omega)
      refine bsp h69 (fun c77 H78 => ?_) (fun c79 H80 => ?_)
      · have c77p := of_decide_eq_true c77
        refine some_e H78 fun e81 => ?_
        subst e81
        have e82 := out_ret h70
        subst e82
        have H83 := aft_ret H62
        refine some_e H83 fun e84 => ?_
        subst e84
        exact p_ret Tryz.mo 13 [.rg 0 [] [.v, .v, .v, .e (.bool true)], .rg 0 [] [.v, .v, .v, .e (.bool true), .v, .s, .s, .s, .s, .v], .rg 0 [] [.v]] [] [] (all_cons trivial (all_cons (congrArg (AV.bool) c71) (all_cons (show (0 : Int) ≤ ((i39 : Nat) : Int) ∧ ((i39 : Nat) : Int) < (x0.length : Int) from by omega) (all_cons (congrArg (AV.bool) c77) all_nil)))) (by kernel_rfl)
      · have c79p := of_decide_eq_false c79
        refine bsp H80 (fun c85 H86 => ?_) (fun c87 H88 => ?_)
        · have c85p := of_decide_eq_true c85
          refine some_e H86 fun e89 => ?_
          subst e89
          have e90 := out_ret h70
          subst e90
          have H91 := aft_ret H62
          refine some_e H91 fun e92 => ?_
          subst e92
          exact p_ret Tryz.mo 14 [.rg 0 [] [.v, .v, .v, .e (.bool true)], .rg 0 [] [.v, .v, .v, .e (.bool false), .v, .v, .v, .v, .v, .v], .eqT 19 (.bool true), .rg 0 [] [.v]] [] [] (all_cons trivial (all_cons (congrArg (AV.bool) c71) (all_cons (show (0 : Int) ≤ ((i39 : Nat) : Int) ∧ ((i39 : Nat) : Int) < (x0.length : Int) from by omega) (all_cons (congrArg (AV.bool) c79) (all_cons (show (0 : Int) ≤ ((i39 : Nat) : Int) ∧ ((i39 : Nat) : Int) < (x0.length : Int) from by omega) (all_cons (congrArg (AV.bool) c85) all_nil)))))) (by kernel_rfl)
        · have c87p := of_decide_eq_false c87
          refine t_lens 0 (ps := [x0.length ≤ 9223372036854775807]) (by kernel_rfl) (fun l95 => ?_)
          have l96 : x0.length ≤ 9223372036854775807 := by simpa only [All, List.length_map] using l95
          clear l95
          refine some_e H88 fun e97 => ?_
          subst e97
          exact p_bar Tryz.mo 13 [.rg 0 [] [.v, .v, .v, .e (.bool true)], .rg 0 [] [.v, .v, .v, .e (.bool false), .v, .v, .v, .v, .v, .v], .eqT 19 (.bool false), .rg 0 [] [.v, .v, .v]] [.only [0, 2, 3] []] (ref11_ElemVar_S1 x0 (i39 + 1) ()) (all_cons trivial (all_cons (congrArg (AV.bool) c71) (all_cons (show (0 : Int) ≤ ((i39 : Nat) : Int) ∧ ((i39 : Nat) : Int) < (x0.length : Int) from by omega) (all_cons (congrArg (AV.bool) c79) (all_cons (show (0 : Int) ≤ ((i39 : Nat) : Int) ∧ ((i39 : Nat) : Int) < (x0.length : Int) from by omega) (all_cons (congrArg (AV.bool) c87) (all_cons (show I64 (((i39 : Nat) : Int) + 1) from by unfold I64; omega) all_nil))))))) (by kernel_rfl)
  · subst e99
    have H100 := aft_brk H62
    refine bsp H100 (fun c111 H112 => ?_) (fun c113 H114 => ?_)
    · have c111p := of_decide_eq_true c111
      refine bsp H112 (fun c121 H122 => ?_) (fun c123 H124 => ?_)
      · have c121p := of_decide_eq_true c121
        refine grd_e H122 fun g125 H126 => ?_
        refine bsp H126 (fun c127 H128 => ?_) (fun c129 H130 => ?_)
        · have c127p := of_decide_eq_true c127
          refine some_e H128 fun e131 => ?_
          subst e131
          exact p_ret Tryz.mo 3 [.rg 0 [] [.v, .v, .e (.bool true), .v, .v, .v, .e (.bool true), .v, .v, .v, .v, .e (.bool true), .v, .v, .v, .v, .v, .v, .v]] [] [] (all_cons trivial (all_cons (congrArg (AV.bool) c111) (all_cons trivial (all_cons (congrArg (AV.bool) c121) (all_cons (show (0 : Int) ≤ 0 ∧ 0 < (x0.length : Int) from by omega) (all_cons (congrArg (AV.bool) c127) (all_cons (show (0 : Int) ≤ 0 ∧ 0 < (x0.length : Int) from by omega) all_nil))))))) (by kernel_rfl)
        · have c129p := of_decide_eq_false c129
          refine some_e H130 fun e132 => ?_
          subst e132
          exact p_ret Tryz.mo 3 [.rg 0 [] [.v, .v, .e (.bool true), .v, .v, .v, .e (.bool true), .v, .v, .v, .v, .e (.bool false), .v, .v, .s, .s, .s, .v, .v]] [] [] (all_cons trivial (all_cons (congrArg (AV.bool) c111) (all_cons trivial (all_cons (congrArg (AV.bool) c121) (all_cons (show (0 : Int) ≤ 0 ∧ 0 < (x0.length : Int) from by omega) (all_cons (congrArg (AV.bool) c129) all_nil)))))) (by kernel_rfl)
      · have c123p := of_decide_eq_false c123
        refine some_e H124 fun e133 => ?_
        subst e133
        exact p_ret Tryz.mo 3 [.rg 0 [] [.v, .v, .e (.bool true), .v, .v, .v, .e (.bool false), .v, .v, .s, .s, .s, .v, .v, .s, .s, .s, .v, .v]] [] [] (all_cons trivial (all_cons (congrArg (AV.bool) c111) (all_cons trivial (all_cons (congrArg (AV.bool) c123) all_nil)))) (by kernel_rfl)
    · have c113p := of_decide_eq_false c113
      refine some_e H114 fun e134 => ?_
      subst e134
      exact p_ret Tryz.mo 3 [.rg 0 [] [.v, .v, .e (.bool false), .v, .s, .s, .s, .v, .v, .s, .s, .s, .v, .v, .s, .s, .s, .v, .v]] [] [] (all_cons trivial (all_cons (congrArg (AV.bool) c113) all_nil)) (by kernel_rfl)
/-- framewise/framewiseref11.Elem -/
def ref11_Elem (x0 : Str) : Option Bool :=
  bif (x0 == [105, 110, 116]) then (
    some true
  ) else (
    bif (x0 == [98, 111, 111, 108]) then (
      some true
    ) else (
      (ref11_ElemVar x0).bind fun y21 =>
      some y21
    )
  )
theorem ref11_Elem_c (x0 : Str) (r : Bool) (H : ref11_Elem x0 = some r) : AFn Tryz.prog 159 [.str x0] (.bool r) := by
  unfold ref11_Elem at H
  refine acallX Tryz.func159 13 [.tmp 2] (by kernel_rfl) (by kernel_rfl) ?_
  refine bsp H (fun c8 H9 => ?_) (fun c10 H11 => ?_)
  · refine some_e H9 fun e12 => ?_
    subst e12
    exact p_ret Tryz.mo 5 [.rg 0 [] [.v], .rg 0 [] [.v, .e (.bool true), .v, .s, .s, .v, .v, .s, .s, .v, .v]] [] [] (all_cons (congrArg (AV.bool) c8) all_nil) (by kernel_rfl)
  · refine bsp H11 (fun c16 H17 => ?_) (fun c18 H19 => ?_)
    · refine some_e H17 fun e20 => ?_
      subst e20
      exact p_ret Tryz.mo 5 [.rg 0 [] [.v], .rg 0 [] [.v, .e (.bool false), .v, .v, .e (.bool true), .v, .v, .s, .s, .v, .v]] [] [] (all_cons (congrArg (AV.bool) c10) (all_cons (congrArg (AV.bool) c16) all_nil)) (by kernel_rfl)
    · refine bnd H19 fun y21 h22 H23 => ?_
      refine some_e H23 fun e24 => ?_
      subst e24
      exact p_ret Tryz.mo 5 [.rg 0 [] [.v], .rg 0 [] [.v, .e (.bool false), .v, .v, .e (.bool false), .v, .v, .v, .c true (.bool y21), .v, .v]] [] [] (all_cons (congrArg (AV.bool) c10) (all_cons (congrArg (AV.bool) c18) (all_cons Tryz.call34 (all_cons (AFn.is (ref11_ElemVar_c x0 y21 h22)) all_nil)))) (by kernel_rfl)
/-- framewise/framewiseref11.validBind -/
def ref11_validBind (x0 : Bind) : Option Bool :=
  ((
    bif (x0.Row.Row == []) then (
      some (decide (((x0.Row.Dims.length : Nat) : Int) > 0))
    ) else (
      some true
    )
  ) : Option Bool).bind fun v1 =>
  bif (x0.Kind == 1) then (
    (ref04_Name x0.Var).bind fun y139 =>
    bif y139 then (
      (ref04_Valid x0.Dim).bind fun y157 =>
      bif y157 then (
        bif v1 then (
          some false
        ) else (
          some (x0.Elem == [])
        )
      ) else (
        some false
      )
    ) else (
      some false
    )
  ) else (
    bif (x0.Kind == 2) then (
      (ref04_Name x0.Var).bind fun y268 =>
      bif y268 then (
        (ref11_Valid x0.Row).bind fun y289 =>
        bif y289 then (
          (ref11_zero x0.Dim).bind fun y303 =>
          bif y303 then (
            some (x0.Elem == [])
          ) else (
            some false
          )
        ) else (
          some false
        )
      ) else (
        some false
      )
    ) else (
      bif (x0.Kind == 3) then (
        (ref11_ElemVar x0.Var).bind fun y360 =>
        bif y360 then (
          (ref11_Elem x0.Elem).bind fun y381 =>
          bif y381 then (
            (ref11_zero x0.Dim).bind fun y395 =>
            bif y395 then (
              some (!v1)
            ) else (
              some false
            )
          ) else (
            some false
          )
        ) else (
          some false
        )
      ) else (
        some false
      )
    )
  )
def ref11_validBind_S1 (x0 : Bind) (v1 : Bool) : AS := ⟨75, [(1, .hptr 1 0), (2, .bool false), (3, .bool v1)], [(1, .cells 55 [.int .i64 x0.Kind, .str x0.Var, .int .i64 x0.Dim.Const, .dslice (x0.Dim.Terms.map cCoef), .str x0.Row.Row, .dslice (x0.Row.Dims.map cLinear), .str x0.Elem])]⟩
theorem ref11_validBind_c (x0 : Bind) (r : Bool) (H : ref11_validBind x0 = some r) : AFn Tryz.prog 98 [.agg [.int .i64 x0.Kind, .str x0.Var, .int .i64 x0.Dim.Const, .dslice (x0.Dim.Terms.map cCoef), .str x0.Row.Row, .dslice (x0.Row.Dims.map cLinear), .str x0.Elem]] (.bool r) := by
  unfold ref11_validBind at H
  refine acallX Tryz.func98 75 [.tmp 2] (by kernel_rfl) (by kernel_rfl) ?_
  refine p_at Tryz.mo 3 [.rg 0 [] [.m, .v]] [.only [1, 2] [1]] 3 [] ⟨75, [(1, .hptr 1 0), (2, .bool false)], [(1, .cells 55 [.int .i64 x0.Kind, .str x0.Var, .int .i64 x0.Dim.Const, .dslice (x0.Dim.Terms.map cCoef), .str x0.Row.Row, .dslice (x0.Row.Dims.map cLinear), .str x0.Elem])]⟩ all_nil (by kernel_rfl) ?_
  refine bnd H fun v1 h2 H3 => ?_
  refine p_join 0 (ref11_validBind_S1 x0 v1) (by kernel_rfl) ?_ ?_
  · refine bsp h2 (fun c4 H5 => ?_) (fun c6 H7 => ?_)
    · refine some_e H5 fun e8 => ?_
      subst e8
      exact p_bar Tryz.mo 1 [.rg 0 [] [.v, .v, .v, .e (.bool false), .v, .v, .v, .v, .e (.int .i64 ((x0.Row.Dims.length : Nat) : Int)), .v, .v, .v]] [.only [1, 2, 3] [1]] (ref11_validBind_S1 x0 (decide (((x0.Row.Dims.length : Nat) : Int) > 0))) (all_cons (congrArg (fun x => AV.bool (!x)) c4) (all_cons trivial (all_cons (lenm cLinear x0.Row.Dims) all_nil))) (by kernel_rfl)
    · refine some_e H7 fun e9 => ?_
      subst e9
      exact p_bar Tryz.mo 1 [.rg 0 [] [.v, .v, .v, .e (.bool true), .v, .s, .s, .s, .s, .s, .v, .v]] [.only [1, 2, 3] [1]] (ref11_validBind_S1 x0 true) (all_cons (congrArg (fun x => AV.bool (!x)) c6) all_nil) (by kernel_rfl)
  · refine bsp H3 (fun c135 H136 => ?_) (fun c137 H138 => ?_)
    · refine bnd H136 fun y139 h140 H141 => ?_
      refine bsp H141 (fun c153 H154 => ?_) (fun c155 H156 => ?_)
      · refine bnd H154 fun y157 h158 H159 => ?_
        refine bsp H159 (fun c164 H165 => ?_) (fun c166 H167 => ?_)
        · refine bsp H165 (fun c168 H169 => ?_) (fun c170 H171 => ?_)
          · refine some_e H169 fun e172 => ?_
            subst e172
            exact p_ret Tryz.mo 12 [.rg 0 [] [.v, .v], .rg 0 [] [.v, .v], .eqT 17 (.bool true), .eqT 3 (.bool true), .rg 0 [] [.v, .v, .c true (.bool true), .v, .v, .v, .c true (.bool true), .v, .v, .v, .v, .v, .v, .s, .s, .s, .v, .v]] [] [] (all_cons (congrArg (AV.bool) c135) (all_cons (congrArg (AV.bool) c168) (all_cons Tryz.call93 (all_cons (AFn.eq (ref04_Name_c x0.Var y139 h140) (congrArg (AV.bool) c153)) (all_cons Tryz.call92 (all_cons (AFn.eq (ref04_Valid_c x0.Dim y157 h158) (congrArg (AV.bool) c164)) (all_cons trivial all_nil))))))) (by kernel_rfl)
          · refine some_e H171 fun e173 => ?_
            subst e173
            exact p_ret Tryz.mo 12 [.rg 0 [] [.v, .v], .rg 0 [] [.v, .v], .eqT 17 (.bool true), .eqT 3 (.bool false), .rg 0 [] [.v, .v, .c true (.bool true), .v, .v, .v, .c true (.bool true), .v, .v, .v, .v, .v, .v, .v, .v, .v, .v, .v]] [] [] (all_cons (congrArg (AV.bool) c135) (all_cons (congrArg (AV.bool) c170) (all_cons Tryz.call93 (all_cons (AFn.eq (ref04_Name_c x0.Var y139 h140) (congrArg (AV.bool) c153)) (all_cons Tryz.call92 (all_cons (AFn.eq (ref04_Valid_c x0.Dim y157 h158) (congrArg (AV.bool) c164)) (all_cons trivial all_nil))))))) (by kernel_rfl)
        · refine some_e H167 fun e174 => ?_
          subst e174
          exact p_ret Tryz.mo 11 [.rg 0 [] [.v, .v], .rg 0 [] [.v, .v], .eqT 17 (.bool true), .rg 0 [] [.v, .v, .c true (.bool true), .v, .v, .v, .c true (.bool false), .v, .v, .s, .s, .v, .v, .s, .s, .s, .v, .v]] [] [] (all_cons (congrArg (AV.bool) c135) (all_cons Tryz.call93 (all_cons (AFn.eq (ref04_Name_c x0.Var y139 h140) (congrArg (AV.bool) c153)) (all_cons Tryz.call92 (all_cons (AFn.eq (ref04_Valid_c x0.Dim y157 h158) (congrArg (AV.bool) c166)) all_nil))))) (by kernel_rfl)
      · refine some_e H156 fun e175 => ?_
        subst e175
        exact p_ret Tryz.mo 11 [.rg 0 [] [.v, .v], .rg 0 [] [.v, .v], .eqT 17 (.bool true), .rg 0 [] [.v, .v, .c true (.bool false), .v, .s, .s, .s, .v, .v, .s, .s, .v, .v, .s, .s, .s, .v, .v]] [] [] (all_cons (congrArg (AV.bool) c135) (all_cons Tryz.call93 (all_cons (AFn.eq (ref04_Name_c x0.Var y139 h140) (congrArg (AV.bool) c155)) all_nil))) (by kernel_rfl)
    · refine bsp H138 (fun c264 H265 => ?_) (fun c266 H267 => ?_)
      · refine bnd H265 fun y268 h269 H270 => ?_
        refine bsp H270 (fun c285 H286 => ?_) (fun c287 H288 => ?_)
        · refine bnd H286 fun y289 h290 H291 => ?_
          refine bsp H291 (fun c299 H300 => ?_) (fun c301 H302 => ?_)
          · refine bnd H300 fun y303 h304 H305 => ?_
            refine bsp H305 (fun c306 H307 => ?_) (fun c308 H309 => ?_)
            · refine some_e H307 fun e310 => ?_
              subst e310
              exact p_ret Tryz.mo 15 [.rg 0 [] [.v, .v], .rg 0 [] [.v, .v], .eqT 17 (.bool false), .rg 0 [] [.v, .v], .eqT 36 (.bool true), .rg 0 [] [.v, .v, .c true (.bool true), .v, .v, .v, .c true (.bool true), .v, .v, .v, .v, .c true (.bool true), .v, .v, .v, .v, .v, .v, .v]] [] [] (all_cons (congrArg (AV.bool) c137) (all_cons (congrArg (AV.bool) c264) (all_cons Tryz.call93 (all_cons (AFn.eq (ref04_Name_c x0.Var y268 h269) (congrArg (AV.bool) c285)) (all_cons Tryz.call27 (all_cons (AFn.eq (ref11_Valid_c x0.Row y289 h290) (congrArg (AV.bool) c299)) (all_cons Tryz.call158 (all_cons (AFn.eq (ref11_zero_c x0.Dim y303 h304) (congrArg (AV.bool) c306)) all_nil)))))))) (by kernel_rfl)
            · refine some_e H309 fun e311 => ?_
              subst e311
              exact p_ret Tryz.mo 15 [.rg 0 [] [.v, .v], .rg 0 [] [.v, .v], .eqT 17 (.bool false), .rg 0 [] [.v, .v], .eqT 36 (.bool true), .rg 0 [] [.v, .v, .c true (.bool true), .v, .v, .v, .c true (.bool true), .v, .v, .v, .v, .c true (.bool false), .v, .v, .s, .s, .s, .v, .v]] [] [] (all_cons (congrArg (AV.bool) c137) (all_cons (congrArg (AV.bool) c264) (all_cons Tryz.call93 (all_cons (AFn.eq (ref04_Name_c x0.Var y268 h269) (congrArg (AV.bool) c285)) (all_cons Tryz.call27 (all_cons (AFn.eq (ref11_Valid_c x0.Row y289 h290) (congrArg (AV.bool) c299)) (all_cons Tryz.call158 (all_cons (AFn.eq (ref11_zero_c x0.Dim y303 h304) (congrArg (AV.bool) c308)) all_nil)))))))) (by kernel_rfl)
          · refine some_e H302 fun e312 => ?_
            subst e312
            exact p_ret Tryz.mo 15 [.rg 0 [] [.v, .v], .rg 0 [] [.v, .v], .eqT 17 (.bool false), .rg 0 [] [.v, .v], .eqT 36 (.bool true), .rg 0 [] [.v, .v, .c true (.bool true), .v, .v, .v, .c true (.bool false), .v, .v, .s, .s, .s, .v, .v, .s, .s, .s, .v, .v]] [] [] (all_cons (congrArg (AV.bool) c137) (all_cons (congrArg (AV.bool) c264) (all_cons Tryz.call93 (all_cons (AFn.eq (ref04_Name_c x0.Var y268 h269) (congrArg (AV.bool) c285)) (all_cons Tryz.call27 (all_cons (AFn.eq (ref11_Valid_c x0.Row y289 h290) (congrArg (AV.bool) c301)) all_nil)))))) (by kernel_rfl)
        · refine some_e H288 fun e313 => ?_
          subst e313
          exact p_ret Tryz.mo 15 [.rg 0 [] [.v, .v], .rg 0 [] [.v, .v], .eqT 17 (.bool false), .rg 0 [] [.v, .v], .eqT 36 (.bool true), .rg 0 [] [.v, .v, .c true (.bool false), .v, .s, .s, .s, .v, .v, .s, .s, .s, .v, .v, .s, .s, .s, .v, .v]] [] [] (all_cons (congrArg (AV.bool) c137) (all_cons (congrArg (AV.bool) c264) (all_cons Tryz.call93 (all_cons (AFn.eq (ref04_Name_c x0.Var y268 h269) (congrArg (AV.bool) c287)) all_nil)))) (by kernel_rfl)
      · refine bsp H267 (fun c356 H357 => ?_) (fun c358 H359 => ?_)
        · refine bnd H357 fun y360 h361 H362 => ?_
          refine bsp H362 (fun c377 H378 => ?_) (fun c379 H380 => ?_)
          · refine bnd H378 fun y381 h382 H383 => ?_
            refine bsp H383 (fun c391 H392 => ?_) (fun c393 H394 => ?_)
            · refine bnd H392 fun y395 h396 H397 => ?_
              refine bsp H397 (fun c398 H399 => ?_) (fun c400 H401 => ?_)
              · refine some_e H399 fun e402 => ?_
                subst e402
                exact p_ret Tryz.mo 19 [.rg 0 [] [.v, .v], .rg 0 [] [.v, .v], .eqT 17 (.bool false), .rg 0 [] [.v, .v], .eqT 36 (.bool false), .rg 0 [] [.v, .v], .eqT 56 (.bool true), .rg 0 [] [.v, .v, .c true (.bool true), .v, .v, .v, .c true (.bool true), .v, .v, .v, .v, .c true (.bool true), .v, .v, .v, .v, .v, .v]] [] [] (all_cons (congrArg (AV.bool) c137) (all_cons (congrArg (AV.bool) c266) (all_cons (congrArg (AV.bool) c356) (all_cons Tryz.call34 (all_cons (AFn.eq (ref11_ElemVar_c x0.Var y360 h361) (congrArg (AV.bool) c377)) (all_cons Tryz.call159 (all_cons (AFn.eq (ref11_Elem_c x0.Elem y381 h382) (congrArg (AV.bool) c391)) (all_cons Tryz.call158 (all_cons (AFn.eq (ref11_zero_c x0.Dim y395 h396) (congrArg (AV.bool) c398)) (all_cons trivial all_nil)))))))))) (by kernel_rfl)
              · refine some_e H401 fun e403 => ?_
                subst e403
                exact p_ret Tryz.mo 19 [.rg 0 [] [.v, .v], .rg 0 [] [.v, .v], .eqT 17 (.bool false), .rg 0 [] [.v, .v], .eqT 36 (.bool false), .rg 0 [] [.v, .v], .eqT 56 (.bool true), .rg 0 [] [.v, .v, .c true (.bool true), .v, .v, .v, .c true (.bool true), .v, .v, .v, .v, .c true (.bool false), .v, .v, .s, .s, .v, .v]] [] [] (all_cons (congrArg (AV.bool) c137) (all_cons (congrArg (AV.bool) c266) (all_cons (congrArg (AV.bool) c356) (all_cons Tryz.call34 (all_cons (AFn.eq (ref11_ElemVar_c x0.Var y360 h361) (congrArg (AV.bool) c377)) (all_cons Tryz.call159 (all_cons (AFn.eq (ref11_Elem_c x0.Elem y381 h382) (congrArg (AV.bool) c391)) (all_cons Tryz.call158 (all_cons (AFn.eq (ref11_zero_c x0.Dim y395 h396) (congrArg (AV.bool) c400)) all_nil))))))))) (by kernel_rfl)
            · refine some_e H394 fun e404 => ?_
              subst e404
              exact p_ret Tryz.mo 19 [.rg 0 [] [.v, .v], .rg 0 [] [.v, .v], .eqT 17 (.bool false), .rg 0 [] [.v, .v], .eqT 36 (.bool false), .rg 0 [] [.v, .v], .eqT 56 (.bool true), .rg 0 [] [.v, .v, .c true (.bool true), .v, .v, .v, .c true (.bool false), .v, .v, .s, .s, .s, .v, .v, .s, .s, .v, .v]] [] [] (all_cons (congrArg (AV.bool) c137) (all_cons (congrArg (AV.bool) c266) (all_cons (congrArg (AV.bool) c356) (all_cons Tryz.call34 (all_cons (AFn.eq (ref11_ElemVar_c x0.Var y360 h361) (congrArg (AV.bool) c377)) (all_cons Tryz.call159 (all_cons (AFn.eq (ref11_Elem_c x0.Elem y381 h382) (congrArg (AV.bool) c393)) all_nil))))))) (by kernel_rfl)
          · refine some_e H380 fun e405 => ?_
            subst e405
            exact p_ret Tryz.mo 19 [.rg 0 [] [.v, .v], .rg 0 [] [.v, .v], .eqT 17 (.bool false), .rg 0 [] [.v, .v], .eqT 36 (.bool false), .rg 0 [] [.v, .v], .eqT 56 (.bool true), .rg 0 [] [.v, .v, .c true (.bool false), .v, .s, .s, .s, .v, .v, .s, .s, .s, .v, .v, .s, .s, .v, .v]] [] [] (all_cons (congrArg (AV.bool) c137) (all_cons (congrArg (AV.bool) c266) (all_cons (congrArg (AV.bool) c356) (all_cons Tryz.call34 (all_cons (AFn.eq (ref11_ElemVar_c x0.Var y360 h361) (congrArg (AV.bool) c379)) all_nil))))) (by kernel_rfl)
        · refine some_e H359 fun e406 => ?_
          subst e406
          exact p_ret Tryz.mo 20 [.rg 0 [] [.v, .v], .rg 0 [] [.v, .v], .eqT 17 (.bool false), .rg 0 [] [.v, .v], .eqT 36 (.bool false), .rg 0 [] [.v, .v], .eqT 56 (.bool false), .rg 0 [] [.v]] [] [] (all_cons (congrArg (AV.bool) c137) (all_cons (congrArg (AV.bool) c266) (all_cons (congrArg (AV.bool) c358) all_nil))) (by kernel_rfl)
/-- framewise/framewiseref11.ValidBinds -/
def ref11_ValidBinds (x0 : (List Bind)) : Option Bool :=
  (cnt (σ := Unit) (ε := Unit) (ρ := Bool) (fun i57 s56 =>
    (ref11_validBind (Bind.mk ((x0.getD i57 (⟨0, [], ⟨0, []⟩, ⟨[], []⟩, []⟩)).Kind) ((x0.getD i57 (⟨0, [], ⟨0, []⟩, ⟨[], []⟩, []⟩)).Var) (Linear.mk (((x0.getD i57 (⟨0, [], ⟨0, []⟩, ⟨[], []⟩, []⟩)).Dim).Const) (((x0.getD i57 (⟨0, [], ⟨0, []⟩, ⟨[], []⟩, []⟩)).Dim).Terms)) (Shape.mk (((x0.getD i57 (⟨0, [], ⟨0, []⟩, ⟨[], []⟩, []⟩)).Row).Row) (((x0.getD i57 (⟨0, [], ⟨0, []⟩, ⟨[], []⟩, []⟩)).Row).Dims)) ((x0.getD i57 (⟨0, [], ⟨0, []⟩, ⟨[], []⟩, []⟩)).Elem))).bind fun y100 =>
    bif y100 then (
      (ref11_Find (x0.take i57) ((x0.getD i57 (⟨0, [], ⟨0, []⟩, ⟨[], []⟩, []⟩)).Kind) ((x0.getD i57 (⟨0, [], ⟨0, []⟩, ⟨[], []⟩, []⟩)).Var)).bind fun y114 =>
      bif decide (y114 ≥ 0) then (
        some (.ret false)
      ) else (
        some (.go ())
      )
    ) else (
      some (.ret false)
    )
  ) (fun i57 s56 => ()) (x0.length - 0) 0 ()).bind <| aft fun u134 =>
  some true
def ref11_ValidBinds_S1 (x0 : (List Bind)) (i57 : Nat) (s56 : Unit) : AS := ⟨33, [(0, .dslice (x0.map cBind)), (2, .bool false), (3, .int .i64 ((i57 : Nat) : Int))], []⟩
def ref11_ValidBinds_S2 (u90 : Unit) : AS := ⟨33, [(2, .bool false)], []⟩
theorem ref11_ValidBinds_c (x0 : (List Bind)) (r : Bool) (H : ref11_ValidBinds x0 = some r) : AFn Tryz.prog 32 [.dslice (x0.map cBind)] (.bool r) := by
  unfold ref11_ValidBinds at H
  refine acallX Tryz.func32 33 [.tmp 2] (by kernel_rfl) (by kernel_rfl) ?_
  refine p_at Tryz.mo 6 [.rg 0 [] [.v], .rg 0 [] [.v]] [.only [0, 2, 3] []] 6 [] (ref11_ValidBinds_S1 x0 0 ()) all_nil (by kernel_rfl) ?_
  refine bnd H fun R87 h88 H89 => ?_
  refine p_joinO 1 (ref11_ValidBinds_S2) R87 (by kernel_rfl) ?_ (fun u134 e135 => ?_)
  · refine p_cnt (ref11_ValidBinds_S1 x0) (by kernel_rfl) h88 (fun i57 s56 h91 e92 => ?_) (fun i57 s56 h99 q95 h96 h97 => ?_)
    · have c93 : decide (((i57 : Nat) : Int) < ((x0.length : Nat) : Int)) = false := decide_eq_false (by omega)
      subst e92
      exact p_bar Tryz.mo 5 [.rg 0 [] [.v, .v, .e (.int .i64 ((x0.length : Nat) : Int)), .e (.bool false)]] [.only [2] []] (ref11_ValidBinds_S2 ()) (all_cons trivial (all_cons (lenm cBind x0) (all_cons (congrArg (AV.bool) c93) all_nil))) (by kernel_rfl)
    · have c98 : decide (((i57 : Nat) : Int) < ((x0.length : Nat) : Int)) = true := decide_eq_true (by omega)
      refine bnd h96 fun y100 h101 H102 => ?_
      refine bsp H102 (fun c110 H111 => ?_) (fun c112 H113 => ?_)
      · refine bnd H111 fun y114 h115 H116 => ?_
        refine bsp H116 (fun c117 H118 => ?_) (fun c119 H120 => ?_)
        · have c117p := of_decide_eq_true c117
          refine some_e H118 fun e121 => ?_
          subst e121
          have e122 := out_ret h97
          subst e122
          have H123 := aft_ret H89
          refine some_e H123 fun e124 => ?_
          subst e124
          exact p_ret Tryz.mo 14 [.rg 0 [] [.v, .v, .e (.int .i64 ((x0.length : Nat) : Int)), .e (.bool true)], .rg 20 [.v, .v, .e (.dptr [.int .i64 ((x0.getD i57 (⟨0, [], ⟨0, []⟩, ⟨[], []⟩, []⟩)).Kind), .str ((x0.getD i57 (⟨0, [], ⟨0, []⟩, ⟨[], []⟩, []⟩)).Var), .int .i64 (((x0.getD i57 (⟨0, [], ⟨0, []⟩, ⟨[], []⟩, []⟩)).Dim).Const), .dslice ((((x0.getD i57 (⟨0, [], ⟨0, []⟩, ⟨[], []⟩, []⟩)).Dim).Terms).map cCoef), .str (((x0.getD i57 (⟨0, [], ⟨0, []⟩, ⟨[], []⟩, []⟩)).Row).Row), .dslice ((((x0.getD i57 (⟨0, [], ⟨0, []⟩, ⟨[], []⟩, []⟩)).Row).Dims).map cLinear), .str ((x0.getD i57 (⟨0, [], ⟨0, []⟩, ⟨[], []⟩, []⟩)).Elem)]), .v, .c true (.bool true), .v, .v, .v, .v, .e (.dslice ((x0.take i57).map cBind)), .v, .v, .e (.dptr [.int .i64 ((x0.getD i57 (⟨0, [], ⟨0, []⟩, ⟨[], []⟩, []⟩)).Kind), .str ((x0.getD i57 (⟨0, [], ⟨0, []⟩, ⟨[], []⟩, []⟩)).Var), .int .i64 (((x0.getD i57 (⟨0, [], ⟨0, []⟩, ⟨[], []⟩, []⟩)).Dim).Const), .dslice ((((x0.getD i57 (⟨0, [], ⟨0, []⟩, ⟨[], []⟩, []⟩)).Dim).Terms).map cCoef), .str (((x0.getD i57 (⟨0, [], ⟨0, []⟩, ⟨[], []⟩, []⟩)).Row).Row), .dslice ((((x0.getD i57 (⟨0, [], ⟨0, []⟩, ⟨[], []⟩, []⟩)).Row).Dims).map cLinear), .str ((x0.getD i57 (⟨0, [], ⟨0, []⟩, ⟨[], []⟩, []⟩)).Elem)]), .v, .v, .v, .v, .e (.dptr [.int .i64 ((x0.getD i57 (⟨0, [], ⟨0, []⟩, ⟨[], []⟩, []⟩)).Kind), .str ((x0.getD i57 (⟨0, [], ⟨0, []⟩, ⟨[], []⟩, []⟩)).Var), .int .i64 (((x0.getD i57 (⟨0, [], ⟨0, []⟩, ⟨[], []⟩, []⟩)).Dim).Const), .dslice ((((x0.getD i57 (⟨0, [], ⟨0, []⟩, ⟨[], []⟩, []⟩)).Dim).Terms).map cCoef), .str (((x0.getD i57 (⟨0, [], ⟨0, []⟩, ⟨[], []⟩, []⟩)).Row).Row), .dslice ((((x0.getD i57 (⟨0, [], ⟨0, []⟩, ⟨[], []⟩, []⟩)).Row).Dims).map cLinear), .str ((x0.getD i57 (⟨0, [], ⟨0, []⟩, ⟨[], []⟩, []⟩)).Elem)]), .v, .v] [.c true (.int .i64 y114), .v, .v], .eqT 32 (.bool true), .rg 0 [] [.v]] [] [] (all_cons trivial (all_cons (lenm cBind x0) (all_cons (congrArg (AV.bool) c98) (all_app (ix (f := cBind) (l := x0) (n := i57) (⟨0, [], ⟨0, []⟩, ⟨[], []⟩, []⟩) cBind_len (by decide) (by omega)) (all_cons Tryz.call98 (all_cons (AFn.eq (ref11_validBind_c (Bind.mk ((x0.getD i57 (⟨0, [], ⟨0, []⟩, ⟨[], []⟩, []⟩)).Kind) ((x0.getD i57 (⟨0, [], ⟨0, []⟩, ⟨[], []⟩, []⟩)).Var) (Linear.mk (((x0.getD i57 (⟨0, [], ⟨0, []⟩, ⟨[], []⟩, []⟩)).Dim).Const) (((x0.getD i57 (⟨0, [], ⟨0, []⟩, ⟨[], []⟩, []⟩)).Dim).Terms)) (Shape.mk (((x0.getD i57 (⟨0, [], ⟨0, []⟩, ⟨[], []⟩, []⟩)).Row).Row) (((x0.getD i57 (⟨0, [], ⟨0, []⟩, ⟨[], []⟩, []⟩)).Row).Dims)) ((x0.getD i57 (⟨0, [], ⟨0, []⟩, ⟨[], []⟩, []⟩)).Elem)) y100 h101) (congrArg (AV.bool) c110)) (all_cons trivial (all_cons (show ((0 : Int) ≤ 0 ∧ 0 ≤ ((i57 : Nat) : Int) ∧ ((i57 : Nat) : Int) ≤ ((x0.map cBind).length : Int)) ∧ UL 7 (x0.map cBind) from ⟨by first | omega | (simp only [List.length_map]; omega), UL.map cBind_len _⟩) (all_cons (slm_take cBind x0 i57) (all_app (ix (f := cBind) (l := x0) (n := i57) (⟨0, [], ⟨0, []⟩, ⟨[], []⟩, []⟩) cBind_len (by decide) (by omega)) (all_app (ix (f := cBind) (l := x0) (n := i57) (⟨0, [], ⟨0, []⟩, ⟨[], []⟩, []⟩) cBind_len (by decide) (by omega)) (all_cons Tryz.call38 (all_cons (AFn.is (ref11_Find_c (x0.take i57) ((x0.getD i57 (⟨0, [], ⟨0, []⟩, ⟨[], []⟩, []⟩)).Kind) ((x0.getD i57 (⟨0, [], ⟨0, []⟩, ⟨[], []⟩, []⟩)).Var) y114 h115)) (all_cons (congrArg (AV.bool) c117) all_nil)))))))))))))) (by kernel_rfl)
        · have c119p := of_decide_eq_false c119
          refine t_lens 0 (ps := [(x0.map cBind).length ≤ 9223372036854775807]) (by kernel_rfl) (fun l127 => ?_)
          have l128 : x0.length ≤ 9223372036854775807 := by simpa only [All, List.length_map] using l127
          clear l127
          refine some_e H120 fun e129 => ?_
          subst e129
          exact p_bar Tryz.mo 13 [.rg 0 [] [.v, .v, .e (.int .i64 ((x0.length : Nat) : Int)), .e (.bool true)], .rg 20 [.v, .v, .e (.dptr [.int .i64 ((x0.getD i57 (⟨0, [], ⟨0, []⟩, ⟨[], []⟩, []⟩)).Kind), .str ((x0.getD i57 (⟨0, [], ⟨0, []⟩, ⟨[], []⟩, []⟩)).Var), .int .i64 (((x0.getD i57 (⟨0, [], ⟨0, []⟩, ⟨[], []⟩, []⟩)).Dim).Const), .dslice ((((x0.getD i57 (⟨0, [], ⟨0, []⟩, ⟨[], []⟩, []⟩)).Dim).Terms).map cCoef), .str (((x0.getD i57 (⟨0, [], ⟨0, []⟩, ⟨[], []⟩, []⟩)).Row).Row), .dslice ((((x0.getD i57 (⟨0, [], ⟨0, []⟩, ⟨[], []⟩, []⟩)).Row).Dims).map cLinear), .str ((x0.getD i57 (⟨0, [], ⟨0, []⟩, ⟨[], []⟩, []⟩)).Elem)]), .v, .c true (.bool true), .v, .v, .v, .v, .e (.dslice ((x0.take i57).map cBind)), .v, .v, .e (.dptr [.int .i64 ((x0.getD i57 (⟨0, [], ⟨0, []⟩, ⟨[], []⟩, []⟩)).Kind), .str ((x0.getD i57 (⟨0, [], ⟨0, []⟩, ⟨[], []⟩, []⟩)).Var), .int .i64 (((x0.getD i57 (⟨0, [], ⟨0, []⟩, ⟨[], []⟩, []⟩)).Dim).Const), .dslice ((((x0.getD i57 (⟨0, [], ⟨0, []⟩, ⟨[], []⟩, []⟩)).Dim).Terms).map cCoef), .str (((x0.getD i57 (⟨0, [], ⟨0, []⟩, ⟨[], []⟩, []⟩)).Row).Row), .dslice ((((x0.getD i57 (⟨0, [], ⟨0, []⟩, ⟨[], []⟩, []⟩)).Row).Dims).map cLinear), .str ((x0.getD i57 (⟨0, [], ⟨0, []⟩, ⟨[], []⟩, []⟩)).Elem)]), .v, .v, .v, .v, .e (.dptr [.int .i64 ((x0.getD i57 (⟨0, [], ⟨0, []⟩, ⟨[], []⟩, []⟩)).Kind), .str ((x0.getD i57 (⟨0, [], ⟨0, []⟩, ⟨[], []⟩, []⟩)).Var), .int .i64 (((x0.getD i57 (⟨0, [], ⟨0, []⟩, ⟨[], []⟩, []⟩)).Dim).Const), .dslice ((((x0.getD i57 (⟨0, [], ⟨0, []⟩, ⟨[], []⟩, []⟩)).Dim).Terms).map cCoef), .str (((x0.getD i57 (⟨0, [], ⟨0, []⟩, ⟨[], []⟩, []⟩)).Row).Row), .dslice ((((x0.getD i57 (⟨0, [], ⟨0, []⟩, ⟨[], []⟩, []⟩)).Row).Dims).map cLinear), .str ((x0.getD i57 (⟨0, [], ⟨0, []⟩, ⟨[], []⟩, []⟩)).Elem)]), .v, .v] [.c true (.int .i64 y114), .v, .v], .eqT 32 (.bool false), .rg 0 [] [.v, .v, .v]] [.only [0, 2, 3] []] (ref11_ValidBinds_S1 x0 (i57 + 1) ()) (all_cons trivial (all_cons (lenm cBind x0) (all_cons (congrArg (AV.bool) c98) (all_app (ix (f := cBind) (l := x0) (n := i57) (⟨0, [], ⟨0, []⟩, ⟨[], []⟩, []⟩) cBind_len (by decide) (by omega)) (all_cons Tryz.call98 (all_cons (AFn.eq (ref11_validBind_c (Bind.mk ((x0.getD i57 (⟨0, [], ⟨0, []⟩, ⟨[], []⟩, []⟩)).Kind) ((x0.getD i57 (⟨0, [], ⟨0, []⟩, ⟨[], []⟩, []⟩)).Var) (Linear.mk (((x0.getD i57 (⟨0, [], ⟨0, []⟩, ⟨[], []⟩, []⟩)).Dim).Const) (((x0.getD i57 (⟨0, [], ⟨0, []⟩, ⟨[], []⟩, []⟩)).Dim).Terms)) (Shape.mk (((x0.getD i57 (⟨0, [], ⟨0, []⟩, ⟨[], []⟩, []⟩)).Row).Row) (((x0.getD i57 (⟨0, [], ⟨0, []⟩, ⟨[], []⟩, []⟩)).Row).Dims)) ((x0.getD i57 (⟨0, [], ⟨0, []⟩, ⟨[], []⟩, []⟩)).Elem)) y100 h101) (congrArg (AV.bool) c110)) (all_cons trivial (all_cons (show ((0 : Int) ≤ 0 ∧ 0 ≤ ((i57 : Nat) : Int) ∧ ((i57 : Nat) : Int) ≤ ((x0.map cBind).length : Int)) ∧ UL 7 (x0.map cBind) from ⟨by first | omega | (simp only [List.length_map]; omega), UL.map cBind_len _⟩) (all_cons (slm_take cBind x0 i57) (all_app (ix (f := cBind) (l := x0) (n := i57) (⟨0, [], ⟨0, []⟩, ⟨[], []⟩, []⟩) cBind_len (by decide) (by omega)) (all_app (ix (f := cBind) (l := x0) (n := i57) (⟨0, [], ⟨0, []⟩, ⟨[], []⟩, []⟩) cBind_len (by decide) (by omega)) (all_cons Tryz.call38 (all_cons (AFn.is (ref11_Find_c (x0.take i57) ((x0.getD i57 (⟨0, [], ⟨0, []⟩, ⟨[], []⟩, []⟩)).Kind) ((x0.getD i57 (⟨0, [], ⟨0, []⟩, ⟨[], []⟩, []⟩)).Var) y114 h115)) (all_cons (congrArg (AV.bool) c119) (all_cons (show I64 (((i57 : Nat) : Int) + 1) from by unfold I64; omega) all_nil))))))))))))))) (by kernel_rfl)
      · refine some_e H113 fun e130 => ?_
        subst e130
        have e131 := out_ret h97
        subst e131
        have H132 := aft_ret H89
        refine some_e H132 fun e133 => ?_
        subst e133
        exact p_ret Tryz.mo 13 [.rg 0 [] [.v, .v, .e (.int .i64 ((x0.length : Nat) : Int)), .e (.bool true)], .rg 20 [.v, .v, .e (.dptr [.int .i64 ((x0.getD i57 (⟨0, [], ⟨0, []⟩, ⟨[], []⟩, []⟩)).Kind), .str ((x0.getD i57 (⟨0, [], ⟨0, []⟩, ⟨[], []⟩, []⟩)).Var), .int .i64 (((x0.getD i57 (⟨0, [], ⟨0, []⟩, ⟨[], []⟩, []⟩)).Dim).Const), .dslice ((((x0.getD i57 (⟨0, [], ⟨0, []⟩, ⟨[], []⟩, []⟩)).Dim).Terms).map cCoef), .str (((x0.getD i57 (⟨0, [], ⟨0, []⟩, ⟨[], []⟩, []⟩)).Row).Row), .dslice ((((x0.getD i57 (⟨0, [], ⟨0, []⟩, ⟨[], []⟩, []⟩)).Row).Dims).map cLinear), .str ((x0.getD i57 (⟨0, [], ⟨0, []⟩, ⟨[], []⟩, []⟩)).Elem)]), .v, .c true (.bool false), .v, .v, .s, .s, .s, .s, .s, .s, .s, .s, .s, .s, .s, .s, .s] [.s, .s, .v], .rg 0 [] [.v]] [] [] (all_cons trivial (all_cons (lenm cBind x0) (all_cons (congrArg (AV.bool) c98) (all_app (ix (f := cBind) (l := x0) (n := i57) (⟨0, [], ⟨0, []⟩, ⟨[], []⟩, []⟩) cBind_len (by decide) (by omega)) (all_cons Tryz.call98 (all_cons (AFn.eq (ref11_validBind_c (Bind.mk ((x0.getD i57 (⟨0, [], ⟨0, []⟩, ⟨[], []⟩, []⟩)).Kind) ((x0.getD i57 (⟨0, [], ⟨0, []⟩, ⟨[], []⟩, []⟩)).Var) (Linear.mk (((x0.getD i57 (⟨0, [], ⟨0, []⟩, ⟨[], []⟩, []⟩)).Dim).Const) (((x0.getD i57 (⟨0, [], ⟨0, []⟩, ⟨[], []⟩, []⟩)).Dim).Terms)) (Shape.mk (((x0.getD i57 (⟨0, [], ⟨0, []⟩, ⟨[], []⟩, []⟩)).Row).Row) (((x0.getD i57 (⟨0, [], ⟨0, []⟩, ⟨[], []⟩, []⟩)).Row).Dims)) ((x0.getD i57 (⟨0, [], ⟨0, []⟩, ⟨[], []⟩, []⟩)).Elem)) y100 h101) (congrArg (AV.bool) c112)) (all_cons trivial all_nil))))))) (by kernel_rfl)
  · subst e135
    have H136 := aft_brk H89
    refine some_e H136 fun e137 => ?_
    subst e137
    exact p_ret Tryz.mo 3 [.rg 0 [] [.v]] [] [] all_nil (by kernel_rfl)
/-- framewise/framewiselaw11.ShapeForms -/
noncomputable def law11_ShapeForms (x0 : Shape) (x1 : Shape) (x2 : Framewiselaw11_Forms) : Option Bool :=
  (law11_awake).bind fun y1 =>
  bif y1 then (
    (ref11_Few x0).bind fun y48 =>
    bif y48 then (
      (ref11_Few x1).bind fun y85 =>
      bif y85 then (
        (ref11_FewBinds x2.Binds).bind fun y112 =>
        bif y112 then (
          bif decide (((x2.Text.length : Nat) : Int) > 60) then (
            (law11_awake).bind fun y136 =>
            some y136
          ) else (
            (shape_Rank x0).bind fun y140 =>
            (ref11_Rank x0).bind fun y143 =>
            (shape_Valid x0).bind fun y146 =>
            (ref11_Valid x0).bind fun y149 =>
            bif (y146 == y149) then (
              bif (y140.1 == y143.1) then (
                bif (y140.2 == y143.2) then (
                  (shape_Vars x0).bind fun y314 =>
                  (ref11_Vars x0).bind fun y317 =>
                  (ref11_SameVars y314 y317).bind fun y320 =>
                  bif y320 then (
                    (shape_Equal x0 x1).bind fun y360 =>
                    (ref11_Equal x0 x1).bind fun y363 =>
                    bif (y360 == y363) then (
                      (shape_Equal x0 x0).bind fun y393 =>
                      bif y393 then (
                        (shape_ValidBinds x2.Binds).bind fun y416 =>
                        (ref11_ValidBinds x2.Binds).bind fun y419 =>
                        bif (y416 == y419) then (
                          (shape_ElemVar x2.Text).bind fun y432 =>
                          (ref11_ElemVar x2.Text).bind fun y435 =>
                          some (y432 == y435)
                        ) else (
                          some false
                        )
                      ) else (
                        some false
                      )
                    ) else (
                      some false
                    )
                  ) else (
                    some false
                  )
                ) else (
                  some false
                )
              ) else (
                some false
              )
            ) else (
              some false
            )
          )
        ) else (
          (law11_awake).bind fun y446 =>
          some y446
        )
      ) else (
        (law11_awake).bind fun y450 =>
        some y450
      )
    ) else (
      (law11_awake).bind fun y454 =>
      some y454
    )
  ) else (
    (law11_awake).bind fun y458 =>
    some y458
  )
theorem law11_ShapeForms_c (x0 : Shape) (x1 : Shape) (x2 : Framewiselaw11_Forms) (r : Bool) (H : law11_ShapeForms x0 x1 x2 = some r) : AFn Tryz.prog 4 [.agg [.str x0.Row, .dslice (x0.Dims.map cLinear)], .agg [.str x1.Row, .dslice (x1.Dims.map cLinear)], .agg [.dslice (x2.Binds.map cBind), .str x2.Text]] (.bool r) := by
  unfold law11_ShapeForms at H
  refine acallX Tryz.func4 100 [.tmp 6] (by kernel_rfl) (by kernel_rfl) ?_
  refine bnd H fun y1 h2 H3 => ?_
  refine bsp H3 (fun c44 H45 => ?_) (fun c46 H47 => ?_)
  · refine bnd H45 fun y48 h49 H50 => ?_
    refine bsp H50 (fun c81 H82 => ?_) (fun c83 H84 => ?_)
    · refine bnd H82 fun y85 h86 H87 => ?_
      refine bsp H87 (fun c108 H109 => ?_) (fun c110 H111 => ?_)
      · refine bnd H109 fun y112 h113 H114 => ?_
        refine bsp H114 (fun c125 H126 => ?_) (fun c127 H128 => ?_)
        · refine bsp H126 (fun c132 H133 => ?_) (fun c134 H135 => ?_)
          · have c132p := of_decide_eq_true c132
            refine bnd H133 fun y136 h137 H138 => ?_
            refine some_e H138 fun e139 => ?_
            subst e139
            exact p_ret Tryz.mo 10 [.rg 0 [] [.m, .m, .m, .v], .rg 0 [] [.c true (.bool true), .v, .v, .v, .c true (.bool true), .v, .v, .v, .v, .c true (.bool true), .v, .v, .v, .v, .v, .c true (.bool true), .v, .v, .v, .v, .v, .v, .v, .v], .eqT 34 (.bool true), .rg 0 [] [.c true (.bool y136), .v]] [] [] (all_cons Tryz.call15 (all_cons (AFn.eq (law11_awake_c y1 h2) (congrArg (AV.bool) c44)) (all_cons trivial (all_cons Tryz.call16 (all_cons (AFn.eq (ref11_Few_c x0 y48 h49) (congrArg (AV.bool) c81)) (all_cons trivial (all_cons Tryz.call16 (all_cons (AFn.eq (ref11_Few_c x1 y85 h86) (congrArg (AV.bool) c108)) (all_cons trivial (all_cons Tryz.call23 (all_cons (AFn.eq (ref11_FewBinds_c x2.Binds y112 h113) (congrArg (AV.bool) c125)) (all_cons trivial (all_cons trivial (all_cons (congrArg (AV.bool) c132) (all_cons Tryz.call15 (all_cons (AFn.is (law11_awake_c y136 h137)) all_nil)))))))))))))))) (by kernel_rfl)
          · have c134p := of_decide_eq_false c134
            refine bnd H135 fun y140 h141 H142 => ?_
            refine bnd H142 fun y143 h144 H145 => ?_
            refine bnd H145 fun y146 h147 H148 => ?_
            refine bnd H148 fun y149 h150 H151 => ?_
            refine bsp H151 (fun c206 H207 => ?_) (fun c208 H209 => ?_)
            · refine bsp H207 (fun c260 H261 => ?_) (fun c262 H263 => ?_)
              · refine bsp H261 (fun c310 H311 => ?_) (fun c312 H313 => ?_)
                · refine bnd H311 fun y314 h315 H316 => ?_
                  refine bnd H316 fun y317 h318 H319 => ?_
                  refine bnd H319 fun y320 h321 H322 => ?_
                  refine bsp H322 (fun c356 H357 => ?_) (fun c358 H359 => ?_)
                  · refine bnd H357 fun y360 h361 H362 => ?_
                    refine bnd H362 fun y363 h364 H365 => ?_
                    refine bsp H365 (fun c389 H390 => ?_) (fun c391 H392 => ?_)
                    · refine bnd H390 fun y393 h394 H395 => ?_
                      refine bsp H395 (fun c412 H413 => ?_) (fun c414 H415 => ?_)
                      · refine bnd H413 fun y416 h417 H418 => ?_
                        refine bnd H418 fun y419 h420 H421 => ?_
                        refine bsp H421 (fun c428 H429 => ?_) (fun c430 H431 => ?_)
                        · refine bnd H429 fun y432 h433 H434 => ?_
                          refine bnd H434 fun y435 h436 H437 => ?_
                          refine some_e H437 fun e438 => ?_
                          subst e438
                          exact p_ret Tryz.mo 15 [.rg 0 [] [.m, .m, .m, .v], .rg 0 [] [.c true (.bool true), .v, .v, .v, .c true (.bool true), .v, .v, .v, .v, .c true (.bool true), .v, .v, .v, .v, .v, .c true (.bool true), .v, .v, .v, .v, .v, .v, .v, .v], .eqT 34 (.bool false), .rg 0 [] [.v, .c true (.tup [.int .i64 y140.1, .bool y140.2]), .v, .v, .v, .v, .v], .rg 0 [] [.v, .c true (.tup [.int .i64 y143.1, .bool y143.2]), .v, .v, .v, .v, .v], .rg 51 [.v, .c true (.bool y146), .v, .c true (.bool y149), .e (.bool true), .v, .v, .v, .e (.bool true), .v, .v, .v, .v, .e (.bool true), .v, .v, .v, .c true (.dslice (y314.map cBind)), .v, .c true (.dslice (y317.map cBind)), .c true (.bool true), .v, .v, .v, .v, .c true (.bool y360), .v, .v, .c true (.bool y363), .e (.bool true), .v, .v, .v, .v, .c true (.bool true), .v, .v, .v, .v, .c true (.bool y416), .v, .v, .c true (.bool y419), .e (.bool true), .v, .v, .v, .v, .c true (.bool y432), .v, .v] [.c true (.bool y435), .v, .v, .v]] [] [] (all_cons Tryz.call15 (all_cons (AFn.eq (law11_awake_c y1 h2) (congrArg (AV.bool) c44)) (all_cons trivial (all_cons Tryz.call16 (all_cons (AFn.eq (ref11_Few_c x0 y48 h49) (congrArg (AV.bool) c81)) (all_cons trivial (all_cons Tryz.call16 (all_cons (AFn.eq (ref11_Few_c x1 y85 h86) (congrArg (AV.bool) c108)) (all_cons trivial (all_cons Tryz.call23 (all_cons (AFn.eq (ref11_FewBinds_c x2.Binds y112 h113) (congrArg (AV.bool) c125)) (all_cons trivial (all_cons trivial (all_cons (congrArg (AV.bool) c134) (all_cons Tryz.call24 (all_cons (AFn.is (shape_Rank_c x0 y140 h141)) (all_cons Tryz.call25 (all_cons (AFn.is (ref11_Rank_c x0 y143 h144)) (all_cons Tryz.call26 (all_cons (AFn.is (shape_Valid_c x0 y146 h147)) (all_cons Tryz.call27 (all_cons (AFn.is (ref11_Valid_c x0 y149 h150)) (all_cons (congrArg (AV.bool) c206) (all_cons (congrArg (AV.bool) c260) (all_cons (congrArg (AV.bool) c310) (all_cons Tryz.call29 (all_cons (AFn.is (shape_Vars_c x0 y314 h315)) (all_cons Tryz.call30 (all_cons (AFn.is (ref11_Vars_c x0 y317 h318)) (all_cons Tryz.call28 (all_cons (AFn.eq (ref11_SameVars_c y314 y317 y320 h321) (congrArg (AV.bool) c356)) (all_cons Tryz.call21 (all_cons (AFn.is (shape_Equal_c x0 x1 y360 h361)) (all_cons Tryz.call22 (all_cons (AFn.is (ref11_Equal_c x0 x1 y363 h364)) (all_cons (congrArg (AV.bool) c389) (all_cons Tryz.call21 (all_cons (AFn.eq (shape_Equal_c x0 x0 y393 h394) (congrArg (AV.bool) c412)) (all_cons Tryz.call31 (all_cons (AFn.is (shape_ValidBinds_c x2.Binds y416 h417)) (all_cons Tryz.call32 (all_cons (AFn.is (ref11_ValidBinds_c x2.Binds y419 h420)) (all_cons (congrArg (AV.bool) c428) (all_cons Tryz.call33 (all_cons (AFn.is (shape_ElemVar_c x2.Text y432 h433)) (all_cons Tryz.call34 (all_cons (AFn.is (ref11_ElemVar_c x2.Text y435 h436)) all_nil))))))))))))))))))))))))))))))))))))))))))))))) (by kernel_rfl)
                        · refine some_e H431 fun e439 => ?_
                          subst e439
                          exact p_ret Tryz.mo 15 [.rg 0 [] [.m, .m, .m, .v], .rg 0 [] [.c true (.bool true), .v, .v, .v, .c true (.bool true), .v, .v, .v, .v, .c true (.bool true), .v, .v, .v, .v, .v, .c true (.bool true), .v, .v, .v, .v, .v, .v, .v, .v], .eqT 34 (.bool false), .rg 0 [] [.v, .c true (.tup [.int .i64 y140.1, .bool y140.2]), .v, .v, .v, .v, .v], .rg 0 [] [.v, .c true (.tup [.int .i64 y143.1, .bool y143.2]), .v, .v, .v, .v, .v], .rg 51 [.v, .c true (.bool y146), .v, .c true (.bool y149), .e (.bool true), .v, .v, .v, .e (.bool true), .v, .v, .v, .v, .e (.bool true), .v, .v, .v, .c true (.dslice (y314.map cBind)), .v, .c true (.dslice (y317.map cBind)), .c true (.bool true), .v, .v, .v, .v, .c true (.bool y360), .v, .v, .c true (.bool y363), .e (.bool true), .v, .v, .v, .v, .c true (.bool true), .v, .v, .v, .v, .c true (.bool y416), .v, .v, .c true (.bool y419), .e (.bool false), .v, .v, .s, .s, .s, .s, .s] [.s, .s, .v, .v]] [] [] (all_cons Tryz.call15 (all_cons (AFn.eq (law11_awake_c y1 h2) (congrArg (AV.bool) c44)) (all_cons trivial (all_cons Tryz.call16 (all_cons (AFn.eq (ref11_Few_c x0 y48 h49) (congrArg (AV.bool) c81)) (all_cons trivial (all_cons Tryz.call16 (all_cons (AFn.eq (ref11_Few_c x1 y85 h86) (congrArg (AV.bool) c108)) (all_cons trivial (all_cons Tryz.call23 (all_cons (AFn.eq (ref11_FewBinds_c x2.Binds y112 h113) (congrArg (AV.bool) c125)) (all_cons trivial (all_cons trivial (all_cons (congrArg (AV.bool) c134) (all_cons Tryz.call24 (all_cons (AFn.is (shape_Rank_c x0 y140 h141)) (all_cons Tryz.call25 (all_cons (AFn.is (ref11_Rank_c x0 y143 h144)) (all_cons Tryz.call26 (all_cons (AFn.is (shape_Valid_c x0 y146 h147)) (all_cons Tryz.call27 (all_cons (AFn.is (ref11_Valid_c x0 y149 h150)) (all_cons (congrArg (AV.bool) c206) (all_cons (congrArg (AV.bool) c260) (all_cons (congrArg (AV.bool) c310) (all_cons Tryz.call29 (all_cons (AFn.is (shape_Vars_c x0 y314 h315)) (all_cons Tryz.call30 (all_cons (AFn.is (ref11_Vars_c x0 y317 h318)) (all_cons Tryz.call28 (all_cons (AFn.eq (ref11_SameVars_c y314 y317 y320 h321) (congrArg (AV.bool) c356)) (all_cons Tryz.call21 (all_cons (AFn.is (shape_Equal_c x0 x1 y360 h361)) (all_cons Tryz.call22 (all_cons (AFn.is (ref11_Equal_c x0 x1 y363 h364)) (all_cons (congrArg (AV.bool) c389) (all_cons Tryz.call21 (all_cons (AFn.eq (shape_Equal_c x0 x0 y393 h394) (congrArg (AV.bool) c412)) (all_cons Tryz.call31 (all_cons (AFn.is (shape_ValidBinds_c x2.Binds y416 h417)) (all_cons Tryz.call32 (all_cons (AFn.is (ref11_ValidBinds_c x2.Binds y419 h420)) (all_cons (congrArg (AV.bool) c430) all_nil))))))))))))))))))))))))))))))))))))))))))) (by kernel_rfl)
                      · refine some_e H415 fun e440 => ?_
                        subst e440
                        exact p_ret Tryz.mo 15 [.rg 0 [] [.m, .m, .m, .v], .rg 0 [] [.c true (.bool true), .v, .v, .v, .c true (.bool true), .v, .v, .v, .v, .c true (.bool true), .v, .v, .v, .v, .v, .c true (.bool true), .v, .v, .v, .v, .v, .v, .v, .v], .eqT 34 (.bool false), .rg 0 [] [.v, .c true (.tup [.int .i64 y140.1, .bool y140.2]), .v, .v, .v, .v, .v], .rg 0 [] [.v, .c true (.tup [.int .i64 y143.1, .bool y143.2]), .v, .v, .v, .v, .v], .rg 51 [.v, .c true (.bool y146), .v, .c true (.bool y149), .e (.bool true), .v, .v, .v, .e (.bool true), .v, .v, .v, .v, .e (.bool true), .v, .v, .v, .c true (.dslice (y314.map cBind)), .v, .c true (.dslice (y317.map cBind)), .c true (.bool true), .v, .v, .v, .v, .c true (.bool y360), .v, .v, .c true (.bool y363), .e (.bool true), .v, .v, .v, .v, .c true (.bool false), .v, .v, .s, .s, .s, .s, .s, .s, .s, .v, .v, .s, .s, .s, .s, .s] [.s, .s, .v, .v]] [] [] (all_cons Tryz.call15 (all_cons (AFn.eq (law11_awake_c y1 h2) (congrArg (AV.bool) c44)) (all_cons trivial (all_cons Tryz.call16 (all_cons (AFn.eq (ref11_Few_c x0 y48 h49) (congrArg (AV.bool) c81)) (all_cons trivial (all_cons Tryz.call16 (all_cons (AFn.eq (ref11_Few_c x1 y85 h86) (congrArg (AV.bool) c108)) (all_cons trivial (all_cons Tryz.call23 (all_cons (AFn.eq (ref11_FewBinds_c x2.Binds y112 h113) (congrArg (AV.bool) c125)) (all_cons trivial (all_cons trivial (all_cons (congrArg (AV.bool) c134) (all_cons Tryz.call24 (all_cons (AFn.is (shape_Rank_c x0 y140 h141)) (all_cons Tryz.call25 (all_cons (AFn.is (ref11_Rank_c x0 y143 h144)) (all_cons Tryz.call26 (all_cons (AFn.is (shape_Valid_c x0 y146 h147)) (all_cons Tryz.call27 (all_cons (AFn.is (ref11_Valid_c x0 y149 h150)) (all_cons (congrArg (AV.bool) c206) (all_cons (congrArg (AV.bool) c260) (all_cons (congrArg (AV.bool) c310) (all_cons Tryz.call29 (all_cons (AFn.is (shape_Vars_c x0 y314 h315)) (all_cons Tryz.call30 (all_cons (AFn.is (ref11_Vars_c x0 y317 h318)) (all_cons Tryz.call28 (all_cons (AFn.eq (ref11_SameVars_c y314 y317 y320 h321) (congrArg (AV.bool) c356)) (all_cons Tryz.call21 (all_cons (AFn.is (shape_Equal_c x0 x1 y360 h361)) (all_cons Tryz.call22 (all_cons (AFn.is (ref11_Equal_c x0 x1 y363 h364)) (all_cons (congrArg (AV.bool) c389) (all_cons Tryz.call21 (all_cons (AFn.eq (shape_Equal_c x0 x0 y393 h394) (congrArg (AV.bool) c414)) all_nil)))))))))))))))))))))))))))))))))))))) (by kernel_rfl)
                    · refine some_e H392 fun e441 => ?_
                      subst e441
                      exact p_ret Tryz.mo 15 [.rg 0 [] [.m, .m, .m, .v], .rg 0 [] [.c true (.bool true), .v, .v, .v, .c true (.bool true), .v, .v, .v, .v, .c true (.bool true), .v, .v, .v, .v, .v, .c true (.bool true), .v, .v, .v, .v, .v, .v, .v, .v], .eqT 34 (.bool false), .rg 0 [] [.v, .c true (.tup [.int .i64 y140.1, .bool y140.2]), .v, .v, .v, .v, .v], .rg 0 [] [.v, .c true (.tup [.int .i64 y143.1, .bool y143.2]), .v, .v, .v, .v, .v], .rg 51 [.v, .c true (.bool y146), .v, .c true (.bool y149), .e (.bool true), .v, .v, .v, .e (.bool true), .v, .v, .v, .v, .e (.bool true), .v, .v, .v, .c true (.dslice (y314.map cBind)), .v, .c true (.dslice (y317.map cBind)), .c true (.bool true), .v, .v, .v, .v, .c true (.bool y360), .v, .v, .c true (.bool y363), .e (.bool false), .v, .v, .s, .s, .s, .v, .v, .s, .s, .s, .s, .s, .s, .s, .v, .v, .s, .s, .s, .s, .s] [.s, .s, .v, .v]] [] [] (all_cons Tryz.call15 (all_cons (AFn.eq (law11_awake_c y1 h2) (congrArg (AV.bool) c44)) (all_cons trivial (all_cons Tryz.call16 (all_cons (AFn.eq (ref11_Few_c x0 y48 h49) (congrArg (AV.bool) c81)) (all_cons trivial (all_cons Tryz.call16 (all_cons (AFn.eq (ref11_Few_c x1 y85 h86) (congrArg (AV.bool) c108)) (all_cons trivial (all_cons Tryz.call23 (all_cons (AFn.eq (ref11_FewBinds_c x2.Binds y112 h113) (congrArg (AV.bool) c125)) (all_cons trivial (all_cons trivial (all_cons (congrArg (AV.bool) c134) (all_cons Tryz.call24 (all_cons (AFn.is (shape_Rank_c x0 y140 h141)) (all_cons Tryz.call25 (all_cons (AFn.is (ref11_Rank_c x0 y143 h144)) (all_cons Tryz.call26 (all_cons (AFn.is (shape_Valid_c x0 y146 h147)) (all_cons Tryz.call27 (all_cons (AFn.is (ref11_Valid_c x0 y149 h150)) (all_cons (congrArg (AV.bool) c206) (all_cons (congrArg (AV.bool) c260) (all_cons (congrArg (AV.bool) c310) (all_cons Tryz.call29 (all_cons (AFn.is (shape_Vars_c x0 y314 h315)) (all_cons Tryz.call30 (all_cons (AFn.is (ref11_Vars_c x0 y317 h318)) (all_cons Tryz.call28 (all_cons (AFn.eq (ref11_SameVars_c y314 y317 y320 h321) (congrArg (AV.bool) c356)) (all_cons Tryz.call21 (all_cons (AFn.is (shape_Equal_c x0 x1 y360 h361)) (all_cons Tryz.call22 (all_cons (AFn.is (ref11_Equal_c x0 x1 y363 h364)) (all_cons (congrArg (AV.bool) c391) all_nil)))))))))))))))))))))))))))))))))))) (by kernel_rfl)
                  · refine some_e H359 fun e442 => ?_
                    subst e442
                    exact p_ret Tryz.mo 15 [.rg 0 [] [.m, .m, .m, .v], .rg 0 [] [.c true (.bool true), .v, .v, .v, .c true (.bool true), .v, .v, .v, .v, .c true (.bool true), .v, .v, .v, .v, .v, .c true (.bool true), .v, .v, .v, .v, .v, .v, .v, .v], .eqT 34 (.bool false), .rg 0 [] [.v, .c true (.tup [.int .i64 y140.1, .bool y140.2]), .v, .v, .v, .v, .v], .rg 0 [] [.v, .c true (.tup [.int .i64 y143.1, .bool y143.2]), .v, .v, .v, .v, .v], .rg 51 [.v, .c true (.bool y146), .v, .c true (.bool y149), .e (.bool true), .v, .v, .v, .e (.bool true), .v, .v, .v, .v, .e (.bool true), .v, .v, .v, .c true (.dslice (y314.map cBind)), .v, .c true (.dslice (y317.map cBind)), .c true (.bool false), .v, .v, .s, .s, .s, .s, .s, .s, .s, .v, .v, .s, .s, .s, .v, .v, .s, .s, .s, .s, .s, .s, .s, .v, .v, .s, .s, .s, .s, .s] [.s, .s, .v, .v]] [] [] (all_cons Tryz.call15 (all_cons (AFn.eq (law11_awake_c y1 h2) (congrArg (AV.bool) c44)) (all_cons trivial (all_cons Tryz.call16 (all_cons (AFn.eq (ref11_Few_c x0 y48 h49) (congrArg (AV.bool) c81)) (all_cons trivial (all_cons Tryz.call16 (all_cons (AFn.eq (ref11_Few_c x1 y85 h86) (congrArg (AV.bool) c108)) (all_cons trivial (all_cons Tryz.call23 (all_cons (AFn.eq (ref11_FewBinds_c x2.Binds y112 h113) (congrArg (AV.bool) c125)) (all_cons trivial (all_cons trivial (all_cons (congrArg (AV.bool) c134) (all_cons Tryz.call24 (all_cons (AFn.is (shape_Rank_c x0 y140 h141)) (all_cons Tryz.call25 (all_cons (AFn.is (ref11_Rank_c x0 y143 h144)) (all_cons Tryz.call26 (all_cons (AFn.is (shape_Valid_c x0 y146 h147)) (all_cons Tryz.call27 (all_cons (AFn.is (ref11_Valid_c x0 y149 h150)) (all_cons (congrArg (AV.bool) c206) (all_cons (congrArg (AV.bool) c260) (all_cons (congrArg (AV.bool) c310) (all_cons Tryz.call29 (all_cons (AFn.is (shape_Vars_c x0 y314 h315)) (all_cons Tryz.call30 (all_cons (AFn.is (ref11_Vars_c x0 y317 h318)) (all_cons Tryz.call28 (all_cons (AFn.eq (ref11_SameVars_c y314 y317 y320 h321) (congrArg (AV.bool) c358)) all_nil))))))))))))))))))))))))))))))) (by kernel_rfl)
                · refine some_e H313 fun e443 => ?_
                  subst e443
                  exact p_ret Tryz.mo 15 [.rg 0 [] [.m, .m, .m, .v], .rg 0 [] [.c true (.bool true), .v, .v, .v, .c true (.bool true), .v, .v, .v, .v, .c true (.bool true), .v, .v, .v, .v, .v, .c true (.bool true), .v, .v, .v, .v, .v, .v, .v, .v], .eqT 34 (.bool false), .rg 0 [] [.v, .c true (.tup [.int .i64 y140.1, .bool y140.2]), .v, .v, .v, .v, .v], .rg 0 [] [.v, .c true (.tup [.int .i64 y143.1, .bool y143.2]), .v, .v, .v, .v, .v], .rg 51 [.v, .c true (.bool y146), .v, .c true (.bool y149), .e (.bool true), .v, .v, .v, .e (.bool true), .v, .v, .v, .v, .e (.bool false), .v, .v, .s, .s, .s, .s, .s, .v, .v, .s, .s, .s, .s, .s, .s, .s, .v, .v, .s, .s, .s, .v, .v, .s, .s, .s, .s, .s, .s, .s, .v, .v, .s, .s, .s, .s, .s] [.s, .s, .v, .v]] [] [] (all_cons Tryz.call15 (all_cons (AFn.eq (law11_awake_c y1 h2) (congrArg (AV.bool) c44)) (all_cons trivial (all_cons Tryz.call16 (all_cons (AFn.eq (ref11_Few_c x0 y48 h49) (congrArg (AV.bool) c81)) (all_cons trivial (all_cons Tryz.call16 (all_cons (AFn.eq (ref11_Few_c x1 y85 h86) (congrArg (AV.bool) c108)) (all_cons trivial (all_cons Tryz.call23 (all_cons (AFn.eq (ref11_FewBinds_c x2.Binds y112 h113) (congrArg (AV.bool) c125)) (all_cons trivial (all_cons trivial (all_cons (congrArg (AV.bool) c134) (all_cons Tryz.call24 (all_cons (AFn.is (shape_Rank_c x0 y140 h141)) (all_cons Tryz.call25 (all_cons (AFn.is (ref11_Rank_c x0 y143 h144)) (all_cons Tryz.call26 (all_cons (AFn.is (shape_Valid_c x0 y146 h147)) (all_cons Tryz.call27 (all_cons (AFn.is (ref11_Valid_c x0 y149 h150)) (all_cons (congrArg (AV.bool) c206) (all_cons (congrArg (AV.bool) c260) (all_cons (congrArg (AV.bool) c312) all_nil))))))))))))))))))))))))) (by kernel_rfl)
              · refine some_e H263 fun e444 => ?_
                subst e444
                exact p_ret Tryz.mo 15 [.rg 0 [] [.m, .m, .m, .v], .rg 0 [] [.c true (.bool true), .v, .v, .v, .c true (.bool true), .v, .v, .v, .v, .c true (.bool true), .v, .v, .v, .v, .v, .c true (.bool true), .v, .v, .v, .v, .v, .v, .v, .v], .eqT 34 (.bool false), .rg 0 [] [.v, .c true (.tup [.int .i64 y140.1, .bool y140.2]), .v, .v, .v, .v, .v], .rg 0 [] [.v, .c true (.tup [.int .i64 y143.1, .bool y143.2]), .v, .v, .v, .v, .v], .rg 51 [.v, .c true (.bool y146), .v, .c true (.bool y149), .e (.bool true), .v, .v, .v, .e (.bool false), .v, .v, .s, .s, .s, .v, .v, .s, .s, .s, .s, .s, .v, .v, .s, .s, .s, .s, .s, .s, .s, .v, .v, .s, .s, .s, .v, .v, .s, .s, .s, .s, .s, .s, .s, .v, .v, .s, .s, .s, .s, .s] [.s, .s, .v, .v]] [] [] (all_cons Tryz.call15 (all_cons (AFn.eq (law11_awake_c y1 h2) (congrArg (AV.bool) c44)) (all_cons trivial (all_cons Tryz.call16 (all_cons (AFn.eq (ref11_Few_c x0 y48 h49) (congrArg (AV.bool) c81)) (all_cons trivial (all_cons Tryz.call16 (all_cons (AFn.eq (ref11_Few_c x1 y85 h86) (congrArg (AV.bool) c108)) (all_cons trivial (all_cons Tryz.call23 (all_cons (AFn.eq (ref11_FewBinds_c x2.Binds y112 h113) (congrArg (AV.bool) c125)) (all_cons trivial (all_cons trivial (all_cons (congrArg (AV.bool) c134) (all_cons Tryz.call24 (all_cons (AFn.is (shape_Rank_c x0 y140 h141)) (all_cons Tryz.call25 (all_cons (AFn.is (ref11_Rank_c x0 y143 h144)) (all_cons Tryz.call26 (all_cons (AFn.is (shape_Valid_c x0 y146 h147)) (all_cons Tryz.call27 (all_cons (AFn.is (ref11_Valid_c x0 y149 h150)) (all_cons (congrArg (AV.bool) c206) (all_cons (congrArg (AV.bool) c262) all_nil)))))))))))))))))))))))) (by kernel_rfl)
            · refine some_e H209 fun e445 => ?_
              subst e445
              exact p_ret Tryz.mo 15 [.rg 0 [] [.m, .m, .m, .v], .rg 0 [] [.c true (.bool true), .v, .v, .v, .c true (.bool true), .v, .v, .v, .v, .c true (.bool true), .v, .v, .v, .v, .v, .c true (.bool true), .v, .v, .v, .v, .v, .v, .v, .v], .eqT 34 (.bool false), .rg 0 [] [.v, .c true (.tup [.int .i64 y140.1, .bool y140.2]), .v, .v, .v, .v, .v], .rg 0 [] [.v, .c true (.tup [.int .i64 y143.1, .bool y143.2]), .v, .v, .v, .v, .v], .rg 51 [.v, .c true (.bool y146), .v, .c true (.bool y149), .e (.bool false), .v, .s, .s, .s, .v, .v, .s, .s, .s, .v, .v, .s, .s, .s, .s, .s, .v, .v, .s, .s, .s, .s, .s, .s, .s, .v, .v, .s, .s, .s, .v, .v, .s, .s, .s, .s, .s, .s, .s, .v, .v, .s, .s, .s, .s, .s] [.s, .s, .v, .v]] [] [] (all_cons Tryz.call15 (all_cons (AFn.eq (law11_awake_c y1 h2) (congrArg (AV.bool) c44)) (all_cons trivial (all_cons Tryz.call16 (all_cons (AFn.eq (ref11_Few_c x0 y48 h49) (congrArg (AV.bool) c81)) (all_cons trivial (all_cons Tryz.call16 (all_cons (AFn.eq (ref11_Few_c x1 y85 h86) (congrArg (AV.bool) c108)) (all_cons trivial (all_cons Tryz.call23 (all_cons (AFn.eq (ref11_FewBinds_c x2.Binds y112 h113) (congrArg (AV.bool) c125)) (all_cons trivial (all_cons trivial (all_cons (congrArg (AV.bool) c134) (all_cons Tryz.call24 (all_cons (AFn.is (shape_Rank_c x0 y140 h141)) (all_cons Tryz.call25 (all_cons (AFn.is (ref11_Rank_c x0 y143 h144)) (all_cons Tryz.call26 (all_cons (AFn.is (shape_Valid_c x0 y146 h147)) (all_cons Tryz.call27 (all_cons (AFn.is (ref11_Valid_c x0 y149 h150)) (all_cons (congrArg (AV.bool) c208) all_nil))))))))))))))))))))))) (by kernel_rfl)
        · refine bnd H128 fun y446 h447 H448 => ?_
          refine some_e H448 fun e449 => ?_
          subst e449
          exact p_ret Tryz.mo 9 [.rg 0 [] [.m, .m, .m, .v], .rg 0 [] [.c true (.bool true), .v, .v, .v, .c true (.bool true), .v, .v, .v, .v, .c true (.bool true), .v, .v, .v, .v, .v, .c true (.bool false), .v, .v, .v, .s, .s, .s, .s, .v], .rg 0 [] [.c true (.bool y446), .v]] [] [] (all_cons Tryz.call15 (all_cons (AFn.eq (law11_awake_c y1 h2) (congrArg (AV.bool) c44)) (all_cons trivial (all_cons Tryz.call16 (all_cons (AFn.eq (ref11_Few_c x0 y48 h49) (congrArg (AV.bool) c81)) (all_cons trivial (all_cons Tryz.call16 (all_cons (AFn.eq (ref11_Few_c x1 y85 h86) (congrArg (AV.bool) c108)) (all_cons trivial (all_cons Tryz.call23 (all_cons (AFn.eq (ref11_FewBinds_c x2.Binds y112 h113) (congrArg (AV.bool) c127)) (all_cons trivial (all_cons Tryz.call15 (all_cons (AFn.is (law11_awake_c y446 h447)) all_nil)))))))))))))) (by kernel_rfl)
      · refine bnd H111 fun y450 h451 H452 => ?_
        refine some_e H452 fun e453 => ?_
        subst e453
        exact p_ret Tryz.mo 9 [.rg 0 [] [.m, .m, .m, .v], .rg 0 [] [.c true (.bool true), .v, .v, .v, .c true (.bool true), .v, .v, .v, .v, .c true (.bool false), .v, .v, .v, .s, .s, .s, .s, .v, .v, .s, .s, .s, .s, .v], .rg 0 [] [.c true (.bool y450), .v]] [] [] (all_cons Tryz.call15 (all_cons (AFn.eq (law11_awake_c y1 h2) (congrArg (AV.bool) c44)) (all_cons trivial (all_cons Tryz.call16 (all_cons (AFn.eq (ref11_Few_c x0 y48 h49) (congrArg (AV.bool) c81)) (all_cons trivial (all_cons Tryz.call16 (all_cons (AFn.eq (ref11_Few_c x1 y85 h86) (congrArg (AV.bool) c110)) (all_cons trivial (all_cons Tryz.call15 (all_cons (AFn.is (law11_awake_c y450 h451)) all_nil))))))))))) (by kernel_rfl)
    · refine bnd H84 fun y454 h455 H456 => ?_
      refine some_e H456 fun e457 => ?_
      subst e457
      exact p_ret Tryz.mo 9 [.rg 0 [] [.m, .m, .m, .v], .rg 0 [] [.c true (.bool true), .v, .v, .v, .c true (.bool false), .v, .v, .v, .s, .s, .s, .v, .v, .s, .s, .s, .s, .v, .v, .s, .s, .s, .s, .v], .rg 0 [] [.c true (.bool y454), .v]] [] [] (all_cons Tryz.call15 (all_cons (AFn.eq (law11_awake_c y1 h2) (congrArg (AV.bool) c44)) (all_cons trivial (all_cons Tryz.call16 (all_cons (AFn.eq (ref11_Few_c x0 y48 h49) (congrArg (AV.bool) c83)) (all_cons trivial (all_cons Tryz.call15 (all_cons (AFn.is (law11_awake_c y454 h455)) all_nil)))))))) (by kernel_rfl)
  · refine bnd H47 fun y458 h459 H460 => ?_
    refine some_e H460 fun e461 => ?_
    subst e461
    exact p_ret Tryz.mo 9 [.rg 0 [] [.m, .m, .m, .v], .rg 0 [] [.c true (.bool false), .v, .v, .s, .s, .s, .v, .v, .s, .s, .s, .v, .v, .s, .s, .s, .s, .v, .v, .s, .s, .s, .s, .v], .rg 0 [] [.c true (.bool y458), .v]] [] [] (all_cons Tryz.call15 (all_cons (AFn.eq (law11_awake_c y1 h2) (congrArg (AV.bool) c46)) (all_cons trivial (all_cons Tryz.call15 (all_cons (AFn.is (law11_awake_c y458 h459)) all_nil))))) (by kernel_rfl)
/-- framewise/framewiseref04.Eval -/
def ref04_Eval (x0 : Linear) (x1 : (List Value)) : Option (Int × Int) :=
  (ref04_Valid x0).bind fun y1 =>
  bif y1 then (
    (cnt (σ := Int) (ε := Int) (ρ := (Int × Int)) (fun i189 s188 =>
      (cnt (σ := Unit) (ε := Nat) (ρ := Empty) (fun i324 s323 =>
        bif (((x1.getD i324 ⟨[], 0⟩).Var) == ((x0.Terms.getD i189 ⟨[], 0⟩).Var)) then (
          some (.brk i324)
        ) else (
          some (.go ())
        )
      ) (fun i324 s323 => i324) (x1.length - 0) 0 ()).bind <| aftE fun u365 =>
      bif (((u365 : Nat) : Int) == ((x1.length : Nat) : Int)) then (
        some (.ret (0, 7))
      ) else (
        grd (u365 < x1.length) <|
        bif decide (((x1.getD u365 ⟨[], 0⟩).N) < (-1000000000)) then (
          some (.ret (0, 2))
        ) else (
          bif decide (((x1.getD u365 ⟨[], 0⟩).N) > 1000000000) then (
            some (.ret (0, 2))
          ) else (
            some (.go (w64 (s188 + (w64 (((x0.Terms.getD i189 ⟨[], 0⟩).C) * ((x1.getD u365 ⟨[], 0⟩).N))))))
          )
        )
      )
    ) (fun i189 s188 => s188) (x0.Terms.length - 0) 0 x0.Const).bind <| aft fun u403 =>
    some (u403, 0)
  ) else (
    some (0, 1)
  )
def ref04_Eval_S1 (x0 : Linear) (x1 : (List Value)) (i189 : Nat) (s188 : Int) : AS := ⟨68, [(1, .dslice (x1.map cValue)), (2, .hptr 2 0), (4, .int .i64 0), (5, .int .i64 0), (6, .int .i64 s188), (7, .int .i64 ((i189 : Nat) : Int))], [(2, .cells 53 [.int .i64 x0.Const, .dslice (x0.Terms.map cCoef)])]⟩
def ref04_Eval_S2 (u284 : Int) : AS := ⟨68, [(4, .int .i64 0), (5, .int .i64 0), (6, .int .i64 u284)], []⟩
def ref04_Eval_S3 (x0 : Linear) (x1 : (List Value)) (i189 : Nat) (s188 : Int) (i324 : Nat) (s323 : Unit) : AS := ⟨68, [(1, .dslice (x1.map cValue)), (2, .hptr 2 0), (4, .int .i64 0), (5, .int .i64 0), (6, .int .i64 s188), (7, .int .i64 ((i189 : Nat) : Int)), (8, .int .i64 ((i324 : Nat) : Int)), (19, .bool true)], [(2, .cells 53 [.int .i64 x0.Const, .dslice (x0.Terms.map cCoef)])]⟩
def ref04_Eval_S4 (x0 : Linear) (x1 : (List Value)) (i189 : Nat) (s188 : Int) (u344 : Nat) : AS := ⟨68, [(1, .dslice (x1.map cValue)), (2, .hptr 2 0), (4, .int .i64 0), (5, .int .i64 0), (6, .int .i64 s188), (7, .int .i64 ((i189 : Nat) : Int)), (8, .int .i64 ((u344 : Nat) : Int)), (19, .bool true), (39, .bool false)], [(2, .cells 53 [.int .i64 x0.Const, .dslice (x0.Terms.map cCoef)])]⟩
theorem ref04_Eval_c (x0 : Linear) (x1 : (List Value)) (r : (Int × Int)) (H : ref04_Eval x0 x1 = some r) : AFn Tryz.prog 39 [.agg [.int .i64 x0.Const, .dslice (x0.Terms.map cCoef)], .dslice (x1.map cValue)] (.tup [.int .i64 r.1, .int .i64 r.2]) := by
  unfold ref04_Eval at H
  refine acallX Tryz.func39 68 [.tmp 4, .tmp 5] (by kernel_rfl) (by kernel_rfl) ?_
  refine bnd H fun y1 h2 H3 => ?_
  refine bsp H3 (fun c4 H5 => ?_) (fun c6 H7 => ?_)
  · refine p_at Tryz.mo 14 [.rg 0 [] [.m, .v, .v], .rg 0 [] [.v, .c true (.bool y1), .v], .eqT 12 (.bool false), .rg 0 [] [.v, .v, .v], .rg 0 [] [.v]] [.only [1, 2, 4, 5, 6, 7] [2]] 13 [false] (ref04_Eval_S1 x0 x1 0 x0.Const) (all_cons Tryz.call92 (all_cons (AFn.is (ref04_Valid_c x0 y1 h2)) (all_cons trivial (all_cons (congrArg (fun x => AV.bool (!x)) c4) all_nil)))) (by kernel_rfl) ?_
    refine bnd H5 fun R281 h282 H283 => ?_
    refine p_joinO 1 (ref04_Eval_S2) R281 (by kernel_rfl) ?_ (fun u403 e404 => ?_)
    · refine p_cnt (ref04_Eval_S1 x0 x1) (by kernel_rfl) h282 (fun i189 s188 h285 e286 => ?_) (fun i189 s188 h293 q289 h290 h291 => ?_)
      · have c287 : decide (((i189 : Nat) : Int) < ((x0.Terms.length : Nat) : Int)) = false := decide_eq_false (by omega)
        subst e286
        exact p_bar Tryz.mo 5 [.rg 0 [] [.v, .v, .v, .e (.int .i64 ((x0.Terms.length : Nat) : Int)), .e (.bool false)]] [.only [4, 5, 6] []] (ref04_Eval_S2 s188) (all_cons trivial (all_cons (lenm cCoef x0.Terms) (all_cons (congrArg (AV.bool) c287) all_nil))) (by kernel_rfl)
      · have c292 : decide (((i189 : Nat) : Int) < ((x0.Terms.length : Nat) : Int)) = true := decide_eq_true (by omega)
        refine p_at Tryz.mo 11 [.rg 0 [] [.v, .v, .v, .e (.int .i64 ((x0.Terms.length : Nat) : Int)), .e (.bool true)], .rg 0 [] [.v]] [.only [1, 2, 4, 5, 6, 7, 8, 19] [2]] 11 [true] (ref04_Eval_S3 x0 x1 i189 s188 0 ()) (all_cons trivial (all_cons (lenm cCoef x0.Terms) (all_cons (congrArg (AV.bool) c292) all_nil))) (by kernel_rfl) ?_
        refine bnd h290 fun R341 h342 H343 => ?_
        refine p_joinO 1 (ref04_Eval_S4 x0 x1 i189 s188) R341 (by kernel_rfl) ?_ (fun u365 e366 => ?_)
        · refine p_cnt (ref04_Eval_S3 x0 x1 i189 s188) (by kernel_rfl) h342 (fun i324 s323 h345 e346 => ?_) (fun i324 s323 h353 q349 h350 h351 => ?_)
          · have c347 : decide (((i324 : Nat) : Int) < ((x1.length : Nat) : Int)) = false := decide_eq_false (by omega)
            subst e346
            exact p_bar Tryz.mo 5 [.rg 16 [.v, .v, .e (.int .i64 ((x1.length : Nat) : Int)), .e (.bool false), .v, .s, .s, .s, .s, .s, .s, .s, .s, .s, .s, .s] [.s, .v]] [.only [1, 2, 4, 5, 6, 7, 8, 19, 39] [2]] (ref04_Eval_S4 x0 x1 i189 s188 i324) (all_cons trivial (all_cons (lenm cValue x1) (all_cons (congrArg (AV.bool) c347) all_nil))) (by kernel_rfl)
          · have c352 : decide (((i324 : Nat) : Int) < ((x1.length : Nat) : Int)) = true := decide_eq_true (by omega)
            refine bsp h350 (fun c354 H355 => ?_) (fun c356 H357 => ?_)
            · refine some_e H355 fun e358 => ?_
              subst e358
              have e359 := out_brk h351
              subst e359
              exact p_bar Tryz.mo 6 [.rg 16 [.v, .v, .e (.int .i64 ((x1.length : Nat) : Int)), .e (.bool true), .v, .v, .v, .e (.dptr [.str ((x1.getD i324 ⟨[], 0⟩).Var), .int .i64 ((x1.getD i324 ⟨[], 0⟩).N)]), .v, .v, .v, .v, .v, .e (.dptr [.str ((x0.Terms.getD i189 ⟨[], 0⟩).Var), .int .i64 ((x0.Terms.getD i189 ⟨[], 0⟩).C)]), .v, .v] [.v, .v], .eqT 39 (.bool false)] [.only [1, 2, 4, 5, 6, 7, 8, 19, 39] [2]] (ref04_Eval_S4 x0 x1 i189 s188 i324) (all_cons trivial (all_cons (lenm cValue x1) (all_cons (congrArg (AV.bool) c352) (all_app (ix (f := cValue) (l := x1) (n := i324) ⟨[], 0⟩ cValue_len (by decide) (by omega)) (all_app (ix (f := cCoef) (l := x0.Terms) (n := i189) ⟨[], 0⟩ cCoef_len (by decide) (by omega)) (all_cons (congrArg (fun x => AV.bool (!x)) c354) all_nil)))))) (by kernel_rfl)
            · refine t_lens 1 (ps := [(x1.map cValue).length ≤ 9223372036854775807]) (by kernel_rfl) (fun l362 => ?_)
              have l363 : x1.length ≤ 9223372036854775807 := by simpa only [All, List.length_map] using l362
              clear l362
              refine some_e H357 fun e364 => ?_
              subst e364
              exact p_bar Tryz.mo 8 [.rg 16 [.v, .v, .e (.int .i64 ((x1.length : Nat) : Int)), .e (.bool true), .v, .v, .v, .e (.dptr [.str ((x1.getD i324 ⟨[], 0⟩).Var), .int .i64 ((x1.getD i324 ⟨[], 0⟩).N)]), .v, .v, .v, .v, .v, .e (.dptr [.str ((x0.Terms.getD i189 ⟨[], 0⟩).Var), .int .i64 ((x0.Terms.getD i189 ⟨[], 0⟩).C)]), .v, .v] [.v, .v], .eqT 39 (.bool true), .rg 0 [] [.v, .v, .v]] [.only [1, 2, 4, 5, 6, 7, 8, 19] [2]] (ref04_Eval_S3 x0 x1 i189 s188 (i324 + 1) ()) (all_cons trivial (all_cons (lenm cValue x1) (all_cons (congrArg (AV.bool) c352) (all_app (ix (f := cValue) (l := x1) (n := i324) ⟨[], 0⟩ cValue_len (by decide) (by omega)) (all_app (ix (f := cCoef) (l := x0.Terms) (n := i189) ⟨[], 0⟩ cCoef_len (by decide) (by omega)) (all_cons (congrArg (fun x => AV.bool (!x)) c356) (all_cons (show I64 (((i324 : Nat) : Int) + 1) from by unfold I64; omega) all_nil))))))) (by kernel_rfl)
        · subst e366
          have H367 := aftE_brk H343
          refine bsp H367 (fun c368 H369 => ?_) (fun c370 H371 => ?_)
          · refine some_e H369 fun e372 => ?_
            subst e372
            have e373 := out_ret h291
            subst e373
            have H374 := aft_ret H283
            refine some_e H374 fun e375 => ?_
            subst e375
            exact p_ret Tryz.mo 8 [.rg 0 [] [.v, .v, .e (.int .i64 ((x1.length : Nat) : Int)), .v], .eqT 45 (.bool true), .rg 0 [] [.v, .v]] [] [] (all_cons trivial (all_cons (lenm cValue x1) (all_cons (congrArg (AV.bool) c368) all_nil))) (by kernel_rfl)
          · refine grd_e H371 fun g376 H377 => ?_
            refine bsp H377 (fun c382 H383 => ?_) (fun c384 H385 => ?_)
            · have c382p := of_decide_eq_true c382
              refine some_e H383 fun e386 => ?_
              subst e386
              have e387 := out_ret h291
              subst e387
              have H388 := aft_ret H283
              refine some_e H388 fun e389 => ?_
              subst e389
              exact p_ret Tryz.mo 15 [.rg 0 [] [.v, .v, .e (.int .i64 ((x1.length : Nat) : Int)), .v], .eqT 45 (.bool false), .rg 0 [] [.v, .v, .e (.dptr [.str ((x1.getD u365 ⟨[], 0⟩).Var), .int .i64 ((x1.getD u365 ⟨[], 0⟩).N)]), .v, .v, .v], .rg 0 [] [.v, .e (.bool true), .v, .s, .s, .v], .rg 0 [] [.v, .v]] [] [] (all_cons trivial (all_cons (lenm cValue x1) (all_cons (congrArg (AV.bool) c370) (all_app (ix (f := cValue) (l := x1) (n := u365) ⟨[], 0⟩ cValue_len (by decide) (by omega)) (all_cons (congrArg (AV.bool) c382) all_nil))))) (by kernel_rfl)
            · have c384p := of_decide_eq_false c384
              refine bsp H385 (fun c390 H391 => ?_) (fun c392 H393 => ?_)
              · have c390p := of_decide_eq_true c390
                refine some_e H391 fun e394 => ?_
                subst e394
                have e395 := out_ret h291
                subst e395
                have H396 := aft_ret H283
                refine some_e H396 fun e397 => ?_
                subst e397
                exact p_ret Tryz.mo 16 [.rg 0 [] [.v, .v, .e (.int .i64 ((x1.length : Nat) : Int)), .v], .eqT 45 (.bool false), .rg 0 [] [.v, .v, .e (.dptr [.str ((x1.getD u365 ⟨[], 0⟩).Var), .int .i64 ((x1.getD u365 ⟨[], 0⟩).N)]), .v, .v, .v], .rg 0 [] [.v, .e (.bool false), .v, .v, .v, .v], .eqT 56 (.bool true), .rg 0 [] [.v, .v]] [] [] (all_cons trivial (all_cons (lenm cValue x1) (all_cons (congrArg (AV.bool) c370) (all_app (ix (f := cValue) (l := x1) (n := u365) ⟨[], 0⟩ cValue_len (by decide) (by omega)) (all_cons (congrArg (AV.bool) c384) (all_cons (congrArg (AV.bool) c390) all_nil)))))) (by kernel_rfl)
              · have c392p := of_decide_eq_false c392
                refine t_lensH 2 1 (ps := [(x0.Terms.map cCoef).length ≤ 9223372036854775807]) (by kernel_rfl) (fun l400 => ?_)
                have l401 : x0.Terms.length ≤ 9223372036854775807 := by simpa only [All, List.length_map] using l400
                clear l400
                refine some_e H393 fun e402 => ?_
                subst e402
                exact p_bar Tryz.mo 16 [.rg 0 [] [.v, .v, .e (.int .i64 ((x1.length : Nat) : Int)), .v], .eqT 45 (.bool false), .rg 0 [] [.v, .v, .e (.dptr [.str ((x1.getD u365 ⟨[], 0⟩).Var), .int .i64 ((x1.getD u365 ⟨[], 0⟩).N)]), .v, .v, .v], .rg 0 [] [.v, .e (.bool false), .v, .v, .v, .v], .eqT 56 (.bool false), .rg 0 [] [.v, .v, .v, .v, .e (.dptr [.str ((x0.Terms.getD i189 ⟨[], 0⟩).Var), .int .i64 ((x0.Terms.getD i189 ⟨[], 0⟩).C)]), .v, .v, .v, .w, .w, .v], .rg 0 [] [.v, .v, .v]] [.only [1, 2, 4, 5, 6, 7] [2]] (ref04_Eval_S1 x0 x1 (i189 + 1) (w64 (s188 + (w64 (((x0.Terms.getD i189 ⟨[], 0⟩).C) * ((x1.getD u365 ⟨[], 0⟩).N)))))) (all_cons trivial (all_cons (lenm cValue x1) (all_cons (congrArg (AV.bool) c370) (all_app (ix (f := cValue) (l := x1) (n := u365) ⟨[], 0⟩ cValue_len (by decide) (by omega)) (all_cons (congrArg (AV.bool) c384) (all_cons (congrArg (AV.bool) c392) (all_app (ix (f := cCoef) (l := x0.Terms) (n := i189) ⟨[], 0⟩ cCoef_len (by decide) (by omega)) (all_cons (show I64 (((i189 : Nat) : Int) + 1) from by unfold I64; omega) all_nil)))))))) (by kernel_rfl)
    · subst e404
      have H405 := aft_brk H283
      refine some_e H405 fun e406 => ?_
      subst e406
      exact p_ret Tryz.mo 3 [.rg 0 [] [.v, .v, .v]] [] [] all_nil (by kernel_rfl)
  · refine some_e H7 fun e407 => ?_
    subst e407
    exact p_ret Tryz.mo 10 [.rg 0 [] [.m, .v, .v], .rg 0 [] [.v, .c true (.bool y1), .v], .eqT 12 (.bool true), .rg 0 [] [.v, .v]] [] [] (all_cons Tryz.call92 (all_cons (AFn.is (ref04_Valid_c x0 y1 h2)) (all_cons trivial (all_cons (congrArg (fun x => AV.bool (!x)) c6) all_nil)))) (by kernel_rfl)
/-- framewise/framewiselaw11.ShapeValues -/
noncomputable def law11_ShapeValues (x0 : Shape) (x1 : (List Bind)) (x2 : (List Value)) : Option Bool :=
  (law11_awake).bind fun y1 =>
  bif y1 then (
    (ref11_Few x0).bind fun y38 =>
    bif y38 then (
      (ref11_FewBinds x1).bind fun y65 =>
      bif y65 then (
        bif decide (((x2.length : Nat) : Int) > 10) then (
          (law11_awake).bind fun y89 =>
          some y89
        ) else (
          (shape_Subst x0 x1).bind fun y93 =>
          (shape_Eval y93.1 x2).bind fun y96 =>
          bif (y93.2 == 0) then (
            bif (y96.2 == 0) then (
              bif (x0.Row == []) then (
                (ref11_Vars x0).bind fun y123 =>
                (cnt (σ := (List Value)) (ε := (List Value)) (ρ := Bool) (fun i213 s212 =>
                  (ref11_Find x1 ((y123.getD i213 (⟨0, [], ⟨0, []⟩, ⟨[], []⟩, []⟩)).Kind) ((y123.getD i213 (⟨0, [], ⟨0, []⟩, ⟨[], []⟩, []⟩)).Var)).bind fun y272 =>
                  ((
                    bif decide (y272 ≥ 0) then (
                      grd (0 ≤ y272 ∧ y272 < (x1.length : Int)) <|
                      some (true, (((x1.getD y272.toNat (⟨0, [], ⟨0, []⟩, ⟨[], []⟩, []⟩)).Dim).Const), (((x1.getD y272.toNat (⟨0, [], ⟨0, []⟩, ⟨[], []⟩, []⟩)).Dim).Terms))
                    ) else (
                      some (false, 0, [(Coef.mk ((y123.getD i213 (⟨0, [], ⟨0, []⟩, ⟨[], []⟩, []⟩)).Var) 1)])
                    )
                  ) : Option (Bool × Int × (List Coef))).bind fun v279 =>
                  (ref04_Eval (Linear.mk v279.2.1 v279.2.2) x2).bind fun y290 =>
                  bif (y290.2 == 0) then (
                    bif decide (y290.1 < (-1000000000)) then (
                      some (.ret true)
                    ) else (
                      bif decide (y290.1 > 1000000000) then (
                        some (.ret true)
                      ) else (
                        grd ((s212.length + 1) * 24 ≤ 140737488355328) <|
                        some (.go (s212 ++ [(Value.mk ((y123.getD i213 (⟨0, [], ⟨0, []⟩, ⟨[], []⟩, []⟩)).Var) y290.1)]))
                      )
                    )
                  ) else (
                    some (.ret true)
                  )
                ) (fun i213 s212 => s212) (y123.length - 0) 0 []).bind <| aft fun u328 =>
                (shape_Eval x0 u328).bind fun y331 =>
                bif (y331.2 == 0) then (
                  (ref11_SameInts y96.1 y331.1).bind fun y341 =>
                  some y341
                ) else (
                  some false
                )
              ) else (
                some true
              )
            ) else (
              some true
            )
          ) else (
            some true
          )
        )
      ) else (
        (law11_awake).bind fun y349 =>
        some y349
      )
    ) else (
      (law11_awake).bind fun y353 =>
      some y353
    )
  ) else (
    (law11_awake).bind fun y357 =>
    some y357
  )
def law11_ShapeValues_S1 (x0 : Shape) (x1 : (List Bind)) (x2 : (List Value)) (y96 : ((List Int) × Int)) (y123 : (List Bind)) (i213 : Nat) (s212 : (List Value)) : AS := ⟨121, [(1, .dslice (x1.map cBind)), (2, .dslice (x2.map cValue)), (3, .hptr 3 0), (6, .bool false), (9, .dslice (y96.1.map cInt_i64)), (11, .rslice 106), (62, .dslice (y123.map cBind)), (63, .int .i64 ((y123.length : Nat) : Int)), (64, .int .i64 ((i213 : Nat) : Int))], [(3, .cells 24 [.str x0.Row, .dslice (x0.Dims.map cLinear)]), (106, .row 62 2 (s212.map cValue))]⟩
def law11_ShapeValues_S2 (x0 : Shape) (y96 : ((List Int) × Int)) (u262 : (List Value)) : AS := ⟨121, [(3, .hptr 3 0), (6, .bool false), (9, .dslice (y96.1.map cInt_i64)), (11, .rslice 106)], [(3, .cells 24 [.str x0.Row, .dslice (x0.Dims.map cLinear)]), (106, .row 62 2 (u262.map cValue))]⟩
def law11_ShapeValues_S3 (x0 : Shape) (x1 : (List Bind)) (x2 : (List Value)) (y96 : ((List Int) × Int)) (y123 : (List Bind)) (i213 : Nat) (s212 : (List Value)) (y272 : Int) (v279 : (Bool × Int × (List Coef))) : AS := ⟨121, [(1, .dslice (x1.map cBind)), (2, .dslice (x2.map cValue)), (3, .hptr 3 0), (6, .bool false), (9, .dslice (y96.1.map cInt_i64)), (11, .rslice 106), (13, .hptr 13 0), (14, .int .i64 y272), (15, .hptr 15 0), (62, .dslice (y123.map cBind)), (63, .int .i64 ((y123.length : Nat) : Int)), (64, .int .i64 ((i213 : Nat) : Int)), (65, .bool true), (80, .bool v279.1)], [(3, .cells 24 [.str x0.Row, .dslice (x0.Dims.map cLinear)]), (13, .cells 55 [.int .i64 ((y123.getD i213 (⟨0, [], ⟨0, []⟩, ⟨[], []⟩, []⟩)).Kind), .str ((y123.getD i213 (⟨0, [], ⟨0, []⟩, ⟨[], []⟩, []⟩)).Var), .int .i64 (((y123.getD i213 (⟨0, [], ⟨0, []⟩, ⟨[], []⟩, []⟩)).Dim).Const), .dslice ((((y123.getD i213 (⟨0, [], ⟨0, []⟩, ⟨[], []⟩, []⟩)).Dim).Terms).map cCoef), .str (((y123.getD i213 (⟨0, [], ⟨0, []⟩, ⟨[], []⟩, []⟩)).Row).Row), .dslice ((((y123.getD i213 (⟨0, [], ⟨0, []⟩, ⟨[], []⟩, []⟩)).Row).Dims).map cLinear), .str ((y123.getD i213 (⟨0, [], ⟨0, []⟩, ⟨[], []⟩, []⟩)).Elem)]), (15, .cells 53 [.int .i64 v279.2.1, .dslice (v279.2.2.map cCoef)]), (106, .row 62 2 (s212.map cValue))]⟩
theorem law11_ShapeValues_c (x0 : Shape) (x1 : (List Bind)) (x2 : (List Value)) (r : Bool) (H : law11_ShapeValues x0 x1 x2 = some r) : AFn Tryz.prog 6 [.agg [.str x0.Row, .dslice (x0.Dims.map cLinear)], .dslice (x1.map cBind), .dslice (x2.map cValue)] (.bool r) := by
  unfold law11_ShapeValues at H
  refine acallX Tryz.func6 121 [.tmp 6] (by kernel_rfl) (by kernel_rfl) ?_
  refine bnd H fun y1 h2 H3 => ?_
  refine bsp H3 (fun c34 H35 => ?_) (fun c36 H37 => ?_)
  · refine bnd H35 fun y38 h39 H40 => ?_
    refine bsp H40 (fun c61 H62 => ?_) (fun c63 H64 => ?_)
    · refine bnd H62 fun y65 h66 H67 => ?_
      refine bsp H67 (fun c78 H79 => ?_) (fun c80 H81 => ?_)
      · refine bsp H79 (fun c85 H86 => ?_) (fun c87 H88 => ?_)
        · have c85p := of_decide_eq_true c85
          refine bnd H86 fun y89 h90 H91 => ?_
          refine some_e H91 fun e92 => ?_
          subst e92
          exact p_ret Tryz.mo 10 [.rg 0 [] [.m, .v], .rg 0 [] [.c true (.bool true), .v, .v, .v, .c true (.bool true), .v, .v, .v, .v, .c true (.bool true), .v, .v, .v, .v, .e (.int .i64 ((x2.length : Nat) : Int)), .v, .v], .eqT 36 (.bool true), .rg 0 [] [.c true (.bool y89), .v]] [] [] (all_cons Tryz.call15 (all_cons (AFn.eq (law11_awake_c y1 h2) (congrArg (AV.bool) c34)) (all_cons trivial (all_cons Tryz.call16 (all_cons (AFn.eq (ref11_Few_c x0 y38 h39) (congrArg (AV.bool) c61)) (all_cons trivial (all_cons Tryz.call23 (all_cons (AFn.eq (ref11_FewBinds_c x1 y65 h66) (congrArg (AV.bool) c78)) (all_cons trivial (all_cons trivial (all_cons (lenm cValue x2) (all_cons (congrArg (AV.bool) c85) (all_cons Tryz.call15 (all_cons (AFn.is (law11_awake_c y89 h90)) all_nil)))))))))))))) (by kernel_rfl)
        · have c87p := of_decide_eq_false c87
          refine bnd H88 fun y93 h94 H95 => ?_
          refine bnd H95 fun y96 h97 H98 => ?_
          refine bsp H98 (fun c107 H108 => ?_) (fun c109 H110 => ?_)
          · refine bsp H108 (fun c115 H116 => ?_) (fun c117 H118 => ?_)
            · refine bsp H116 (fun c119 H120 => ?_) (fun c121 H122 => ?_)
              · refine bnd H120 fun y123 h124 H125 => ?_
                refine p_at Tryz.mo 24 [.rg 0 [] [.m, .v], .rg 0 [] [.c true (.bool true), .v, .v, .v, .c true (.bool true), .v, .v, .v, .v, .c true (.bool true), .v, .v, .v, .v, .e (.int .i64 ((x2.length : Nat) : Int)), .v, .v], .eqT 36 (.bool false), .rg 0 [] [.v, .v, .c true (.tup [.agg [.str y93.1.Row, .dslice (y93.1.Dims.map cLinear)], .int .i64 y93.2]), .v, .v, .v, .m, .m, .v], .rg 0 [] [.v, .v, .c true (.tup [.dslice (y96.1.map cInt_i64), .int .i64 y96.2]), .v, .v, .v, .v, .v], .rg 0 [] [.v, .e (.bool false), .v, .v, .e (.bool false), .v, .v, .v, .v, .v, .v], .eqT 60 (.bool false), .rg 0 [] [.v], .rg 0 [] [.v, .c true (.dslice (y123.map cBind)), .e (.int .i64 ((y123.length : Nat) : Int)), .v]] [.er 11 106 62 2, .only [1, 2, 3, 6, 9, 11, 62, 63, 64] [3, 106]] 22 [false, false] (law11_ShapeValues_S1 x0 x1 x2 y96 y123 0 []) (all_cons Tryz.call15 (all_cons (AFn.eq (law11_awake_c y1 h2) (congrArg (AV.bool) c34)) (all_cons trivial (all_cons Tryz.call16 (all_cons (AFn.eq (ref11_Few_c x0 y38 h39) (congrArg (AV.bool) c61)) (all_cons trivial (all_cons Tryz.call23 (all_cons (AFn.eq (ref11_FewBinds_c x1 y65 h66) (congrArg (AV.bool) c78)) (all_cons trivial (all_cons trivial (all_cons (lenm cValue x2) (all_cons (congrArg (AV.bool) c87) (all_cons Tryz.call35 (all_cons (AFn.is (shape_Subst_c x0 x1 y93 h94)) (all_cons Tryz.call37 (all_cons (AFn.is (shape_Eval_c y93.1 x2 y96 h97)) (all_cons (congrArg (fun x => AV.bool (!x)) c107) (all_cons (congrArg (fun x => AV.bool (!x)) c115) (all_cons (congrArg (fun x => AV.bool (!x)) c119) (all_cons Tryz.call30 (all_cons (AFn.is (ref11_Vars_c x0 y123 h124)) (all_cons trivial (all_cons (lenm cBind y123) all_nil))))))))))))))))))))))) (by kernel_rfl) ?_
                refine bnd H125 fun R259 h260 H261 => ?_
                refine p_joinO 1 (law11_ShapeValues_S2 x0 y96) R259 (by kernel_rfl) ?_ (fun u328 e329 => ?_)
                · refine p_cnt (law11_ShapeValues_S1 x0 x1 x2 y96 y123) (by kernel_rfl) h260 (fun i213 s212 h263 e264 => ?_) (fun i213 s212 h271 q267 h268 h269 => ?_)
                  · have c265 : decide (((i213 : Nat) : Int) < ((y123.length : Nat) : Int)) = false := decide_eq_false (by omega)
                    subst e264
                    exact p_bar Tryz.mo 5 [.rg 0 [] [.e (.bool false)]] [.only [3, 6, 9, 11] [3, 106]] (law11_ShapeValues_S2 x0 y96 s212) (all_cons (congrArg (AV.bool) c265) all_nil) (by kernel_rfl)
                  · have c270 : decide (((i213 : Nat) : Int) < ((y123.length : Nat) : Int)) = true := decide_eq_true (by omega)
                    refine bnd h268 fun y272 h273 H274 => ?_
                    refine p_at Tryz.mo 16 [.rg 0 [] [.e (.bool true)], .rg 0 [] [.e (.dptr [.int .i64 ((y123.getD i213 (⟨0, [], ⟨0, []⟩, ⟨[], []⟩, []⟩)).Kind), .str ((y123.getD i213 (⟨0, [], ⟨0, []⟩, ⟨[], []⟩, []⟩)).Var), .int .i64 (((y123.getD i213 (⟨0, [], ⟨0, []⟩, ⟨[], []⟩, []⟩)).Dim).Const), .dslice ((((y123.getD i213 (⟨0, [], ⟨0, []⟩, ⟨[], []⟩, []⟩)).Dim).Terms).map cCoef), .str (((y123.getD i213 (⟨0, [], ⟨0, []⟩, ⟨[], []⟩, []⟩)).Row).Row), .dslice ((((y123.getD i213 (⟨0, [], ⟨0, []⟩, ⟨[], []⟩, []⟩)).Row).Dims).map cLinear), .str ((y123.getD i213 (⟨0, [], ⟨0, []⟩, ⟨[], []⟩, []⟩)).Elem)]), .v, .m, .m], .rg 0 [] [.v, .v, .v, .v, .v, .c true (.int .i64 y272), .v], .rg 0 [] [.v, .v, .b, .b, .b, .m, .m], .rg 0 [] [.v, .v]] [.only [1, 2, 3, 6, 9, 11, 13, 14, 15, 62, 63, 64, 65, 80] [3, 13, 15, 106]] 16 [true] ⟨121, [(1, .dslice (x1.map cBind)), (2, .dslice (x2.map cValue)), (3, .hptr 3 0), (6, .bool false), (9, .dslice (y96.1.map cInt_i64)), (11, .rslice 106), (13, .hptr 13 0), (14, .int .i64 y272), (15, .hptr 15 0), (62, .dslice (y123.map cBind)), (63, .int .i64 ((y123.length : Nat) : Int)), (64, .int .i64 ((i213 : Nat) : Int)), (65, .bool true), (80, .bool (decide (y272 ≥ 0)))], [(3, .cells 24 [.str x0.Row, .dslice (x0.Dims.map cLinear)]), (13, .cells 55 [.int .i64 ((y123.getD i213 (⟨0, [], ⟨0, []⟩, ⟨[], []⟩, []⟩)).Kind), .str ((y123.getD i213 (⟨0, [], ⟨0, []⟩, ⟨[], []⟩, []⟩)).Var), .int .i64 (((y123.getD i213 (⟨0, [], ⟨0, []⟩, ⟨[], []⟩, []⟩)).Dim).Const), .dslice ((((y123.getD i213 (⟨0, [], ⟨0, []⟩, ⟨[], []⟩, []⟩)).Dim).Terms).map cCoef), .str (((y123.getD i213 (⟨0, [], ⟨0, []⟩, ⟨[], []⟩, []⟩)).Row).Row), .dslice ((((y123.getD i213 (⟨0, [], ⟨0, []⟩, ⟨[], []⟩, []⟩)).Row).Dims).map cLinear), .str ((y123.getD i213 (⟨0, [], ⟨0, []⟩, ⟨[], []⟩, []⟩)).Elem)]), (15, .cells 53 [.int .i64 0, .dslice ([(Coef.mk ((y123.getD i213 (⟨0, [], ⟨0, []⟩, ⟨[], []⟩, []⟩)).Var) 1)].map cCoef)]), (106, .row 62 2 (s212.map cValue))]⟩ (all_cons (congrArg (AV.bool) c270) (all_app (ix (f := cBind) (l := y123) (n := i213) (⟨0, [], ⟨0, []⟩, ⟨[], []⟩, []⟩) cBind_len (by decide) (by omega)) (all_cons Tryz.call38 (all_cons (AFn.is (ref11_Find_c x1 ((y123.getD i213 (⟨0, [], ⟨0, []⟩, ⟨[], []⟩, []⟩)).Kind) ((y123.getD i213 (⟨0, [], ⟨0, []⟩, ⟨[], []⟩, []⟩)).Var) y272 h273)) all_nil)))) (by kernel_rfl) ?_
                    refine bnd H274 fun v279 h280 H281 => ?_
                    refine p_join 0 (law11_ShapeValues_S3 x0 x1 x2 y96 y123 i213 s212 y272 v279) (by kernel_rfl) ?_ ?_
                    · refine bsp h280 (fun c282 H283 => ?_) (fun c284 H285 => ?_)
                      · have c282p := of_decide_eq_true c282
                        refine grd_e H283 fun g286 H287 => ?_
                        refine some_e H287 fun e288 => ?_
                        subst e288
                        exact p_bar Tryz.mo 3 [.eqT 80 (.bool true), .rg 0 [] [.v, .v, .e (.dptr [.int .i64 ((x1.getD y272.toNat (⟨0, [], ⟨0, []⟩, ⟨[], []⟩, []⟩)).Kind), .str ((x1.getD y272.toNat (⟨0, [], ⟨0, []⟩, ⟨[], []⟩, []⟩)).Var), .int .i64 (((x1.getD y272.toNat (⟨0, [], ⟨0, []⟩, ⟨[], []⟩, []⟩)).Dim).Const), .dslice ((((x1.getD y272.toNat (⟨0, [], ⟨0, []⟩, ⟨[], []⟩, []⟩)).Dim).Terms).map cCoef), .str (((x1.getD y272.toNat (⟨0, [], ⟨0, []⟩, ⟨[], []⟩, []⟩)).Row).Row), .dslice ((((x1.getD y272.toNat (⟨0, [], ⟨0, []⟩, ⟨[], []⟩, []⟩)).Row).Dims).map cLinear), .str ((x1.getD y272.toNat (⟨0, [], ⟨0, []⟩, ⟨[], []⟩, []⟩)).Elem)]), .v, .v, .m]] [.only [1, 2, 3, 6, 9, 11, 13, 14, 15, 62, 63, 64, 65, 80] [3, 13, 15, 106]] (law11_ShapeValues_S3 x0 x1 x2 y96 y123 i213 s212 y272 (true, (((x1.getD y272.toNat (⟨0, [], ⟨0, []⟩, ⟨[], []⟩, []⟩)).Dim).Const), (((x1.getD y272.toNat (⟨0, [], ⟨0, []⟩, ⟨[], []⟩, []⟩)).Dim).Terms))) (all_cons (congrArg (AV.bool) c282) (all_app (ixz (f := cBind) (l := x1) (n := y272) (⟨0, [], ⟨0, []⟩, ⟨[], []⟩, []⟩) cBind_len (by decide) (by exact g286)) all_nil)) (by kernel_rfl)
                      · have c284p := of_decide_eq_false c284
                        refine some_e H285 fun e289 => ?_
                        subst e289
                        exact p_bar Tryz.mo 3 [.eqT 80 (.bool false)] [.only [1, 2, 3, 6, 9, 11, 13, 14, 15, 62, 63, 64, 65, 80] [3, 13, 15, 106]] (law11_ShapeValues_S3 x0 x1 x2 y96 y123 i213 s212 y272 (false, 0, [(Coef.mk ((y123.getD i213 (⟨0, [], ⟨0, []⟩, ⟨[], []⟩, []⟩)).Var) 1)])) (all_cons (congrArg (AV.bool) c284) all_nil) (by kernel_rfl)
                    · refine bnd H281 fun y290 h291 H292 => ?_
                      refine bsp H292 (fun c293 H294 => ?_) (fun c295 H296 => ?_)
                      · refine bsp H294 (fun c301 H302 => ?_) (fun c303 H304 => ?_)
                        · have c301p := of_decide_eq_true c301
                          refine some_e H302 fun e305 => ?_
                          subst e305
                          have e306 := out_ret h269
                          subst e306
                          have H307 := aft_ret H261
                          refine some_e H307 fun e308 => ?_
                          subst e308
                          exact p_ret Tryz.mo 15 [.rg 0 [] [.v, .v, .c true (.tup [.int .i64 y290.1, .int .i64 y290.2]), .v, .v, .v, .v, .v], .rg 0 [] [.v, .v], .eqT 93 (.bool false), .rg 0 [] [.v, .e (.bool true), .v, .s, .s, .v], .rg 0 [] [.v]] [] [] (all_cons Tryz.call39 (all_cons (AFn.is (ref04_Eval_c (Linear.mk v279.2.1 v279.2.2) x2 y290 h291)) (all_cons (congrArg (fun x => AV.bool (!x)) c293) (all_cons (congrArg (AV.bool) c301) all_nil)))) (by kernel_rfl)
                        · have c303p := of_decide_eq_false c303
                          refine bsp H304 (fun c309 H310 => ?_) (fun c311 H312 => ?_)
                          · have c309p := of_decide_eq_true c309
                            refine some_e H310 fun e313 => ?_
                            subst e313
                            have e314 := out_ret h269
                            subst e314
                            have H315 := aft_ret H261
                            refine some_e H315 fun e316 => ?_
                            subst e316
                            exact p_ret Tryz.mo 16 [.rg 0 [] [.v, .v, .c true (.tup [.int .i64 y290.1, .int .i64 y290.2]), .v, .v, .v, .v, .v], .rg 0 [] [.v, .v], .eqT 93 (.bool false), .rg 0 [] [.v, .e (.bool false), .v, .v, .v, .v], .eqT 99 (.bool true), .rg 0 [] [.v]] [] [] (all_cons Tryz.call39 (all_cons (AFn.is (ref04_Eval_c (Linear.mk v279.2.1 v279.2.2) x2 y290 h291)) (all_cons (congrArg (fun x => AV.bool (!x)) c293) (all_cons (congrArg (AV.bool) c303) (all_cons (congrArg (AV.bool) c309) all_nil))))) (by kernel_rfl)
                          · have c311p := of_decide_eq_false c311
                            refine grd_e H312 fun g317 H318 => ?_
                            refine t_lens 62 (ps := [(y123.map cBind).length ≤ 9223372036854775807]) (by kernel_rfl) (fun l321 => ?_)
                            have l322 : y123.length ≤ 9223372036854775807 := by simpa only [All, List.length_map] using l321
                            clear l321
                            refine some_e H318 fun e323 => ?_
                            subst e323
                            exact p_bar Tryz.mo 16 [.rg 0 [] [.v, .v, .c true (.tup [.int .i64 y290.1, .int .i64 y290.2]), .v, .v, .v, .v, .v], .rg 0 [] [.v, .v], .eqT 93 (.bool false), .rg 0 [] [.v, .e (.bool false), .v, .v, .v, .v], .eqT 99 (.bool false), .rg 0 [] [.v, .v, .v, .v, .b, .b, .ap, .rwH 106 (.row 62 2 ((s212 ++ [(Value.mk ((y123.getD i213 (⟨0, [], ⟨0, []⟩, ⟨[], []⟩, []⟩)).Var) y290.1)]).map cValue)), .v], .rg 0 [] [.v, .v]] [.only [1, 2, 3, 6, 9, 11, 62, 63, 64] [3, 106]] (law11_ShapeValues_S1 x0 x1 x2 y96 y123 (i213 + 1) (s212 ++ [(Value.mk ((y123.getD i213 (⟨0, [], ⟨0, []⟩, ⟨[], []⟩, []⟩)).Var) y290.1)])) (all_cons Tryz.call39 (all_cons (AFn.is (ref04_Eval_c (Linear.mk v279.2.1 v279.2.2) x2 y290 h291)) (all_cons (congrArg (fun x => AV.bool (!x)) c293) (all_cons (congrArg (AV.bool) c303) (all_cons (congrArg (AV.bool) c311) (all_app (apR (c := cValue) cValue_ok s212 [(Value.mk ((y123.getD i213 (⟨0, [], ⟨0, []⟩, ⟨[], []⟩, []⟩)).Var) y290.1)] 24 (by decide) (by simpa using g317)) (all_cons (apQ 62 2 cValue s212 [(Value.mk ((y123.getD i213 (⟨0, [], ⟨0, []⟩, ⟨[], []⟩, []⟩)).Var) y290.1)]) (all_cons (show I64 (((i213 : Nat) : Int) + 1) from by unfold I64; omega) all_nil)))))))) (by kernel_rfl)
                      · refine some_e H296 fun e324 => ?_
                        subst e324
                        have e325 := out_ret h269
                        subst e325
                        have H326 := aft_ret H261
                        refine some_e H326 fun e327 => ?_
                        subst e327
                        exact p_ret Tryz.mo 10 [.rg 0 [] [.v, .v, .c true (.tup [.int .i64 y290.1, .int .i64 y290.2]), .v, .v, .v, .v, .v], .rg 0 [] [.v, .v], .eqT 93 (.bool true), .rg 0 [] [.v]] [] [] (all_cons Tryz.call39 (all_cons (AFn.is (ref04_Eval_c (Linear.mk v279.2.1 v279.2.2) x2 y290 h291)) (all_cons (congrArg (fun x => AV.bool (!x)) c295) all_nil))) (by kernel_rfl)
                · subst e329
                  have H330 := aft_brk H261
                  refine bnd H330 fun y331 h332 H333 => ?_
                  refine bsp H333 (fun c337 H338 => ?_) (fun c339 H340 => ?_)
                  · refine bnd H338 fun y341 h342 H343 => ?_
                    refine some_e H343 fun e344 => ?_
                    subst e344
                    exact p_ret Tryz.mo 5 [.rg 0 [] [.v, .v, .fz 106, .c true (.tup [.dslice (y331.1.map cInt_i64), .int .i64 y331.2]), .v, .v, .v, .v, .v], .rg 0 [] [.v, .e (.bool true), .v, .v, .v, .c true (.bool y341), .v, .v]] [] [] (all_cons Tryz.call37 (all_cons (AFn.is (shape_Eval_c x0 u328 y331 h332)) (all_cons (congrArg (AV.bool) c337) (all_cons Tryz.call40 (all_cons (AFn.is (ref11_SameInts_c y96.1 y331.1 y341 h342)) all_nil))))) (by kernel_rfl)
                  · refine some_e H340 fun e345 => ?_
                    subst e345
                    exact p_ret Tryz.mo 5 [.rg 0 [] [.v, .v, .fz 106, .c true (.tup [.dslice (y331.1.map cInt_i64), .int .i64 y331.2]), .v, .v, .v, .v, .v], .rg 0 [] [.v, .e (.bool false), .v, .s, .s, .s, .v, .v]] [] [] (all_cons Tryz.call37 (all_cons (AFn.is (shape_Eval_c x0 u328 y331 h332)) (all_cons (congrArg (AV.bool) c339) all_nil))) (by kernel_rfl)
              · refine some_e H122 fun e346 => ?_
                subst e346
                exact p_ret Tryz.mo 20 [.rg 0 [] [.m, .v], .rg 0 [] [.c true (.bool true), .v, .v, .v, .c true (.bool true), .v, .v, .v, .v, .c true (.bool true), .v, .v, .v, .v, .e (.int .i64 ((x2.length : Nat) : Int)), .v, .v], .eqT 36 (.bool false), .rg 0 [] [.v, .v, .c true (.tup [.agg [.str y93.1.Row, .dslice (y93.1.Dims.map cLinear)], .int .i64 y93.2]), .v, .v, .v, .m, .m, .v], .rg 0 [] [.v, .v, .c true (.tup [.dslice (y96.1.map cInt_i64), .int .i64 y96.2]), .v, .v, .v, .v, .v], .rg 0 [] [.v, .e (.bool false), .v, .v, .e (.bool false), .v, .v, .v, .v, .v, .v], .eqT 60 (.bool true), .rg 0 [] [.v]] [] [] (all_cons Tryz.call15 (all_cons (AFn.eq (law11_awake_c y1 h2) (congrArg (AV.bool) c34)) (all_cons trivial (all_cons Tryz.call16 (all_cons (AFn.eq (ref11_Few_c x0 y38 h39) (congrArg (AV.bool) c61)) (all_cons trivial (all_cons Tryz.call23 (all_cons (AFn.eq (ref11_FewBinds_c x1 y65 h66) (congrArg (AV.bool) c78)) (all_cons trivial (all_cons trivial (all_cons (lenm cValue x2) (all_cons (congrArg (AV.bool) c87) (all_cons Tryz.call35 (all_cons (AFn.is (shape_Subst_c x0 x1 y93 h94)) (all_cons Tryz.call37 (all_cons (AFn.is (shape_Eval_c y93.1 x2 y96 h97)) (all_cons (congrArg (fun x => AV.bool (!x)) c107) (all_cons (congrArg (fun x => AV.bool (!x)) c115) (all_cons (congrArg (fun x => AV.bool (!x)) c121) all_nil))))))))))))))))))) (by kernel_rfl)
            · refine some_e H118 fun e347 => ?_
              subst e347
              exact p_ret Tryz.mo 19 [.rg 0 [] [.m, .v], .rg 0 [] [.c true (.bool true), .v, .v, .v, .c true (.bool true), .v, .v, .v, .v, .c true (.bool true), .v, .v, .v, .v, .e (.int .i64 ((x2.length : Nat) : Int)), .v, .v], .eqT 36 (.bool false), .rg 0 [] [.v, .v, .c true (.tup [.agg [.str y93.1.Row, .dslice (y93.1.Dims.map cLinear)], .int .i64 y93.2]), .v, .v, .v, .m, .m, .v], .rg 0 [] [.v, .v, .c true (.tup [.dslice (y96.1.map cInt_i64), .int .i64 y96.2]), .v, .v, .v, .v, .v], .rg 0 [] [.v, .e (.bool false), .v, .v, .e (.bool true), .v, .v, .s, .s, .s, .v], .rg 0 [] [.v]] [] [] (all_cons Tryz.call15 (all_cons (AFn.eq (law11_awake_c y1 h2) (congrArg (AV.bool) c34)) (all_cons trivial (all_cons Tryz.call16 (all_cons (AFn.eq (ref11_Few_c x0 y38 h39) (congrArg (AV.bool) c61)) (all_cons trivial (all_cons Tryz.call23 (all_cons (AFn.eq (ref11_FewBinds_c x1 y65 h66) (congrArg (AV.bool) c78)) (all_cons trivial (all_cons trivial (all_cons (lenm cValue x2) (all_cons (congrArg (AV.bool) c87) (all_cons Tryz.call35 (all_cons (AFn.is (shape_Subst_c x0 x1 y93 h94)) (all_cons Tryz.call37 (all_cons (AFn.is (shape_Eval_c y93.1 x2 y96 h97)) (all_cons (congrArg (fun x => AV.bool (!x)) c107) (all_cons (congrArg (fun x => AV.bool (!x)) c117) all_nil)))))))))))))))))) (by kernel_rfl)
          · refine some_e H110 fun e348 => ?_
            subst e348
            exact p_ret Tryz.mo 19 [.rg 0 [] [.m, .v], .rg 0 [] [.c true (.bool true), .v, .v, .v, .c true (.bool true), .v, .v, .v, .v, .c true (.bool true), .v, .v, .v, .v, .e (.int .i64 ((x2.length : Nat) : Int)), .v, .v], .eqT 36 (.bool false), .rg 0 [] [.v, .v, .c true (.tup [.agg [.str y93.1.Row, .dslice (y93.1.Dims.map cLinear)], .int .i64 y93.2]), .v, .v, .v, .m, .m, .v], .rg 0 [] [.v, .v, .c true (.tup [.dslice (y96.1.map cInt_i64), .int .i64 y96.2]), .v, .v, .v, .v, .v], .rg 0 [] [.v, .e (.bool true), .v, .s, .s, .v, .v, .s, .s, .s, .v], .rg 0 [] [.v]] [] [] (all_cons Tryz.call15 (all_cons (AFn.eq (law11_awake_c y1 h2) (congrArg (AV.bool) c34)) (all_cons trivial (all_cons Tryz.call16 (all_cons (AFn.eq (ref11_Few_c x0 y38 h39) (congrArg (AV.bool) c61)) (all_cons trivial (all_cons Tryz.call23 (all_cons (AFn.eq (ref11_FewBinds_c x1 y65 h66) (congrArg (AV.bool) c78)) (all_cons trivial (all_cons trivial (all_cons (lenm cValue x2) (all_cons (congrArg (AV.bool) c87) (all_cons Tryz.call35 (all_cons (AFn.is (shape_Subst_c x0 x1 y93 h94)) (all_cons Tryz.call37 (all_cons (AFn.is (shape_Eval_c y93.1 x2 y96 h97)) (all_cons (congrArg (fun x => AV.bool (!x)) c109) all_nil))))))))))))))))) (by kernel_rfl)
      · refine bnd H81 fun y349 h350 H351 => ?_
        refine some_e H351 fun e352 => ?_
        subst e352
        exact p_ret Tryz.mo 9 [.rg 0 [] [.m, .v], .rg 0 [] [.c true (.bool true), .v, .v, .v, .c true (.bool true), .v, .v, .v, .v, .c true (.bool false), .v, .v, .v, .s, .s, .s, .v], .rg 0 [] [.c true (.bool y349), .v]] [] [] (all_cons Tryz.call15 (all_cons (AFn.eq (law11_awake_c y1 h2) (congrArg (AV.bool) c34)) (all_cons trivial (all_cons Tryz.call16 (all_cons (AFn.eq (ref11_Few_c x0 y38 h39) (congrArg (AV.bool) c61)) (all_cons trivial (all_cons Tryz.call23 (all_cons (AFn.eq (ref11_FewBinds_c x1 y65 h66) (congrArg (AV.bool) c80)) (all_cons trivial (all_cons Tryz.call15 (all_cons (AFn.is (law11_awake_c y349 h350)) all_nil))))))))))) (by kernel_rfl)
    · refine bnd H64 fun y353 h354 H355 => ?_
      refine some_e H355 fun e356 => ?_
      subst e356
      exact p_ret Tryz.mo 9 [.rg 0 [] [.m, .v], .rg 0 [] [.c true (.bool true), .v, .v, .v, .c true (.bool false), .v, .v, .v, .s, .s, .s, .v, .v, .s, .s, .s, .v], .rg 0 [] [.c true (.bool y353), .v]] [] [] (all_cons Tryz.call15 (all_cons (AFn.eq (law11_awake_c y1 h2) (congrArg (AV.bool) c34)) (all_cons trivial (all_cons Tryz.call16 (all_cons (AFn.eq (ref11_Few_c x0 y38 h39) (congrArg (AV.bool) c63)) (all_cons trivial (all_cons Tryz.call15 (all_cons (AFn.is (law11_awake_c y353 h354)) all_nil)))))))) (by kernel_rfl)
  · refine bnd H37 fun y357 h358 H359 => ?_
    refine some_e H359 fun e360 => ?_
    subst e360
    exact p_ret Tryz.mo 9 [.rg 0 [] [.m, .v], .rg 0 [] [.c true (.bool false), .v, .v, .s, .s, .s, .v, .v, .s, .s, .s, .v, .v, .s, .s, .s, .v], .rg 0 [] [.c true (.bool y357), .v]] [] [] (all_cons Tryz.call15 (all_cons (AFn.eq (law11_awake_c y1 h2) (congrArg (AV.bool) c36)) (all_cons trivial (all_cons Tryz.call15 (all_cons (AFn.is (law11_awake_c y357 h358)) all_nil))))) (by kernel_rfl)

end Go.Proofs.YtopejmjihbkieaaGreatDoor
