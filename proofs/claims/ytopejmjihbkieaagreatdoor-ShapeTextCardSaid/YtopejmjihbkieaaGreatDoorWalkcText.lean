/- What functions of the program compute, walked: each as a plain function, with the theorem that the code computes it wherever that answers. Printed by a program (gen3.py), part 3. -/
import Derived.Test.YtopejmjihbkieaaGreatDoorLibT
import Derived.Test.YtopejmjihbkieaaGreatDoorAbN
import Derived.KernelRfl
import Derived.Test.YtopejmjihbkieaaGreatDoorProg
import Derived.Test.YtopejmjihbkieaaGreatDoorWalkbText
set_option linter.unusedSimpArgs false
set_option linter.unusedVariables false
namespace Go.Proofs.YtopejmjihbkieaaGreatDoor
open Go.RowKit Go.Ab Go.Sh
/-- framewise/framewiseref11.Print -/
def ref11_Print (x0 : Shape) : Option (Str × Int) :=
  (ref11_Valid x0).bind fun y1 =>
  bif y1 then (
    ((
      bif (x0.Row == []) then (
        some []
      ) else (
        grd (x0.Row.length + [46, 46].length ≤ 9223372036854775807) <|
        some (x0.Row ++ [46, 46])
      )
    ) : Option Str).bind fun v12 =>
    (cnt (σ := Str) (ε := Str) (ρ := Empty) (fun i74 s73 =>
      ((
        bif (s73 == []) then (
          some (s73, false)
        ) else (
          grd (s73.length + [44, 32].length ≤ 9223372036854775807) <|
          some ((s73 ++ [44, 32]), true)
        )
      ) : Option (Str × Bool)).bind fun v118 =>
      (ref04_Print (Linear.mk ((x0.Dims.getD i74 ⟨0, []⟩).Const) ((x0.Dims.getD i74 ⟨0, []⟩).Terms))).bind fun y129 =>
      grd (v118.1.length + y129.length ≤ 9223372036854775807) <|
      some (.go (v118.1 ++ y129))
    ) (fun i74 s73 => s73) (x0.Dims.length - 0) 0 v12).bind <| aftE fun u139 =>
    grd ([91].length + u139.length ≤ 9223372036854775807) <|
    grd (([91] ++ u139).length + [93].length ≤ 9223372036854775807) <|
    some ((([91] ++ u139) ++ [93]), 0)
  ) else (
    some ([], 1)
  )
def ref11_Print_S1 (x0 : Shape) (v12 : Str) : AS := ⟨37, [(1, .hptr 1 0), (2, .str []), (3, .int .i64 0), (4, .str v12)], [(1, .cells 24 [.str x0.Row, .dslice (x0.Dims.map cLinear)])]⟩
def ref11_Print_S2 (x0 : Shape) (i74 : Nat) (s73 : Str) : AS := ⟨37, [(1, .hptr 1 0), (2, .str []), (3, .int .i64 0), (4, .str s73), (5, .int .i64 ((i74 : Nat) : Int))], [(1, .cells 24 [.str x0.Row, .dslice (x0.Dims.map cLinear)])]⟩
def ref11_Print_S3 (u104 : Str) : AS := ⟨37, [(2, .str []), (3, .int .i64 0), (4, .str u104)], []⟩
def ref11_Print_S4 (x0 : Shape) (i74 : Nat) (v118 : (Str × Bool)) : AS := ⟨37, [(1, .hptr 1 0), (2, .str []), (3, .int .i64 0), (4, .str v118.1), (5, .int .i64 ((i74 : Nat) : Int)), (19, .bool true), (23, .bool v118.2)], [(1, .cells 24 [.str x0.Row, .dslice (x0.Dims.map cLinear)])]⟩
theorem ref11_Print_c (x0 : Shape) (r : (Str × Int)) (H : ref11_Print x0 = some r) : AFn Tryz.prog 42 [.agg [.str x0.Row, .dslice (x0.Dims.map cLinear)]] (.tup [.str r.1, .int .i64 r.2]) := by
  unfold ref11_Print at H
  refine acallX Tryz.func42 37 [.tmp 2, .tmp 3] (by kernel_rfl) (by kernel_rfl) ?_
  refine bnd H fun y1 h2 H3 => ?_
  refine bsp H3 (fun c4 H5 => ?_) (fun c6 H7 => ?_)
  · refine p_at Tryz.mo 13 [.rg 0 [] [.m, .v, .v], .rg 0 [] [.v, .c true (.bool y1), .v], .eqT 8 (.bool false), .rg 0 [] [.v], .rg 0 [] [.v, .v, .v]] [.only [1, 2, 3, 4, 11] [1]] 12 [false] ⟨37, [(1, .hptr 1 0), (2, .str []), (3, .int .i64 0), (4, .str []), (11, .bool (!(x0.Row == [])))], [(1, .cells 24 [.str x0.Row, .dslice (x0.Dims.map cLinear)])]⟩ (all_cons Tryz.call27 (all_cons (AFn.is (ref11_Valid_c x0 y1 h2)) (all_cons trivial (all_cons (congrArg (fun x => AV.bool (!x)) c4) all_nil)))) (by kernel_rfl) ?_
    refine bnd H5 fun v12 h13 H14 => ?_
    refine p_join 0 (ref11_Print_S1 x0 v12) (by kernel_rfl) ?_ ?_
    · refine bsp h13 (fun c15 H16 => ?_) (fun c17 H18 => ?_)
      · refine some_e H16 fun e19 => ?_
        subst e19
        exact p_bar Tryz.mo 3 [.eqT 11 (.bool false)] [.only [1, 2, 3, 4] [1]] (ref11_Print_S1 x0 []) (all_cons (congrArg (fun x => AV.bool (!x)) c15) all_nil) (by kernel_rfl)
      · refine grd_e H18 fun g20 H21 => ?_
        refine some_e H21 fun e22 => ?_
        subst e22
        exact p_bar Tryz.mo 3 [.eqT 11 (.bool true), .rg 0 [] [.v, .v, .v, .v]] [.only [1, 2, 3, 4] [1]] (ref11_Print_S1 x0 (x0.Row ++ [46, 46])) (all_cons (congrArg (fun x => AV.bool (!x)) c17) (all_cons (show x0.Row.length + [46, 46].length ≤ 9223372036854775807 from g20) all_nil)) (by kernel_rfl)
    · refine p_at Tryz.mo 4 [.rg 0 [] [.v]] [.only [1, 2, 3, 4, 5] [1]] 4 [] (ref11_Print_S2 x0 0 v12) all_nil (by kernel_rfl) ?_
      refine bnd H14 fun R101 h102 H103 => ?_
      refine p_joinO 1 (ref11_Print_S3) R101 (by kernel_rfl) ?_ (fun u139 e140 => ?_)
      · refine p_cnt (ref11_Print_S2 x0) (by kernel_rfl) h102 (fun i74 s73 h105 e106 => ?_) (fun i74 s73 h113 q109 h110 h111 => ?_)
        · have c107 : decide (((i74 : Nat) : Int) < ((x0.Dims.length : Nat) : Int)) = false := decide_eq_false (by omega)
          subst e106
          exact p_bar Tryz.mo 5 [.rg 0 [] [.v, .v, .v, .e (.int .i64 ((x0.Dims.length : Nat) : Int)), .e (.bool false)]] [.only [2, 3, 4] []] (ref11_Print_S3 s73) (all_cons trivial (all_cons (lenm cLinear x0.Dims) (all_cons (congrArg (AV.bool) c107) all_nil))) (by kernel_rfl)
        · have c112 : decide (((i74 : Nat) : Int) < ((x0.Dims.length : Nat) : Int)) = true := decide_eq_true (by omega)
          refine p_at Tryz.mo 10 [.rg 0 [] [.v, .v, .v, .e (.int .i64 ((x0.Dims.length : Nat) : Int)), .e (.bool true)], .rg 0 [] [.v, .v]] [.only [1, 2, 3, 4, 5, 19, 23] [1]] 10 [true] ⟨37, [(1, .hptr 1 0), (2, .str []), (3, .int .i64 0), (4, .str s73), (5, .int .i64 ((i74 : Nat) : Int)), (19, .bool true), (23, .bool (!(s73 == [])))], [(1, .cells 24 [.str x0.Row, .dslice (x0.Dims.map cLinear)])]⟩ (all_cons trivial (all_cons (lenm cLinear x0.Dims) (all_cons (congrArg (AV.bool) c112) all_nil))) (by kernel_rfl) ?_
          refine bnd h110 fun v118 h119 H120 => ?_
          refine p_join 0 (ref11_Print_S4 x0 i74 v118) (by kernel_rfl) ?_ ?_
          · refine bsp h119 (fun c121 H122 => ?_) (fun c123 H124 => ?_)
            · refine some_e H122 fun e125 => ?_
              subst e125
              exact p_bar Tryz.mo 3 [.eqT 23 (.bool false)] [.only [1, 2, 3, 4, 5, 19, 23] [1]] (ref11_Print_S4 x0 i74 (s73, false)) (all_cons (congrArg (fun x => AV.bool (!x)) c121) all_nil) (by kernel_rfl)
            · refine grd_e H124 fun g126 H127 => ?_
              refine some_e H127 fun e128 => ?_
              subst e128
              exact p_bar Tryz.mo 3 [.eqT 23 (.bool true), .rg 0 [] [.v, .v, .v]] [.only [1, 2, 3, 4, 5, 19, 23] [1]] (ref11_Print_S4 x0 i74 ((s73 ++ [44, 32]), true)) (all_cons (congrArg (fun x => AV.bool (!x)) c123) (all_cons (show s73.length + [44, 32].length ≤ 9223372036854775807 from g126) all_nil)) (by kernel_rfl)
          · refine bnd H120 fun y129 h130 H131 => ?_
            refine grd_e H131 fun g132 H133 => ?_
            refine t_lensH 1 1 (ps := [(x0.Dims.map cLinear).length ≤ 9223372036854775807]) (by kernel_rfl) (fun l136 => ?_)
            have l137 : x0.Dims.length ≤ 9223372036854775807 := by simpa only [All, List.length_map] using l136
            clear l136
            refine some_e H133 fun e138 => ?_
            subst e138
            exact p_bar Tryz.mo 2 [.rg 0 [] [.v, .v, .v, .v, .e (.dptr [.int .i64 ((x0.Dims.getD i74 ⟨0, []⟩).Const), .dslice (((x0.Dims.getD i74 ⟨0, []⟩).Terms).map cCoef)]), .v, .c true (.str y129), .v, .v], .rg 0 [] [.v, .v, .v]] [.only [1, 2, 3, 4, 5] [1]] (ref11_Print_S2 x0 (i74 + 1) (v118.1 ++ y129)) (all_app (ix (f := cLinear) (l := x0.Dims) (n := i74) ⟨0, []⟩ cLinear_len (by decide) (by omega)) (all_cons Tryz.call104 (all_cons (AFn.is (ref04_Print_c (Linear.mk ((x0.Dims.getD i74 ⟨0, []⟩).Const) ((x0.Dims.getD i74 ⟨0, []⟩).Terms)) y129 h130)) (all_cons (show v118.1.length + y129.length ≤ 9223372036854775807 from g132) (all_cons (show I64 (((i74 : Nat) : Int) + 1) from by unfold I64; omega) all_nil))))) (by kernel_rfl)
      · subst e140
        have H141 := aftE_brk H103
        refine grd_e H141 fun g142 H143 => ?_
        refine grd_e H143 fun g144 H145 => ?_
        refine some_e H145 fun e146 => ?_
        subst e146
        exact p_ret Tryz.mo 3 [.rg 0 [] [.v, .v, .v, .v, .v]] [] [] (all_cons (show [91].length + u139.length ≤ 9223372036854775807 from g142) (all_cons (show ([91] ++ u139).length + [93].length ≤ 9223372036854775807 from g144) all_nil)) (by kernel_rfl)
  · refine some_e H7 fun e147 => ?_
    subst e147
    exact p_ret Tryz.mo 10 [.rg 0 [] [.m, .v, .v], .rg 0 [] [.v, .c true (.bool y1), .v], .eqT 8 (.bool true), .rg 0 [] [.v, .v]] [] [] (all_cons Tryz.call27 (all_cons (AFn.is (ref11_Valid_c x0 y1 h2)) (all_cons trivial (all_cons (congrArg (fun x => AV.bool (!x)) c6) all_nil)))) (by kernel_rfl)
/-- (*framewise/framewiseref04.source).blanks -/
def ref04_source_blanks (x0 : Str) (x1 : Int) : Option Int :=
  (whl (σ := Int) (ε := Int) (ρ := Int) (fun s86 =>
    bif decide (s86 < ((x0.length : Nat) : Int)) then (
      grd (0 ≤ s86 ∧ s86 < (x0.length : Int)) <|
      bif (((x0.getD s86.toNat 0).toNat : Int) == 32) then (
        some (.go (w64 (s86 + 1)))
      ) else (
        some (.ret s86)
      )
    ) else (
      some (.ret s86)
    )
  ) 4294967296 x1).bind <| aft some
def ref04_source_blanks_S1 (x0 : Str) (s86 : Int) : AS := ⟨31, [(0, .hptr 1000 0)], [(1000, .cells 193 [.str x0, .int .i64 s86])]⟩
theorem ref04_source_blanks_c (x0 : Str) (x1 : Int) (r : Int) (H : ref04_source_blanks x0 x1 = some r) : ACall Tryz.prog 183 [.hptr 1000 0] [(1000, .cells 193 [.str x0, .int .i64 x1])] (fun r2 h2 => r2 = (.tup []) ∧ h2 = [(1000, .cells 193 [.str x0, .int .i64 r])]) := by
  unfold ref04_source_blanks at H
  refine acallX Tryz.func183 31 [] (by kernel_rfl) (by kernel_rfl) ?_
  refine p_at Tryz.mo 1 [] [.only [0] [1000]] 1 [] (ref04_source_blanks_S1 x0 x1) all_nil (by kernel_rfl) ?_
  refine bnd H fun R88 h89 H90 => ?_
  refine p_whl (ref04_source_blanks_S1 x0) (by kernel_rfl) h89 (fun s86 q91 h92 h93 => ?_)
  · refine bsp h92 (fun c100 H101 => ?_) (fun c102 H103 => ?_)
    · have c100p := of_decide_eq_true c100
      refine grd_e H101 fun g104 H105 => ?_
      refine bsp H105 (fun c106 H107 => ?_) (fun c108 H109 => ?_)
      · refine some_e H107 fun e110 => ?_
        subst e110
        exact p_bar Tryz.mo 8 [.rg 19 [.v, .v, .v, .v, .v, .v, .v, .v, .v, .e (.bool true), .v, .v, .v, .v, .v, .v, .v, .v, .v] [.v, .v, .v], .eqT 23 (.bool true), .rg 0 [] [.v, .v, .v, .v, .w, .v, .v, .m]] [.only [0] [1000]] (ref04_source_blanks_S1 x0 (w64 (s86 + 1))) (all_cons trivial (all_cons (congrArg (AV.bool) c100) (all_cons (show (0 : Int) ≤ s86 ∧ s86 < (x0.length : Int) from by exact g104) (all_cons (congrArg (AV.bool) c106) all_nil)))) (by kernel_rfl)
      · refine some_e H109 fun e111 => ?_
        subst e111
        have e112 := out_ret h93
        subst e112
        have H113 := aft_ret H90
        refine some_e H113 fun e114 => ?_
        subst e114
        exact p_ret Tryz.mo 6 [.rg 19 [.v, .v, .v, .v, .v, .v, .v, .v, .v, .e (.bool true), .v, .v, .v, .v, .v, .v, .v, .v, .v] [.v, .v, .v], .eqT 23 (.bool false)] [] [1000] (all_cons trivial (all_cons (congrArg (AV.bool) c100) (all_cons (show (0 : Int) ≤ s86 ∧ s86 < (x0.length : Int) from by exact g104) (all_cons (congrArg (AV.bool) c108) all_nil)))) (by kernel_rfl)
    · have c102p := of_decide_eq_false c102
      refine some_e H103 fun e115 => ?_
      subst e115
      have e116 := out_ret h93
      subst e116
      have H117 := aft_ret H90
      refine some_e H117 fun e118 => ?_
      subst e118
      exact p_ret Tryz.mo 5 [.rg 19 [.v, .v, .v, .v, .v, .v, .v, .v, .v, .e (.bool false), .v, .s, .s, .s, .s, .s, .s, .s, .s] [.s, .s, .v]] [] [1000] (all_cons trivial (all_cons (congrArg (AV.bool) c102) all_nil)) (by kernel_rfl)
/-- (*framewise/framewiseref04.source).is -/
def ref04_source_is (x0 : UInt8) (x1 : Str) (x2 : Int) : Option (Bool × Int) :=
  ((
    bif decide (x2 < ((x1.length : Nat) : Int)) then (
      grd (0 ≤ x2 ∧ x2 < (x1.length : Int)) <|
      some (((x1.getD x2.toNat 0).toNat : Int) == ((x0).toNat : Int))
    ) else (
      some false
    )
  ) : Option Bool).bind fun v22 =>
  bif v22 then (
    some (true, (w64 (x2 + 1)))
  ) else (
    some (false, x2)
  )
def ref04_source_is_S1 (x1 : Str) (x2 : Int) (v22 : Bool) : AS := ⟨35, [(0, .hptr 1000 0), (4, .bool false), (27, .bool v22)], [(1000, .cells 193 [.str x1, .int .i64 x2])]⟩
theorem ref04_source_is_c (x0 : UInt8) (x1 : Str) (x2 : Int) (r : (Bool × Int)) (H : ref04_source_is x0 x1 x2 = some r) : ACall Tryz.prog 184 [.hptr 1000 0, .int .u8 ((x0).toNat : Int)] [(1000, .cells 193 [.str x1, .int .i64 x2])] (fun r2 h2 => r2 = (.bool r.1) ∧ h2 = [(1000, .cells 193 [.str x1, .int .i64 r.2])]) := by
  unfold ref04_source_is at H
  refine acallX Tryz.func184 35 [.tmp 4] (by kernel_rfl) (by kernel_rfl) ?_
  refine p_at Tryz.mo 4 [.rg 0 [] [.v]] [.only [0, 1, 4] [1000]] 4 [] ⟨35, [(0, .hptr 1000 0), (1, .int .u8 ((x0).toNat : Int)), (4, .bool false)], [(1000, .cells 193 [.str x1, .int .i64 x2])]⟩ all_nil (by kernel_rfl) ?_
  refine bnd H fun v22 h23 H24 => ?_
  refine p_join 0 (ref04_source_is_S1 x1 x2 v22) (by kernel_rfl) ?_ ?_
  · refine bsp h23 (fun c25 H26 => ?_) (fun c27 H28 => ?_)
    · have c25p := of_decide_eq_true c25
      refine grd_e H26 fun g29 H30 => ?_
      refine some_e H30 fun e31 => ?_
      subst e31
      exact p_bar Tryz.mo 1 [.rg 21 [.v, .v, .v, .v, .v, .v, .v, .v, .v, .e (.bool true), .v, .v, .v, .v, .v, .v, .v, .v, .v, .v, .v] [.v, .v]] [.only [0, 4, 27] [1000]] (ref04_source_is_S1 x1 x2 (((x1.getD x2.toNat 0).toNat : Int) == ((x0).toNat : Int))) (all_cons trivial (all_cons (congrArg (AV.bool) c25) (all_cons (show (0 : Int) ≤ x2 ∧ x2 < (x1.length : Int) from by exact g29) all_nil))) (by kernel_rfl)
    · have c27p := of_decide_eq_false c27
      refine some_e H28 fun e32 => ?_
      subst e32
      exact p_bar Tryz.mo 1 [.rg 21 [.v, .v, .v, .v, .v, .v, .v, .v, .v, .e (.bool false), .v, .s, .s, .s, .s, .s, .s, .s, .s, .s, .s] [.s, .v]] [.only [0, 4, 27] [1000]] (ref04_source_is_S1 x1 x2 false) (all_cons trivial (all_cons (congrArg (AV.bool) c27) all_nil)) (by kernel_rfl)
  · refine bsp H24 (fun c33 H34 => ?_) (fun c35 H36 => ?_)
    · refine some_e H34 fun e37 => ?_
      subst e37
      exact p_ret Tryz.mo 7 [.eqT 27 (.bool true), .rg 0 [] [.v, .v, .v, .v, .w, .v, .v, .m], .rg 0 [] [.v]] [] [1000] (all_cons (congrArg (AV.bool) c33) all_nil) (by kernel_rfl)
    · refine some_e H36 fun e38 => ?_
      subst e38
      exact p_ret Tryz.mo 6 [.eqT 27 (.bool false), .rg 0 [] [.v]] [] [1000] (all_cons (congrArg (AV.bool) c35) all_nil) (by kernel_rfl)
/-- (*framewise/framewiseref04.source).run -/
def ref04_source_run (x0 : Bool) (x1 : Str) (x2 : Int) : Option (Str × Int) :=
  (whl (σ := (Bool × Int)) (ε := Int) (ρ := Empty) (fun s576 =>
    ((
      bif decide (s576.2 < ((x1.length : Nat) : Int)) then (
        grd (0 ≤ s576.2 ∧ s576.2 < (x1.length : Int)) <|
        (ref04_digit (x1.getD s576.2.toNat 0)).bind fun y745 =>
        bif y745 then (
          some (.brk s576.1)
        ) else (
          bif s576.1 then (
            (ref04_letter (x1.getD s576.2.toNat 0)).bind fun y757 =>
            bif y757 then (
              some (.brk true)
            ) else (
              bif (((x1.getD s576.2.toNat 0).toNat : Int) == 95) then (
                bif (s576.2 == x2) then (
                  some (.brk true)
                ) else (
                  some (.ret (.brk s576.2))
                )
              ) else (
                some (.ret (.brk s576.2))
              )
            )
          ) else (
            some (.ret (.brk s576.2))
          )
        )
      ) else (
        some (.ret (.brk s576.2))
      )
    ) : Option (Out Bool (Stp (Bool × Int) Int Empty))).bind (aft fun u738 =>
      some (.go (u738, (w64 (s576.2 + 1))))
    )
  ) 4294967296 (x0, x2)).bind <| aftE fun u793 =>
  grd (0 ≤ x2 ∧ x2 ≤ u793 ∧ u793 ≤ (x1.length : Int)) <|
  some (((x1.drop x2.toNat).take (u793.toNat - x2.toNat)), u793)
def ref04_source_run_S1 (x1 : Str) (x2 : Int) (s576 : (Bool × Int)) : AS := ⟨84, [(0, .hptr 1000 0), (1, .bool s576.1), (4, .str []), (5, .int .i64 x2)], [(1000, .cells 193 [.str x1, .int .i64 s576.2])]⟩
def ref04_source_run_S2 (x1 : Str) (x2 : Int) (u675 : Int) : AS := ⟨84, [(0, .hptr 1000 0), (4, .str []), (5, .int .i64 x2)], [(1000, .cells 193 [.str x1, .int .i64 u675])]⟩
def ref04_source_run_S3 (x1 : Str) (x2 : Int) (s576 : (Bool × Int)) (u738 : Bool) : AS := ⟨84, [(0, .hptr 1000 0), (1, .bool u738), (4, .str []), (5, .int .i64 x2), (66, .bool true)], [(1000, .cells 193 [.str x1, .int .i64 s576.2])]⟩
theorem ref04_source_run_c (x0 : Bool) (x1 : Str) (x2 : Int) (r : (Str × Int)) (H : ref04_source_run x0 x1 x2 = some r) : ACall Tryz.prog 236 [.hptr 1000 0, .bool x0] [(1000, .cells 193 [.str x1, .int .i64 x2])] (fun r2 h2 => r2 = (.str r.1) ∧ h2 = [(1000, .cells 193 [.str x1, .int .i64 r.2])]) := by
  unfold ref04_source_run at H
  refine acallX Tryz.func236 84 [.tmp 4] (by kernel_rfl) (by kernel_rfl) ?_
  refine p_at Tryz.mo 6 [.rg 0 [] [.v], .rg 0 [] [.v, .v, .v, .v, .v]] [.only [0, 1, 4, 5] [1000]] 6 [] (ref04_source_run_S1 x1 x2 (x0, x2)) all_nil (by kernel_rfl) ?_
  refine bnd H fun R672 h673 H674 => ?_
  refine p_joinO 1 (ref04_source_run_S2 x1 x2) R672 (by kernel_rfl) ?_ (fun u793 e794 => ?_)
  · refine p_whl (ref04_source_run_S1 x1 x2) (by kernel_rfl) h673 (fun s576 q676 h677 h678 => ?_)
    · refine p_at Tryz.mo 2 [] [.only [0, 1, 4, 5] [1000]] 2 [] ⟨84, [(0, .hptr 1000 0), (1, .bool s576.1), (4, .str []), (5, .int .i64 x2)], [(1000, .cells 193 [.str x1, .int .i64 s576.2])]⟩ all_nil (by kernel_rfl) ?_
      refine bnd h677 fun v735 h736 H737 => ?_
      refine p_joinO 1 (ref04_source_run_S3 x1 x2 s576) v735 (by kernel_rfl) ?_ (fun u738 e792 => ?_)
      · refine bsp h736 (fun c739 H740 => ?_) (fun c741 H742 => ?_)
        · have c739p := of_decide_eq_true c739
          refine grd_e H740 fun g743 H744 => ?_
          refine bnd H744 fun y745 h746 H747 => ?_
          refine bsp H747 (fun c748 H749 => ?_) (fun c750 H751 => ?_)
          · refine some_e H749 fun e752 => ?_
            subst e752
            exact p_bar Tryz.mo 3 [.rg 51 [.v, .v, .v, .v, .v, .v, .v, .v, .v, .e (.bool true), .v, .v, .v, .v, .v, .v, .v, .v, .v, .v, .c true (.bool true), .v, .s, .s, .s, .s, .s, .s, .s, .s, .s, .s, .s, .s, .s, .s, .s, .s, .s, .s, .s, .s, .s, .s, .s, .s, .s, .s, .s, .s, .s] [.s, .s, .s, .s, .v, .v]] [.only [0, 1, 4, 5, 66] [1000]] (ref04_source_run_S3 x1 x2 s576 s576.1) (all_cons trivial (all_cons (congrArg (AV.bool) c739) (all_cons (show (0 : Int) ≤ s576.2 ∧ s576.2 < (x1.length : Int) from by exact g743) (all_cons Tryz.call154 (all_cons (AFn.eq (ref04_digit_c (x1.getD s576.2.toNat 0) y745 h746) (congrArg (AV.bool) c748)) all_nil))))) (by kernel_rfl)
          · refine bsp H751 (fun c753 H754 => ?_) (fun c755 H756 => ?_)
            · refine bnd H754 fun y757 h758 H759 => ?_
              refine bsp H759 (fun c760 H761 => ?_) (fun c762 H763 => ?_)
              · refine some_e H761 fun e764 => ?_
                subst e764
                exact p_bar Tryz.mo 4 [.eqT 1 (.bool true), .rg 51 [.v, .v, .v, .v, .v, .v, .v, .v, .v, .e (.bool true), .v, .v, .v, .v, .v, .v, .v, .v, .v, .v, .c true (.bool false), .v, .v, .v, .v, .v, .v, .v, .v, .v, .v, .v, .v, .c true (.bool true), .v, .s, .s, .s, .s, .s, .s, .s, .s, .s, .s, .s, .s, .s, .s, .s, .s] [.s, .s, .v, .v, .v, .v]] [.only [0, 1, 4, 5, 66] [1000]] (ref04_source_run_S3 x1 x2 s576 true) (all_cons (congrArg (AV.bool) c753) (all_cons trivial (all_cons (congrArg (AV.bool) c739) (all_cons (show (0 : Int) ≤ s576.2 ∧ s576.2 < (x1.length : Int) from by exact g743) (all_cons Tryz.call154 (all_cons (AFn.eq (ref04_digit_c (x1.getD s576.2.toNat 0) y745 h746) (congrArg (AV.bool) c750)) (all_cons (show (0 : Int) ≤ s576.2 ∧ s576.2 < (x1.length : Int) from by exact g743) (all_cons Tryz.call155 (all_cons (AFn.eq (ref04_letter_c (x1.getD s576.2.toNat 0) y757 h758) (congrArg (AV.bool) c760)) all_nil))))))))) (by kernel_rfl)
              · refine bsp H763 (fun c765 H766 => ?_) (fun c767 H768 => ?_)
                · refine bsp H766 (fun c769 H770 => ?_) (fun c771 H772 => ?_)
                  · refine some_e H770 fun e773 => ?_
                    subst e773
                    exact p_bar Tryz.mo 5 [.eqT 1 (.bool true), .rg 51 [.v, .v, .v, .v, .v, .v, .v, .v, .v, .e (.bool true), .v, .v, .v, .v, .v, .v, .v, .v, .v, .v, .c true (.bool false), .v, .v, .v, .v, .v, .v, .v, .v, .v, .v, .v, .v, .c true (.bool false), .v, .v, .v, .v, .v, .v, .v, .v, .v, .v, .e (.bool true), .v, .v, .v, .v, .v, .v] [.v, .v, .v, .v, .v, .v], .eqT 66 (.bool true)] [.only [0, 1, 4, 5, 66] [1000]] (ref04_source_run_S3 x1 x2 s576 true) (all_cons (congrArg (AV.bool) c753) (all_cons trivial (all_cons (congrArg (AV.bool) c739) (all_cons (show (0 : Int) ≤ s576.2 ∧ s576.2 < (x1.length : Int) from by exact g743) (all_cons Tryz.call154 (all_cons (AFn.eq (ref04_digit_c (x1.getD s576.2.toNat 0) y745 h746) (congrArg (AV.bool) c750)) (all_cons (show (0 : Int) ≤ s576.2 ∧ s576.2 < (x1.length : Int) from by exact g743) (all_cons Tryz.call155 (all_cons (AFn.eq (ref04_letter_c (x1.getD s576.2.toNat 0) y757 h758) (congrArg (AV.bool) c762)) (all_cons (show (0 : Int) ≤ s576.2 ∧ s576.2 < (x1.length : Int) from by exact g743) (all_cons (congrArg (AV.bool) c765) (all_cons (congrArg (AV.bool) c769) all_nil)))))))))))) (by kernel_rfl)
                  · refine some_e H772 fun e774 => ?_
                    subst e774
                    have H775 := aft_ret H737
                    refine some_e H775 fun e776 => ?_
                    subst e776
                    have e777 := out_brk h678
                    subst e777
                    exact p_bar Tryz.mo 5 [.eqT 1 (.bool true), .rg 51 [.v, .v, .v, .v, .v, .v, .v, .v, .v, .e (.bool true), .v, .v, .v, .v, .v, .v, .v, .v, .v, .v, .c true (.bool false), .v, .v, .v, .v, .v, .v, .v, .v, .v, .v, .v, .v, .c true (.bool false), .v, .v, .v, .v, .v, .v, .v, .v, .v, .v, .e (.bool true), .v, .v, .v, .v, .v, .v] [.v, .v, .v, .v, .v, .v], .eqT 66 (.bool false)] [.only [0, 4, 5] [1000]] (ref04_source_run_S2 x1 x2 s576.2) (all_cons (congrArg (AV.bool) c753) (all_cons trivial (all_cons (congrArg (AV.bool) c739) (all_cons (show (0 : Int) ≤ s576.2 ∧ s576.2 < (x1.length : Int) from by exact g743) (all_cons Tryz.call154 (all_cons (AFn.eq (ref04_digit_c (x1.getD s576.2.toNat 0) y745 h746) (congrArg (AV.bool) c750)) (all_cons (show (0 : Int) ≤ s576.2 ∧ s576.2 < (x1.length : Int) from by exact g743) (all_cons Tryz.call155 (all_cons (AFn.eq (ref04_letter_c (x1.getD s576.2.toNat 0) y757 h758) (congrArg (AV.bool) c762)) (all_cons (show (0 : Int) ≤ s576.2 ∧ s576.2 < (x1.length : Int) from by exact g743) (all_cons (congrArg (AV.bool) c765) (all_cons (congrArg (AV.bool) c771) all_nil)))))))))))) (by kernel_rfl)
                · refine some_e H768 fun e778 => ?_
                  subst e778
                  have H779 := aft_ret H737
                  refine some_e H779 fun e780 => ?_
                  subst e780
                  have e781 := out_brk h678
                  subst e781
                  exact p_bar Tryz.mo 4 [.eqT 1 (.bool true), .rg 51 [.v, .v, .v, .v, .v, .v, .v, .v, .v, .e (.bool true), .v, .v, .v, .v, .v, .v, .v, .v, .v, .v, .c true (.bool false), .v, .v, .v, .v, .v, .v, .v, .v, .v, .v, .v, .v, .c true (.bool false), .v, .v, .v, .v, .v, .v, .v, .v, .v, .v, .e (.bool false), .v, .s, .s, .s, .s, .s] [.s, .v, .v, .v, .v, .v]] [.only [0, 4, 5] [1000]] (ref04_source_run_S2 x1 x2 s576.2) (all_cons (congrArg (AV.bool) c753) (all_cons trivial (all_cons (congrArg (AV.bool) c739) (all_cons (show (0 : Int) ≤ s576.2 ∧ s576.2 < (x1.length : Int) from by exact g743) (all_cons Tryz.call154 (all_cons (AFn.eq (ref04_digit_c (x1.getD s576.2.toNat 0) y745 h746) (congrArg (AV.bool) c750)) (all_cons (show (0 : Int) ≤ s576.2 ∧ s576.2 < (x1.length : Int) from by exact g743) (all_cons Tryz.call155 (all_cons (AFn.eq (ref04_letter_c (x1.getD s576.2.toNat 0) y757 h758) (congrArg (AV.bool) c762)) (all_cons (show (0 : Int) ≤ s576.2 ∧ s576.2 < (x1.length : Int) from by exact g743) (all_cons (congrArg (AV.bool) c767) all_nil))))))))))) (by kernel_rfl)
            · refine some_e H756 fun e782 => ?_
              subst e782
              have H783 := aft_ret H737
              refine some_e H783 fun e784 => ?_
              subst e784
              have e785 := out_brk h678
              subst e785
              exact p_bar Tryz.mo 4 [.eqT 1 (.bool false), .rg 51 [.v, .v, .v, .v, .v, .v, .v, .v, .v, .e (.bool true), .v, .v, .v, .v, .v, .v, .v, .v, .v, .v, .c true (.bool false), .v, .v, .v, .s, .s, .s, .s, .s, .s, .s, .s, .s, .s, .s, .s, .s, .s, .s, .s, .s, .s, .s, .s, .s, .s, .s, .s, .s, .s, .s] [.s, .s, .s, .v, .v, .v]] [.only [0, 4, 5] [1000]] (ref04_source_run_S2 x1 x2 s576.2) (all_cons (congrArg (AV.bool) c755) (all_cons trivial (all_cons (congrArg (AV.bool) c739) (all_cons (show (0 : Int) ≤ s576.2 ∧ s576.2 < (x1.length : Int) from by exact g743) (all_cons Tryz.call154 (all_cons (AFn.eq (ref04_digit_c (x1.getD s576.2.toNat 0) y745 h746) (congrArg (AV.bool) c750)) all_nil)))))) (by kernel_rfl)
        · have c741p := of_decide_eq_false c741
          refine some_e H742 fun e786 => ?_
          subst e786
          have H787 := aft_ret H737
          refine some_e H787 fun e788 => ?_
          subst e788
          have e789 := out_brk h678
          subst e789
          exact p_bar Tryz.mo 3 [.rg 51 [.v, .v, .v, .v, .v, .v, .v, .v, .v, .e (.bool false), .v, .s, .s, .s, .s, .s, .s, .s, .s, .s, .s, .s, .s, .s, .s, .s, .s, .s, .s, .s, .s, .s, .s, .s, .s, .s, .s, .s, .s, .s, .s, .s, .s, .s, .s, .s, .s, .s, .s, .s, .s] [.s, .s, .s, .s, .s, .v]] [.only [0, 4, 5] [1000]] (ref04_source_run_S2 x1 x2 s576.2) (all_cons trivial (all_cons (congrArg (AV.bool) c741) all_nil)) (by kernel_rfl)
      · subst e792
        have H790 := aft_brk H737
        refine some_e H790 fun e791 => ?_
        subst e791
        exact p_bar Tryz.mo 2 [.rg 0 [] [.v, .v, .v, .v, .w, .v, .v, .m]] [.only [0, 1, 4, 5] [1000]] (ref04_source_run_S1 x1 x2 (u738, (w64 (s576.2 + 1)))) all_nil (by kernel_rfl)
  · subst e794
    have H795 := aftE_brk H674
    refine grd_e H795 fun g796 H797 => ?_
    refine some_e H797 fun e798 => ?_
    subst e798
    exact p_ret Tryz.mo 3 [.rg 9 [.v, .v, .v, .v, .v, .v, .v, .v, .v] [.v, .v]] [] [1000] (all_cons (show (0 : Int) ≤ x2 ∧ x2 ≤ u793 ∧ u793 ≤ (x1.length : Int) from by omega) all_nil) (by kernel_rfl)
/-- (*framewise/framewiseref04.source).item -/
def ref04_source_item (x0 : Str) (x1 : Int) : Option ((Int × Str × Bool) × Int) :=
  (ref04_source_run false x0 x1).bind fun y201 =>
  ((
    bif decide (((y201.1.length : Nat) : Int) > 7) then (
      some (.ret ((0, [], false), y201.2))
    ) else (
      bif decide (((y201.1.length : Nat) : Int) > 1) then (
        grd (0 < y201.1.length) <|
        bif (((y201.1.getD 0 0).toNat : Int) == 48) then (
          some (.ret ((0, [], false), y201.2))
        ) else (
          some (.brk ())
        )
      ) else (
        some (.brk ())
      )
    )
  ) : Option (Out Unit ((Int × Str × Bool) × Int))).bind (aft fun u227 =>
    (cnt (σ := Int) (ε := Int) (ρ := Empty) (fun i266 s265 =>
      some (.go (w64 ((w64 (10 * s265)) + (((y201.1.getD i266 0 - 48)).toNat : Int))))
    ) (fun i266 s265 => s265) (y201.1.length - 0) 0 0).bind <| aftE fun u293 =>
    bif (y201.1 == []) then (
      (ref04_source_run true x0 y201.2).bind fun y306 =>
      (ref04_Name y306.1).bind fun y309 =>
      some ((1, y306.1, y309), y306.2)
    ) else (
      ((
        bif decide (y201.2 < ((x0.length : Nat) : Int)) then (
          grd (0 ≤ y201.2 ∧ y201.2 < (x0.length : Int)) <|
          (ref04_letter (x0.getD y201.2.toNat 0)).bind fun y340 =>
          bif y340 then (
            some true
          ) else (
            some (((x0.getD y201.2.toNat 0).toNat : Int) == 95)
          )
        ) else (
          some false
        )
      ) : Option Bool).bind fun v331 =>
      bif v331 then (
        (ref04_source_run true x0 y201.2).bind fun y360 =>
        (ref04_Name y360.1).bind fun y363 =>
        some ((u293, y360.1, y363), y360.2)
      ) else (
        (ref04_source_blanks x0 y201.2).bind fun y367 =>
        (ref04_source_is 42 x0 y367).bind fun y370 =>
        bif y370.1 then (
          (ref04_source_blanks x0 y370.2).bind fun y377 =>
          ((
            bif decide (y377 < ((x0.length : Nat) : Int)) then (
              grd (0 ≤ y377 ∧ y377 < (x0.length : Int)) <|
              (ref04_digit (x0.getD y377.toNat 0)).bind fun y408 =>
              bif y408 then (
                some (.ret ((0, [], false), y377))
              ) else (
                some (.brk ())
              )
            ) else (
              some (.brk ())
            )
          ) : Option (Out Unit ((Int × Str × Bool) × Int))).bind (aft fun u401 =>
            (ref04_source_run true x0 y377).bind fun y421 =>
            (ref04_Name y421.1).bind fun y424 =>
            some ((u293, y421.1, y424), y421.2)
          )
        ) else (
          some ((u293, [], true), y201.2)
        )
      )
    )
  )
def ref04_source_item_S1 (x0 : Str) (y201 : (Str × Int)) (u227 : Unit) : AS := ⟨132, [(0, .hptr 1000 0), (2, .int .i64 0), (3, .str []), (4, .bool false), (5, .str y201.1)], [(1000, .cells 193 [.str x0, .int .i64 y201.2])]⟩
def ref04_source_item_S2 (x0 : Str) (y201 : (Str × Int)) (i266 : Nat) (s265 : Int) : AS := ⟨132, [(0, .hptr 1000 0), (2, .int .i64 0), (3, .str []), (4, .bool false), (5, .str y201.1), (6, .int .i64 s265), (7, .int .i64 ((i266 : Nat) : Int))], [(1000, .cells 193 [.str x0, .int .i64 y201.2])]⟩
def ref04_source_item_S3 (x0 : Str) (y201 : (Str × Int)) (u278 : Int) : AS := ⟨132, [(0, .hptr 1000 0), (2, .int .i64 0), (3, .str []), (4, .bool false), (5, .str y201.1), (6, .int .i64 u278)], [(1000, .cells 193 [.str x0, .int .i64 y201.2])]⟩
def ref04_source_item_S4 (x0 : Str) (y201 : (Str × Int)) (u293 : Int) (v331 : Bool) : AS := ⟨132, [(0, .hptr 1000 0), (2, .int .i64 0), (3, .str []), (4, .bool false), (6, .int .i64 u293), (81, .bool v331)], [(1000, .cells 193 [.str x0, .int .i64 y201.2])]⟩
def ref04_source_item_S5 (x0 : Str) (u293 : Int) (y377 : Int) (u401 : Unit) : AS := ⟨132, [(0, .hptr 1000 0), (2, .int .i64 0), (3, .str []), (4, .bool false), (6, .int .i64 u293)], [(1000, .cells 193 [.str x0, .int .i64 y377])]⟩
theorem ref04_source_item_c (x0 : Str) (x1 : Int) (r : ((Int × Str × Bool) × Int)) (H : ref04_source_item x0 x1 = some r) : ACall Tryz.prog 185 [.hptr 1000 0] [(1000, .cells 193 [.str x0, .int .i64 x1])] (fun r2 h2 => r2 = (.tup [.int .i64 r.1.1, .str r.1.2.1, .bool r.1.2.2]) ∧ h2 = [(1000, .cells 193 [.str x0, .int .i64 r.2])]) := by
  unfold ref04_source_item at H
  refine acallX Tryz.func185 132 [.tmp 2, .tmp 3, .tmp 4] (by kernel_rfl) (by kernel_rfl) ?_
  refine bnd H fun y201 h202 H203 => ?_
  refine p_at Tryz.mo 6 [.rg 0 [] [.v, .v, .v], .rg 0 [] [.v, .hR [(1000, 1000)] 13 (.str y201.1) [(1000, .cells 193 [.str x0, .int .i64 y201.2])], .v]] [.only [0, 2, 3, 4, 5] [1000]] 6 [] ⟨132, [(0, .hptr 1000 0), (2, .int .i64 0), (3, .str []), (4, .bool false), (5, .str y201.1)], [(1000, .cells 193 [.str x0, .int .i64 y201.2])]⟩ (all_cons Tryz.call236 (all_cons (ref04_source_run_c false x0 x1 y201 h202) all_nil)) (by kernel_rfl) ?_
  refine bnd H203 fun v224 h225 H226 => ?_
  refine p_joinO 1 (ref04_source_item_S1 x0 y201) v224 (by kernel_rfl) ?_ (fun u227 e430 => ?_)
  · refine bsp h225 (fun c228 H229 => ?_) (fun c230 H231 => ?_)
    · have c228p := of_decide_eq_true c228
      refine some_e H229 fun e232 => ?_
      subst e232
      have H233 := aft_ret H226
      refine some_e H233 fun e234 => ?_
      subst e234
      exact p_ret Tryz.mo 5 [.rg 0 [] [.v, .v, .e (.bool true), .v, .s, .s, .s, .s, .s, .s, .s, .s, .v], .rg 0 [] [.v, .v, .v]] [] [1000] (all_cons trivial (all_cons (congrArg (AV.bool) c228) all_nil)) (by kernel_rfl)
    · have c230p := of_decide_eq_false c230
      refine bsp H231 (fun c235 H236 => ?_) (fun c237 H238 => ?_)
      · have c235p := of_decide_eq_true c235
        refine grd_e H236 fun g239 H240 => ?_
        refine bsp H240 (fun c241 H242 => ?_) (fun c243 H244 => ?_)
        · refine some_e H242 fun e245 => ?_
          subst e245
          have H246 := aft_ret H226
          refine some_e H246 fun e247 => ?_
          subst e247
          exact p_ret Tryz.mo 6 [.rg 0 [] [.v, .v, .e (.bool false), .v, .v, .v, .e (.bool true), .v, .v, .v, .v, .v, .v], .eqT 26 (.bool true), .rg 0 [] [.v, .v, .v]] [] [1000] (all_cons trivial (all_cons (congrArg (AV.bool) c230) (all_cons trivial (all_cons (congrArg (AV.bool) c235) (all_cons (show (0 : Int) ≤ 0 ∧ 0 < (y201.1.length : Int) from by omega) (all_cons (congrArg (AV.bool) c241) all_nil)))))) (by kernel_rfl)
        · refine some_e H244 fun e248 => ?_
          subst e248
          exact p_bar Tryz.mo 4 [.rg 0 [] [.v, .v, .e (.bool false), .v, .v, .v, .e (.bool true), .v, .v, .v, .v, .v, .v], .eqT 26 (.bool false)] [.only [0, 2, 3, 4, 5] [1000]] (ref04_source_item_S1 x0 y201 ()) (all_cons trivial (all_cons (congrArg (AV.bool) c230) (all_cons trivial (all_cons (congrArg (AV.bool) c235) (all_cons (show (0 : Int) ≤ 0 ∧ 0 < (y201.1.length : Int) from by omega) (all_cons (congrArg (AV.bool) c243) all_nil)))))) (by kernel_rfl)
      · have c237p := of_decide_eq_false c237
        refine some_e H238 fun e249 => ?_
        subst e249
        exact p_bar Tryz.mo 3 [.rg 0 [] [.v, .v, .e (.bool false), .v, .v, .v, .e (.bool false), .v, .s, .s, .s, .v, .v]] [.only [0, 2, 3, 4, 5] [1000]] (ref04_source_item_S1 x0 y201 ()) (all_cons trivial (all_cons (congrArg (AV.bool) c230) (all_cons trivial (all_cons (congrArg (AV.bool) c237) all_nil)))) (by kernel_rfl)
  · subst e430
    have H250 := aft_brk H226
    refine p_at Tryz.mo 6 [.rg 0 [] [.v], .rg 0 [] [.v]] [.only [0, 2, 3, 4, 5, 6, 7] [1000]] 6 [] (ref04_source_item_S2 x0 y201 0 0) all_nil (by kernel_rfl) ?_
    refine bnd H250 fun R275 h276 H277 => ?_
    refine p_joinO 1 (ref04_source_item_S3 x0 y201) R275 (by kernel_rfl) ?_ (fun u293 e294 => ?_)
    · refine p_cnt (ref04_source_item_S2 x0 y201) (by kernel_rfl) h276 (fun i266 s265 h279 e280 => ?_) (fun i266 s265 h287 q283 h284 h285 => ?_)
      · have c281 : decide (((i266 : Nat) : Int) < ((y201.1.length : Nat) : Int)) = false := decide_eq_false (by omega)
        subst e280
        exact p_bar Tryz.mo 5 [.rg 0 [] [.v, .v, .v, .e (.bool false)]] [.only [0, 2, 3, 4, 5, 6] [1000]] (ref04_source_item_S3 x0 y201 s265) (all_cons trivial (all_cons (congrArg (AV.bool) c281) all_nil)) (by kernel_rfl)
      · have c286 : decide (((i266 : Nat) : Int) < ((y201.1.length : Nat) : Int)) = true := decide_eq_true (by omega)
        refine t_lens 5 (ps := [y201.1.length ≤ 9223372036854775807]) (by kernel_rfl) (fun l290 => ?_)
        have l291 : y201.1.length ≤ 9223372036854775807 := by simpa only [All, List.length_map] using l290
        clear l290
        refine some_e h284 fun e292 => ?_
        subst e292
        exact p_bar Tryz.mo 9 [.rg 0 [] [.v, .v, .v, .e (.bool true)], .rg 0 [] [.v, .w, .v, .v, .v, .e (.int .u8 (((y201.1.getD i266 0 - 48)).toNat : Int)), .e (.int .i64 (((y201.1.getD i266 0 - 48)).toNat : Int)), .w, .v], .rg 0 [] [.v, .v, .v]] [.only [0, 2, 3, 4, 5, 6, 7] [1000]] (ref04_source_item_S2 x0 y201 (i266 + 1) (w64 ((w64 (10 * s265)) + (((y201.1.getD i266 0 - 48)).toNat : Int)))) (all_cons trivial (all_cons (congrArg (AV.bool) c286) (all_cons (show (0 : Int) ≤ ((i266 : Nat) : Int) ∧ ((i266 : Nat) : Int) < (y201.1.length : Int) from by omega) (all_cons trivial (all_cons (u8_sub (y201.1.getD i266 0) 48) (all_cons trivial (all_cons (congrArg (AV.int .i64) (wrap_u8 (y201.1.getD i266 0 - 48))) (all_cons (show I64 (((i266 : Nat) : Int) + 1) from by unfold I64; omega) all_nil)))))))) (by kernel_rfl)
    · subst e294
      have H295 := aftE_brk H277
      refine bsp H295 (fun c302 H303 => ?_) (fun c304 H305 => ?_)
      · refine bnd H303 fun y306 h307 H308 => ?_
        refine bnd H308 fun y309 h310 H311 => ?_
        refine some_e H311 fun e312 => ?_
        subst e312
        exact p_ret Tryz.mo 10 [.rg 0 [] [.v, .v], .eqT 42 (.bool true), .rg 0 [] [.v, .hR [(1000, 1000)] 44 (.str y306.1) [(1000, .cells 193 [.str x0, .int .i64 y306.2])], .v], .rg 0 [] [.v, .v, .c true (.bool y309), .v, .v, .v]] [] [1000] (all_cons (congrArg (AV.bool) c302) (all_cons Tryz.call236 (all_cons (ref04_source_run_c true x0 y201.2 y306 h307) (all_cons Tryz.call93 (all_cons (AFn.is (ref04_Name_c y306.1 y309 h310)) all_nil))))) (by kernel_rfl)
      · refine p_at Tryz.mo 8 [.rg 0 [] [.v, .v], .eqT 42 (.bool false)] [.only [0, 2, 3, 4, 6] [1000]] 7 [false] ⟨132, [(0, .hptr 1000 0), (2, .int .i64 0), (3, .str []), (4, .bool false), (6, .int .i64 u293)], [(1000, .cells 193 [.str x0, .int .i64 y201.2])]⟩ (all_cons (congrArg (AV.bool) c304) all_nil) (by kernel_rfl) ?_
        refine bnd H305 fun v331 h332 H333 => ?_
        refine p_join 0 (ref04_source_item_S4 x0 y201 u293 v331) (by kernel_rfl) ?_ ?_
        · refine bsp h332 (fun c334 H335 => ?_) (fun c336 H337 => ?_)
          · have c334p := of_decide_eq_true c334
            refine grd_e H335 fun g338 H339 => ?_
            refine bnd H339 fun y340 h341 H342 => ?_
            refine bsp H342 (fun c343 H344 => ?_) (fun c345 H346 => ?_)
            · refine some_e H344 fun e347 => ?_
              subst e347
              exact p_bar Tryz.mo 1 [.rg 30 [.v, .v, .v, .v, .v, .v, .v, .v, .v, .e (.bool true), .v, .v, .v, .v, .v, .v, .v, .v, .v, .v, .c true (.bool true), .v, .s, .s, .s, .s, .s, .s, .s, .s] [.s, .s, .v, .v]] [.only [0, 2, 3, 4, 6, 81] [1000]] (ref04_source_item_S4 x0 y201 u293 true) (all_cons trivial (all_cons (congrArg (AV.bool) c334) (all_cons (show (0 : Int) ≤ y201.2 ∧ y201.2 < (x0.length : Int) from by exact g338) (all_cons Tryz.call155 (all_cons (AFn.eq (ref04_letter_c (x0.getD y201.2.toNat 0) y340 h341) (congrArg (AV.bool) c343)) all_nil))))) (by kernel_rfl)
            · refine some_e H346 fun e348 => ?_
              subst e348
              exact p_bar Tryz.mo 1 [.rg 30 [.v, .v, .v, .v, .v, .v, .v, .v, .v, .e (.bool true), .v, .v, .v, .v, .v, .v, .v, .v, .v, .v, .c true (.bool false), .v, .v, .v, .v, .v, .v, .v, .v, .v] [.v, .v, .v, .v]] [.only [0, 2, 3, 4, 6, 81] [1000]] (ref04_source_item_S4 x0 y201 u293 (((x0.getD y201.2.toNat 0).toNat : Int) == 95)) (all_cons trivial (all_cons (congrArg (AV.bool) c334) (all_cons (show (0 : Int) ≤ y201.2 ∧ y201.2 < (x0.length : Int) from by exact g338) (all_cons Tryz.call155 (all_cons (AFn.eq (ref04_letter_c (x0.getD y201.2.toNat 0) y340 h341) (congrArg (AV.bool) c345)) (all_cons (show (0 : Int) ≤ y201.2 ∧ y201.2 < (x0.length : Int) from by exact g338) all_nil)))))) (by kernel_rfl)
          · have c336p := of_decide_eq_false c336
            refine some_e H337 fun e349 => ?_
            subst e349
            exact p_bar Tryz.mo 1 [.rg 30 [.v, .v, .v, .v, .v, .v, .v, .v, .v, .e (.bool false), .v, .s, .s, .s, .s, .s, .s, .s, .s, .s, .s, .s, .s, .s, .s, .s, .s, .s, .s, .s] [.s, .s, .s, .v]] [.only [0, 2, 3, 4, 6, 81] [1000]] (ref04_source_item_S4 x0 y201 u293 false) (all_cons trivial (all_cons (congrArg (AV.bool) c336) all_nil)) (by kernel_rfl)
        · refine bsp H333 (fun c356 H357 => ?_) (fun c358 H359 => ?_)
          · refine bnd H357 fun y360 h361 H362 => ?_
            refine bnd H362 fun y363 h364 H365 => ?_
            refine some_e H365 fun e366 => ?_
            subst e366
            exact p_ret Tryz.mo 7 [.eqT 81 (.bool true), .rg 0 [] [.v, .hR [(1000, 1000)] 83 (.str y360.1) [(1000, .cells 193 [.str x0, .int .i64 y360.2])], .v], .rg 0 [] [.v, .v, .v, .c true (.bool y363), .v, .v, .v]] [] [1000] (all_cons (congrArg (AV.bool) c356) (all_cons Tryz.call236 (all_cons (ref04_source_run_c true x0 y201.2 y360 h361) (all_cons Tryz.call93 (all_cons (AFn.is (ref04_Name_c y360.1 y363 h364)) all_nil))))) (by kernel_rfl)
          · refine bnd H359 fun y367 h368 H369 => ?_
            refine bnd H369 fun y370 h371 H372 => ?_
            refine bsp H372 (fun c373 H374 => ?_) (fun c375 H376 => ?_)
            · refine bnd H374 fun y377 h378 H379 => ?_
              refine p_at Tryz.mo 17 [.eqT 81 (.bool false), .rg 0 [] [.v, .v, .v, .v, .v], .rg 0 [] [.v, .hR [(1000, 1000)] 93 (.tup []) [(1000, .cells 193 [.str x0, .int .i64 y367])]], .rg 0 [] [.v, .hR [(1000, 1000)] 95 (.bool y370.1) [(1000, .cells 193 [.str x0, .int .i64 y370.2])], .v], .eqT 96 (.bool false), .rg 0 [] [.v, .hR [(1000, 1000)] 103 (.tup []) [(1000, .cells 193 [.str x0, .int .i64 y377])]]] [.only [0, 2, 3, 4, 6] [1000]] 15 [false, false] ⟨132, [(0, .hptr 1000 0), (2, .int .i64 0), (3, .str []), (4, .bool false), (6, .int .i64 u293)], [(1000, .cells 193 [.str x0, .int .i64 y377])]⟩ (all_cons (congrArg (AV.bool) c358) (all_cons Tryz.call183 (all_cons (ref04_source_blanks_c x0 y201.2 y367 h368) (all_cons Tryz.call184 (all_cons (ref04_source_is_c 42 x0 y367 y370 h371) (all_cons trivial (all_cons (congrArg (fun x => AV.bool (!x)) c373) (all_cons Tryz.call183 (all_cons (ref04_source_blanks_c x0 y370.2 y377 h378) all_nil))))))))) (by kernel_rfl) ?_
              refine bnd H379 fun v398 h399 H400 => ?_
              refine p_joinO 1 (ref04_source_item_S5 x0 u293 y377) v398 (by kernel_rfl) ?_ (fun u401 e428 => ?_)
              · refine bsp h399 (fun c402 H403 => ?_) (fun c404 H405 => ?_)
                · have c402p := of_decide_eq_true c402
                  refine grd_e H403 fun g406 H407 => ?_
                  refine bnd H407 fun y408 h409 H410 => ?_
                  refine bsp H410 (fun c411 H412 => ?_) (fun c413 H414 => ?_)
                  · refine some_e H412 fun e415 => ?_
                    subst e415
                    have H416 := aft_ret H400
                    refine some_e H416 fun e417 => ?_
                    subst e417
                    exact p_ret Tryz.mo 6 [.rg 19 [.v, .v, .v, .v, .v, .v, .v, .v, .v, .e (.bool true), .v, .v, .v, .v, .v, .v, .v, .v, .v] [.v, .c true (.bool y408), .v], .eqT 125 (.bool true), .rg 0 [] [.v, .v, .v]] [] [1000] (all_cons trivial (all_cons (congrArg (AV.bool) c402) (all_cons (show (0 : Int) ≤ y377 ∧ y377 < (x0.length : Int) from by exact g406) (all_cons Tryz.call154 (all_cons (AFn.is (ref04_digit_c (x0.getD y377.toNat 0) y408 h409)) (all_cons (congrArg (AV.bool) c411) all_nil)))))) (by kernel_rfl)
                  · refine some_e H414 fun e418 => ?_
                    subst e418
                    exact p_bar Tryz.mo 4 [.rg 19 [.v, .v, .v, .v, .v, .v, .v, .v, .v, .e (.bool true), .v, .v, .v, .v, .v, .v, .v, .v, .v] [.v, .c true (.bool y408), .v], .eqT 125 (.bool false)] [.only [0, 2, 3, 4, 6] [1000]] (ref04_source_item_S5 x0 u293 y377 ()) (all_cons trivial (all_cons (congrArg (AV.bool) c402) (all_cons (show (0 : Int) ≤ y377 ∧ y377 < (x0.length : Int) from by exact g406) (all_cons Tryz.call154 (all_cons (AFn.is (ref04_digit_c (x0.getD y377.toNat 0) y408 h409)) (all_cons (congrArg (AV.bool) c413) all_nil)))))) (by kernel_rfl)
                · have c404p := of_decide_eq_false c404
                  refine some_e H405 fun e419 => ?_
                  subst e419
                  exact p_bar Tryz.mo 3 [.rg 19 [.v, .v, .v, .v, .v, .v, .v, .v, .v, .e (.bool false), .v, .s, .s, .s, .s, .s, .s, .s, .s] [.s, .s, .v]] [.only [0, 2, 3, 4, 6] [1000]] (ref04_source_item_S5 x0 u293 y377 ()) (all_cons trivial (all_cons (congrArg (AV.bool) c404) all_nil)) (by kernel_rfl)
              · subst e428
                have H420 := aft_brk H400
                refine bnd H420 fun y421 h422 H423 => ?_
                refine bnd H423 fun y424 h425 H426 => ?_
                refine some_e H426 fun e427 => ?_
                subst e427
                exact p_ret Tryz.mo 5 [.rg 0 [] [.v, .hR [(1000, 1000)] 127 (.str y421.1) [(1000, .cells 193 [.str x0, .int .i64 y421.2])], .v], .rg 0 [] [.v, .v, .v, .c true (.bool y424), .v, .v, .v]] [] [1000] (all_cons Tryz.call236 (all_cons (ref04_source_run_c true x0 y377 y421 h422) (all_cons Tryz.call93 (all_cons (AFn.is (ref04_Name_c y421.1 y424 h425)) all_nil)))) (by kernel_rfl)
            · refine some_e H376 fun e429 => ?_
              subst e429
              exact p_ret Tryz.mo 17 [.eqT 81 (.bool false), .rg 0 [] [.v, .v, .v, .v, .v], .rg 0 [] [.v, .hR [(1000, 1000)] 93 (.tup []) [(1000, .cells 193 [.str x0, .int .i64 y367])]], .rg 0 [] [.v, .hR [(1000, 1000)] 95 (.bool y370.1) [(1000, .cells 193 [.str x0, .int .i64 y370.2])], .v], .eqT 96 (.bool true), .rg 0 [] [.v, .v, .v, .v, .m], .rg 0 [] [.v, .v, .v, .v]] [] [1000] (all_cons (congrArg (AV.bool) c358) (all_cons Tryz.call183 (all_cons (ref04_source_blanks_c x0 y201.2 y367 h368) (all_cons Tryz.call184 (all_cons (ref04_source_is_c 42 x0 y367 y370 h371) (all_cons trivial (all_cons (congrArg (fun x => AV.bool (!x)) c375) all_nil))))))) (by kernel_rfl)
/-- framewise/framewiseref04.Plus -/
def ref04_Plus (x0 : Linear) (x1 : Str) (x2 : Int) : Option Linear :=
  (cnt (σ := (Bool × (List Coef))) (ε := (Bool × (List Coef))) (ρ := Empty) (fun i62 s61 =>
    ((
      bif s61.1 then (
        some (true, false)
      ) else (
        some (false, !(Op.bytesLess ((x0.Terms.getD i62 ⟨[], 0⟩).Var) x1 || ((x0.Terms.getD i62 ⟨[], 0⟩).Var) == x1))
      )
    ) : Option (Bool × Bool)).bind fun v113 =>
    ((
      bif v113.2 then (
        grd ((s61.2.length + 1) * 24 ≤ 140737488355328) <|
        some (true, true, (s61.2 ++ [(Coef.mk x1 x2)]))
      ) else (
        some (v113.1, false, s61.2)
      )
    ) : Option (Bool × Bool × (List Coef))).bind fun v126 =>
    ((
      bif (((x0.Terms.getD i62 ⟨[], 0⟩).Var) == x1) then (
        some (true, true, (w64 (((x0.Terms.getD i62 ⟨[], 0⟩).C) + x2)))
      ) else (
        some (v126.1, false, ((x0.Terms.getD i62 ⟨[], 0⟩).C))
      )
    ) : Option (Bool × Bool × Int)).bind fun v137 =>
    grd ((v126.2.2.length + 1) * 24 ≤ 140737488355328) <|
    some (.go (v137.1, (v126.2.2 ++ [(Coef.mk ((x0.Terms.getD i62 ⟨[], 0⟩).Var) v137.2.2)])))
  ) (fun i62 s61 => (s61.1, s61.2)) (x0.Terms.length - 0) 0 (false, [])).bind <| aftE fun u153 =>
  ((
    bif u153.1 then (
      some u153.2
    ) else (
      grd ((u153.2.length + 1) * 24 ≤ 140737488355328) <|
      some (u153.2 ++ [(Coef.mk x1 x2)])
    )
  ) : Option (List Coef)).bind fun v160 =>
  (whl (σ := (Int × Int × (List Coef))) (ε := (Int × (List Coef))) (ρ := Empty) (fun s232 =>
    bif decide (s232.2.1 < ((s232.2.2.length : Nat) : Int)) then (
      grd (0 ≤ s232.2.1 ∧ s232.2.1 < (s232.2.2.length : Int)) <|
      grd (s232.2.1.toNat < s232.2.2.length) <|
      ((
        bif (((s232.2.2.getD s232.2.1.toNat ⟨[], 0⟩).C) == 0) then (
          some (s232.1, false, s232.2.2)
        ) else (
          grd (0 ≤ s232.1 ∧ s232.1 < (s232.2.2.length : Int)) <|
          grd (s232.1.toNat < s232.2.2.length) <|
          some ((w64 (s232.1 + 1)), true, (s232.2.2.set s232.1.toNat (Coef.mk ((s232.2.2.getD s232.2.1.toNat ⟨[], 0⟩).Var) ((s232.2.2.getD s232.2.1.toNat ⟨[], 0⟩).C))))
        )
      ) : Option (Int × Bool × (List Coef))).bind fun v284 =>
      some (.go (v284.1, (w64 (s232.2.1 + 1)), v284.2.2))
    ) else (
      some (.brk (s232.1, s232.2.2))
    )
  ) 4294967296 (0, 0, v160)).bind <| aftE fun u300 =>
  grd (0 ≤ u300.1 ∧ u300.1 ≤ (u300.2.length : Int)) <|
  some (Linear.mk x0.Const (u300.2.take u300.1.toNat))
def ref04_Plus_S1 (x0 : Linear) (x1 : Str) (x2 : Int) (i62 : Nat) (s61 : (Bool × (List Coef))) : AS := ⟨100, [(1, .str x1), (2, .int .i64 x2), (3, .hptr 3 0), (6, .hptr 6 0), (7, .hptr 7 0), (8, .bool s61.1), (9, .int .i64 ((i62 : Nat) : Int))], [(3, .cells 53 [.int .i64 x0.Const, .dslice (x0.Terms.map cCoef)]), (6, .cells 53 [.int .i64 0, .eslice]), (7, .cells 53 [.int .i64 x0.Const, .rslice 57]), (57, .row 58 2 (s61.2.map cCoef))]⟩
def ref04_Plus_S2 (x0 : Linear) (x1 : Str) (x2 : Int) (u103 : (Bool × (List Coef))) : AS := ⟨100, [(1, .str x1), (2, .int .i64 x2), (6, .hptr 6 0), (7, .hptr 7 0), (8, .bool u103.1)], [(6, .cells 53 [.int .i64 0, .eslice]), (7, .cells 53 [.int .i64 x0.Const, .rslice 57]), (57, .row 58 2 (u103.2.map cCoef))]⟩
def ref04_Plus_S3 (x0 : Linear) (x1 : Str) (x2 : Int) (i62 : Nat) (s61 : (Bool × (List Coef))) (v113 : (Bool × Bool)) : AS := ⟨100, [(1, .str x1), (2, .int .i64 x2), (3, .hptr 3 0), (6, .hptr 6 0), (7, .hptr 7 0), (8, .bool v113.1), (9, .int .i64 ((i62 : Nat) : Int)), (10, .hptr 10 0), (20, .bool true), (35, .bool v113.2)], [(3, .cells 53 [.int .i64 x0.Const, .dslice (x0.Terms.map cCoef)]), (6, .cells 53 [.int .i64 0, .eslice]), (7, .cells 53 [.int .i64 x0.Const, .rslice 57]), (10, .cells 58 [.str ((x0.Terms.getD i62 ⟨[], 0⟩).Var), .int .i64 ((x0.Terms.getD i62 ⟨[], 0⟩).C)]), (57, .row 58 2 (s61.2.map cCoef))]⟩
def ref04_Plus_S4 (x0 : Linear) (x1 : Str) (x2 : Int) (i62 : Nat) (v126 : (Bool × Bool × (List Coef))) : AS := ⟨100, [(1, .str x1), (2, .int .i64 x2), (3, .hptr 3 0), (6, .hptr 6 0), (7, .hptr 7 0), (8, .bool v126.1), (9, .int .i64 ((i62 : Nat) : Int)), (10, .hptr 10 0), (20, .bool true), (35, .bool v126.2.1)], [(3, .cells 53 [.int .i64 x0.Const, .dslice (x0.Terms.map cCoef)]), (6, .cells 53 [.int .i64 0, .eslice]), (7, .cells 53 [.int .i64 x0.Const, .rslice 57]), (10, .cells 58 [.str ((x0.Terms.getD i62 ⟨[], 0⟩).Var), .int .i64 ((x0.Terms.getD i62 ⟨[], 0⟩).C)]), (57, .row 58 2 (v126.2.2.map cCoef))]⟩
def ref04_Plus_S5 (x0 : Linear) (x1 : Str) (x2 : Int) (i62 : Nat) (v126 : (Bool × Bool × (List Coef))) (v137 : (Bool × Bool × Int)) : AS := ⟨100, [(1, .str x1), (2, .int .i64 x2), (3, .hptr 3 0), (6, .hptr 6 0), (7, .hptr 7 0), (8, .bool v137.1), (9, .int .i64 ((i62 : Nat) : Int)), (10, .hptr 10 0), (20, .bool true), (35, .bool v126.2.1), (47, .bool v137.2.1)], [(3, .cells 53 [.int .i64 x0.Const, .dslice (x0.Terms.map cCoef)]), (6, .cells 53 [.int .i64 0, .eslice]), (7, .cells 53 [.int .i64 x0.Const, .rslice 57]), (10, .cells 58 [.str ((x0.Terms.getD i62 ⟨[], 0⟩).Var), .int .i64 v137.2.2]), (57, .row 58 2 (v126.2.2.map cCoef))]⟩
def ref04_Plus_S6 (x0 : Linear) (v160 : (List Coef)) : AS := ⟨100, [(6, .hptr 6 0), (7, .hptr 7 0)], [(6, .cells 53 [.int .i64 0, .eslice]), (7, .cells 53 [.int .i64 x0.Const, .rslice 67]), (67, .row 58 2 (v160.map cCoef))]⟩
def ref04_Plus_S7 (x0 : Linear) (s232 : (Int × Int × (List Coef))) : AS := ⟨100, [(6, .hptr 6 0), (7, .hptr 7 0), (11, .int .i64 s232.1), (12, .int .i64 s232.2.1)], [(6, .cells 53 [.int .i64 0, .eslice]), (7, .cells 53 [.int .i64 x0.Const, .rslice 67]), (67, .row 58 2 (s232.2.2.map cCoef))]⟩
def ref04_Plus_S8 (x0 : Linear) (u264 : (Int × (List Coef))) : AS := ⟨100, [(6, .hptr 6 0), (7, .hptr 7 0), (11, .int .i64 u264.1)], [(6, .cells 53 [.int .i64 0, .eslice]), (7, .cells 53 [.int .i64 x0.Const, .rslice 67]), (67, .row 58 2 (u264.2.map cCoef))]⟩
def ref04_Plus_S9 (x0 : Linear) (s232 : (Int × Int × (List Coef))) (v284 : (Int × Bool × (List Coef))) : AS := ⟨100, [(6, .hptr 6 0), (7, .hptr 7 0), (11, .int .i64 v284.1), (12, .int .i64 s232.2.1), (73, .bool true), (82, .bool v284.2.1)], [(6, .cells 53 [.int .i64 0, .eslice]), (7, .cells 53 [.int .i64 x0.Const, .rslice 67]), (67, .row 58 2 (v284.2.2.map cCoef))]⟩
theorem ref04_Plus_c (x0 : Linear) (x1 : Str) (x2 : Int) (r : Linear) (H : ref04_Plus x0 x1 x2 = some r) : AFn Tryz.prog 186 [.agg [.int .i64 x0.Const, .dslice (x0.Terms.map cCoef)], .str x1, .int .i64 x2] (.agg [.int .i64 r.Const, .dslice (r.Terms.map cCoef)]) := by
  unfold ref04_Plus at H
  refine acallX Tryz.func186 100 [.cell 6 53] (by kernel_rfl) (by kernel_rfl) ?_
  refine p_at Tryz.mo 10 [.rg 0 [] [.m, .m], .rg 0 [] [.v, .v, .b, .m, .m], .rg 0 [] [.v], .rg 0 [] [.v]] [.erH 7 1 57 58 2, .only [1, 2, 3, 6, 7, 8, 9] [3, 6, 7, 57]] 10 [] (ref04_Plus_S1 x0 x1 x2 0 (false, [])) all_nil (by kernel_rfl) ?_
  refine bnd H fun R100 h101 H102 => ?_
  refine p_joinO 1 (ref04_Plus_S2 x0 x1 x2) R100 (by kernel_rfl) ?_ (fun u153 e154 => ?_)
  · refine p_cnt (ref04_Plus_S1 x0 x1 x2) (by kernel_rfl) h101 (fun i62 s61 h104 e105 => ?_) (fun i62 s61 h112 q108 h109 h110 => ?_)
    · have c106 : decide (((i62 : Nat) : Int) < ((x0.Terms.length : Nat) : Int)) = false := decide_eq_false (by omega)
      subst e105
      exact p_bar Tryz.mo 5 [.rg 0 [] [.v, .v, .v, .e (.int .i64 ((x0.Terms.length : Nat) : Int)), .e (.bool false)]] [.only [1, 2, 6, 7, 8] [6, 7, 57]] (ref04_Plus_S2 x0 x1 x2 (s61.1, s61.2)) (all_cons trivial (all_cons (lenm cCoef x0.Terms) (all_cons (congrArg (AV.bool) c106) all_nil))) (by kernel_rfl)
    · have c111 : decide (((i62 : Nat) : Int) < ((x0.Terms.length : Nat) : Int)) = true := decide_eq_true (by omega)
      refine p_at Tryz.mo 11 [.rg 0 [] [.v, .v, .v, .e (.int .i64 ((x0.Terms.length : Nat) : Int)), .e (.bool true)], .rg 0 [] [.v, .v, .v, .e (.dptr [.str ((x0.Terms.getD i62 ⟨[], 0⟩).Var), .int .i64 ((x0.Terms.getD i62 ⟨[], 0⟩).C)]), .v, .m, .m]] [.only [1, 2, 3, 6, 7, 8, 9, 10, 20] [3, 6, 7, 10, 57]] 11 [true] ⟨100, [(1, .str x1), (2, .int .i64 x2), (3, .hptr 3 0), (6, .hptr 6 0), (7, .hptr 7 0), (8, .bool s61.1), (9, .int .i64 ((i62 : Nat) : Int)), (10, .hptr 10 0), (20, .bool true)], [(3, .cells 53 [.int .i64 x0.Const, .dslice (x0.Terms.map cCoef)]), (6, .cells 53 [.int .i64 0, .eslice]), (7, .cells 53 [.int .i64 x0.Const, .rslice 57]), (10, .cells 58 [.str ((x0.Terms.getD i62 ⟨[], 0⟩).Var), .int .i64 ((x0.Terms.getD i62 ⟨[], 0⟩).C)]), (57, .row 58 2 (s61.2.map cCoef))]⟩ (all_cons trivial (all_cons (lenm cCoef x0.Terms) (all_cons (congrArg (AV.bool) c111) (all_app (ix (f := cCoef) (l := x0.Terms) (n := i62) ⟨[], 0⟩ cCoef_len (by decide) (by omega)) all_nil)))) (by kernel_rfl) ?_
      refine bnd h109 fun v113 h114 H115 => ?_
      refine p_join 0 (ref04_Plus_S3 x0 x1 x2 i62 s61 v113) (by kernel_rfl) ?_ ?_
      · refine bsp h114 (fun c116 H117 => ?_) (fun c118 H119 => ?_)
        · refine some_e H117 fun e120 => ?_
          subst e120
          exact p_bar Tryz.mo 2 [.eqT 8 (.bool true), .rg 0 [] [.v, .v, .v, .s, .s, .s, .s, .v]] [.only [1, 2, 3, 6, 7, 8, 9, 10, 20, 35] [3, 6, 7, 10, 57]] (ref04_Plus_S3 x0 x1 x2 i62 s61 (true, false)) (all_cons (congrArg (AV.bool) c116) (all_cons trivial all_nil)) (by kernel_rfl)
        · refine some_e H119 fun e121 => ?_
          subst e121
          exact p_bar Tryz.mo 2 [.eqT 8 (.bool false), .rg 0 [] [.v, .v, .v, .v, .v, .v, .v, .v]] [.only [1, 2, 3, 6, 7, 8, 9, 10, 20, 35] [3, 6, 7, 10, 57]] (ref04_Plus_S3 x0 x1 x2 i62 s61 (false, !(Op.bytesLess ((x0.Terms.getD i62 ⟨[], 0⟩).Var) x1 || ((x0.Terms.getD i62 ⟨[], 0⟩).Var) == x1))) (all_cons (congrArg (AV.bool) c118) (all_cons trivial all_nil)) (by kernel_rfl)
      · refine bnd H115 fun v126 h127 H128 => ?_
        refine p_join 0 (ref04_Plus_S4 x0 x1 x2 i62 v126) (by kernel_rfl) ?_ ?_
        · refine bsp h127 (fun c129 H130 => ?_) (fun c131 H132 => ?_)
          · refine grd_e H130 fun g133 H134 => ?_
            refine some_e H134 fun e135 => ?_
            subst e135
            exact p_bar Tryz.mo 5 [.eqT 35 (.bool true), .rg 0 [] [.v, .v, .v, .v, .b, .b, .ap, .rwH 42 (.row 58 2 ((s61.2 ++ [(Coef.mk x1 x2)]).map cCoef)), .v, .m], .rg 0 [] [.v]] [.ren [(3, 3), (6, 6), (7, 7), (10, 10), (42, 57)], .only [1, 2, 3, 6, 7, 8, 9, 10, 20, 35] [3, 6, 7, 10, 57]] (ref04_Plus_S4 x0 x1 x2 i62 (true, true, (s61.2 ++ [(Coef.mk x1 x2)]))) (all_cons (congrArg (AV.bool) c129) (all_app (apR (c := cCoef) cCoef_ok s61.2 [(Coef.mk x1 x2)] 24 (by decide) (by simpa using g133)) (all_cons (apQ 58 2 cCoef s61.2 [(Coef.mk x1 x2)]) all_nil))) (by kernel_rfl)
          · refine some_e H132 fun e136 => ?_
            subst e136
            exact p_bar Tryz.mo 3 [.eqT 35 (.bool false)] [.only [1, 2, 3, 6, 7, 8, 9, 10, 20, 35] [3, 6, 7, 10, 57]] (ref04_Plus_S4 x0 x1 x2 i62 (v113.1, false, s61.2)) (all_cons (congrArg (AV.bool) c131) all_nil) (by kernel_rfl)
        · refine p_at Tryz.mo 3 [.rg 0 [] [.v, .v, .v, .v]] [.only [1, 2, 3, 6, 7, 8, 9, 10, 20, 35, 47] [3, 6, 7, 10, 57]] 3 [] ⟨100, [(1, .str x1), (2, .int .i64 x2), (3, .hptr 3 0), (6, .hptr 6 0), (7, .hptr 7 0), (8, .bool v126.1), (9, .int .i64 ((i62 : Nat) : Int)), (10, .hptr 10 0), (20, .bool true), (35, .bool v126.2.1), (47, .bool (((x0.Terms.getD i62 ⟨[], 0⟩).Var) == x1))], [(3, .cells 53 [.int .i64 x0.Const, .dslice (x0.Terms.map cCoef)]), (6, .cells 53 [.int .i64 0, .eslice]), (7, .cells 53 [.int .i64 x0.Const, .rslice 57]), (10, .cells 58 [.str ((x0.Terms.getD i62 ⟨[], 0⟩).Var), .int .i64 ((x0.Terms.getD i62 ⟨[], 0⟩).C)]), (57, .row 58 2 (v126.2.2.map cCoef))]⟩ all_nil (by kernel_rfl) ?_
          refine bnd H128 fun v137 h138 H139 => ?_
          refine p_join 0 (ref04_Plus_S5 x0 x1 x2 i62 v126 v137) (by kernel_rfl) ?_ ?_
          · refine bsp h138 (fun c140 H141 => ?_) (fun c142 H143 => ?_)
            · refine some_e H141 fun e144 => ?_
              subst e144
              exact p_bar Tryz.mo 5 [.eqT 47 (.bool true), .rg 0 [] [.v, .v, .v, .w, .v, .m], .rg 0 [] [.v]] [.only [1, 2, 3, 6, 7, 8, 9, 10, 20, 35, 47] [3, 6, 7, 10, 57]] (ref04_Plus_S5 x0 x1 x2 i62 v126 (true, true, (w64 (((x0.Terms.getD i62 ⟨[], 0⟩).C) + x2)))) (all_cons (congrArg (AV.bool) c140) all_nil) (by kernel_rfl)
            · refine some_e H143 fun e145 => ?_
              subst e145
              exact p_bar Tryz.mo 3 [.eqT 47 (.bool false)] [.only [1, 2, 3, 6, 7, 8, 9, 10, 20, 35, 47] [3, 6, 7, 10, 57]] (ref04_Plus_S5 x0 x1 x2 i62 v126 (v126.1, false, ((x0.Terms.getD i62 ⟨[], 0⟩).C))) (all_cons (congrArg (AV.bool) c142) all_nil) (by kernel_rfl)
          · refine grd_e H139 fun g146 H147 => ?_
            refine t_lensH 3 1 (ps := [(x0.Terms.map cCoef).length ≤ 9223372036854775807]) (by kernel_rfl) (fun l150 => ?_)
            have l151 : x0.Terms.length ≤ 9223372036854775807 := by simpa only [All, List.length_map] using l150
            clear l150
            refine some_e H147 fun e152 => ?_
            subst e152
            exact p_bar Tryz.mo 2 [.rg 0 [] [.v, .v, .v, .b, .ap, .rwH 57 (.row 58 2 ((v126.2.2 ++ [(Coef.mk ((x0.Terms.getD i62 ⟨[], 0⟩).Var) v137.2.2)]).map cCoef)), .v, .m], .rg 0 [] [.v, .v, .v]] [.only [1, 2, 3, 6, 7, 8, 9] [3, 6, 7, 57]] (ref04_Plus_S1 x0 x1 x2 (i62 + 1) (v137.1, (v126.2.2 ++ [(Coef.mk ((x0.Terms.getD i62 ⟨[], 0⟩).Var) v137.2.2)]))) (all_app (apR (c := cCoef) cCoef_ok v126.2.2 [(Coef.mk ((x0.Terms.getD i62 ⟨[], 0⟩).Var) v137.2.2)] 24 (by decide) (by simpa using g146)) (all_cons (apQ 58 2 cCoef v126.2.2 [(Coef.mk ((x0.Terms.getD i62 ⟨[], 0⟩).Var) v137.2.2)]) (all_cons (show I64 (((i62 : Nat) : Int) + 1) from by unfold I64; omega) all_nil))) (by kernel_rfl)
  · subst e154
    have H155 := aftE_brk H102
    refine p_at Tryz.mo 3 [.rg 0 [] [.v, .v]] [.only [1, 2, 6, 7, 60] [6, 7, 57]] 3 [] ⟨100, [(1, .str x1), (2, .int .i64 x2), (6, .hptr 6 0), (7, .hptr 7 0), (60, .bool (!u153.1))], [(6, .cells 53 [.int .i64 0, .eslice]), (7, .cells 53 [.int .i64 x0.Const, .rslice 57]), (57, .row 58 2 (u153.2.map cCoef))]⟩ (all_cons trivial all_nil) (by kernel_rfl) ?_
    refine bnd H155 fun v160 h161 H162 => ?_
    refine p_join 0 (ref04_Plus_S6 x0 v160) (by kernel_rfl) ?_ ?_
    · refine bsp h161 (fun c163 H164 => ?_) (fun c165 H166 => ?_)
      · refine some_e H164 fun e167 => ?_
        subst e167
        exact p_bar Tryz.mo 3 [.eqT 60 (.bool false)] [.ren [(6, 6), (7, 7), (57, 67)], .only [6, 7] [6, 7, 67]] (ref04_Plus_S6 x0 u153.2) (all_cons (congrArg (fun x => AV.bool (!x)) c163) all_nil) (by kernel_rfl)
      · refine grd_e H166 fun g168 H169 => ?_
        refine some_e H169 fun e170 => ?_
        subst e170
        exact p_bar Tryz.mo 3 [.eqT 60 (.bool true), .rg 0 [] [.v, .v, .v, .v, .b, .b, .ap, .rwH 67 (.row 58 2 ((u153.2 ++ [(Coef.mk x1 x2)]).map cCoef)), .v, .m]] [.only [6, 7] [6, 7, 67]] (ref04_Plus_S6 x0 (u153.2 ++ [(Coef.mk x1 x2)])) (all_cons (congrArg (fun x => AV.bool (!x)) c165) (all_app (apR (c := cCoef) cCoef_ok u153.2 [(Coef.mk x1 x2)] 24 (by decide) (by simpa using g168)) (all_cons (apQ 58 2 cCoef u153.2 [(Coef.mk x1 x2)]) all_nil))) (by kernel_rfl)
    · refine p_at Tryz.mo 6 [.rg 0 [] [.v], .rg 0 [] [.v]] [.only [6, 7, 11, 12] [6, 7, 67]] 6 [] (ref04_Plus_S7 x0 (0, 0, v160)) all_nil (by kernel_rfl) ?_
      refine bnd H162 fun R261 h262 H263 => ?_
      refine p_joinO 1 (ref04_Plus_S8 x0) R261 (by kernel_rfl) ?_ (fun u300 e301 => ?_)
      · refine p_whl (ref04_Plus_S7 x0) (by kernel_rfl) h262 (fun s232 q265 h266 h267 => ?_)
        · refine bsp h266 (fun c268 H269 => ?_) (fun c270 H271 => ?_)
          · have c268p := of_decide_eq_true c268
            refine grd_e H269 fun g272 H273 => ?_
            refine grd_e H273 fun g274 H275 => ?_
            refine p_at Tryz.mo 10 [.rg 0 [] [.v, .v, .v, .e (.int .i64 ((s232.2.2.length : Nat) : Int)), .v], .eqT 73 (.bool true), .rg 0 [] [.v, .v, .v, .v, .v, .rl s232.2.1.toNat 1 (.int .i64 ((s232.2.2.getD s232.2.1.toNat ⟨[], 0⟩).C)), .v]] [.only [6, 7, 11, 12, 73, 82] [6, 7, 67]] 9 [true] ⟨100, [(6, .hptr 6 0), (7, .hptr 7 0), (11, .int .i64 s232.1), (12, .int .i64 s232.2.1), (73, .bool true), (82, .bool (((s232.2.2.getD s232.2.1.toNat ⟨[], 0⟩).C) != 0))], [(6, .cells 53 [.int .i64 0, .eslice]), (7, .cells 53 [.int .i64 x0.Const, .rslice 67]), (67, .row 58 2 (s232.2.2.map cCoef))]⟩ (all_cons trivial (all_cons (lenm cCoef s232.2.2) (all_cons (congrArg (AV.bool) c268) (all_cons (show (0 : Int) ≤ s232.2.1 ∧ s232.2.1 < ((s232.2.2.map cCoef).length : Int) from by rw [List.length_map]; exact g272) (all_cons (rlP (f := cCoef) (l := s232.2.2) (n := s232.2.1.toNat) 2 1 1 (by omega) (by decide)) (all_cons (rl1 (f := cCoef) (l := s232.2.2) (n := s232.2.1.toNat) ⟨[], 0⟩ 1 (by omega)) all_nil)))))) (by kernel_rfl) ?_
            refine bnd H275 fun v284 h285 H286 => ?_
            refine p_join 1 (ref04_Plus_S9 x0 s232 v284) (by kernel_rfl) ?_ ?_
            · refine bsp h285 (fun c287 H288 => ?_) (fun c289 H290 => ?_)
              · refine some_e H288 fun e291 => ?_
                subst e291
                exact p_bar Tryz.mo 3 [.eqT 82 (.bool false)] [.only [6, 7, 11, 12, 73, 82] [6, 7, 67]] (ref04_Plus_S9 x0 s232 (s232.1, false, s232.2.2)) (all_cons (congrArg (fun x => AV.bool (!x)) c287) all_nil) (by kernel_rfl)
              · refine grd_e H290 fun g292 H293 => ?_
                refine grd_e H293 fun g294 H295 => ?_
                refine some_e H295 fun e296 => ?_
                subst e296
                exact p_bar Tryz.mo 5 [.eqT 82 (.bool true), .rg 8 [.v, .v, .v, .v, .v, .v, .v, .rl s232.2.1.toNat 0 (.agg [.str ((s232.2.2.getD s232.2.1.toNat ⟨[], 0⟩).Var), .int .i64 ((s232.2.2.getD s232.2.1.toNat ⟨[], 0⟩).C)])] [.v, .rs s232.1.toNat 0, .rwH 67 (.row 58 2 ((s232.2.2.set s232.1.toNat (Coef.mk ((s232.2.2.getD s232.2.1.toNat ⟨[], 0⟩).Var) ((s232.2.2.getD s232.2.1.toNat ⟨[], 0⟩).C))).map cCoef))], .rg 0 [] [.v, .w, .v]] [.only [6, 7, 11, 12, 73, 82] [6, 7, 67]] (ref04_Plus_S9 x0 s232 ((w64 (s232.1 + 1)), true, (s232.2.2.set s232.1.toNat (Coef.mk ((s232.2.2.getD s232.2.1.toNat ⟨[], 0⟩).Var) ((s232.2.2.getD s232.2.1.toNat ⟨[], 0⟩).C))))) (all_cons (congrArg (fun x => AV.bool (!x)) c289) (all_cons (show (0 : Int) ≤ s232.2.1 ∧ s232.2.1 < ((s232.2.2.map cCoef).length : Int) from by rw [List.length_map]; exact g272) (all_cons (rlP (f := cCoef) (l := s232.2.2) (n := s232.2.1.toNat) 2 0 2 (by omega) (by decide)) (all_cons (rlA (f := cCoef) (l := s232.2.2) (n := s232.2.1.toNat) ⟨[], 0⟩ 0 2 (by omega)) (all_cons (show (0 : Int) ≤ s232.1 ∧ s232.1 < ((s232.2.2.map cCoef).length : Int) from by rw [List.length_map]; exact g292) (all_cons (rlP (f := cCoef) (l := s232.2.2) (n := s232.1.toNat) 2 0 2 (by omega) (by decide)) (all_cons (rsQ (f := cCoef) 58 2 s232.2.2 s232.1.toNat ⟨[], 0⟩ (Coef.mk ((s232.2.2.getD s232.2.1.toNat ⟨[], 0⟩).Var) ((s232.2.2.getD s232.2.1.toNat ⟨[], 0⟩).C)) 0 [.str ((s232.2.2.getD s232.2.1.toNat ⟨[], 0⟩).Var), .int .i64 ((s232.2.2.getD s232.2.1.toNat ⟨[], 0⟩).C)] (by omega) rfl) all_nil))))))) (by kernel_rfl)
            · refine some_e H286 fun e297 => ?_
              subst e297
              exact p_bar Tryz.mo 1 [.rg 0 [] [.v, .w, .v]] [.only [6, 7, 11, 12] [6, 7, 67]] (ref04_Plus_S7 x0 (v284.1, (w64 (s232.2.1 + 1)), v284.2.2)) all_nil (by kernel_rfl)
          · have c270p := of_decide_eq_false c270
            refine some_e H271 fun e298 => ?_
            subst e298
            have e299 := out_brk h267
            subst e299
            exact p_bar Tryz.mo 6 [.rg 0 [] [.v, .v, .v, .e (.int .i64 ((s232.2.2.length : Nat) : Int)), .v], .eqT 73 (.bool false)] [.only [6, 7, 11] [6, 7, 67]] (ref04_Plus_S8 x0 (s232.1, s232.2.2)) (all_cons trivial (all_cons (lenm cCoef s232.2.2) (all_cons (congrArg (AV.bool) c270) all_nil))) (by kernel_rfl)
      · subst e301
        have H302 := aftE_brk H263
        refine grd_e H302 fun g303 H304 => ?_
        refine some_e H304 fun e305 => ?_
        subst e305
        exact p_ret Tryz.mo 5 [.rg 0 [] [.v, .v, .v, .fz 67, .e (.dslice ((u300.2.take u300.1.toNat).map cCoef)), .v, .m], .rg 0 [] [.v, .m]] [] [] (all_cons (show ((0 : Int) ≤ 0 ∧ 0 ≤ u300.1 ∧ u300.1 ≤ ((u300.2.map cCoef).length : Int)) ∧ UL 2 (u300.2.map cCoef) from ⟨by first | omega | (simp only [List.length_map]; omega), UL.map cCoef_len _⟩) (all_cons (slm_take cCoef u300.2 u300.1.toNat) all_nil)) (by kernel_rfl)
/-- framewise/framewiseref04.limited -/
def ref04_limited (x0 : Linear) : Option (Linear × Int) :=
  (ref04_Valid x0).bind fun y1 =>
  bif y1 then (
    some (x0, 0)
  ) else (
    some ((Linear.mk 0 []), 3)
  )
theorem ref04_limited_c (x0 : Linear) (r : (Linear × Int)) (H : ref04_limited x0 = some r) : AFn Tryz.prog 173 [.agg [.int .i64 x0.Const, .dslice (x0.Terms.map cCoef)]] (.tup [.agg [.int .i64 r.1.Const, .dslice (r.1.Terms.map cCoef)], .int .i64 r.2]) := by
  unfold ref04_limited at H
  refine acallX Tryz.func173 9 [.cell 2 53, .tmp 3] (by kernel_rfl) (by kernel_rfl) ?_
  refine bnd H fun y1 h2 H3 => ?_
  refine bsp H3 (fun c4 H5 => ?_) (fun c6 H7 => ?_)
  · refine some_e H5 fun e8 => ?_
    subst e8
    exact p_ret Tryz.mo 11 [.rg 0 [] [.m, .m, .v], .rg 0 [] [.v, .c true (.bool y1), .v], .eqT 6 (.bool false), .rg 0 [] [.v, .m, .v]] [] [] (all_cons Tryz.call92 (all_cons (AFn.is (ref04_Valid_c x0 y1 h2)) (all_cons trivial (all_cons (congrArg (fun x => AV.bool (!x)) c4) all_nil)))) (by kernel_rfl)
  · refine some_e H7 fun e9 => ?_
    subst e9
    exact p_ret Tryz.mo 10 [.rg 0 [] [.m, .m, .v], .rg 0 [] [.v, .c true (.bool y1), .v], .eqT 6 (.bool true), .rg 0 [] [.b, .m, .v]] [.wkH 2 1 []] [] (all_cons Tryz.call92 (all_cons (AFn.is (ref04_Valid_c x0 y1 h2)) (all_cons trivial (all_cons (congrArg (fun x => AV.bool (!x)) c6) all_nil)))) (by kernel_rfl)
/-- framewise/framewiseref04.Parse -/
def ref04_Parse (x0 : Str) : Option (Linear × Int) :=
  (ref04_source_blanks x0 0).bind fun y1 =>
  (ref04_source_is 45 x0 y1).bind fun y4 =>
  ((
    bif y4.1 then (
      some ((-1), y4.2)
    ) else (
      (ref04_source_is 43 x0 y4.2).bind fun y21 =>
      some (1, y21.2)
    )
  ) : Option (Int × Int)).bind fun v13 =>
  (whl (σ := (Int × Int × Int × (List Coef))) (ε := (Linear × Int)) (ρ := (Linear × Int)) (fun s129 =>
    (ref04_source_blanks x0 s129.2.1).bind fun y137 =>
    (ref04_source_item x0 y137).bind fun y140 =>
    bif y140.1.2.2 then (
      ((
        bif (y140.1.2.1 == []) then (
          some (true, (w64 (s129.2.2.1 + (w64 (s129.1 * y140.1.1)))), s129.2.2.2)
        ) else (
          (ref04_Plus (Linear.mk s129.2.2.1 s129.2.2.2) y140.1.2.1 (w64 (s129.1 * y140.1.1))).bind fun y161 =>
          some (false, y161.Const, y161.Terms)
        )
      ) : Option (Bool × Int × (List Coef))).bind fun v153 =>
      (ref04_source_blanks x0 y140.2).bind fun y165 =>
      bif (y165 == ((x0.length : Nat) : Int)) then (
        (ref04_limited (Linear.mk v153.2.1 v153.2.2)).bind fun y172 =>
        some (.ret (y172.1, y172.2))
      ) else (
        (ref04_source_is 45 x0 y165).bind fun y179 =>
        bif y179.1 then (
          some (.go ((-1), y179.2, v153.2.1, v153.2.2))
        ) else (
          (ref04_source_is 43 x0 y179.2).bind fun y187 =>
          bif y187.1 then (
            some (.go (1, y187.2, v153.2.1, v153.2.2))
          ) else (
            some (.ret ((Linear.mk 0 []), 6))
          )
        )
      )
    ) else (
      some (.ret ((Linear.mk 0 []), 6))
    )
  ) 4294967296 (v13.1, v13.2, 0, [])).bind <| aft some
def ref04_Parse_S1 (x0 : Str) (v13 : (Int × Int)) : AS := ⟨69, [(2, .hptr 2 0), (3, .int .i64 0), (4, .hptr 12 0), (5, .hptr 5 0), (6, .int .i64 v13.1)], [(2, .cells 53 [.int .i64 0, .eslice]), (5, .cells 53 [.int .i64 0, .eslice]), (12, .cells 193 [.str x0, .int .i64 v13.2])]⟩
def ref04_Parse_S2 (x0 : Str) (s129 : (Int × Int × Int × (List Coef))) : AS := ⟨69, [(2, .hptr 2 0), (3, .int .i64 0), (4, .hptr 12 0), (5, .hptr 5 0), (6, .int .i64 s129.1)], [(2, .cells 53 [.int .i64 0, .eslice]), (5, .cells 53 [.int .i64 s129.2.2.1, .dslice (s129.2.2.2.map cCoef)]), (12, .cells 193 [.str x0, .int .i64 s129.2.1])]⟩
def ref04_Parse_S3 (x0 : Str) (s129 : (Int × Int × Int × (List Coef))) (y140 : ((Int × Str × Bool) × Int)) (v153 : (Bool × Int × (List Coef))) : AS := ⟨69, [(2, .hptr 2 0), (3, .int .i64 0), (4, .hptr 12 0), (5, .hptr 5 0), (6, .int .i64 s129.1), (7, .int .i64 y140.1.1), (8, .str y140.1.2.1), (9, .bool y140.1.2.2), (28, .bool false), (31, .bool v153.1)], [(2, .cells 53 [.int .i64 0, .eslice]), (5, .cells 53 [.int .i64 v153.2.1, .dslice (v153.2.2.map cCoef)]), (12, .cells 193 [.str x0, .int .i64 y140.2])]⟩
theorem ref04_Parse_c (x0 : Str) (r : (Linear × Int)) (H : ref04_Parse x0 = some r) : AFn Tryz.prog 109 [.str x0] (.tup [.agg [.int .i64 r.1.Const, .dslice (r.1.Terms.map cCoef)], .int .i64 r.2]) := by
  unfold ref04_Parse at H
  refine acallX Tryz.func109 69 [.cell 2 53, .tmp 3] (by kernel_rfl) (by kernel_rfl) ?_
  refine bnd H fun y1 h2 H3 => ?_
  refine bnd H3 fun y4 h5 H6 => ?_
  refine p_at Tryz.mo 13 [.rg 0 [] [.m, .v], .rg 0 [] [.v, .b, .m, .v], .rg 0 [] [.m], .rg 0 [] [.v, .hR [(12, 1000)] 14 (.tup []) [(1000, .cells 193 [.str x0, .int .i64 y1])]], .rg 0 [] [.v], .rg 0 [] [.v, .hR [(12, 1000)] 16 (.bool y4.1) [(1000, .cells 193 [.str x0, .int .i64 y4.2])]]] [.only [2, 3, 4, 5, 6, 16] [2, 5, 12]] 13 [] ⟨69, [(2, .hptr 2 0), (3, .int .i64 0), (4, .hptr 12 0), (5, .hptr 5 0), (6, .int .i64 1), (16, .bool y4.1)], [(2, .cells 53 [.int .i64 0, .eslice]), (5, .cells 53 [.int .i64 0, .eslice]), (12, .cells 193 [.str x0, .int .i64 y4.2])]⟩ (all_cons Tryz.call183 (all_cons (ref04_source_blanks_c x0 0 y1 h2) (all_cons Tryz.call184 (all_cons (ref04_source_is_c 45 x0 y1 y4 h5) all_nil)))) (by kernel_rfl) ?_
  refine bnd H6 fun v13 h14 H15 => ?_
  refine p_join 0 (ref04_Parse_S1 x0 v13) (by kernel_rfl) ?_ ?_
  · refine bsp h14 (fun c16 H17 => ?_) (fun c18 H19 => ?_)
    · refine some_e H17 fun e20 => ?_
      subst e20
      exact p_bar Tryz.mo 3 [.eqT 16 (.bool true), .rg 0 [] [.v]] [.only [2, 3, 4, 5, 6] [2, 5, 12]] (ref04_Parse_S1 x0 ((-1), y4.2)) (all_cons (congrArg (AV.bool) c16) all_nil) (by kernel_rfl)
    · refine bnd H19 fun y21 h22 H23 => ?_
      refine some_e H23 fun e24 => ?_
      subst e24
      exact p_bar Tryz.mo 3 [.eqT 16 (.bool false), .rg 0 [] [.v, .hR [(12, 1000)] 18 (.bool y21.1) [(1000, .cells 193 [.str x0, .int .i64 y21.2])]]] [.only [2, 3, 4, 5, 6] [2, 5, 12]] (ref04_Parse_S1 x0 (1, y21.2)) (all_cons (congrArg (AV.bool) c18) (all_cons Tryz.call184 (all_cons (ref04_source_is_c 43 x0 y4.2 y21 h22) all_nil))) (by kernel_rfl)
  · refine p_at Tryz.mo 1 [] [.wkH 5 1 [], .only [2, 3, 4, 5, 6] [2, 5, 12]] 1 [] (ref04_Parse_S2 x0 (v13.1, v13.2, 0, [])) all_nil (by kernel_rfl) ?_
    refine bnd H15 fun R131 h132 H133 => ?_
    refine p_whl (ref04_Parse_S2 x0) (by kernel_rfl) h132 (fun s129 q134 h135 h136 => ?_)
    · refine bnd h135 fun y137 h138 H139 => ?_
      refine bnd H139 fun y140 h141 H142 => ?_
      refine bsp H142 (fun c143 H144 => ?_) (fun c145 H146 => ?_)
      · refine p_at Tryz.mo 14 [.rg 0 [] [.v, .hR [(12, 1000)] 20 (.tup []) [(1000, .cells 193 [.str x0, .int .i64 y137])]], .rg 0 [] [.v, .hR [(12, 1000)] 23 (.tup [.int .i64 y140.1.1, .str y140.1.2.1, .bool y140.1.2.2]) [(1000, .cells 193 [.str x0, .int .i64 y140.2])], .v, .v, .v, .v, .v, .v, .v], .rg 0 [] [.v, .v], .eqT 28 (.bool false), .rg 0 [] [.v, .v]] [.only [2, 3, 4, 5, 6, 7, 8, 9, 28, 31] [2, 5, 12]] 13 [false] ⟨69, [(2, .hptr 2 0), (3, .int .i64 0), (4, .hptr 12 0), (5, .hptr 5 0), (6, .int .i64 s129.1), (7, .int .i64 y140.1.1), (8, .str y140.1.2.1), (9, .bool y140.1.2.2), (28, .bool false), (31, .bool (y140.1.2.1 == []))], [(2, .cells 53 [.int .i64 0, .eslice]), (5, .cells 53 [.int .i64 s129.2.2.1, .dslice (s129.2.2.2.map cCoef)]), (12, .cells 193 [.str x0, .int .i64 y140.2])]⟩ (all_cons Tryz.call183 (all_cons (ref04_source_blanks_c x0 s129.2.1 y137 h138) (all_cons Tryz.call185 (all_cons (ref04_source_item_c x0 y137 y140 h141) (all_cons trivial (all_cons (congrArg (fun x => AV.bool (!x)) c143) all_nil)))))) (by kernel_rfl) ?_
        refine bnd H144 fun v153 h154 H155 => ?_
        refine p_join 0 (ref04_Parse_S3 x0 s129 y140 v153) (by kernel_rfl) ?_ ?_
        · refine bsp h154 (fun c156 H157 => ?_) (fun c158 H159 => ?_)
          · refine some_e H157 fun e160 => ?_
            subst e160
            exact p_bar Tryz.mo 3 [.eqT 31 (.bool true), .rg 0 [] [.v, .v, .v, .v, .w, .w, .v, .m]] [.only [2, 3, 4, 5, 6, 7, 8, 9, 28, 31] [2, 5, 12]] (ref04_Parse_S3 x0 s129 y140 (true, (w64 (s129.2.2.1 + (w64 (s129.1 * y140.1.1)))), s129.2.2.2)) (all_cons (congrArg (AV.bool) c156) all_nil) (by kernel_rfl)
          · refine bnd H159 fun y161 h162 H163 => ?_
            refine some_e H163 fun e164 => ?_
            subst e164
            exact p_bar Tryz.mo 3 [.eqT 31 (.bool false), .rg 0 [] [.v, .v, .v, .v, .w, .c true (.agg [.int .i64 y161.Const, .dslice (y161.Terms.map cCoef)]), .m]] [.only [2, 3, 4, 5, 6, 7, 8, 9, 28, 31] [2, 5, 12]] (ref04_Parse_S3 x0 s129 y140 (false, y161.Const, y161.Terms)) (all_cons (congrArg (AV.bool) c158) (all_cons Tryz.call186 (all_cons (AFn.is (ref04_Plus_c (Linear.mk s129.2.2.1 s129.2.2.2) y140.1.2.1 (w64 (s129.1 * y140.1.1)) y161 h162)) all_nil))) (by kernel_rfl)
        · refine bnd H155 fun y165 h166 H167 => ?_
          refine bsp H167 (fun c168 H169 => ?_) (fun c170 H171 => ?_)
          · refine bnd H169 fun y172 h173 H174 => ?_
            refine some_e H174 fun e175 => ?_
            subst e175
            have e176 := out_ret h136
            subst e176
            have H177 := aft_ret H133
            refine some_e H177 fun e178 => ?_
            subst e178
            exact p_ret Tryz.mo 10 [.rg 0 [] [.v, .hR [(12, 1000)] 46 (.tup []) [(1000, .cells 193 [.str x0, .int .i64 y165])]], .rg 9 [.v, .v, .v, .v, .v, .v, .v, .v, .v] [.v, .v], .eqT 48 (.bool true), .rg 0 [] [.v, .c true (.tup [.agg [.int .i64 y172.1.Const, .dslice (y172.1.Terms.map cCoef)], .int .i64 y172.2]), .v, .v, .m, .v]] [] [] (all_cons Tryz.call183 (all_cons (ref04_source_blanks_c x0 y140.2 y165 h166) (all_cons trivial (all_cons (congrArg (AV.bool) c168) (all_cons Tryz.call173 (all_cons (AFn.is (ref04_limited_c (Linear.mk v153.2.1 v153.2.2) y172 h173)) all_nil)))))) (by kernel_rfl)
          · refine bnd H171 fun y179 h180 H181 => ?_
            refine bsp H181 (fun c182 H183 => ?_) (fun c184 H185 => ?_)
            · refine some_e H183 fun e186 => ?_
              subst e186
              exact p_bar Tryz.mo 12 [.rg 0 [] [.v, .hR [(12, 1000)] 46 (.tup []) [(1000, .cells 193 [.str x0, .int .i64 y165])]], .rg 9 [.v, .v, .v, .v, .v, .v, .v, .v, .v] [.v, .v], .eqT 48 (.bool false), .rg 0 [] [.v, .hR [(12, 1000)] 65 (.bool y179.1) [(1000, .cells 193 [.str x0, .int .i64 y179.2])], .v], .eqT 63 (.bool true), .rg 0 [] [.v]] [.only [2, 3, 4, 5, 6] [2, 5, 12]] (ref04_Parse_S2 x0 ((-1), y179.2, v153.2.1, v153.2.2)) (all_cons Tryz.call183 (all_cons (ref04_source_blanks_c x0 y140.2 y165 h166) (all_cons trivial (all_cons (congrArg (AV.bool) c170) (all_cons Tryz.call184 (all_cons (ref04_source_is_c 45 x0 y165 y179 h180) (all_cons (congrArg (AV.bool) c182) all_nil))))))) (by kernel_rfl)
            · refine bnd H185 fun y187 h188 H189 => ?_
              refine bsp H189 (fun c190 H191 => ?_) (fun c192 H193 => ?_)
              · refine some_e H191 fun e194 => ?_
                subst e194
                exact p_bar Tryz.mo 16 [.rg 0 [] [.v, .hR [(12, 1000)] 46 (.tup []) [(1000, .cells 193 [.str x0, .int .i64 y165])]], .rg 9 [.v, .v, .v, .v, .v, .v, .v, .v, .v] [.v, .v], .eqT 48 (.bool false), .rg 0 [] [.v, .hR [(12, 1000)] 65 (.bool y179.1) [(1000, .cells 193 [.str x0, .int .i64 y179.2])], .v], .eqT 63 (.bool false), .rg 0 [] [.v, .hR [(12, 1000)] 68 (.bool y187.1) [(1000, .cells 193 [.str x0, .int .i64 y187.2])], .v], .eqT 66 (.bool true), .rg 0 [] [.v]] [.only [2, 3, 4, 5, 6] [2, 5, 12]] (ref04_Parse_S2 x0 (1, y187.2, v153.2.1, v153.2.2)) (all_cons Tryz.call183 (all_cons (ref04_source_blanks_c x0 y140.2 y165 h166) (all_cons trivial (all_cons (congrArg (AV.bool) c170) (all_cons Tryz.call184 (all_cons (ref04_source_is_c 45 x0 y165 y179 h180) (all_cons (congrArg (AV.bool) c184) (all_cons Tryz.call184 (all_cons (ref04_source_is_c 43 x0 y179.2 y187 h188) (all_cons (congrArg (AV.bool) c190) all_nil)))))))))) (by kernel_rfl)
              · refine some_e H193 fun e195 => ?_
                subst e195
                have e196 := out_ret h136
                subst e196
                have H197 := aft_ret H133
                refine some_e H197 fun e198 => ?_
                subst e198
                exact p_ret Tryz.mo 18 [.rg 0 [] [.v, .hR [(12, 1000)] 46 (.tup []) [(1000, .cells 193 [.str x0, .int .i64 y165])]], .rg 9 [.v, .v, .v, .v, .v, .v, .v, .v, .v] [.v, .v], .eqT 48 (.bool false), .rg 0 [] [.v, .hR [(12, 1000)] 65 (.bool y179.1) [(1000, .cells 193 [.str x0, .int .i64 y179.2])], .v], .eqT 63 (.bool false), .rg 0 [] [.v, .hR [(12, 1000)] 68 (.bool y187.1) [(1000, .cells 193 [.str x0, .int .i64 y187.2])], .v], .eqT 66 (.bool false), .rg 0 [] [.b, .m, .v]] [.wkH 2 1 []] [] (all_cons Tryz.call183 (all_cons (ref04_source_blanks_c x0 y140.2 y165 h166) (all_cons trivial (all_cons (congrArg (AV.bool) c170) (all_cons Tryz.call184 (all_cons (ref04_source_is_c 45 x0 y165 y179 h180) (all_cons (congrArg (AV.bool) c184) (all_cons Tryz.call184 (all_cons (ref04_source_is_c 43 x0 y179.2 y187 h188) (all_cons (congrArg (AV.bool) c192) all_nil)))))))))) (by kernel_rfl)
      · refine some_e H146 fun e199 => ?_
        subst e199
        have e200 := out_ret h136
        subst e200
        have H201 := aft_ret H133
        refine some_e H201 fun e202 => ?_
        subst e202
        exact p_ret Tryz.mo 13 [.rg 0 [] [.v, .hR [(12, 1000)] 20 (.tup []) [(1000, .cells 193 [.str x0, .int .i64 y137])]], .rg 0 [] [.v, .hR [(12, 1000)] 23 (.tup [.int .i64 y140.1.1, .str y140.1.2.1, .bool y140.1.2.2]) [(1000, .cells 193 [.str x0, .int .i64 y140.2])], .v, .v, .v, .v, .v, .v, .v], .rg 0 [] [.v, .v], .eqT 28 (.bool true), .rg 0 [] [.b, .m, .v]] [.wkH 2 1 []] [] (all_cons Tryz.call183 (all_cons (ref04_source_blanks_c x0 s129.2.1 y137 h138) (all_cons Tryz.call185 (all_cons (ref04_source_item_c x0 y137 y140 h141) (all_cons trivial (all_cons (congrArg (fun x => AV.bool (!x)) c145) all_nil)))))) (by kernel_rfl)
/-- framewise/framewiseref11.Parse -/
def ref11_Parse (x0 : Str) : Option (Shape × Int) :=
  bif decide (((x0.length : Nat) : Int) < 2) then (
    some ((Shape.mk [] []), 6)
  ) else (
    grd (0 < x0.length) <|
    bif (((x0.getD 0 0).toNat : Int) == 91) then (
      grd (0 ≤ (w64 (((x0.length : Nat) : Int) - 1)) ∧ (w64 (((x0.length : Nat) : Int) - 1)) < (x0.length : Int)) <|
      bif (((x0.getD ((w64 (((x0.length : Nat) : Int) - 1)).toNat) 0).toNat : Int) == 93) then (
        grd (1 ≤ (w64 (((x0.length : Nat) : Int) - 1)) ∧ (w64 (((x0.length : Nat) : Int) - 1)) ≤ (x0.length : Int)) <|
        (whl (σ := (Str × Int × Str × (List Linear))) (ε := (Str × (List Linear))) (ρ := (Shape × Int)) (fun s650 =>
          bif (s650.1 == []) then (
            some (.brk (s650.2.2.1, s650.2.2.2))
          ) else (
            (cnt (σ := Unit) (ε := Nat) (ρ := Empty) (fun i907 s906 =>
              bif (((s650.1.getD i907 0).toNat : Int) == 44) then (
                some (.brk i907)
              ) else (
                some (.go ())
              )
            ) (fun i907 s906 => i907) (s650.1.length - 0) 0 ()).bind <| aftE fun u948 =>
            grd (u948 ≤ s650.1.length) <|
            ((
              bif decide ((((s650.1.drop u948).length : Nat) : Int) > 0) then (
                bif decide ((((s650.1.drop u948).length : Nat) : Int) < 3) then (
                  some (.ret (.ret ((Shape.mk [] []), 6)))
                ) else (
                  grd (1 < (s650.1.drop u948).length) <|
                  bif ((((s650.1.drop u948).getD 1 0).toNat : Int) == 32) then (
                    grd (2 ≤ (s650.1.drop u948).length) <|
                    some (.brk (((s650.1.drop u948).drop 2), true))
                  ) else (
                    some (.ret (.ret ((Shape.mk [] []), 6)))
                  )
                )
              ) else (
                some (.brk ((s650.1.drop u948), false))
              )
            ) : Option (Out (Str × Bool) (Stp (Str × Int × Str × (List Linear)) (Str × (List Linear)) (Shape × Int)))).bind (aft fun u992 =>
              ((
                bif (s650.2.1 == 0) then (
                  bif decide ((((s650.1.take u948).length : Nat) : Int) > 2) then (
                    grd (0 ≤ (w64 ((((s650.1.take u948).length : Nat) : Int) - 2)) ∧ (w64 ((((s650.1.take u948).length : Nat) : Int) - 2)) ≤ ((s650.1.take u948).length : Int)) <|
                    some (((s650.1.take u948).drop ((w64 ((((s650.1.take u948).length : Nat) : Int) - 2)).toNat)) == [46, 46])
                  ) else (
                    some false
                  )
                ) else (
                  some false
                )
              ) : Option Bool).bind fun v1042 =>
              ((
                bif v1042 then (
                  grd (0 ≤ (w64 ((((s650.1.take u948).length : Nat) : Int) - 2)) ∧ (w64 ((((s650.1.take u948).length : Nat) : Int) - 2)) ≤ ((s650.1.take u948).length : Int)) <|
                  some (.brk (true, ((s650.1.take u948).take ((w64 ((((s650.1.take u948).length : Nat) : Int) - 2)).toNat)), s650.2.2.2))
                ) else (
                  (ref04_Parse (s650.1.take u948)).bind fun y1092 =>
                  bif (y1092.2 == 0) then (
                    bif (((s650.2.2.2.length : Nat) : Int) == 6) then (
                      some (.ret (.ret ((Shape.mk [] []), 6)))
                    ) else (
                      grd ((s650.2.2.2.length + 1) * 32 ≤ 140737488355328) <|
                      some (.brk (false, s650.2.2.1, (s650.2.2.2 ++ [y1092.1])))
                    )
                  ) else (
                    some (.ret (.ret ((Shape.mk [] []), 6)))
                  )
                )
              ) : Option (Out (Bool × Str × (List Linear)) (Stp (Str × Int × Str × (List Linear)) (Str × (List Linear)) (Shape × Int)))).bind (aft fun u1082 =>
                some (.go (u992.1, (w64 (s650.2.1 + 1)), u1082.2.1, u1082.2.2))
              )
            )
          )
        ) 4294967296 (((x0.drop 1).take ((w64 (((x0.length : Nat) : Int) - 1)).toNat - 1)), 0, [], [])).bind <| aft fun u1126 =>
        (ref11_Print (Shape.mk u1126.1 u1126.2)).bind fun y1129 =>
        bif (y1129.2 == 0) then (
          bif (y1129.1 == x0) then (
            some ((Shape.mk u1126.1 u1126.2), 0)
          ) else (
            some ((Shape.mk [] []), 6)
          )
        ) else (
          some ((Shape.mk [] []), 6)
        )
      ) else (
        some ((Shape.mk [] []), 6)
      )
    ) else (
      some ((Shape.mk [] []), 6)
    )
  )
def ref11_Parse_S1 (x0 : Str) (s650 : (Str × Int × Str × (List Linear))) : AS := ⟨126, [(0, .str x0), (2, .hptr 2 0), (3, .int .i64 0), (4, .hptr 4 0), (5, .str s650.1), (6, .int .i64 s650.2.1)], [(2, .cells 24 [.str [], .eslice]), (4, .cells 24 [.str s650.2.2.1, .rslice 110]), (110, .row 53 2 (s650.2.2.2.map cLinear))]⟩
def ref11_Parse_S2 (x0 : Str) (u867 : (Str × (List Linear))) : AS := ⟨126, [(0, .str x0), (2, .hptr 2 0), (3, .int .i64 0), (4, .hptr 4 0)], [(2, .cells 24 [.str [], .eslice]), (4, .cells 24 [.str u867.1, .rslice 110]), (110, .row 53 2 (u867.2.map cLinear))]⟩
def ref11_Parse_S3 (x0 : Str) (s650 : (Str × Int × Str × (List Linear))) (i907 : Nat) (s906 : Unit) : AS := ⟨126, [(0, .str x0), (2, .hptr 2 0), (3, .int .i64 0), (4, .hptr 4 0), (5, .str s650.1), (6, .int .i64 s650.2.1), (7, .int .i64 ((i907 : Nat) : Int)), (36, .bool true)], [(2, .cells 24 [.str [], .eslice]), (4, .cells 24 [.str s650.2.2.1, .rslice 110]), (110, .row 53 2 (s650.2.2.2.map cLinear))]⟩
def ref11_Parse_S4 (x0 : Str) (s650 : (Str × Int × Str × (List Linear))) (u927 : Nat) : AS := ⟨126, [(0, .str x0), (2, .hptr 2 0), (3, .int .i64 0), (4, .hptr 4 0), (5, .str s650.1), (6, .int .i64 s650.2.1), (7, .int .i64 ((u927 : Nat) : Int)), (36, .bool true), (48, .bool false)], [(2, .cells 24 [.str [], .eslice]), (4, .cells 24 [.str s650.2.2.1, .rslice 110]), (110, .row 53 2 (s650.2.2.2.map cLinear))]⟩
def ref11_Parse_S5 (x0 : Str) (s650 : (Str × Int × Str × (List Linear))) (u948 : Nat) (u992 : (Str × Bool)) : AS := ⟨126, [(0, .str x0), (2, .hptr 2 0), (3, .int .i64 0), (4, .hptr 4 0), (5, .str u992.1), (6, .int .i64 s650.2.1), (7, .int .i64 ((u948 : Nat) : Int)), (8, .str (s650.1.take u948)), (36, .bool true), (48, .bool false), (59, .bool u992.2)], [(2, .cells 24 [.str [], .eslice]), (4, .cells 24 [.str s650.2.2.1, .rslice 110]), (110, .row 53 2 (s650.2.2.2.map cLinear))]⟩
def ref11_Parse_S6 (x0 : Str) (s650 : (Str × Int × Str × (List Linear))) (u948 : Nat) (u992 : (Str × Bool)) (v1042 : Bool) : AS := ⟨126, [(0, .str x0), (2, .hptr 2 0), (3, .int .i64 0), (4, .hptr 4 0), (5, .str u992.1), (6, .int .i64 s650.2.1), (7, .int .i64 ((u948 : Nat) : Int)), (8, .str (s650.1.take u948)), (36, .bool true), (48, .bool false), (59, .bool u992.2), (85, .bool v1042)], [(2, .cells 24 [.str [], .eslice]), (4, .cells 24 [.str s650.2.2.1, .rslice 110]), (110, .row 53 2 (s650.2.2.2.map cLinear))]⟩
def ref11_Parse_S7 (x0 : Str) (s650 : (Str × Int × Str × (List Linear))) (u948 : Nat) (u992 : (Str × Bool)) (u1082 : (Bool × Str × (List Linear))) : AS := ⟨126, [(0, .str x0), (2, .hptr 2 0), (3, .int .i64 0), (4, .hptr 4 0), (5, .str u992.1), (6, .int .i64 s650.2.1), (7, .int .i64 ((u948 : Nat) : Int)), (8, .str (s650.1.take u948)), (36, .bool true), (48, .bool false), (59, .bool u992.2), (85, .bool u1082.1)], [(2, .cells 24 [.str [], .eslice]), (4, .cells 24 [.str u1082.2.1, .rslice 110]), (110, .row 53 2 (u1082.2.2.map cLinear))]⟩
theorem ref11_Parse_c (x0 : Str) (r : (Shape × Int)) (H : ref11_Parse x0 = some r) : AFn Tryz.prog 44 [.str x0] (.tup [.agg [.str r.1.Row, .dslice (r.1.Dims.map cLinear)], .int .i64 r.2]) := by
  unfold ref11_Parse at H
  refine acallX Tryz.func44 126 [.cell 2 24, .tmp 3] (by kernel_rfl) (by kernel_rfl) ?_
  refine bsp H (fun c13 H14 => ?_) (fun c15 H16 => ?_)
  · have c13p := of_decide_eq_true c13
    refine some_e H14 fun e17 => ?_
    subst e17
    exact p_ret Tryz.mo 9 [.rg 0 [] [.m, .v], .rg 0 [] [.v, .v, .e (.bool true), .v, .s, .s, .s, .v, .v, .s, .s, .s, .s, .s, .s, .v], .rg 0 [] [.b, .m, .v]] [.wkH 2 1 []] [] (all_cons trivial (all_cons (congrArg (AV.bool) c13) all_nil)) (by kernel_rfl)
  · have c15p := of_decide_eq_false c15
    refine grd_e H16 fun g18 H19 => ?_
    refine bsp H19 (fun c26 H27 => ?_) (fun c28 H29 => ?_)
    · refine grd_e H27 fun g30 H31 => ?_
      refine bsp H31 (fun c32 H33 => ?_) (fun c34 H35 => ?_)
      · refine grd_e H33 fun g36 H37 => ?_
        refine p_at Tryz.mo 16 [.rg 0 [] [.m, .v], .rg 0 [] [.v, .v, .e (.bool false), .v, .v, .v, .e (.bool false), .v, .v, .v, .v, .v, .w, .v, .v, .v], .eqT 28 (.bool false), .rg 0 [] [.m], .rg 0 [] [.v, .v, .v, .w, .v, .v], .rg 0 [] [.v]] [.erH 4 1 110 53 2, .only [0, 2, 3, 4, 5, 6] [2, 4, 110]] 15 [false] (ref11_Parse_S1 x0 (((x0.drop 1).take ((w64 (((x0.length : Nat) : Int) - 1)).toNat - 1)), 0, [], [])) (all_cons trivial (all_cons (congrArg (AV.bool) c15) (all_cons (show (0 : Int) ≤ 0 ∧ 0 < (x0.length : Int) from by omega) (all_cons (congrArg (fun x => AV.bool (!x)) c26) (all_cons trivial (all_cons (show (0 : Int) ≤ (w64 (((x0.length : Nat) : Int) - 1)) ∧ (w64 (((x0.length : Nat) : Int) - 1)) < (x0.length : Int) from by exact g30) (all_cons (congrArg (fun x => AV.bool (!x)) c32) (all_cons trivial (all_cons (show (0 : Int) ≤ 1 ∧ 1 ≤ (w64 (((x0.length : Nat) : Int) - 1)) ∧ (w64 (((x0.length : Nat) : Int) - 1)) ≤ (x0.length : Int) from by omega) all_nil))))))))) (by kernel_rfl) ?_
        refine bnd H37 fun R864 h865 H866 => ?_
        refine p_joinO 1 (ref11_Parse_S2 x0) R864 (by kernel_rfl) ?_ (fun u1126 e1127 => ?_)
        · refine p_whl (ref11_Parse_S1 x0) (by kernel_rfl) h865 (fun s650 q868 h869 h870 => ?_)
          · refine bsp h869 (fun c871 H872 => ?_) (fun c873 H874 => ?_)
            · refine some_e H872 fun e875 => ?_
              subst e875
              have e876 := out_brk h870
              subst e876
              exact p_bar Tryz.mo 6 [.rg 0 [] [.v, .v], .eqT 36 (.bool false)] [.only [0, 2, 3, 4] [2, 4, 110]] (ref11_Parse_S2 x0 (s650.2.2.1, s650.2.2.2)) (all_cons (congrArg (fun x => AV.bool (!x)) c871) all_nil) (by kernel_rfl)
            · refine p_at Tryz.mo 12 [.rg 0 [] [.v, .v], .eqT 36 (.bool true), .rg 0 [] [.v]] [.only [0, 2, 3, 4, 5, 6, 7, 36] [2, 4, 110]] 11 [true] (ref11_Parse_S3 x0 s650 0 ()) (all_cons (congrArg (fun x => AV.bool (!x)) c873) all_nil) (by kernel_rfl) ?_
              refine bnd H874 fun R924 h925 H926 => ?_
              refine p_joinO 1 (ref11_Parse_S4 x0 s650) R924 (by kernel_rfl) ?_ (fun u948 e949 => ?_)
              · refine p_cnt (ref11_Parse_S3 x0 s650) (by kernel_rfl) h925 (fun i907 s906 h928 e929 => ?_) (fun i907 s906 h936 q932 h933 h934 => ?_)
                · have c930 : decide (((i907 : Nat) : Int) < ((s650.1.length : Nat) : Int)) = false := decide_eq_false (by omega)
                  subst e929
                  exact p_bar Tryz.mo 5 [.rg 0 [] [.v, .v, .v, .e (.bool false), .v, .s, .s, .s, .s, .v]] [.only [0, 2, 3, 4, 5, 6, 7, 36, 48] [2, 4, 110]] (ref11_Parse_S4 x0 s650 i907) (all_cons trivial (all_cons (congrArg (AV.bool) c930) all_nil)) (by kernel_rfl)
                · have c935 : decide (((i907 : Nat) : Int) < ((s650.1.length : Nat) : Int)) = true := decide_eq_true (by omega)
                  refine bsp h933 (fun c937 H938 => ?_) (fun c939 H940 => ?_)
                  · refine some_e H938 fun e941 => ?_
                    subst e941
                    have e942 := out_brk h934
                    subst e942
                    exact p_bar Tryz.mo 6 [.rg 0 [] [.v, .v, .v, .e (.bool true), .v, .v, .v, .v, .v, .v], .eqT 48 (.bool false)] [.only [0, 2, 3, 4, 5, 6, 7, 36, 48] [2, 4, 110]] (ref11_Parse_S4 x0 s650 i907) (all_cons trivial (all_cons (congrArg (AV.bool) c935) (all_cons (show (0 : Int) ≤ ((i907 : Nat) : Int) ∧ ((i907 : Nat) : Int) < (s650.1.length : Int) from by omega) (all_cons (congrArg (fun x => AV.bool (!x)) c937) all_nil)))) (by kernel_rfl)
                  · refine t_lens 5 (ps := [s650.1.length ≤ 9223372036854775807]) (by kernel_rfl) (fun l945 => ?_)
                    have l946 : s650.1.length ≤ 9223372036854775807 := by simpa only [All, List.length_map] using l945
                    clear l945
                    refine some_e H940 fun e947 => ?_
                    subst e947
                    exact p_bar Tryz.mo 8 [.rg 0 [] [.v, .v, .v, .e (.bool true), .v, .v, .v, .v, .v, .v], .eqT 48 (.bool true), .rg 0 [] [.v, .v, .v]] [.only [0, 2, 3, 4, 5, 6, 7, 36] [2, 4, 110]] (ref11_Parse_S3 x0 s650 (i907 + 1) ()) (all_cons trivial (all_cons (congrArg (AV.bool) c935) (all_cons (show (0 : Int) ≤ ((i907 : Nat) : Int) ∧ ((i907 : Nat) : Int) < (s650.1.length : Int) from by omega) (all_cons (congrArg (fun x => AV.bool (!x)) c939) (all_cons (show I64 (((i907 : Nat) : Int) + 1) from by unfold I64; omega) all_nil))))) (by kernel_rfl)
              · subst e949
                have H950 := aftE_brk H926
                refine grd_e H950 fun g951 H952 => ?_
                refine p_at Tryz.mo 7 [.rg 0 [] [.v, .v, .e (.str (s650.1.take u948)), .v], .rg 0 [] [.v, .v, .e (.str (s650.1.drop u948)), .v], .rg 0 [] [.v, .v, .v]] [.only [0, 2, 3, 4, 5, 6, 7, 8, 36, 48, 59] [2, 4, 110]] 7 [] ⟨126, [(0, .str x0), (2, .hptr 2 0), (3, .int .i64 0), (4, .hptr 4 0), (5, .str (s650.1.drop u948)), (6, .int .i64 s650.2.1), (7, .int .i64 ((u948 : Nat) : Int)), (8, .str (s650.1.take u948)), (36, .bool true), (48, .bool false), (59, .bool (decide ((((s650.1.drop u948).length : Nat) : Int) > 0)))], [(2, .cells 24 [.str [], .eslice]), (4, .cells 24 [.str s650.2.2.1, .rslice 110]), (110, .row 53 2 (s650.2.2.2.map cLinear))]⟩ (all_cons (show (0 : Int) ≤ 0 ∧ 0 ≤ ((u948 : Nat) : Int) ∧ ((u948 : Nat) : Int) ≤ (s650.1.length : Int) from by omega) (all_cons (sl_take s650.1 u948) (all_cons (show (0 : Int) ≤ ((u948 : Nat) : Int) ∧ ((u948 : Nat) : Int) ≤ (s650.1.length : Int) ∧ (s650.1.length : Int) ≤ (s650.1.length : Int) from by omega) (all_cons (sl_drop s650.1 u948) (all_cons trivial all_nil))))) (by kernel_rfl) ?_
                refine bnd H952 fun v989 h990 H991 => ?_
                refine p_joinO 0 (ref11_Parse_S5 x0 s650 u948) v989 (by kernel_rfl) ?_ (fun u992 e1125 => ?_)
                · refine bsp h990 (fun c993 H994 => ?_) (fun c995 H996 => ?_)
                  · have c993p := of_decide_eq_true c993
                    refine bsp H994 (fun c1003 H1004 => ?_) (fun c1005 H1006 => ?_)
                    · have c1003p := of_decide_eq_true c1003
                      refine some_e H1004 fun e1007 => ?_
                      subst e1007
                      have H1008 := aft_ret H991
                      refine some_e H1008 fun e1009 => ?_
                      subst e1009
                      have e1010 := out_ret h870
                      subst e1010
                      have H1011 := aft_ret H866
                      refine some_e H1011 fun e1012 => ?_
                      subst e1012
                      exact p_ret Tryz.mo 9 [.eqT 59 (.bool true), .rg 0 [] [.v, .v, .e (.bool true), .v, .s, .s, .s, .v], .rg 0 [] [.b, .m, .v]] [.wkH 2 1 []] [] (all_cons (congrArg (AV.bool) c993) (all_cons trivial (all_cons (congrArg (AV.bool) c1003) all_nil))) (by kernel_rfl)
                    · have c1005p := of_decide_eq_false c1005
                      refine grd_e H1006 fun g1013 H1014 => ?_
                      refine bsp H1014 (fun c1015 H1016 => ?_) (fun c1017 H1018 => ?_)
                      · refine grd_e H1016 fun g1019 H1020 => ?_
                        refine some_e H1020 fun e1021 => ?_
                        subst e1021
                        exact p_bar Tryz.mo 9 [.eqT 59 (.bool true), .rg 0 [] [.v, .v, .e (.bool false), .v, .v, .v, .v, .v], .eqT 67 (.bool false), .rg 0 [] [.v, .e (.str ((s650.1.drop u948).drop 2)), .v]] [.only [0, 2, 3, 4, 5, 6, 7, 8, 36, 48, 59] [2, 4, 110]] (ref11_Parse_S5 x0 s650 u948 (((s650.1.drop u948).drop 2), true)) (all_cons (congrArg (AV.bool) c993) (all_cons trivial (all_cons (congrArg (AV.bool) c1005) (all_cons (show (0 : Int) ≤ 1 ∧ 1 < ((s650.1.drop u948).length : Int) from by omega) (all_cons (congrArg (fun x => AV.bool (!x)) c1015) (all_cons (show (0 : Int) ≤ 2 ∧ 2 ≤ ((s650.1.drop u948).length : Int) ∧ ((s650.1.drop u948).length : Int) ≤ ((s650.1.drop u948).length : Int) from by omega) (all_cons (sl_drop (s650.1.drop u948) 2) all_nil))))))) (by kernel_rfl)
                      · refine some_e H1018 fun e1022 => ?_
                        subst e1022
                        have H1023 := aft_ret H991
                        refine some_e H1023 fun e1024 => ?_
                        subst e1024
                        have e1025 := out_ret h870
                        subst e1025
                        have H1026 := aft_ret H866
                        refine some_e H1026 fun e1027 => ?_
                        subst e1027
                        exact p_ret Tryz.mo 10 [.eqT 59 (.bool true), .rg 0 [] [.v, .v, .e (.bool false), .v, .v, .v, .v, .v], .eqT 67 (.bool true), .rg 0 [] [.b, .m, .v]] [.wkH 2 1 []] [] (all_cons (congrArg (AV.bool) c993) (all_cons trivial (all_cons (congrArg (AV.bool) c1005) (all_cons (show (0 : Int) ≤ 1 ∧ 1 < ((s650.1.drop u948).length : Int) from by omega) (all_cons (congrArg (fun x => AV.bool (!x)) c1017) all_nil))))) (by kernel_rfl)
                  · have c995p := of_decide_eq_false c995
                    refine some_e H996 fun e1028 => ?_
                    subst e1028
                    exact p_bar Tryz.mo 3 [.eqT 59 (.bool false)] [.only [0, 2, 3, 4, 5, 6, 7, 8, 36, 48, 59] [2, 4, 110]] (ref11_Parse_S5 x0 s650 u948 ((s650.1.drop u948), false)) (all_cons (congrArg (AV.bool) c995) all_nil) (by kernel_rfl)
                · subst e1125
                  have H1029 := aft_brk H991
                  refine p_at Tryz.mo 2 [] [.only [0, 2, 3, 4, 5, 6, 7, 8, 36, 48, 59] [2, 4, 110]] 2 [] ⟨126, [(0, .str x0), (2, .hptr 2 0), (3, .int .i64 0), (4, .hptr 4 0), (5, .str u992.1), (6, .int .i64 s650.2.1), (7, .int .i64 ((u948 : Nat) : Int)), (8, .str (s650.1.take u948)), (36, .bool true), (48, .bool false), (59, .bool u992.2)], [(2, .cells 24 [.str [], .eslice]), (4, .cells 24 [.str s650.2.2.1, .rslice 110]), (110, .row 53 2 (s650.2.2.2.map cLinear))]⟩ all_nil (by kernel_rfl) ?_
                  refine bnd H1029 fun v1042 h1043 H1044 => ?_
                  refine p_join 0 (ref11_Parse_S6 x0 s650 u948 u992 v1042) (by kernel_rfl) ?_ ?_
                  · refine bsp h1043 (fun c1045 H1046 => ?_) (fun c1047 H1048 => ?_)
                    · refine bsp H1046 (fun c1049 H1050 => ?_) (fun c1051 H1052 => ?_)
                      · have c1049p := of_decide_eq_true c1049
                        refine grd_e H1050 fun g1053 H1054 => ?_
                        refine some_e H1054 fun e1055 => ?_
                        subst e1055
                        exact p_bar Tryz.mo 1 [.rg 0 [] [.v, .e (.bool true), .v, .v, .v, .e (.bool true), .v, .v, .v, .v, .v, .w, .e (.str ((s650.1.take u948).drop ((w64 ((((s650.1.take u948).length : Nat) : Int) - 2)).toNat))), .v, .v]] [.only [0, 2, 3, 4, 5, 6, 7, 8, 36, 48, 59, 85] [2, 4, 110]] (ref11_Parse_S6 x0 s650 u948 u992 (((s650.1.take u948).drop ((w64 ((((s650.1.take u948).length : Nat) : Int) - 2)).toNat)) == [46, 46])) (all_cons (congrArg (AV.bool) c1045) (all_cons trivial (all_cons (congrArg (AV.bool) c1049) (all_cons trivial (all_cons (show (0 : Int) ≤ (w64 ((((s650.1.take u948).length : Nat) : Int) - 2)) ∧ (w64 ((((s650.1.take u948).length : Nat) : Int) - 2)) ≤ ((s650.1.take u948).length : Int) ∧ ((s650.1.take u948).length : Int) ≤ ((s650.1.take u948).length : Int) from by omega) (all_cons (sl_drop (s650.1.take u948) ((w64 ((((s650.1.take u948).length : Nat) : Int) - 2)).toNat)) all_nil)))))) (by kernel_rfl)
                      · have c1051p := of_decide_eq_false c1051
                        refine some_e H1052 fun e1056 => ?_
                        subst e1056
                        exact p_bar Tryz.mo 1 [.rg 0 [] [.v, .e (.bool true), .v, .v, .v, .e (.bool false), .v, .v, .s, .s, .s, .s, .s, .s, .v]] [.only [0, 2, 3, 4, 5, 6, 7, 8, 36, 48, 59, 85] [2, 4, 110]] (ref11_Parse_S6 x0 s650 u948 u992 false) (all_cons (congrArg (AV.bool) c1045) (all_cons trivial (all_cons (congrArg (AV.bool) c1051) all_nil))) (by kernel_rfl)
                    · refine some_e H1048 fun e1057 => ?_
                      subst e1057
                      exact p_bar Tryz.mo 1 [.rg 0 [] [.v, .e (.bool false), .v, .s, .s, .s, .v, .v, .s, .s, .s, .s, .s, .s, .v]] [.only [0, 2, 3, 4, 5, 6, 7, 8, 36, 48, 59, 85] [2, 4, 110]] (ref11_Parse_S6 x0 s650 u948 u992 false) (all_cons (congrArg (AV.bool) c1047) all_nil) (by kernel_rfl)
                  · refine bnd H1044 fun v1079 h1080 H1081 => ?_
                    refine p_joinO 2 (ref11_Parse_S7 x0 s650 u948 u992) v1079 (by kernel_rfl) ?_ (fun u1082 e1124 => ?_)
                    · refine bsp h1080 (fun c1085 H1086 => ?_) (fun c1087 H1088 => ?_)
                      · refine grd_e H1086 fun g1089 H1090 => ?_
                        refine some_e H1090 fun e1091 => ?_
                        subst e1091
                        exact p_bar Tryz.mo 5 [.eqT 85 (.bool true), .rg 0 [] [.v, .v, .v, .w, .e (.str ((s650.1.take u948).take ((w64 ((((s650.1.take u948).length : Nat) : Int) - 2)).toNat))), .v, .m]] [.only [0, 2, 3, 4, 5, 6, 7, 8, 36, 48, 59, 85] [2, 4, 110]] (ref11_Parse_S7 x0 s650 u948 u992 (true, ((s650.1.take u948).take ((w64 ((((s650.1.take u948).length : Nat) : Int) - 2)).toNat)), s650.2.2.2)) (all_cons (congrArg (AV.bool) c1085) (all_cons trivial (all_cons (show (0 : Int) ≤ 0 ∧ 0 ≤ (w64 ((((s650.1.take u948).length : Nat) : Int) - 2)) ∧ (w64 ((((s650.1.take u948).length : Nat) : Int) - 2)) ≤ ((s650.1.take u948).length : Int) from by omega) (all_cons (sl_take (s650.1.take u948) ((w64 ((((s650.1.take u948).length : Nat) : Int) - 2)).toNat)) all_nil)))) (by kernel_rfl)
                      · refine bnd H1088 fun y1092 h1093 H1094 => ?_
                        refine bsp H1094 (fun c1099 H1100 => ?_) (fun c1101 H1102 => ?_)
                        · refine bsp H1100 (fun c1103 H1104 => ?_) (fun c1105 H1106 => ?_)
                          · refine some_e H1104 fun e1107 => ?_
                            subst e1107
                            have H1108 := aft_ret H1081
                            refine some_e H1108 fun e1109 => ?_
                            subst e1109
                            have e1110 := out_ret h870
                            subst e1110
                            have H1111 := aft_ret H866
                            refine some_e H1111 fun e1112 => ?_
                            subst e1112
                            exact p_ret Tryz.mo 13 [.eqT 85 (.bool false), .rg 0 [] [.v, .c true (.tup [.agg [.int .i64 y1092.1.Const, .dslice (y1092.1.Terms.map cCoef)], .int .i64 y1092.2]), .v, .v, .v, .m, .m, .v], .rg 0 [] [.v, .e (.bool false), .v, .v, .v, .e (.int .i64 ((s650.2.2.2.length : Nat) : Int)), .v, .v], .eqT 104 (.bool true), .rg 0 [] [.b, .m, .v]] [.wkH 2 1 []] [] (all_cons (congrArg (AV.bool) c1087) (all_cons Tryz.call109 (all_cons (AFn.is (ref04_Parse_c (s650.1.take u948) y1092 h1093)) (all_cons (congrArg (fun x => AV.bool (!x)) c1099) (all_cons trivial (all_cons (lenm cLinear s650.2.2.2) (all_cons (congrArg (AV.bool) c1103) all_nil))))))) (by kernel_rfl)
                          · refine grd_e H1106 fun g1113 H1114 => ?_
                            refine some_e H1114 fun e1115 => ?_
                            subst e1115
                            exact p_bar Tryz.mo 12 [.eqT 85 (.bool false), .rg 0 [] [.v, .c true (.tup [.agg [.int .i64 y1092.1.Const, .dslice (y1092.1.Terms.map cCoef)], .int .i64 y1092.2]), .v, .v, .v, .m, .m, .v], .rg 0 [] [.v, .e (.bool false), .v, .v, .v, .e (.int .i64 ((s650.2.2.2.length : Nat) : Int)), .v, .v], .eqT 104 (.bool false), .rg 0 [] [.v, .v, .v, .b, .ap, .rwH 110 (.row 53 2 ((s650.2.2.2 ++ [y1092.1]).map cLinear)), .v, .m]] [.only [0, 2, 3, 4, 5, 6, 7, 8, 36, 48, 59, 85] [2, 4, 110]] (ref11_Parse_S7 x0 s650 u948 u992 (false, s650.2.2.1, (s650.2.2.2 ++ [y1092.1]))) (all_cons (congrArg (AV.bool) c1087) (all_cons Tryz.call109 (all_cons (AFn.is (ref04_Parse_c (s650.1.take u948) y1092 h1093)) (all_cons (congrArg (fun x => AV.bool (!x)) c1099) (all_cons trivial (all_cons (lenm cLinear s650.2.2.2) (all_cons (congrArg (AV.bool) c1105) (all_app (apR (c := cLinear) cLinear_ok s650.2.2.2 [y1092.1] 32 (by decide) (by simpa using g1113)) (all_cons (apQ 53 2 cLinear s650.2.2.2 [y1092.1]) all_nil))))))))) (by kernel_rfl)
                        · refine some_e H1102 fun e1116 => ?_
                          subst e1116
                          have H1117 := aft_ret H1081
                          refine some_e H1117 fun e1118 => ?_
                          subst e1118
                          have e1119 := out_ret h870
                          subst e1119
                          have H1120 := aft_ret H866
                          refine some_e H1120 fun e1121 => ?_
                          subst e1121
                          exact p_ret Tryz.mo 12 [.eqT 85 (.bool false), .rg 0 [] [.v, .c true (.tup [.agg [.int .i64 y1092.1.Const, .dslice (y1092.1.Terms.map cCoef)], .int .i64 y1092.2]), .v, .v, .v, .m, .m, .v], .rg 0 [] [.v, .e (.bool true), .v, .s, .s, .s, .s, .v], .rg 0 [] [.b, .m, .v]] [.wkH 2 1 []] [] (all_cons (congrArg (AV.bool) c1087) (all_cons Tryz.call109 (all_cons (AFn.is (ref04_Parse_c (s650.1.take u948) y1092 h1093)) (all_cons (congrArg (fun x => AV.bool (!x)) c1101) all_nil)))) (by kernel_rfl)
                    · subst e1124
                      have H1122 := aft_brk H1081
                      refine some_e H1122 fun e1123 => ?_
                      subst e1123
                      exact p_bar Tryz.mo 1 [.rg 0 [] [.v, .w, .v]] [.only [0, 2, 3, 4, 5, 6] [2, 4, 110]] (ref11_Parse_S1 x0 (u992.1, (w64 (s650.2.1 + 1)), u1082.2.1, u1082.2.2)) all_nil (by kernel_rfl)
        · subst e1127
          have H1128 := aft_brk H866
          refine bnd H1128 fun y1129 h1130 H1131 => ?_
          refine bsp H1131 (fun c1136 H1137 => ?_) (fun c1138 H1139 => ?_)
          · refine bsp H1137 (fun c1140 H1141 => ?_) (fun c1142 H1143 => ?_)
            · refine some_e H1141 fun e1144 => ?_
              subst e1144
              exact p_ret Tryz.mo 11 [.rg 0 [] [.v, .c false (.tup [.str y1129.1, .int .i64 y1129.2]), .v, .v, .v, .v, .v], .rg 0 [] [.v, .e (.bool false), .v, .v, .v, .v, .v], .eqT 123 (.bool false), .rg 0 [] [.v, .m, .v]] [.fz 110] [] (all_cons Tryz.call42 (all_cons (AFn.is (ref11_Print_c (Shape.mk u1126.1 u1126.2) y1129 h1130)) (all_cons (congrArg (fun x => AV.bool (!x)) c1136) (all_cons (congrArg (fun x => AV.bool (!x)) c1140) all_nil)))) (by kernel_rfl)
            · refine some_e H1143 fun e1145 => ?_
              subst e1145
              exact p_ret Tryz.mo 10 [.rg 0 [] [.v, .c false (.tup [.str y1129.1, .int .i64 y1129.2]), .v, .v, .v, .v, .v], .rg 0 [] [.v, .e (.bool false), .v, .v, .v, .v, .v], .eqT 123 (.bool true), .rg 0 [] [.b, .m, .v]] [.wkH 2 1 []] [] (all_cons Tryz.call42 (all_cons (AFn.is (ref11_Print_c (Shape.mk u1126.1 u1126.2) y1129 h1130)) (all_cons (congrArg (fun x => AV.bool (!x)) c1136) (all_cons (congrArg (fun x => AV.bool (!x)) c1142) all_nil)))) (by kernel_rfl)
          · refine some_e H1139 fun e1146 => ?_
            subst e1146
            exact p_ret Tryz.mo 9 [.rg 0 [] [.v, .c false (.tup [.str y1129.1, .int .i64 y1129.2]), .v, .v, .v, .v, .v], .rg 0 [] [.v, .e (.bool true), .v, .s, .s, .s, .v], .rg 0 [] [.b, .m, .v]] [.wkH 2 1 []] [] (all_cons Tryz.call42 (all_cons (AFn.is (ref11_Print_c (Shape.mk u1126.1 u1126.2) y1129 h1130)) (all_cons (congrArg (fun x => AV.bool (!x)) c1138) all_nil))) (by kernel_rfl)
      · refine some_e H35 fun e1147 => ?_
        subst e1147
        exact p_ret Tryz.mo 10 [.rg 0 [] [.m, .v], .rg 0 [] [.v, .v, .e (.bool false), .v, .v, .v, .e (.bool false), .v, .v, .v, .v, .v, .w, .v, .v, .v], .eqT 28 (.bool true), .rg 0 [] [.b, .m, .v]] [.wkH 2 1 []] [] (all_cons trivial (all_cons (congrArg (AV.bool) c15) (all_cons (show (0 : Int) ≤ 0 ∧ 0 < (x0.length : Int) from by omega) (all_cons (congrArg (fun x => AV.bool (!x)) c26) (all_cons trivial (all_cons (show (0 : Int) ≤ (w64 (((x0.length : Nat) : Int) - 1)) ∧ (w64 (((x0.length : Nat) : Int) - 1)) < (x0.length : Int) from by exact g30) (all_cons (congrArg (fun x => AV.bool (!x)) c34) all_nil))))))) (by kernel_rfl)
    · refine some_e H29 fun e1148 => ?_
      subst e1148
      exact p_ret Tryz.mo 9 [.rg 0 [] [.m, .v], .rg 0 [] [.v, .v, .e (.bool false), .v, .v, .v, .e (.bool true), .v, .v, .s, .s, .s, .s, .s, .s, .v], .rg 0 [] [.b, .m, .v]] [.wkH 2 1 []] [] (all_cons trivial (all_cons (congrArg (AV.bool) c15) (all_cons (show (0 : Int) ≤ 0 ∧ 0 < (x0.length : Int) from by omega) (all_cons (congrArg (fun x => AV.bool (!x)) c28) all_nil)))) (by kernel_rfl)
/-- framewise/framewiseref04.Compare -/
def ref04_Compare (x0 : Linear) (x1 : Linear) : Option Int :=
  (cnt (σ := Unit) (ε := Unit) (ρ := Int) (fun i147 s146 =>
    bif decide (((i147 : Nat) : Int) < ((x1.Terms.length : Nat) : Int)) then (
      ((
        bif (Op.bytesLess ((x0.Terms.getD i147 ⟨[], 0⟩).Var) ((x1.Terms.getD i147 ⟨[], 0⟩).Var)) then (
          some (.ret (.ret (-1)))
        ) else (
          bif (((x0.Terms.getD i147 ⟨[], 0⟩).Var) == ((x1.Terms.getD i147 ⟨[], 0⟩).Var)) then (
            bif decide (((x0.Terms.getD i147 ⟨[], 0⟩).C) < ((x1.Terms.getD i147 ⟨[], 0⟩).C)) then (
              some (.ret (.ret (-1)))
            ) else (
              bif ((((x0.Terms.getD i147 ⟨[], 0⟩).Var) == ((x1.Terms.getD i147 ⟨[], 0⟩).Var)) && ((((x0.Terms.getD i147 ⟨[], 0⟩).C) == ((x1.Terms.getD i147 ⟨[], 0⟩).C)) && true)) then (
                some (.brk ())
              ) else (
                some (.ret (.ret 1))
              )
            )
          ) else (
            bif ((((x0.Terms.getD i147 ⟨[], 0⟩).Var) == ((x1.Terms.getD i147 ⟨[], 0⟩).Var)) && ((((x0.Terms.getD i147 ⟨[], 0⟩).C) == ((x1.Terms.getD i147 ⟨[], 0⟩).C)) && true)) then (
              some (.brk ())
            ) else (
              some (.ret (.ret 1))
            )
          )
        )
      ) : Option (Out Unit (Stp Unit Unit Int))).bind (aft fun u274 =>
        some (.go ())
      )
    ) else (
      some (.brk ())
    )
  ) (fun i147 s146 => ()) (x0.Terms.length - 0) 0 ()).bind <| aft fun u330 =>
  bif decide (((x0.Terms.length : Nat) : Int) < ((x1.Terms.length : Nat) : Int)) then (
    some (-1)
  ) else (
    bif (((x0.Terms.length : Nat) : Int) == ((x1.Terms.length : Nat) : Int)) then (
      bif decide (x0.Const < x1.Const) then (
        some (-1)
      ) else (
        bif decide (((x0.Terms.length : Nat) : Int) > ((x1.Terms.length : Nat) : Int)) then (
          some 1
        ) else (
          bif decide (x0.Const > x1.Const) then (
            some 1
          ) else (
            some 0
          )
        )
      )
    ) else (
      bif decide (((x0.Terms.length : Nat) : Int) > ((x1.Terms.length : Nat) : Int)) then (
        some 1
      ) else (
        bif decide (x0.Const > x1.Const) then (
          some 1
        ) else (
          some 0
        )
      )
    )
  )
def ref04_Compare_S1 (x0 : Linear) (x1 : Linear) (i147 : Nat) (s146 : Unit) : AS := ⟨95, [(2, .hptr 2 0), (3, .hptr 3 0), (4, .int .i64 0), (5, .int .i64 ((i147 : Nat) : Int))], [(2, .cells 53 [.int .i64 x0.Const, .dslice (x0.Terms.map cCoef)]), (3, .cells 53 [.int .i64 x1.Const, .dslice (x1.Terms.map cCoef)])]⟩
def ref04_Compare_S2 (x0 : Linear) (x1 : Linear) (u225 : Unit) : AS := ⟨95, [(2, .hptr 2 0), (3, .hptr 3 0), (4, .int .i64 0)], [(2, .cells 53 [.int .i64 x0.Const, .dslice (x0.Terms.map cCoef)]), (3, .cells 53 [.int .i64 x1.Const, .dslice (x1.Terms.map cCoef)])]⟩
def ref04_Compare_S3 (x0 : Linear) (x1 : Linear) (i147 : Nat) (u274 : Unit) : AS := ⟨95, [(2, .hptr 2 0), (3, .hptr 3 0), (4, .int .i64 0), (5, .int .i64 ((i147 : Nat) : Int)), (6, .hptr 6 0), (7, .hptr 7 0), (19, .bool true), (32, .bool false), (52, .bool false)], [(2, .cells 53 [.int .i64 x0.Const, .dslice (x0.Terms.map cCoef)]), (3, .cells 53 [.int .i64 x1.Const, .dslice (x1.Terms.map cCoef)]), (6, .cells 58 [.str ((x0.Terms.getD i147 ⟨[], 0⟩).Var), .int .i64 ((x0.Terms.getD i147 ⟨[], 0⟩).C)]), (7, .cells 58 [.str ((x1.Terms.getD i147 ⟨[], 0⟩).Var), .int .i64 ((x1.Terms.getD i147 ⟨[], 0⟩).C)])]⟩
theorem ref04_Compare_c (x0 : Linear) (x1 : Linear) (r : Int) (H : ref04_Compare x0 x1 = some r) : AFn Tryz.prog 147 [.agg [.int .i64 x0.Const, .dslice (x0.Terms.map cCoef)], .agg [.int .i64 x1.Const, .dslice (x1.Terms.map cCoef)]] (.int .i64 r) := by
  unfold ref04_Compare at H
  refine acallX Tryz.func147 95 [.tmp 4] (by kernel_rfl) (by kernel_rfl) ?_
  refine p_at Tryz.mo 6 [.rg 0 [] [.m, .m, .v], .rg 0 [] [.v]] [.only [2, 3, 4, 5] [2, 3]] 6 [] (ref04_Compare_S1 x0 x1 0 ()) all_nil (by kernel_rfl) ?_
  refine bnd H fun R222 h223 H224 => ?_
  refine p_joinO 1 (ref04_Compare_S2 x0 x1) R222 (by kernel_rfl) ?_ (fun u330 e331 => ?_)
  · refine p_cnt (ref04_Compare_S1 x0 x1) (by kernel_rfl) h223 (fun i147 s146 h226 e227 => ?_) (fun i147 s146 h234 q230 h231 h232 => ?_)
    · have c228 : decide (((i147 : Nat) : Int) < ((x0.Terms.length : Nat) : Int)) = false := decide_eq_false (by omega)
      subst e227
      exact p_bar Tryz.mo 5 [.rg 0 [] [.v, .v, .v, .e (.int .i64 ((x0.Terms.length : Nat) : Int)), .e (.bool false), .v, .s, .s, .s, .s, .s, .v]] [.only [2, 3, 4] [2, 3]] (ref04_Compare_S2 x0 x1 ()) (all_cons trivial (all_cons (lenm cCoef x0.Terms) (all_cons (congrArg (AV.bool) c228) all_nil))) (by kernel_rfl)
    · have c233 : decide (((i147 : Nat) : Int) < ((x0.Terms.length : Nat) : Int)) = true := decide_eq_true (by omega)
      refine bsp h231 (fun c235 H236 => ?_) (fun c237 H238 => ?_)
      · have c235p := of_decide_eq_true c235
        refine p_at Tryz.mo 12 [.rg 0 [] [.v, .v, .v, .e (.int .i64 ((x0.Terms.length : Nat) : Int)), .e (.bool true), .v, .v, .v, .v, .e (.int .i64 ((x1.Terms.length : Nat) : Int)), .v, .v], .eqT 19 (.bool true), .rg 13 [.v, .v, .v, .e (.dptr [.str ((x0.Terms.getD i147 ⟨[], 0⟩).Var), .int .i64 ((x0.Terms.getD i147 ⟨[], 0⟩).C)]), .v, .v, .v, .v, .e (.dptr [.str ((x1.Terms.getD i147 ⟨[], 0⟩).Var), .int .i64 ((x1.Terms.getD i147 ⟨[], 0⟩).C)]), .v, .m, .m, .m] [.m]] [.only [2, 3, 4, 5, 6, 7, 19] [2, 3, 6, 7]] 11 [true] ⟨95, [(2, .hptr 2 0), (3, .hptr 3 0), (4, .int .i64 0), (5, .int .i64 ((i147 : Nat) : Int)), (6, .hptr 6 0), (7, .hptr 7 0), (19, .bool true)], [(2, .cells 53 [.int .i64 x0.Const, .dslice (x0.Terms.map cCoef)]), (3, .cells 53 [.int .i64 x1.Const, .dslice (x1.Terms.map cCoef)]), (6, .cells 58 [.str ((x0.Terms.getD i147 ⟨[], 0⟩).Var), .int .i64 ((x0.Terms.getD i147 ⟨[], 0⟩).C)]), (7, .cells 58 [.str ((x1.Terms.getD i147 ⟨[], 0⟩).Var), .int .i64 ((x1.Terms.getD i147 ⟨[], 0⟩).C)])]⟩ (all_cons trivial (all_cons (lenm cCoef x0.Terms) (all_cons (congrArg (AV.bool) c233) (all_cons trivial (all_cons (lenm cCoef x1.Terms) (all_cons (congrArg (AV.bool) c235) (all_app (ix (f := cCoef) (l := x0.Terms) (n := i147) ⟨[], 0⟩ cCoef_len (by decide) (by omega)) (all_app (ix (f := cCoef) (l := x1.Terms) (n := i147) ⟨[], 0⟩ cCoef_len (by decide) (by omega)) all_nil)))))))) (by kernel_rfl) ?_
        refine bnd H236 fun v271 h272 H273 => ?_
        refine p_joinO 3 (ref04_Compare_S3 x0 x1 i147) v271 (by kernel_rfl) ?_ (fun u274 e327 => ?_)
        · refine bsp h272 (fun c275 H276 => ?_) (fun c277 H278 => ?_)
          · refine some_e H276 fun e279 => ?_
            subst e279
            have H280 := aft_ret H273
            refine some_e H280 fun e281 => ?_
            subst e281
            have e282 := out_ret h232
            subst e282
            have H283 := aft_ret H224
            refine some_e H283 fun e284 => ?_
            subst e284
            exact p_ret Tryz.mo 5 [.rg 0 [] [.v, .v, .v, .v, .e (.bool true), .v, .s, .s, .s, .s, .s, .s, .s, .s, .s, .s, .s, .s, .v, .v], .rg 0 [] [.v]] [] [] (all_cons (congrArg (AV.bool) c275) all_nil) (by kernel_rfl)
          · refine bsp H278 (fun c285 H286 => ?_) (fun c287 H288 => ?_)
            · refine bsp H286 (fun c289 H290 => ?_) (fun c291 H292 => ?_)
              · have c289p := of_decide_eq_true c289
                refine some_e H290 fun e293 => ?_
                subst e293
                have H294 := aft_ret H273
                refine some_e H294 fun e295 => ?_
                subst e295
                have e296 := out_ret h232
                subst e296
                have H297 := aft_ret H224
                refine some_e H297 fun e298 => ?_
                subst e298
                exact p_ret Tryz.mo 6 [.rg 0 [] [.v, .v, .v, .v, .e (.bool false), .v, .v, .v, .v, .v, .e (.bool true), .v, .v, .v, .v, .v, .v, .v, .v, .v], .eqT 32 (.bool true), .rg 0 [] [.v]] [] [] (all_cons (congrArg (AV.bool) c277) (all_cons (congrArg (AV.bool) c285) (all_cons (congrArg (AV.bool) c289) all_nil))) (by kernel_rfl)
              · have c291p := of_decide_eq_false c291
                refine bsp H292 (fun c299 H300 => ?_) (fun c301 H302 => ?_)
                · refine some_e H300 fun e303 => ?_
                  subst e303
                  exact p_bar Tryz.mo 8 [.rg 0 [] [.v, .v, .v, .v, .e (.bool false), .v, .v, .v, .v, .v, .e (.bool true), .v, .v, .v, .v, .v, .v, .v, .v, .v], .eqT 32 (.bool false), .rg 0 [] [.v, .v, .w, .v], .eqT 52 (.bool false)] [.only [2, 3, 4, 5, 6, 7, 19, 32, 52] [2, 3, 6, 7]] (ref04_Compare_S3 x0 x1 i147 ()) (all_cons (congrArg (AV.bool) c277) (all_cons (congrArg (AV.bool) c285) (all_cons (congrArg (AV.bool) c291) (all_cons (congrArg (fun x => AV.bool (!x)) c299) all_nil)))) (by kernel_rfl)
                · refine some_e H302 fun e304 => ?_
                  subst e304
                  have H305 := aft_ret H273
                  refine some_e H305 fun e306 => ?_
                  subst e306
                  have e307 := out_ret h232
                  subst e307
                  have H308 := aft_ret H224
                  refine some_e H308 fun e309 => ?_
                  subst e309
                  exact p_ret Tryz.mo 10 [.rg 0 [] [.v, .v, .v, .v, .e (.bool false), .v, .v, .v, .v, .v, .e (.bool true), .v, .v, .v, .v, .v, .v, .v, .v, .v], .eqT 32 (.bool false), .rg 0 [] [.v, .v, .w, .v], .eqT 52 (.bool true), .rg 0 [] [.v]] [] [] (all_cons (congrArg (AV.bool) c277) (all_cons (congrArg (AV.bool) c285) (all_cons (congrArg (AV.bool) c291) (all_cons (congrArg (fun x => AV.bool (!x)) c301) all_nil)))) (by kernel_rfl)
            · refine bsp H288 (fun c310 H311 => ?_) (fun c312 H313 => ?_)
              · refine some_e H311 fun e314 => ?_
                subst e314
                exact p_bar Tryz.mo 7 [.rg 0 [] [.v, .v, .v, .v, .e (.bool false), .v, .v, .v, .v, .v, .e (.bool false), .v, .s, .s, .s, .s, .s, .v, .v, .v], .rg 0 [] [.v, .v, .w, .v], .eqT 52 (.bool false)] [.only [2, 3, 4, 5, 6, 7, 19, 32, 52] [2, 3, 6, 7]] (ref04_Compare_S3 x0 x1 i147 ()) (all_cons (congrArg (AV.bool) c277) (all_cons (congrArg (AV.bool) c287) (all_cons (congrArg (fun x => AV.bool (!x)) c310) all_nil))) (by kernel_rfl)
              · refine some_e H313 fun e315 => ?_
                subst e315
                have H316 := aft_ret H273
                refine some_e H316 fun e317 => ?_
                subst e317
                have e318 := out_ret h232
                subst e318
                have H319 := aft_ret H224
                refine some_e H319 fun e320 => ?_
                subst e320
                exact p_ret Tryz.mo 9 [.rg 0 [] [.v, .v, .v, .v, .e (.bool false), .v, .v, .v, .v, .v, .e (.bool false), .v, .s, .s, .s, .s, .s, .v, .v, .v], .rg 0 [] [.v, .v, .w, .v], .eqT 52 (.bool true), .rg 0 [] [.v]] [] [] (all_cons (congrArg (AV.bool) c277) (all_cons (congrArg (AV.bool) c287) (all_cons (congrArg (fun x => AV.bool (!x)) c312) all_nil))) (by kernel_rfl)
        · subst e327
          have H321 := aft_brk H273
          refine t_lensH 2 1 (ps := [(x0.Terms.map cCoef).length ≤ 9223372036854775807]) (by kernel_rfl) (fun l324 => ?_)
          have l325 : x0.Terms.length ≤ 9223372036854775807 := by simpa only [All, List.length_map] using l324
          clear l324
          refine some_e H321 fun e326 => ?_
          subst e326
          exact p_bar Tryz.mo 1 [.rg 0 [] [.v, .v, .v]] [.only [2, 3, 4, 5] [2, 3]] (ref04_Compare_S1 x0 x1 (i147 + 1) ()) (all_cons (show I64 (((i147 : Nat) : Int) + 1) from by unfold I64; omega) all_nil) (by kernel_rfl)
      · have c237p := of_decide_eq_false c237
        refine some_e H238 fun e328 => ?_
        subst e328
        have e329 := out_brk h232
        subst e329
        exact p_bar Tryz.mo 6 [.rg 0 [] [.v, .v, .v, .e (.int .i64 ((x0.Terms.length : Nat) : Int)), .e (.bool true), .v, .v, .v, .v, .e (.int .i64 ((x1.Terms.length : Nat) : Int)), .v, .v], .eqT 19 (.bool false)] [.only [2, 3, 4] [2, 3]] (ref04_Compare_S2 x0 x1 ()) (all_cons trivial (all_cons (lenm cCoef x0.Terms) (all_cons (congrArg (AV.bool) c233) (all_cons trivial (all_cons (lenm cCoef x1.Terms) (all_cons (congrArg (AV.bool) c237) all_nil)))))) (by kernel_rfl)
  · subst e331
    have H332 := aft_brk H224
    refine bsp H332 (fun c357 H358 => ?_) (fun c359 H360 => ?_)
    · have c357p := of_decide_eq_true c357
      refine some_e H358 fun e361 => ?_
      subst e361
      exact p_ret Tryz.mo 8 [.rg 0 [] [.v, .v, .e (.int .i64 ((x0.Terms.length : Nat) : Int)), .v, .v, .e (.int .i64 ((x1.Terms.length : Nat) : Int)), .e (.bool true), .v, .s, .s, .s, .s, .s, .s, .s, .s, .s, .s, .s, .s, .s, .s, .v, .v], .rg 0 [] [.v]] [] [] (all_cons trivial (all_cons (lenm cCoef x0.Terms) (all_cons trivial (all_cons (lenm cCoef x1.Terms) (all_cons (congrArg (AV.bool) c357) all_nil))))) (by kernel_rfl)
    · have c359p := of_decide_eq_false c359
      refine bsp H360 (fun c382 H383 => ?_) (fun c384 H385 => ?_)
      · refine bsp H383 (fun c394 H395 => ?_) (fun c396 H397 => ?_)
        · have c394p := of_decide_eq_true c394
          refine some_e H395 fun e398 => ?_
          subst e398
          exact p_ret Tryz.mo 9 [.rg 0 [] [.v, .v, .e (.int .i64 ((x0.Terms.length : Nat) : Int)), .v, .v, .e (.int .i64 ((x1.Terms.length : Nat) : Int)), .e (.bool false), .v, .v, .v, .e (.int .i64 ((x0.Terms.length : Nat) : Int)), .v, .v, .e (.int .i64 ((x1.Terms.length : Nat) : Int)), .e (.bool true), .v, .v, .v, .v, .v, .v, .v, .v, .v], .eqT 56 (.bool true), .rg 0 [] [.v]] [] [] (all_cons trivial (all_cons (lenm cCoef x0.Terms) (all_cons trivial (all_cons (lenm cCoef x1.Terms) (all_cons (congrArg (AV.bool) c359) (all_cons trivial (all_cons (lenm cCoef x0.Terms) (all_cons trivial (all_cons (lenm cCoef x1.Terms) (all_cons (congrArg (AV.bool) c382) (all_cons (congrArg (AV.bool) c394) all_nil))))))))))) (by kernel_rfl)
        · have c396p := of_decide_eq_false c396
          refine bsp H397 (fun c403 H404 => ?_) (fun c405 H406 => ?_)
          · have c403p := of_decide_eq_true c403
            refine some_e H404 fun e407 => ?_
            subst e407
            exact p_ret Tryz.mo 12 [.rg 0 [] [.v, .v, .e (.int .i64 ((x0.Terms.length : Nat) : Int)), .v, .v, .e (.int .i64 ((x1.Terms.length : Nat) : Int)), .e (.bool false), .v, .v, .v, .e (.int .i64 ((x0.Terms.length : Nat) : Int)), .v, .v, .e (.int .i64 ((x1.Terms.length : Nat) : Int)), .e (.bool true), .v, .v, .v, .v, .v, .v, .v, .v, .v], .eqT 56 (.bool false), .rg 0 [] [.v, .v, .e (.int .i64 ((x0.Terms.length : Nat) : Int)), .v, .v, .e (.int .i64 ((x1.Terms.length : Nat) : Int)), .e (.bool true), .v, .s, .s, .s, .s, .s, .v, .v], .rg 0 [] [.v]] [] [] (all_cons trivial (all_cons (lenm cCoef x0.Terms) (all_cons trivial (all_cons (lenm cCoef x1.Terms) (all_cons (congrArg (AV.bool) c359) (all_cons trivial (all_cons (lenm cCoef x0.Terms) (all_cons trivial (all_cons (lenm cCoef x1.Terms) (all_cons (congrArg (AV.bool) c382) (all_cons (congrArg (AV.bool) c396) (all_cons trivial (all_cons (lenm cCoef x0.Terms) (all_cons trivial (all_cons (lenm cCoef x1.Terms) (all_cons (congrArg (AV.bool) c403) all_nil)))))))))))))))) (by kernel_rfl)
          · have c405p := of_decide_eq_false c405
            refine bsp H406 (fun c408 H409 => ?_) (fun c410 H411 => ?_)
            · have c408p := of_decide_eq_true c408
              refine some_e H409 fun e412 => ?_
              subst e412
              exact p_ret Tryz.mo 13 [.rg 0 [] [.v, .v, .e (.int .i64 ((x0.Terms.length : Nat) : Int)), .v, .v, .e (.int .i64 ((x1.Terms.length : Nat) : Int)), .e (.bool false), .v, .v, .v, .e (.int .i64 ((x0.Terms.length : Nat) : Int)), .v, .v, .e (.int .i64 ((x1.Terms.length : Nat) : Int)), .e (.bool true), .v, .v, .v, .v, .v, .v, .v, .v, .v], .eqT 56 (.bool false), .rg 0 [] [.v, .v, .e (.int .i64 ((x0.Terms.length : Nat) : Int)), .v, .v, .e (.int .i64 ((x1.Terms.length : Nat) : Int)), .e (.bool false), .v, .v, .v, .v, .v, .v, .v, .v], .eqT 80 (.bool true), .rg 0 [] [.v]] [] [] (all_cons trivial (all_cons (lenm cCoef x0.Terms) (all_cons trivial (all_cons (lenm cCoef x1.Terms) (all_cons (congrArg (AV.bool) c359) (all_cons trivial (all_cons (lenm cCoef x0.Terms) (all_cons trivial (all_cons (lenm cCoef x1.Terms) (all_cons (congrArg (AV.bool) c382) (all_cons (congrArg (AV.bool) c396) (all_cons trivial (all_cons (lenm cCoef x0.Terms) (all_cons trivial (all_cons (lenm cCoef x1.Terms) (all_cons (congrArg (AV.bool) c405) (all_cons (congrArg (AV.bool) c408) all_nil))))))))))))))))) (by kernel_rfl)
            · have c410p := of_decide_eq_false c410
              refine some_e H411 fun e413 => ?_
              subst e413
              exact p_ret Tryz.mo 14 [.rg 0 [] [.v, .v, .e (.int .i64 ((x0.Terms.length : Nat) : Int)), .v, .v, .e (.int .i64 ((x1.Terms.length : Nat) : Int)), .e (.bool false), .v, .v, .v, .e (.int .i64 ((x0.Terms.length : Nat) : Int)), .v, .v, .e (.int .i64 ((x1.Terms.length : Nat) : Int)), .e (.bool true), .v, .v, .v, .v, .v, .v, .v, .v, .v], .eqT 56 (.bool false), .rg 0 [] [.v, .v, .e (.int .i64 ((x0.Terms.length : Nat) : Int)), .v, .v, .e (.int .i64 ((x1.Terms.length : Nat) : Int)), .e (.bool false), .v, .v, .v, .v, .v, .v, .v, .v], .eqT 80 (.bool false), .rg 0 [] [.v]] [] [] (all_cons trivial (all_cons (lenm cCoef x0.Terms) (all_cons trivial (all_cons (lenm cCoef x1.Terms) (all_cons (congrArg (AV.bool) c359) (all_cons trivial (all_cons (lenm cCoef x0.Terms) (all_cons trivial (all_cons (lenm cCoef x1.Terms) (all_cons (congrArg (AV.bool) c382) (all_cons (congrArg (AV.bool) c396) (all_cons trivial (all_cons (lenm cCoef x0.Terms) (all_cons trivial (all_cons (lenm cCoef x1.Terms) (all_cons (congrArg (AV.bool) c405) (all_cons (congrArg (AV.bool) c410) all_nil))))))))))))))))) (by kernel_rfl)
      · refine bsp H385 (fun c418 H419 => ?_) (fun c420 H421 => ?_)
        · have c418p := of_decide_eq_true c418
          refine some_e H419 fun e422 => ?_
          subst e422
          exact p_ret Tryz.mo 11 [.rg 0 [] [.v, .v, .e (.int .i64 ((x0.Terms.length : Nat) : Int)), .v, .v, .e (.int .i64 ((x1.Terms.length : Nat) : Int)), .e (.bool false), .v, .v, .v, .e (.int .i64 ((x0.Terms.length : Nat) : Int)), .v, .v, .e (.int .i64 ((x1.Terms.length : Nat) : Int)), .e (.bool false), .v, .s, .s, .s, .s, .s, .v, .v, .v], .rg 0 [] [.v, .v, .e (.int .i64 ((x0.Terms.length : Nat) : Int)), .v, .v, .e (.int .i64 ((x1.Terms.length : Nat) : Int)), .e (.bool true), .v, .s, .s, .s, .s, .s, .v, .v], .rg 0 [] [.v]] [] [] (all_cons trivial (all_cons (lenm cCoef x0.Terms) (all_cons trivial (all_cons (lenm cCoef x1.Terms) (all_cons (congrArg (AV.bool) c359) (all_cons trivial (all_cons (lenm cCoef x0.Terms) (all_cons trivial (all_cons (lenm cCoef x1.Terms) (all_cons (congrArg (AV.bool) c384) (all_cons trivial (all_cons (lenm cCoef x0.Terms) (all_cons trivial (all_cons (lenm cCoef x1.Terms) (all_cons (congrArg (AV.bool) c418) all_nil))))))))))))))) (by kernel_rfl)
        · have c420p := of_decide_eq_false c420
          refine bsp H421 (fun c423 H424 => ?_) (fun c425 H426 => ?_)
          · have c423p := of_decide_eq_true c423
            refine some_e H424 fun e427 => ?_
            subst e427
            exact p_ret Tryz.mo 12 [.rg 0 [] [.v, .v, .e (.int .i64 ((x0.Terms.length : Nat) : Int)), .v, .v, .e (.int .i64 ((x1.Terms.length : Nat) : Int)), .e (.bool false), .v, .v, .v, .e (.int .i64 ((x0.Terms.length : Nat) : Int)), .v, .v, .e (.int .i64 ((x1.Terms.length : Nat) : Int)), .e (.bool false), .v, .s, .s, .s, .s, .s, .v, .v, .v], .rg 0 [] [.v, .v, .e (.int .i64 ((x0.Terms.length : Nat) : Int)), .v, .v, .e (.int .i64 ((x1.Terms.length : Nat) : Int)), .e (.bool false), .v, .v, .v, .v, .v, .v, .v, .v], .eqT 80 (.bool true), .rg 0 [] [.v]] [] [] (all_cons trivial (all_cons (lenm cCoef x0.Terms) (all_cons trivial (all_cons (lenm cCoef x1.Terms) (all_cons (congrArg (AV.bool) c359) (all_cons trivial (all_cons (lenm cCoef x0.Terms) (all_cons trivial (all_cons (lenm cCoef x1.Terms) (all_cons (congrArg (AV.bool) c384) (all_cons trivial (all_cons (lenm cCoef x0.Terms) (all_cons trivial (all_cons (lenm cCoef x1.Terms) (all_cons (congrArg (AV.bool) c420) (all_cons (congrArg (AV.bool) c423) all_nil)))))))))))))))) (by kernel_rfl)
          · have c425p := of_decide_eq_false c425
            refine some_e H426 fun e428 => ?_
            subst e428
            exact p_ret Tryz.mo 13 [.rg 0 [] [.v, .v, .e (.int .i64 ((x0.Terms.length : Nat) : Int)), .v, .v, .e (.int .i64 ((x1.Terms.length : Nat) : Int)), .e (.bool false), .v, .v, .v, .e (.int .i64 ((x0.Terms.length : Nat) : Int)), .v, .v, .e (.int .i64 ((x1.Terms.length : Nat) : Int)), .e (.bool false), .v, .s, .s, .s, .s, .s, .v, .v, .v], .rg 0 [] [.v, .v, .e (.int .i64 ((x0.Terms.length : Nat) : Int)), .v, .v, .e (.int .i64 ((x1.Terms.length : Nat) : Int)), .e (.bool false), .v, .v, .v, .v, .v, .v, .v, .v], .eqT 80 (.bool false), .rg 0 [] [.v]] [] [] (all_cons trivial (all_cons (lenm cCoef x0.Terms) (all_cons trivial (all_cons (lenm cCoef x1.Terms) (all_cons (congrArg (AV.bool) c359) (all_cons trivial (all_cons (lenm cCoef x0.Terms) (all_cons trivial (all_cons (lenm cCoef x1.Terms) (all_cons (congrArg (AV.bool) c384) (all_cons trivial (all_cons (lenm cCoef x0.Terms) (all_cons trivial (all_cons (lenm cCoef x1.Terms) (all_cons (congrArg (AV.bool) c420) (all_cons (congrArg (AV.bool) c425) all_nil)))))))))))))))) (by kernel_rfl)
/-- framewise/framewiseref04.Equal -/
def ref04_Equal (x0 : Linear) (x1 : Linear) : Option Bool :=
  (ref04_Compare x0 x1).bind fun y1 =>
  some (y1 == 0)
theorem ref04_Equal_c (x0 : Linear) (x1 : Linear) (r : Bool) (H : ref04_Equal x0 x1 = some r) : AFn Tryz.prog 87 [.agg [.int .i64 x0.Const, .dslice (x0.Terms.map cCoef)], .agg [.int .i64 x1.Const, .dslice (x1.Terms.map cCoef)]] (.bool r) := by
  unfold ref04_Equal at H
  refine acallX Tryz.func87 9 [.tmp 4] (by kernel_rfl) (by kernel_rfl) ?_
  refine bnd H fun y1 h2 H3 => ?_
  refine some_e H3 fun e4 => ?_
  subst e4
  exact p_ret Tryz.mo 5 [.rg 0 [] [.m, .m, .v], .rg 0 [] [.v, .v, .c true (.int .i64 y1), .v, .v]] [] [] (all_cons Tryz.call147 (all_cons (AFn.is (ref04_Compare_c x0 x1 y1 h2)) all_nil)) (by kernel_rfl)
/-- framewise/framewiseref11.Equal -/
def ref11_Equal (x0 : Shape) (x1 : Shape) : Option Bool :=
  bif (x0.Row == x1.Row) then (
    bif (((x0.Dims.length : Nat) : Int) == ((x1.Dims.length : Nat) : Int)) then (
      (cnt (σ := Unit) (ε := Unit) (ρ := Bool) (fun i45 s44 =>
        grd (i45 < x1.Dims.length) <|
        (ref04_Equal (Linear.mk ((x0.Dims.getD i45 ⟨0, []⟩).Const) ((x0.Dims.getD i45 ⟨0, []⟩).Terms)) (Linear.mk ((x1.Dims.getD i45 ⟨0, []⟩).Const) ((x1.Dims.getD i45 ⟨0, []⟩).Terms))).bind fun y78 =>
        bif y78 then (
          some (.go ())
        ) else (
          some (.ret false)
        )
      ) (fun i45 s44 => ()) (x0.Dims.length - 0) 0 ()).bind <| aft fun u94 =>
      some true
    ) else (
      some false
    )
  ) else (
    some false
  )
def ref11_Equal_S1 (x0 : Shape) (x1 : Shape) (i45 : Nat) (s44 : Unit) : AS := ⟨39, [(2, .hptr 2 0), (3, .hptr 3 0), (4, .bool false), (5, .int .i64 ((i45 : Nat) : Int))], [(2, .cells 24 [.str x0.Row, .dslice (x0.Dims.map cLinear)]), (3, .cells 24 [.str x1.Row, .dslice (x1.Dims.map cLinear)])]⟩
def ref11_Equal_S2 (u66 : Unit) : AS := ⟨39, [(4, .bool false)], []⟩
theorem ref11_Equal_c (x0 : Shape) (x1 : Shape) (r : Bool) (H : ref11_Equal x0 x1 = some r) : AFn Tryz.prog 22 [.agg [.str x0.Row, .dslice (x0.Dims.map cLinear)], .agg [.str x1.Row, .dslice (x1.Dims.map cLinear)]] (.bool r) := by
  unfold ref11_Equal at H
  refine acallX Tryz.func22 39 [.tmp 4] (by kernel_rfl) (by kernel_rfl) ?_
  refine bsp H (fun c5 H6 => ?_) (fun c7 H8 => ?_)
  · refine bsp H6 (fun c9 H10 => ?_) (fun c11 H12 => ?_)
    · refine p_at Tryz.mo 12 [.rg 0 [] [.m, .m, .v], .rg 0 [] [.v, .v, .v, .v, .e (.bool false), .v, .v, .v, .e (.int .i64 ((x0.Dims.length : Nat) : Int)), .v, .v, .e (.int .i64 ((x1.Dims.length : Nat) : Int)), .v, .v], .eqT 19 (.bool false), .rg 0 [] [.v]] [.only [2, 3, 4, 5] [2, 3]] 11 [false] (ref11_Equal_S1 x0 x1 0 ()) (all_cons (congrArg (fun x => AV.bool (!x)) c5) (all_cons trivial (all_cons (lenm cLinear x0.Dims) (all_cons trivial (all_cons (lenm cLinear x1.Dims) (all_cons (congrArg (fun x => AV.bool (!x)) c9) all_nil)))))) (by kernel_rfl) ?_
      refine bnd H10 fun R63 h64 H65 => ?_
      refine p_joinO 1 (ref11_Equal_S2) R63 (by kernel_rfl) ?_ (fun u94 e95 => ?_)
      · refine p_cnt (ref11_Equal_S1 x0 x1) (by kernel_rfl) h64 (fun i45 s44 h67 e68 => ?_) (fun i45 s44 h75 q71 h72 h73 => ?_)
        · have c69 : decide (((i45 : Nat) : Int) < ((x0.Dims.length : Nat) : Int)) = false := decide_eq_false (by omega)
          subst e68
          exact p_bar Tryz.mo 5 [.rg 0 [] [.v, .v, .v, .e (.int .i64 ((x0.Dims.length : Nat) : Int)), .e (.bool false)]] [.only [4] []] (ref11_Equal_S2 ()) (all_cons trivial (all_cons (lenm cLinear x0.Dims) (all_cons (congrArg (AV.bool) c69) all_nil))) (by kernel_rfl)
        · have c74 : decide (((i45 : Nat) : Int) < ((x0.Dims.length : Nat) : Int)) = true := decide_eq_true (by omega)
          refine grd_e h72 fun g76 H77 => ?_
          refine bnd H77 fun y78 h79 H80 => ?_
          refine bsp H80 (fun c81 H82 => ?_) (fun c83 H84 => ?_)
          · refine t_lensH 2 1 (ps := [(x0.Dims.map cLinear).length ≤ 9223372036854775807]) (by kernel_rfl) (fun l87 => ?_)
            have l88 : x0.Dims.length ≤ 9223372036854775807 := by simpa only [All, List.length_map] using l87
            clear l87
            refine some_e H82 fun e89 => ?_
            subst e89
            exact p_bar Tryz.mo 13 [.rg 0 [] [.v, .v, .v, .e (.int .i64 ((x0.Dims.length : Nat) : Int)), .e (.bool true)], .rg 10 [.v, .v, .v, .e (.dptr [.int .i64 ((x0.Dims.getD i45 ⟨0, []⟩).Const), .dslice (((x0.Dims.getD i45 ⟨0, []⟩).Terms).map cCoef)]), .v, .v, .v, .v, .e (.dptr [.int .i64 ((x1.Dims.getD i45 ⟨0, []⟩).Const), .dslice (((x1.Dims.getD i45 ⟨0, []⟩).Terms).map cCoef)]), .v] [.c true (.bool y78), .v], .eqT 38 (.bool false), .rg 0 [] [.v, .v, .v]] [.only [2, 3, 4, 5] [2, 3]] (ref11_Equal_S1 x0 x1 (i45 + 1) ()) (all_cons trivial (all_cons (lenm cLinear x0.Dims) (all_cons (congrArg (AV.bool) c74) (all_app (ix (f := cLinear) (l := x0.Dims) (n := i45) ⟨0, []⟩ cLinear_len (by decide) (by omega)) (all_app (ix (f := cLinear) (l := x1.Dims) (n := i45) ⟨0, []⟩ cLinear_len (by decide) (by omega)) (all_cons Tryz.call87 (all_cons (AFn.is (ref04_Equal_c (Linear.mk ((x0.Dims.getD i45 ⟨0, []⟩).Const) ((x0.Dims.getD i45 ⟨0, []⟩).Terms)) (Linear.mk ((x1.Dims.getD i45 ⟨0, []⟩).Const) ((x1.Dims.getD i45 ⟨0, []⟩).Terms)) y78 h79)) (all_cons trivial (all_cons (congrArg (fun x => AV.bool (!x)) c81) (all_cons (show I64 (((i45 : Nat) : Int) + 1) from by unfold I64; omega) all_nil)))))))))) (by kernel_rfl)
          · refine some_e H84 fun e90 => ?_
            subst e90
            have e91 := out_ret h73
            subst e91
            have H92 := aft_ret H65
            refine some_e H92 fun e93 => ?_
            subst e93
            exact p_ret Tryz.mo 14 [.rg 0 [] [.v, .v, .v, .e (.int .i64 ((x0.Dims.length : Nat) : Int)), .e (.bool true)], .rg 10 [.v, .v, .v, .e (.dptr [.int .i64 ((x0.Dims.getD i45 ⟨0, []⟩).Const), .dslice (((x0.Dims.getD i45 ⟨0, []⟩).Terms).map cCoef)]), .v, .v, .v, .v, .e (.dptr [.int .i64 ((x1.Dims.getD i45 ⟨0, []⟩).Const), .dslice (((x1.Dims.getD i45 ⟨0, []⟩).Terms).map cCoef)]), .v] [.c true (.bool y78), .v], .eqT 38 (.bool true), .rg 0 [] [.v]] [] [] (all_cons trivial (all_cons (lenm cLinear x0.Dims) (all_cons (congrArg (AV.bool) c74) (all_app (ix (f := cLinear) (l := x0.Dims) (n := i45) ⟨0, []⟩ cLinear_len (by decide) (by omega)) (all_app (ix (f := cLinear) (l := x1.Dims) (n := i45) ⟨0, []⟩ cLinear_len (by decide) (by omega)) (all_cons Tryz.call87 (all_cons (AFn.is (ref04_Equal_c (Linear.mk ((x0.Dims.getD i45 ⟨0, []⟩).Const) ((x0.Dims.getD i45 ⟨0, []⟩).Terms)) (Linear.mk ((x1.Dims.getD i45 ⟨0, []⟩).Const) ((x1.Dims.getD i45 ⟨0, []⟩).Terms)) y78 h79)) (all_cons trivial (all_cons (congrArg (fun x => AV.bool (!x)) c83) all_nil))))))))) (by kernel_rfl)
      · subst e95
        have H96 := aft_brk H65
        refine some_e H96 fun e97 => ?_
        subst e97
        exact p_ret Tryz.mo 3 [.rg 0 [] [.v]] [] [] all_nil (by kernel_rfl)
    · refine some_e H12 fun e98 => ?_
      subst e98
      exact p_ret Tryz.mo 10 [.rg 0 [] [.m, .m, .v], .rg 0 [] [.v, .v, .v, .v, .e (.bool false), .v, .v, .v, .e (.int .i64 ((x0.Dims.length : Nat) : Int)), .v, .v, .e (.int .i64 ((x1.Dims.length : Nat) : Int)), .v, .v], .eqT 19 (.bool true), .rg 0 [] [.v]] [] [] (all_cons (congrArg (fun x => AV.bool (!x)) c5) (all_cons trivial (all_cons (lenm cLinear x0.Dims) (all_cons trivial (all_cons (lenm cLinear x1.Dims) (all_cons (congrArg (fun x => AV.bool (!x)) c11) all_nil)))))) (by kernel_rfl)
  · refine some_e H8 fun e99 => ?_
    subst e99
    exact p_ret Tryz.mo 9 [.rg 0 [] [.m, .m, .v], .rg 0 [] [.v, .v, .v, .v, .e (.bool true), .v, .s, .s, .s, .s, .s, .s, .s, .v], .rg 0 [] [.v]] [] [] (all_cons (congrArg (fun x => AV.bool (!x)) c7) all_nil) (by kernel_rfl)
/-- framewise/framewiselaw11.ShapeText -/
noncomputable def law11_ShapeText (x0 : Shape) (x1 : Str) : Option Bool :=
  (law11_awake).bind fun y1 =>
  bif y1 then (
    (ref11_Few x0).bind fun y28 =>
    bif y28 then (
      bif decide (((x1.length : Nat) : Int) > 200) then (
        (law11_awake).bind fun y52 =>
        some y52
      ) else (
        (shape_Print x0).bind fun y56 =>
        (ref11_Print x0).bind fun y59 =>
        (shape_Parse x1).bind fun y62 =>
        (ref11_Parse x1).bind fun y65 =>
        bif (y56.1 == y59.1) then (
          bif (y56.2 == y59.2) then (
            (ref11_Equal y62.1 y65.1).bind fun y102 =>
            bif y102 then (
              bif (y62.2 == y65.2) then (
                (shape_Parse y56.1).bind fun y117 =>
                (shape_Print y62.1).bind fun y120 =>
                bif (y56.2 == 0) then (
                  bif (y117.2 == 0) then (
                    (ref11_Equal y117.1 x0).bind fun y173 =>
                    bif y173 then (
                      bif (y62.2 == 0) then (
                        bif (y120.2 == 0) then (
                          some (y120.1 == x1)
                        ) else (
                          some false
                        )
                      ) else (
                        some true
                      )
                    ) else (
                      some false
                    )
                  ) else (
                    some false
                  )
                ) else (
                  bif (y62.2 == 0) then (
                    bif (y120.2 == 0) then (
                      some (y120.1 == x1)
                    ) else (
                      some false
                    )
                  ) else (
                    some true
                  )
                )
              ) else (
                some false
              )
            ) else (
              some false
            )
          ) else (
            some false
          )
        ) else (
          some false
        )
      )
    ) else (
      (law11_awake).bind fun y224 =>
      some y224
    )
  ) else (
    (law11_awake).bind fun y228 =>
    some y228
  )
theorem law11_ShapeText_c (x0 : Shape) (x1 : Str) (r : Bool) (H : law11_ShapeText x0 x1 = some r) : AFn Tryz.prog 7 [.agg [.str x0.Row, .dslice (x0.Dims.map cLinear)], .str x1] (.bool r) := by
  unfold law11_ShapeText at H
  refine acallX Tryz.func7 103 [.tmp 4] (by kernel_rfl) (by kernel_rfl) ?_
  refine bnd H fun y1 h2 H3 => ?_
  refine bsp H3 (fun c24 H25 => ?_) (fun c26 H27 => ?_)
  · refine bnd H25 fun y28 h29 H30 => ?_
    refine bsp H30 (fun c41 H42 => ?_) (fun c43 H44 => ?_)
    · refine bsp H42 (fun c48 H49 => ?_) (fun c50 H51 => ?_)
      · have c48p := of_decide_eq_true c48
        refine bnd H49 fun y52 h53 H54 => ?_
        refine some_e H54 fun e55 => ?_
        subst e55
        exact p_ret Tryz.mo 10 [.rg 0 [] [.m, .v], .rg 0 [] [.c true (.bool true), .v, .v, .v, .c true (.bool true), .v, .v, .v, .v, .v, .v, .v], .eqT 28 (.bool true), .rg 0 [] [.c true (.bool y52), .v]] [] [] (all_cons Tryz.call15 (all_cons (AFn.eq (law11_awake_c y1 h2) (congrArg (AV.bool) c24)) (all_cons trivial (all_cons Tryz.call16 (all_cons (AFn.eq (ref11_Few_c x0 y28 h29) (congrArg (AV.bool) c41)) (all_cons trivial (all_cons trivial (all_cons (congrArg (AV.bool) c48) (all_cons Tryz.call15 (all_cons (AFn.is (law11_awake_c y52 h53)) all_nil)))))))))) (by kernel_rfl)
      · have c50p := of_decide_eq_false c50
        refine bnd H51 fun y56 h57 H58 => ?_
        refine bnd H58 fun y59 h60 H61 => ?_
        refine bnd H61 fun y62 h63 H64 => ?_
        refine bnd H64 fun y65 h66 H67 => ?_
        refine bsp H67 (fun c83 H84 => ?_) (fun c85 H86 => ?_)
        · refine bsp H84 (fun c98 H99 => ?_) (fun c100 H101 => ?_)
          · refine bnd H99 fun y102 h103 H104 => ?_
            refine bsp H104 (fun c109 H110 => ?_) (fun c111 H112 => ?_)
            · refine bsp H110 (fun c113 H114 => ?_) (fun c115 H116 => ?_)
              · refine bnd H114 fun y117 h118 H119 => ?_
                refine bnd H119 fun y120 h121 H122 => ?_
                refine bsp H122 (fun c150 H151 => ?_) (fun c152 H153 => ?_)
                · refine bsp H151 (fun c169 H170 => ?_) (fun c171 H172 => ?_)
                  · refine bnd H170 fun y173 h174 H175 => ?_
                    refine bsp H175 (fun c184 H185 => ?_) (fun c186 H187 => ?_)
                    · refine bsp H185 (fun c192 H193 => ?_) (fun c194 H195 => ?_)
                      · refine bsp H193 (fun c196 H197 => ?_) (fun c198 H199 => ?_)
                        · refine some_e H197 fun e200 => ?_
                          subst e200
                          exact p_ret Tryz.mo 29 [.rg 0 [] [.m, .v], .rg 0 [] [.c true (.bool true), .v, .v, .v, .c true (.bool true), .v, .v, .v, .v, .v, .v, .v], .eqT 28 (.bool false), .rg 0 [] [.v, .c true (.tup [.str y56.1, .int .i64 y56.2]), .v, .v, .v, .v, .v], .rg 0 [] [.v, .c true (.tup [.str y59.1, .int .i64 y59.2]), .v, .v, .v, .v, .v], .rg 0 [] [.v, .c true (.tup [.agg [.str y62.1.Row, .dslice (y62.1.Dims.map cLinear)], .int .i64 y62.2]), .v, .v, .v, .m, .m, .v], .rg 0 [] [.v, .c true (.tup [.agg [.str y65.1.Row, .dslice (y65.1.Dims.map cLinear)], .int .i64 y65.2]), .v, .v, .v, .m, .m, .v], .rg 0 [] [.v, .v, .e (.bool false), .v, .v, .v, .e (.bool false), .v, .v, .v, .v, .c true (.bool true), .v, .v, .v, .v, .v, .v, .v], .eqT 68 (.bool false), .rg 0 [] [.v, .c true (.tup [.agg [.str y117.1.Row, .dslice (y117.1.Dims.map cLinear)], .int .i64 y117.2]), .v, .v, .v, .m, .m, .v], .rg 0 [] [.v, .c true (.tup [.str y120.1, .int .i64 y120.2]), .v, .v, .v, .v, .v], .rg 0 [] [.v, .e (.bool false), .v, .v, .e (.bool true), .v, .v, .v, .c true (.bool true), .v, .v, .v, .v, .e (.bool false), .v, .v, .e (.bool true), .v, .v, .v, .v, .v, .v, .v, .v]] [] [] (all_cons Tryz.call15 (all_cons (AFn.eq (law11_awake_c y1 h2) (congrArg (AV.bool) c24)) (all_cons trivial (all_cons Tryz.call16 (all_cons (AFn.eq (ref11_Few_c x0 y28 h29) (congrArg (AV.bool) c41)) (all_cons trivial (all_cons trivial (all_cons (congrArg (AV.bool) c50) (all_cons Tryz.call41 (all_cons (AFn.is (shape_Print_c x0 y56 h57)) (all_cons Tryz.call42 (all_cons (AFn.is (ref11_Print_c x0 y59 h60)) (all_cons Tryz.call43 (all_cons (AFn.is (shape_Parse_c x1 y62 h63)) (all_cons Tryz.call44 (all_cons (AFn.is (ref11_Parse_c x1 y65 h66)) (all_cons (congrArg (fun x => AV.bool (!x)) c83) (all_cons (congrArg (fun x => AV.bool (!x)) c98) (all_cons Tryz.call22 (all_cons (AFn.eq (ref11_Equal_c y62.1 y65.1 y102 h103) (congrArg (AV.bool) c109)) (all_cons trivial (all_cons (congrArg (fun x => AV.bool (!x)) c113) (all_cons Tryz.call43 (all_cons (AFn.is (shape_Parse_c y56.1 y117 h118)) (all_cons Tryz.call41 (all_cons (AFn.is (shape_Print_c y62.1 y120 h121)) (all_cons (congrArg (fun x => AV.bool (!x)) c150) (all_cons (congrArg (AV.bool) c169) (all_cons Tryz.call22 (all_cons (AFn.eq (ref11_Equal_c y117.1 x0 y173 h174) (congrArg (AV.bool) c184)) (all_cons (congrArg (fun x => AV.bool (!x)) c192) (all_cons (congrArg (AV.bool) c196) all_nil)))))))))))))))))))))))))))))))) (by kernel_rfl)
                        · refine some_e H199 fun e201 => ?_
                          subst e201
                          exact p_ret Tryz.mo 29 [.rg 0 [] [.m, .v], .rg 0 [] [.c true (.bool true), .v, .v, .v, .c true (.bool true), .v, .v, .v, .v, .v, .v, .v], .eqT 28 (.bool false), .rg 0 [] [.v, .c true (.tup [.str y56.1, .int .i64 y56.2]), .v, .v, .v, .v, .v], .rg 0 [] [.v, .c true (.tup [.str y59.1, .int .i64 y59.2]), .v, .v, .v, .v, .v], .rg 0 [] [.v, .c true (.tup [.agg [.str y62.1.Row, .dslice (y62.1.Dims.map cLinear)], .int .i64 y62.2]), .v, .v, .v, .m, .m, .v], .rg 0 [] [.v, .c true (.tup [.agg [.str y65.1.Row, .dslice (y65.1.Dims.map cLinear)], .int .i64 y65.2]), .v, .v, .v, .m, .m, .v], .rg 0 [] [.v, .v, .e (.bool false), .v, .v, .v, .e (.bool false), .v, .v, .v, .v, .c true (.bool true), .v, .v, .v, .v, .v, .v, .v], .eqT 68 (.bool false), .rg 0 [] [.v, .c true (.tup [.agg [.str y117.1.Row, .dslice (y117.1.Dims.map cLinear)], .int .i64 y117.2]), .v, .v, .v, .m, .m, .v], .rg 0 [] [.v, .c true (.tup [.str y120.1, .int .i64 y120.2]), .v, .v, .v, .v, .v], .rg 0 [] [.v, .e (.bool false), .v, .v, .e (.bool true), .v, .v, .v, .c true (.bool true), .v, .v, .v, .v, .e (.bool false), .v, .v, .e (.bool false), .v, .s, .s, .s, .v, .v, .v, .v]] [] [] (all_cons Tryz.call15 (all_cons (AFn.eq (law11_awake_c y1 h2) (congrArg (AV.bool) c24)) (all_cons trivial (all_cons Tryz.call16 (all_cons (AFn.eq (ref11_Few_c x0 y28 h29) (congrArg (AV.bool) c41)) (all_cons trivial (all_cons trivial (all_cons (congrArg (AV.bool) c50) (all_cons Tryz.call41 (all_cons (AFn.is (shape_Print_c x0 y56 h57)) (all_cons Tryz.call42 (all_cons (AFn.is (ref11_Print_c x0 y59 h60)) (all_cons Tryz.call43 (all_cons (AFn.is (shape_Parse_c x1 y62 h63)) (all_cons Tryz.call44 (all_cons (AFn.is (ref11_Parse_c x1 y65 h66)) (all_cons (congrArg (fun x => AV.bool (!x)) c83) (all_cons (congrArg (fun x => AV.bool (!x)) c98) (all_cons Tryz.call22 (all_cons (AFn.eq (ref11_Equal_c y62.1 y65.1 y102 h103) (congrArg (AV.bool) c109)) (all_cons trivial (all_cons (congrArg (fun x => AV.bool (!x)) c113) (all_cons Tryz.call43 (all_cons (AFn.is (shape_Parse_c y56.1 y117 h118)) (all_cons Tryz.call41 (all_cons (AFn.is (shape_Print_c y62.1 y120 h121)) (all_cons (congrArg (fun x => AV.bool (!x)) c150) (all_cons (congrArg (AV.bool) c169) (all_cons Tryz.call22 (all_cons (AFn.eq (ref11_Equal_c y117.1 x0 y173 h174) (congrArg (AV.bool) c184)) (all_cons (congrArg (fun x => AV.bool (!x)) c192) (all_cons (congrArg (AV.bool) c198) all_nil)))))))))))))))))))))))))))))))) (by kernel_rfl)
                      · refine some_e H195 fun e202 => ?_
                        subst e202
                        exact p_ret Tryz.mo 29 [.rg 0 [] [.m, .v], .rg 0 [] [.c true (.bool true), .v, .v, .v, .c true (.bool true), .v, .v, .v, .v, .v, .v, .v], .eqT 28 (.bool false), .rg 0 [] [.v, .c true (.tup [.str y56.1, .int .i64 y56.2]), .v, .v, .v, .v, .v], .rg 0 [] [.v, .c true (.tup [.str y59.1, .int .i64 y59.2]), .v, .v, .v, .v, .v], .rg 0 [] [.v, .c true (.tup [.agg [.str y62.1.Row, .dslice (y62.1.Dims.map cLinear)], .int .i64 y62.2]), .v, .v, .v, .m, .m, .v], .rg 0 [] [.v, .c true (.tup [.agg [.str y65.1.Row, .dslice (y65.1.Dims.map cLinear)], .int .i64 y65.2]), .v, .v, .v, .m, .m, .v], .rg 0 [] [.v, .v, .e (.bool false), .v, .v, .v, .e (.bool false), .v, .v, .v, .v, .c true (.bool true), .v, .v, .v, .v, .v, .v, .v], .eqT 68 (.bool false), .rg 0 [] [.v, .c true (.tup [.agg [.str y117.1.Row, .dslice (y117.1.Dims.map cLinear)], .int .i64 y117.2]), .v, .v, .v, .m, .m, .v], .rg 0 [] [.v, .c true (.tup [.str y120.1, .int .i64 y120.2]), .v, .v, .v, .v, .v], .rg 0 [] [.v, .e (.bool false), .v, .v, .e (.bool true), .v, .v, .v, .c true (.bool true), .v, .v, .v, .v, .e (.bool true), .v, .s, .s, .s, .s, .s, .s, .s, .v, .v, .v]] [] [] (all_cons Tryz.call15 (all_cons (AFn.eq (law11_awake_c y1 h2) (congrArg (AV.bool) c24)) (all_cons trivial (all_cons Tryz.call16 (all_cons (AFn.eq (ref11_Few_c x0 y28 h29) (congrArg (AV.bool) c41)) (all_cons trivial (all_cons trivial (all_cons (congrArg (AV.bool) c50) (all_cons Tryz.call41 (all_cons (AFn.is (shape_Print_c x0 y56 h57)) (all_cons Tryz.call42 (all_cons (AFn.is (ref11_Print_c x0 y59 h60)) (all_cons Tryz.call43 (all_cons (AFn.is (shape_Parse_c x1 y62 h63)) (all_cons Tryz.call44 (all_cons (AFn.is (ref11_Parse_c x1 y65 h66)) (all_cons (congrArg (fun x => AV.bool (!x)) c83) (all_cons (congrArg (fun x => AV.bool (!x)) c98) (all_cons Tryz.call22 (all_cons (AFn.eq (ref11_Equal_c y62.1 y65.1 y102 h103) (congrArg (AV.bool) c109)) (all_cons trivial (all_cons (congrArg (fun x => AV.bool (!x)) c113) (all_cons Tryz.call43 (all_cons (AFn.is (shape_Parse_c y56.1 y117 h118)) (all_cons Tryz.call41 (all_cons (AFn.is (shape_Print_c y62.1 y120 h121)) (all_cons (congrArg (fun x => AV.bool (!x)) c150) (all_cons (congrArg (AV.bool) c169) (all_cons Tryz.call22 (all_cons (AFn.eq (ref11_Equal_c y117.1 x0 y173 h174) (congrArg (AV.bool) c184)) (all_cons (congrArg (fun x => AV.bool (!x)) c194) all_nil))))))))))))))))))))))))))))))) (by kernel_rfl)
                    · refine some_e H187 fun e203 => ?_
                      subst e203
                      exact p_ret Tryz.mo 29 [.rg 0 [] [.m, .v], .rg 0 [] [.c true (.bool true), .v, .v, .v, .c true (.bool true), .v, .v, .v, .v, .v, .v, .v], .eqT 28 (.bool false), .rg 0 [] [.v, .c true (.tup [.str y56.1, .int .i64 y56.2]), .v, .v, .v, .v, .v], .rg 0 [] [.v, .c true (.tup [.str y59.1, .int .i64 y59.2]), .v, .v, .v, .v, .v], .rg 0 [] [.v, .c true (.tup [.agg [.str y62.1.Row, .dslice (y62.1.Dims.map cLinear)], .int .i64 y62.2]), .v, .v, .v, .m, .m, .v], .rg 0 [] [.v, .c true (.tup [.agg [.str y65.1.Row, .dslice (y65.1.Dims.map cLinear)], .int .i64 y65.2]), .v, .v, .v, .m, .m, .v], .rg 0 [] [.v, .v, .e (.bool false), .v, .v, .v, .e (.bool false), .v, .v, .v, .v, .c true (.bool true), .v, .v, .v, .v, .v, .v, .v], .eqT 68 (.bool false), .rg 0 [] [.v, .c true (.tup [.agg [.str y117.1.Row, .dslice (y117.1.Dims.map cLinear)], .int .i64 y117.2]), .v, .v, .v, .m, .m, .v], .rg 0 [] [.v, .c true (.tup [.str y120.1, .int .i64 y120.2]), .v, .v, .v, .v, .v], .rg 0 [] [.v, .e (.bool false), .v, .v, .e (.bool true), .v, .v, .v, .c true (.bool false), .v, .v, .v, .s, .s, .s, .s, .s, .s, .s, .s, .s, .s, .s, .v, .v]] [] [] (all_cons Tryz.call15 (all_cons (AFn.eq (law11_awake_c y1 h2) (congrArg (AV.bool) c24)) (all_cons trivial (all_cons Tryz.call16 (all_cons (AFn.eq (ref11_Few_c x0 y28 h29) (congrArg (AV.bool) c41)) (all_cons trivial (all_cons trivial (all_cons (congrArg (AV.bool) c50) (all_cons Tryz.call41 (all_cons (AFn.is (shape_Print_c x0 y56 h57)) (all_cons Tryz.call42 (all_cons (AFn.is (ref11_Print_c x0 y59 h60)) (all_cons Tryz.call43 (all_cons (AFn.is (shape_Parse_c x1 y62 h63)) (all_cons Tryz.call44 (all_cons (AFn.is (ref11_Parse_c x1 y65 h66)) (all_cons (congrArg (fun x => AV.bool (!x)) c83) (all_cons (congrArg (fun x => AV.bool (!x)) c98) (all_cons Tryz.call22 (all_cons (AFn.eq (ref11_Equal_c y62.1 y65.1 y102 h103) (congrArg (AV.bool) c109)) (all_cons trivial (all_cons (congrArg (fun x => AV.bool (!x)) c113) (all_cons Tryz.call43 (all_cons (AFn.is (shape_Parse_c y56.1 y117 h118)) (all_cons Tryz.call41 (all_cons (AFn.is (shape_Print_c y62.1 y120 h121)) (all_cons (congrArg (fun x => AV.bool (!x)) c150) (all_cons (congrArg (AV.bool) c169) (all_cons Tryz.call22 (all_cons (AFn.eq (ref11_Equal_c y117.1 x0 y173 h174) (congrArg (AV.bool) c186)) all_nil)))))))))))))))))))))))))))))) (by kernel_rfl)
                  · refine some_e H172 fun e204 => ?_
                    subst e204
                    exact p_ret Tryz.mo 29 [.rg 0 [] [.m, .v], .rg 0 [] [.c true (.bool true), .v, .v, .v, .c true (.bool true), .v, .v, .v, .v, .v, .v, .v], .eqT 28 (.bool false), .rg 0 [] [.v, .c true (.tup [.str y56.1, .int .i64 y56.2]), .v, .v, .v, .v, .v], .rg 0 [] [.v, .c true (.tup [.str y59.1, .int .i64 y59.2]), .v, .v, .v, .v, .v], .rg 0 [] [.v, .c true (.tup [.agg [.str y62.1.Row, .dslice (y62.1.Dims.map cLinear)], .int .i64 y62.2]), .v, .v, .v, .m, .m, .v], .rg 0 [] [.v, .c true (.tup [.agg [.str y65.1.Row, .dslice (y65.1.Dims.map cLinear)], .int .i64 y65.2]), .v, .v, .v, .m, .m, .v], .rg 0 [] [.v, .v, .e (.bool false), .v, .v, .v, .e (.bool false), .v, .v, .v, .v, .c true (.bool true), .v, .v, .v, .v, .v, .v, .v], .eqT 68 (.bool false), .rg 0 [] [.v, .c true (.tup [.agg [.str y117.1.Row, .dslice (y117.1.Dims.map cLinear)], .int .i64 y117.2]), .v, .v, .v, .m, .m, .v], .rg 0 [] [.v, .c true (.tup [.str y120.1, .int .i64 y120.2]), .v, .v, .v, .v, .v], .rg 0 [] [.v, .e (.bool false), .v, .v, .e (.bool false), .v, .s, .s, .s, .v, .v, .v, .s, .s, .s, .s, .s, .s, .s, .s, .s, .s, .s, .v, .v]] [] [] (all_cons Tryz.call15 (all_cons (AFn.eq (law11_awake_c y1 h2) (congrArg (AV.bool) c24)) (all_cons trivial (all_cons Tryz.call16 (all_cons (AFn.eq (ref11_Few_c x0 y28 h29) (congrArg (AV.bool) c41)) (all_cons trivial (all_cons trivial (all_cons (congrArg (AV.bool) c50) (all_cons Tryz.call41 (all_cons (AFn.is (shape_Print_c x0 y56 h57)) (all_cons Tryz.call42 (all_cons (AFn.is (ref11_Print_c x0 y59 h60)) (all_cons Tryz.call43 (all_cons (AFn.is (shape_Parse_c x1 y62 h63)) (all_cons Tryz.call44 (all_cons (AFn.is (ref11_Parse_c x1 y65 h66)) (all_cons (congrArg (fun x => AV.bool (!x)) c83) (all_cons (congrArg (fun x => AV.bool (!x)) c98) (all_cons Tryz.call22 (all_cons (AFn.eq (ref11_Equal_c y62.1 y65.1 y102 h103) (congrArg (AV.bool) c109)) (all_cons trivial (all_cons (congrArg (fun x => AV.bool (!x)) c113) (all_cons Tryz.call43 (all_cons (AFn.is (shape_Parse_c y56.1 y117 h118)) (all_cons Tryz.call41 (all_cons (AFn.is (shape_Print_c y62.1 y120 h121)) (all_cons (congrArg (fun x => AV.bool (!x)) c150) (all_cons (congrArg (AV.bool) c171) all_nil)))))))))))))))))))))))))))) (by kernel_rfl)
                · refine bsp H153 (fun c209 H210 => ?_) (fun c211 H212 => ?_)
                  · refine bsp H210 (fun c213 H214 => ?_) (fun c215 H216 => ?_)
                    · refine some_e H214 fun e217 => ?_
                      subst e217
                      exact p_ret Tryz.mo 29 [.rg 0 [] [.m, .v], .rg 0 [] [.c true (.bool true), .v, .v, .v, .c true (.bool true), .v, .v, .v, .v, .v, .v, .v], .eqT 28 (.bool false), .rg 0 [] [.v, .c true (.tup [.str y56.1, .int .i64 y56.2]), .v, .v, .v, .v, .v], .rg 0 [] [.v, .c true (.tup [.str y59.1, .int .i64 y59.2]), .v, .v, .v, .v, .v], .rg 0 [] [.v, .c true (.tup [.agg [.str y62.1.Row, .dslice (y62.1.Dims.map cLinear)], .int .i64 y62.2]), .v, .v, .v, .m, .m, .v], .rg 0 [] [.v, .c true (.tup [.agg [.str y65.1.Row, .dslice (y65.1.Dims.map cLinear)], .int .i64 y65.2]), .v, .v, .v, .m, .m, .v], .rg 0 [] [.v, .v, .e (.bool false), .v, .v, .v, .e (.bool false), .v, .v, .v, .v, .c true (.bool true), .v, .v, .v, .v, .v, .v, .v], .eqT 68 (.bool false), .rg 0 [] [.v, .c true (.tup [.agg [.str y117.1.Row, .dslice (y117.1.Dims.map cLinear)], .int .i64 y117.2]), .v, .v, .v, .m, .m, .v], .rg 0 [] [.v, .c true (.tup [.str y120.1, .int .i64 y120.2]), .v, .v, .v, .v, .v], .rg 0 [] [.v, .e (.bool true), .v, .s, .s, .s, .s, .s, .s, .s, .v, .v, .v, .e (.bool false), .v, .v, .e (.bool true), .v, .v, .v, .v, .v, .v, .v, .v]] [] [] (all_cons Tryz.call15 (all_cons (AFn.eq (law11_awake_c y1 h2) (congrArg (AV.bool) c24)) (all_cons trivial (all_cons Tryz.call16 (all_cons (AFn.eq (ref11_Few_c x0 y28 h29) (congrArg (AV.bool) c41)) (all_cons trivial (all_cons trivial (all_cons (congrArg (AV.bool) c50) (all_cons Tryz.call41 (all_cons (AFn.is (shape_Print_c x0 y56 h57)) (all_cons Tryz.call42 (all_cons (AFn.is (ref11_Print_c x0 y59 h60)) (all_cons Tryz.call43 (all_cons (AFn.is (shape_Parse_c x1 y62 h63)) (all_cons Tryz.call44 (all_cons (AFn.is (ref11_Parse_c x1 y65 h66)) (all_cons (congrArg (fun x => AV.bool (!x)) c83) (all_cons (congrArg (fun x => AV.bool (!x)) c98) (all_cons Tryz.call22 (all_cons (AFn.eq (ref11_Equal_c y62.1 y65.1 y102 h103) (congrArg (AV.bool) c109)) (all_cons trivial (all_cons (congrArg (fun x => AV.bool (!x)) c113) (all_cons Tryz.call43 (all_cons (AFn.is (shape_Parse_c y56.1 y117 h118)) (all_cons Tryz.call41 (all_cons (AFn.is (shape_Print_c y62.1 y120 h121)) (all_cons (congrArg (fun x => AV.bool (!x)) c152) (all_cons (congrArg (fun x => AV.bool (!x)) c209) (all_cons (congrArg (AV.bool) c213) all_nil))))))))))))))))))))))))))))) (by kernel_rfl)
                    · refine some_e H216 fun e218 => ?_
                      subst e218
                      exact p_ret Tryz.mo 29 [.rg 0 [] [.m, .v], .rg 0 [] [.c true (.bool true), .v, .v, .v, .c true (.bool true), .v, .v, .v, .v, .v, .v, .v], .eqT 28 (.bool false), .rg 0 [] [.v, .c true (.tup [.str y56.1, .int .i64 y56.2]), .v, .v, .v, .v, .v], .rg 0 [] [.v, .c true (.tup [.str y59.1, .int .i64 y59.2]), .v, .v, .v, .v, .v], .rg 0 [] [.v, .c true (.tup [.agg [.str y62.1.Row, .dslice (y62.1.Dims.map cLinear)], .int .i64 y62.2]), .v, .v, .v, .m, .m, .v], .rg 0 [] [.v, .c true (.tup [.agg [.str y65.1.Row, .dslice (y65.1.Dims.map cLinear)], .int .i64 y65.2]), .v, .v, .v, .m, .m, .v], .rg 0 [] [.v, .v, .e (.bool false), .v, .v, .v, .e (.bool false), .v, .v, .v, .v, .c true (.bool true), .v, .v, .v, .v, .v, .v, .v], .eqT 68 (.bool false), .rg 0 [] [.v, .c true (.tup [.agg [.str y117.1.Row, .dslice (y117.1.Dims.map cLinear)], .int .i64 y117.2]), .v, .v, .v, .m, .m, .v], .rg 0 [] [.v, .c true (.tup [.str y120.1, .int .i64 y120.2]), .v, .v, .v, .v, .v], .rg 0 [] [.v, .e (.bool true), .v, .s, .s, .s, .s, .s, .s, .s, .v, .v, .v, .e (.bool false), .v, .v, .e (.bool false), .v, .s, .s, .s, .v, .v, .v, .v]] [] [] (all_cons Tryz.call15 (all_cons (AFn.eq (law11_awake_c y1 h2) (congrArg (AV.bool) c24)) (all_cons trivial (all_cons Tryz.call16 (all_cons (AFn.eq (ref11_Few_c x0 y28 h29) (congrArg (AV.bool) c41)) (all_cons trivial (all_cons trivial (all_cons (congrArg (AV.bool) c50) (all_cons Tryz.call41 (all_cons (AFn.is (shape_Print_c x0 y56 h57)) (all_cons Tryz.call42 (all_cons (AFn.is (ref11_Print_c x0 y59 h60)) (all_cons Tryz.call43 (all_cons (AFn.is (shape_Parse_c x1 y62 h63)) (all_cons Tryz.call44 (all_cons (AFn.is (ref11_Parse_c x1 y65 h66)) (all_cons (congrArg (fun x => AV.bool (!x)) c83) (all_cons (congrArg (fun x => AV.bool (!x)) c98) (all_cons Tryz.call22 (all_cons (AFn.eq (ref11_Equal_c y62.1 y65.1 y102 h103) (congrArg (AV.bool) c109)) (all_cons trivial (all_cons (congrArg (fun x => AV.bool (!x)) c113) (all_cons Tryz.call43 (all_cons (AFn.is (shape_Parse_c y56.1 y117 h118)) (all_cons Tryz.call41 (all_cons (AFn.is (shape_Print_c y62.1 y120 h121)) (all_cons (congrArg (fun x => AV.bool (!x)) c152) (all_cons (congrArg (fun x => AV.bool (!x)) c209) (all_cons (congrArg (AV.bool) c215) all_nil))))))))))))))))))))))))))))) (by kernel_rfl)
                  · refine some_e H212 fun e219 => ?_
                    subst e219
                    exact p_ret Tryz.mo 29 [.rg 0 [] [.m, .v], .rg 0 [] [.c true (.bool true), .v, .v, .v, .c true (.bool true), .v, .v, .v, .v, .v, .v, .v], .eqT 28 (.bool false), .rg 0 [] [.v, .c true (.tup [.str y56.1, .int .i64 y56.2]), .v, .v, .v, .v, .v], .rg 0 [] [.v, .c true (.tup [.str y59.1, .int .i64 y59.2]), .v, .v, .v, .v, .v], .rg 0 [] [.v, .c true (.tup [.agg [.str y62.1.Row, .dslice (y62.1.Dims.map cLinear)], .int .i64 y62.2]), .v, .v, .v, .m, .m, .v], .rg 0 [] [.v, .c true (.tup [.agg [.str y65.1.Row, .dslice (y65.1.Dims.map cLinear)], .int .i64 y65.2]), .v, .v, .v, .m, .m, .v], .rg 0 [] [.v, .v, .e (.bool false), .v, .v, .v, .e (.bool false), .v, .v, .v, .v, .c true (.bool true), .v, .v, .v, .v, .v, .v, .v], .eqT 68 (.bool false), .rg 0 [] [.v, .c true (.tup [.agg [.str y117.1.Row, .dslice (y117.1.Dims.map cLinear)], .int .i64 y117.2]), .v, .v, .v, .m, .m, .v], .rg 0 [] [.v, .c true (.tup [.str y120.1, .int .i64 y120.2]), .v, .v, .v, .v, .v], .rg 0 [] [.v, .e (.bool true), .v, .s, .s, .s, .s, .s, .s, .s, .v, .v, .v, .e (.bool true), .v, .s, .s, .s, .s, .s, .s, .s, .v, .v, .v]] [] [] (all_cons Tryz.call15 (all_cons (AFn.eq (law11_awake_c y1 h2) (congrArg (AV.bool) c24)) (all_cons trivial (all_cons Tryz.call16 (all_cons (AFn.eq (ref11_Few_c x0 y28 h29) (congrArg (AV.bool) c41)) (all_cons trivial (all_cons trivial (all_cons (congrArg (AV.bool) c50) (all_cons Tryz.call41 (all_cons (AFn.is (shape_Print_c x0 y56 h57)) (all_cons Tryz.call42 (all_cons (AFn.is (ref11_Print_c x0 y59 h60)) (all_cons Tryz.call43 (all_cons (AFn.is (shape_Parse_c x1 y62 h63)) (all_cons Tryz.call44 (all_cons (AFn.is (ref11_Parse_c x1 y65 h66)) (all_cons (congrArg (fun x => AV.bool (!x)) c83) (all_cons (congrArg (fun x => AV.bool (!x)) c98) (all_cons Tryz.call22 (all_cons (AFn.eq (ref11_Equal_c y62.1 y65.1 y102 h103) (congrArg (AV.bool) c109)) (all_cons trivial (all_cons (congrArg (fun x => AV.bool (!x)) c113) (all_cons Tryz.call43 (all_cons (AFn.is (shape_Parse_c y56.1 y117 h118)) (all_cons Tryz.call41 (all_cons (AFn.is (shape_Print_c y62.1 y120 h121)) (all_cons (congrArg (fun x => AV.bool (!x)) c152) (all_cons (congrArg (fun x => AV.bool (!x)) c211) all_nil)))))))))))))))))))))))))))) (by kernel_rfl)
              · refine some_e H116 fun e220 => ?_
                subst e220
                exact p_ret Tryz.mo 24 [.rg 0 [] [.m, .v], .rg 0 [] [.c true (.bool true), .v, .v, .v, .c true (.bool true), .v, .v, .v, .v, .v, .v, .v], .eqT 28 (.bool false), .rg 0 [] [.v, .c true (.tup [.str y56.1, .int .i64 y56.2]), .v, .v, .v, .v, .v], .rg 0 [] [.v, .c true (.tup [.str y59.1, .int .i64 y59.2]), .v, .v, .v, .v, .v], .rg 0 [] [.v, .c true (.tup [.agg [.str y62.1.Row, .dslice (y62.1.Dims.map cLinear)], .int .i64 y62.2]), .v, .v, .v, .m, .m, .v], .rg 0 [] [.v, .c true (.tup [.agg [.str y65.1.Row, .dslice (y65.1.Dims.map cLinear)], .int .i64 y65.2]), .v, .v, .v, .m, .m, .v], .rg 0 [] [.v, .v, .e (.bool false), .v, .v, .v, .e (.bool false), .v, .v, .v, .v, .c true (.bool true), .v, .v, .v, .v, .v, .v, .v], .eqT 68 (.bool true), .rg 0 [] [.v]] [] [] (all_cons Tryz.call15 (all_cons (AFn.eq (law11_awake_c y1 h2) (congrArg (AV.bool) c24)) (all_cons trivial (all_cons Tryz.call16 (all_cons (AFn.eq (ref11_Few_c x0 y28 h29) (congrArg (AV.bool) c41)) (all_cons trivial (all_cons trivial (all_cons (congrArg (AV.bool) c50) (all_cons Tryz.call41 (all_cons (AFn.is (shape_Print_c x0 y56 h57)) (all_cons Tryz.call42 (all_cons (AFn.is (ref11_Print_c x0 y59 h60)) (all_cons Tryz.call43 (all_cons (AFn.is (shape_Parse_c x1 y62 h63)) (all_cons Tryz.call44 (all_cons (AFn.is (ref11_Parse_c x1 y65 h66)) (all_cons (congrArg (fun x => AV.bool (!x)) c83) (all_cons (congrArg (fun x => AV.bool (!x)) c98) (all_cons Tryz.call22 (all_cons (AFn.eq (ref11_Equal_c y62.1 y65.1 y102 h103) (congrArg (AV.bool) c109)) (all_cons trivial (all_cons (congrArg (fun x => AV.bool (!x)) c115) all_nil)))))))))))))))))))))) (by kernel_rfl)
            · refine some_e H112 fun e221 => ?_
              subst e221
              exact p_ret Tryz.mo 23 [.rg 0 [] [.m, .v], .rg 0 [] [.c true (.bool true), .v, .v, .v, .c true (.bool true), .v, .v, .v, .v, .v, .v, .v], .eqT 28 (.bool false), .rg 0 [] [.v, .c true (.tup [.str y56.1, .int .i64 y56.2]), .v, .v, .v, .v, .v], .rg 0 [] [.v, .c true (.tup [.str y59.1, .int .i64 y59.2]), .v, .v, .v, .v, .v], .rg 0 [] [.v, .c true (.tup [.agg [.str y62.1.Row, .dslice (y62.1.Dims.map cLinear)], .int .i64 y62.2]), .v, .v, .v, .m, .m, .v], .rg 0 [] [.v, .c true (.tup [.agg [.str y65.1.Row, .dslice (y65.1.Dims.map cLinear)], .int .i64 y65.2]), .v, .v, .v, .m, .m, .v], .rg 0 [] [.v, .v, .e (.bool false), .v, .v, .v, .e (.bool false), .v, .v, .v, .v, .c true (.bool false), .v, .v, .v, .s, .s, .s, .v], .rg 0 [] [.v]] [] [] (all_cons Tryz.call15 (all_cons (AFn.eq (law11_awake_c y1 h2) (congrArg (AV.bool) c24)) (all_cons trivial (all_cons Tryz.call16 (all_cons (AFn.eq (ref11_Few_c x0 y28 h29) (congrArg (AV.bool) c41)) (all_cons trivial (all_cons trivial (all_cons (congrArg (AV.bool) c50) (all_cons Tryz.call41 (all_cons (AFn.is (shape_Print_c x0 y56 h57)) (all_cons Tryz.call42 (all_cons (AFn.is (ref11_Print_c x0 y59 h60)) (all_cons Tryz.call43 (all_cons (AFn.is (shape_Parse_c x1 y62 h63)) (all_cons Tryz.call44 (all_cons (AFn.is (ref11_Parse_c x1 y65 h66)) (all_cons (congrArg (fun x => AV.bool (!x)) c83) (all_cons (congrArg (fun x => AV.bool (!x)) c98) (all_cons Tryz.call22 (all_cons (AFn.eq (ref11_Equal_c y62.1 y65.1 y102 h103) (congrArg (AV.bool) c111)) (all_cons trivial all_nil))))))))))))))))))))) (by kernel_rfl)
          · refine some_e H101 fun e222 => ?_
            subst e222
            exact p_ret Tryz.mo 23 [.rg 0 [] [.m, .v], .rg 0 [] [.c true (.bool true), .v, .v, .v, .c true (.bool true), .v, .v, .v, .v, .v, .v, .v], .eqT 28 (.bool false), .rg 0 [] [.v, .c true (.tup [.str y56.1, .int .i64 y56.2]), .v, .v, .v, .v, .v], .rg 0 [] [.v, .c true (.tup [.str y59.1, .int .i64 y59.2]), .v, .v, .v, .v, .v], .rg 0 [] [.v, .c true (.tup [.agg [.str y62.1.Row, .dslice (y62.1.Dims.map cLinear)], .int .i64 y62.2]), .v, .v, .v, .m, .m, .v], .rg 0 [] [.v, .c true (.tup [.agg [.str y65.1.Row, .dslice (y65.1.Dims.map cLinear)], .int .i64 y65.2]), .v, .v, .v, .m, .m, .v], .rg 0 [] [.v, .v, .e (.bool false), .v, .v, .v, .e (.bool true), .v, .v, .s, .s, .s, .s, .v, .v, .s, .s, .s, .v], .rg 0 [] [.v]] [] [] (all_cons Tryz.call15 (all_cons (AFn.eq (law11_awake_c y1 h2) (congrArg (AV.bool) c24)) (all_cons trivial (all_cons Tryz.call16 (all_cons (AFn.eq (ref11_Few_c x0 y28 h29) (congrArg (AV.bool) c41)) (all_cons trivial (all_cons trivial (all_cons (congrArg (AV.bool) c50) (all_cons Tryz.call41 (all_cons (AFn.is (shape_Print_c x0 y56 h57)) (all_cons Tryz.call42 (all_cons (AFn.is (ref11_Print_c x0 y59 h60)) (all_cons Tryz.call43 (all_cons (AFn.is (shape_Parse_c x1 y62 h63)) (all_cons Tryz.call44 (all_cons (AFn.is (ref11_Parse_c x1 y65 h66)) (all_cons (congrArg (fun x => AV.bool (!x)) c83) (all_cons (congrArg (fun x => AV.bool (!x)) c100) all_nil)))))))))))))))))) (by kernel_rfl)
        · refine some_e H86 fun e223 => ?_
          subst e223
          exact p_ret Tryz.mo 23 [.rg 0 [] [.m, .v], .rg 0 [] [.c true (.bool true), .v, .v, .v, .c true (.bool true), .v, .v, .v, .v, .v, .v, .v], .eqT 28 (.bool false), .rg 0 [] [.v, .c true (.tup [.str y56.1, .int .i64 y56.2]), .v, .v, .v, .v, .v], .rg 0 [] [.v, .c true (.tup [.str y59.1, .int .i64 y59.2]), .v, .v, .v, .v, .v], .rg 0 [] [.v, .c true (.tup [.agg [.str y62.1.Row, .dslice (y62.1.Dims.map cLinear)], .int .i64 y62.2]), .v, .v, .v, .m, .m, .v], .rg 0 [] [.v, .c true (.tup [.agg [.str y65.1.Row, .dslice (y65.1.Dims.map cLinear)], .int .i64 y65.2]), .v, .v, .v, .m, .m, .v], .rg 0 [] [.v, .v, .e (.bool true), .v, .s, .s, .s, .v, .v, .s, .s, .s, .s, .v, .v, .s, .s, .s, .v], .rg 0 [] [.v]] [] [] (all_cons Tryz.call15 (all_cons (AFn.eq (law11_awake_c y1 h2) (congrArg (AV.bool) c24)) (all_cons trivial (all_cons Tryz.call16 (all_cons (AFn.eq (ref11_Few_c x0 y28 h29) (congrArg (AV.bool) c41)) (all_cons trivial (all_cons trivial (all_cons (congrArg (AV.bool) c50) (all_cons Tryz.call41 (all_cons (AFn.is (shape_Print_c x0 y56 h57)) (all_cons Tryz.call42 (all_cons (AFn.is (ref11_Print_c x0 y59 h60)) (all_cons Tryz.call43 (all_cons (AFn.is (shape_Parse_c x1 y62 h63)) (all_cons Tryz.call44 (all_cons (AFn.is (ref11_Parse_c x1 y65 h66)) (all_cons (congrArg (fun x => AV.bool (!x)) c85) all_nil))))))))))))))))) (by kernel_rfl)
    · refine bnd H44 fun y224 h225 H226 => ?_
      refine some_e H226 fun e227 => ?_
      subst e227
      exact p_ret Tryz.mo 9 [.rg 0 [] [.m, .v], .rg 0 [] [.c true (.bool true), .v, .v, .v, .c true (.bool false), .v, .v, .v, .s, .s, .s, .v], .rg 0 [] [.c true (.bool y224), .v]] [] [] (all_cons Tryz.call15 (all_cons (AFn.eq (law11_awake_c y1 h2) (congrArg (AV.bool) c24)) (all_cons trivial (all_cons Tryz.call16 (all_cons (AFn.eq (ref11_Few_c x0 y28 h29) (congrArg (AV.bool) c43)) (all_cons trivial (all_cons Tryz.call15 (all_cons (AFn.is (law11_awake_c y224 h225)) all_nil)))))))) (by kernel_rfl)
  · refine bnd H27 fun y228 h229 H230 => ?_
    refine some_e H230 fun e231 => ?_
    subst e231
    exact p_ret Tryz.mo 9 [.rg 0 [] [.m, .v], .rg 0 [] [.c true (.bool false), .v, .v, .s, .s, .s, .v, .v, .s, .s, .s, .v], .rg 0 [] [.c true (.bool y228), .v]] [] [] (all_cons Tryz.call15 (all_cons (AFn.eq (law11_awake_c y1 h2) (congrArg (AV.bool) c26)) (all_cons trivial (all_cons Tryz.call15 (all_cons (AFn.is (law11_awake_c y228 h229)) all_nil))))) (by kernel_rfl)

end Go.Proofs.YtopejmjihbkieaaGreatDoor
