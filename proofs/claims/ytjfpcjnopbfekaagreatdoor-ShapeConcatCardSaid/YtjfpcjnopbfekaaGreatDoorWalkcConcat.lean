/- What functions of the program compute, walked: each as a plain function, with the theorem that the code computes it wherever that answers. Printed by a program (gen3.py), part 3. -/
import Derived.Test.YtjfpcjnopbfekaaGreatDoorLibC
import Derived.Test.YtjfpcjnopbfekaaGreatDoorAbN
import Derived.KernelRfl
import Derived.Test.YtjfpcjnopbfekaaGreatDoorProg
import Derived.Test.YtjfpcjnopbfekaaGreatDoorWalkbConcat
set_option linter.unusedSimpArgs false
set_option linter.unusedVariables false
namespace Go.Proofs.YtjfpcjnopbfekaaGreatDoor
open Go.RowKit Go.Ab Go.Sh
/-- framewise/framewiseref04.Compare -/
def ref04_Compare (x0 : Linear) (x1 : Linear) : Option Int :=
  (cnt (σ := Unit) (ε := Unit) (ρ := Int) (fun i147 s146 =>
    bif decide (((i147 : Nat) : Int) < ((x1.Terms.length : Nat) : Int)) then (
      ((
        bif (Op.bytesLess ((x0.Terms.getD i147 ⟨[], 0⟩).Var) ((x1.Terms.getD i147 ⟨[], 0⟩).Var)) then (
          some (.ret (.ret (-1)))
        ) else (
          bif (((x0.Terms.getD i147 ⟨[], 0⟩).Var) == ((x1.Terms.getD i147 ⟨[], 0⟩).Var)) then (
            bif decide (((x0.Terms.getD i147 ⟨[], 0⟩).C) < ((x1.Terms.getD i147 ⟨[], 0⟩).C)) then (
              some (.ret (.ret (-1)))
            ) else (
              bif ((((x0.Terms.getD i147 ⟨[], 0⟩).Var) == ((x1.Terms.getD i147 ⟨[], 0⟩).Var)) && ((((x0.Terms.getD i147 ⟨[], 0⟩).C) == ((x1.Terms.getD i147 ⟨[], 0⟩).C)) && true)) then (
                some (.brk ())
              ) else (
                some (.ret (.ret 1))
              )
            )
          ) else (
            bif ((((x0.Terms.getD i147 ⟨[], 0⟩).Var) == ((x1.Terms.getD i147 ⟨[], 0⟩).Var)) && ((((x0.Terms.getD i147 ⟨[], 0⟩).C) == ((x1.Terms.getD i147 ⟨[], 0⟩).C)) && true)) then (
              some (.brk ())
            ) else (
              some (.ret (.ret 1))
            )
          )
        )
      ) : Option (Out Unit (Stp Unit Unit Int))).bind (aft fun u274 =>
        some (.go ())
      )
    ) else (
      some (.brk ())
    )
  ) (fun i147 s146 => ()) (x0.Terms.length - 0) 0 ()).bind <| aft fun u330 =>
  bif decide (((x0.Terms.length : Nat) : Int) < ((x1.Terms.length : Nat) : Int)) then (
    some (-1)
  ) else (
    bif (((x0.Terms.length : Nat) : Int) == ((x1.Terms.length : Nat) : Int)) then (
      bif decide (x0.Const < x1.Const) then (
        some (-1)
      ) else (
        bif decide (((x0.Terms.length : Nat) : Int) > ((x1.Terms.length : Nat) : Int)) then (
          some 1
        ) else (
          bif decide (x0.Const > x1.Const) then (
            some 1
          ) else (
            some 0
          )
        )
      )
    ) else (
      bif decide (((x0.Terms.length : Nat) : Int) > ((x1.Terms.length : Nat) : Int)) then (
        some 1
      ) else (
        bif decide (x0.Const > x1.Const) then (
          some 1
        ) else (
          some 0
        )
      )
    )
  )
def ref04_Compare_S1 (x0 : Linear) (x1 : Linear) (i147 : Nat) (s146 : Unit) : AS := ⟨95, [(2, .hptr 2 0), (3, .hptr 3 0), (4, .int .i64 0), (5, .int .i64 ((i147 : Nat) : Int))], [(2, .cells 39 [.int .i64 x0.Const, .dslice (x0.Terms.map cCoef)]), (3, .cells 39 [.int .i64 x1.Const, .dslice (x1.Terms.map cCoef)])]⟩
def ref04_Compare_S2 (x0 : Linear) (x1 : Linear) (u225 : Unit) : AS := ⟨95, [(2, .hptr 2 0), (3, .hptr 3 0), (4, .int .i64 0)], [(2, .cells 39 [.int .i64 x0.Const, .dslice (x0.Terms.map cCoef)]), (3, .cells 39 [.int .i64 x1.Const, .dslice (x1.Terms.map cCoef)])]⟩
def ref04_Compare_S3 (x0 : Linear) (x1 : Linear) (i147 : Nat) (u274 : Unit) : AS := ⟨95, [(2, .hptr 2 0), (3, .hptr 3 0), (4, .int .i64 0), (5, .int .i64 ((i147 : Nat) : Int)), (6, .hptr 6 0), (7, .hptr 7 0), (19, .bool true), (32, .bool false), (52, .bool false)], [(2, .cells 39 [.int .i64 x0.Const, .dslice (x0.Terms.map cCoef)]), (3, .cells 39 [.int .i64 x1.Const, .dslice (x1.Terms.map cCoef)]), (6, .cells 44 [.str ((x0.Terms.getD i147 ⟨[], 0⟩).Var), .int .i64 ((x0.Terms.getD i147 ⟨[], 0⟩).C)]), (7, .cells 44 [.str ((x1.Terms.getD i147 ⟨[], 0⟩).Var), .int .i64 ((x1.Terms.getD i147 ⟨[], 0⟩).C)])]⟩
theorem ref04_Compare_c (x0 : Linear) (x1 : Linear) (r : Int) (H : ref04_Compare x0 x1 = some r) : AFn Tryz.prog 165 [.agg [.int .i64 x0.Const, .dslice (x0.Terms.map cCoef)], .agg [.int .i64 x1.Const, .dslice (x1.Terms.map cCoef)]] (.int .i64 r) := by
  unfold ref04_Compare at H
  refine acallX Tryz.func165 95 [.tmp 4] (by kernel_rfl) (by kernel_rfl) ?_
  refine p_at Tryz.mo 6 [.rg 0 [] [.m, .m, .v], .rg 0 [] [.v]] [.only [2, 3, 4, 5] [2, 3]] 6 [] (ref04_Compare_S1 x0 x1 0 ()) all_nil (by kernel_rfl) ?_
  refine bnd H fun R222 h223 H224 => ?_
  refine p_joinO 1 (ref04_Compare_S2 x0 x1) R222 (by kernel_rfl) ?_ (fun u330 e331 => ?_)
  · refine p_cnt (ref04_Compare_S1 x0 x1) (by kernel_rfl) h223 (fun i147 s146 h226 e227 => ?_) (fun i147 s146 h234 q230 h231 h232 => ?_)
    · have c228 : decide (((i147 : Nat) : Int) < ((x0.Terms.length : Nat) : Int)) = false := decide_eq_false (by omega)
      subst e227
      exact p_bar Tryz.mo 5 [.rg 0 [] [.v, .v, .v, .e (.int .i64 ((x0.Terms.length : Nat) : Int)), .e (.bool false), .v, .s, .s, .s, .s, .s, .v]] [.only [2, 3, 4] [2, 3]] (ref04_Compare_S2 x0 x1 ()) (all_cons trivial (all_cons (lenm cCoef x0.Terms) (all_cons (congrArg (AV.bool) c228) all_nil))) (by kernel_rfl)
    · have c233 : decide (((i147 : Nat) : Int) < ((x0.Terms.length : Nat) : Int)) = true := decide_eq_true (by omega)
      refine bsp h231 (fun c235 H236 => ?_) (fun c237 H238 => ?_)
      · have c235p := of_decide_eq_true c235
        refine p_at Tryz.mo 12 [.rg 0 [] [.v, .v, .v, .e (.int .i64 ((x0.Terms.length : Nat) : Int)), .e (.bool true), .v, .v, .v, .v, .e (.int .i64 ((x1.Terms.length : Nat) : Int)), .v, .v], .eqT 19 (.bool true), .rg 13 [.v, .v, .v, .e (.dptr [.str ((x0.Terms.getD i147 ⟨[], 0⟩).Var), .int .i64 ((x0.Terms.getD i147 ⟨[], 0⟩).C)]), .v, .v, .v, .v, .e (.dptr [.str ((x1.Terms.getD i147 ⟨[], 0⟩).Var), .int .i64 ((x1.Terms.getD i147 ⟨[], 0⟩).C)]), .v, .m, .m, .m] [.m]] [.only [2, 3, 4, 5, 6, 7, 19] [2, 3, 6, 7]] 11 [true] ⟨95, [(2, .hptr 2 0), (3, .hptr 3 0), (4, .int .i64 0), (5, .int .i64 ((i147 : Nat) : Int)), (6, .hptr 6 0), (7, .hptr 7 0), (19, .bool true)], [(2, .cells 39 [.int .i64 x0.Const, .dslice (x0.Terms.map cCoef)]), (3, .cells 39 [.int .i64 x1.Const, .dslice (x1.Terms.map cCoef)]), (6, .cells 44 [.str ((x0.Terms.getD i147 ⟨[], 0⟩).Var), .int .i64 ((x0.Terms.getD i147 ⟨[], 0⟩).C)]), (7, .cells 44 [.str ((x1.Terms.getD i147 ⟨[], 0⟩).Var), .int .i64 ((x1.Terms.getD i147 ⟨[], 0⟩).C)])]⟩ (all_cons trivial (all_cons (lenm cCoef x0.Terms) (all_cons (congrArg (AV.bool) c233) (all_cons trivial (all_cons (lenm cCoef x1.Terms) (all_cons (congrArg (AV.bool) c235) (all_app (ix (f := cCoef) (l := x0.Terms) (n := i147) ⟨[], 0⟩ cCoef_len (by decide) (by omega)) (all_app (ix (f := cCoef) (l := x1.Terms) (n := i147) ⟨[], 0⟩ cCoef_len (by decide) (by omega)) all_nil)))))))) (by kernel_rfl) ?_
        refine bnd H236 fun v271 h272 H273 => ?_
        refine p_joinO 3 (ref04_Compare_S3 x0 x1 i147) v271 (by kernel_rfl) ?_ (fun u274 e327 => ?_)
        · refine bsp h272 (fun c275 H276 => ?_) (fun c277 H278 => ?_)
          · refine some_e H276 fun e279 => ?_
            subst e279
            have H280 := aft_ret H273
            refine some_e H280 fun e281 => ?_
            subst e281
            have e282 := out_ret h232
            subst e282
            have H283 := aft_ret H224
            refine some_e H283 fun e284 => ?_
            subst e284
            exact p_ret Tryz.mo 5 [.rg 0 [] [.v, .v, .v, .v, .e (.bool true), .v, .s, .s, .s, .s, .s, .s, .s, .s, .s, .s, .s, .s, .v, .v], .rg 0 [] [.v]] [] [] (all_cons (congrArg (AV.bool) c275) all_nil) (by kernel_rfl)
          · refine bsp H278 (fun c285 H286 => ?_) (fun c287 H288 => ?_)
            · refine bsp H286 (fun c289 H290 => ?_) (fun c291 H292 => ?_)
              · have c289p := of_decide_eq_true c289
                refine some_e H290 fun e293 => ?_
                subst e293
                have H294 := aft_ret H273
                refine some_e H294 fun e295 => ?_
                subst e295
                have e296 := out_ret h232
                subst e296
                have H297 := aft_ret H224
                refine some_e H297 fun e298 => ?_
                subst e298
                exact p_ret Tryz.mo 6 [.rg 0 [] [.v, .v, .v, .v, .e (.bool false), .v, .v, .v, .v, .v, .e (.bool true), .v, .v, .v, .v, .v, .v, .v, .v, .v], .eqT 32 (.bool true), .rg 0 [] [.v]] [] [] (all_cons (congrArg (AV.bool) c277) (all_cons (congrArg (AV.bool) c285) (all_cons (congrArg (AV.bool) c289) all_nil))) (by kernel_rfl)
              · have c291p := of_decide_eq_false c291
                refine bsp H292 (fun c299 H300 => ?_) (fun c301 H302 => ?_)
                · refine some_e H300 fun e303 => ?_
                  subst e303
                  exact p_bar Tryz.mo 8 [.rg 0 [] [.v, .v, .v, .v, .e (.bool false), .v, .v, .v, .v, .v, .e (.bool true), .v, .v, .v, .v, .v, .v, .v, .v, .v], .eqT 32 (.bool false), .rg 0 [] [.v, .v, .w, .v], .eqT 52 (.bool false)] [.only [2, 3, 4, 5, 6, 7, 19, 32, 52] [2, 3, 6, 7]] (ref04_Compare_S3 x0 x1 i147 ()) (all_cons (congrArg (AV.bool) c277) (all_cons (congrArg (AV.bool) c285) (all_cons (congrArg (AV.bool) c291) (all_cons (congrArg (fun x => AV.bool (!x)) c299) all_nil)))) (by kernel_rfl)
                · refine some_e H302 fun e304 => ?_
                  subst e304
                  have H305 := aft_ret H273
                  refine some_e H305 fun e306 => ?_
                  subst e306
                  have e307 := out_ret h232
                  subst e307
                  have H308 := aft_ret H224
                  refine some_e H308 fun e309 => ?_
                  subst e309
                  exact p_ret Tryz.mo 10 [.rg 0 [] [.v, .v, .v, .v, .e (.bool false), .v, .v, .v, .v, .v, .e (.bool true), .v, .v, .v, .v, .v, .v, .v, .v, .v], .eqT 32 (.bool false), .rg 0 [] [.v, .v, .w, .v], .eqT 52 (.bool true), .rg 0 [] [.v]] [] [] (all_cons (congrArg (AV.bool) c277) (all_cons (congrArg (AV.bool) c285) (all_cons (congrArg (AV.bool) c291) (all_cons (congrArg (fun x => AV.bool (!x)) c301) all_nil)))) (by kernel_rfl)
            · refine bsp H288 (fun c310 H311 => ?_) (fun c312 H313 => ?_)
              · refine some_e H311 fun e314 => ?_
                subst e314
                exact p_bar Tryz.mo 7 [.rg 0 [] [.v, .v, .v, .v, .e (.bool false), .v, .v, .v, .v, .v, .e (.bool false), .v, .s, .s, .s, .s, .s, .v, .v, .v], .rg 0 [] [.v, .v, .w, .v], .eqT 52 (.bool false)] [.only [2, 3, 4, 5, 6, 7, 19, 32, 52] [2, 3, 6, 7]] (ref04_Compare_S3 x0 x1 i147 ()) (all_cons (congrArg (AV.bool) c277) (all_cons (congrArg (AV.bool) c287) (all_cons (congrArg (fun x => AV.bool (!x)) c310) all_nil))) (by kernel_rfl)
              · refine some_e H313 fun e315 => ?_
                subst e315
                have H316 := aft_ret H273
                refine some_e H316 fun e317 => ?_
                subst e317
                have e318 := out_ret h232
                subst e318
                have H319 := aft_ret H224
                refine some_e H319 fun e320 => ?_
                subst e320
                exact p_ret Tryz.mo 9 [.rg 0 [] [.v, .v, .v, .v, .e (.bool false), .v, .v, .v, .v, .v, .e (.bool false), .v, .s, .s, .s, .s, .s, .v, .v, .v], .rg 0 [] [.v, .v, .w, .v], .eqT 52 (.bool true), .rg 0 [] [.v]] [] [] (all_cons (congrArg (AV.bool) c277) (all_cons (congrArg (AV.bool) c287) (all_cons (congrArg (fun x => AV.bool (!x)) c312) all_nil))) (by kernel_rfl)
        · subst e327
          have H321 := aft_brk H273
          refine t_lensH 2 1 (ps := [(x0.Terms.map cCoef).length ≤ 9223372036854775807]) (by kernel_rfl) (fun l324 => ?_)
          have l325 : x0.Terms.length ≤ 9223372036854775807 := by simpa only [All, List.length_map] using l324
          clear l324
          refine some_e H321 fun e326 => ?_
          subst e326
          exact p_bar Tryz.mo 1 [.rg 0 [] [.v, .v, .v]] [.only [2, 3, 4, 5] [2, 3]] (ref04_Compare_S1 x0 x1 (i147 + 1) ()) (all_cons (show I64 (((i147 : Nat) : Int) + 1) from by unfold I64; omega) all_nil) (by kernel_rfl)
      · have c237p := of_decide_eq_false c237
        refine some_e H238 fun e328 => ?_
        subst e328
        have e329 := out_brk h232
        subst e329
        exact p_bar Tryz.mo 6 [.rg 0 [] [.v, .v, .v, .e (.int .i64 ((x0.Terms.length : Nat) : Int)), .e (.bool true), .v, .v, .v, .v, .e (.int .i64 ((x1.Terms.length : Nat) : Int)), .v, .v], .eqT 19 (.bool false)] [.only [2, 3, 4] [2, 3]] (ref04_Compare_S2 x0 x1 ()) (all_cons trivial (all_cons (lenm cCoef x0.Terms) (all_cons (congrArg (AV.bool) c233) (all_cons trivial (all_cons (lenm cCoef x1.Terms) (all_cons (congrArg (AV.bool) c237) all_nil)))))) (by kernel_rfl)
  · subst e331
    have H332 := aft_brk H224
    refine bsp H332 (fun c357 H358 => ?_) (fun c359 H360 => ?_)
    · have c357p := of_decide_eq_true c357
      refine some_e H358 fun e361 => ?_
      subst e361
      exact p_ret Tryz.mo 8 [.rg 0 [] [.v, .v, .e (.int .i64 ((x0.Terms.length : Nat) : Int)), .v, .v, .e (.int .i64 ((x1.Terms.length : Nat) : Int)), .e (.bool true), .v, .s, .s, .s, .s, .s, .s, .s, .s, .s, .s, .s, .s, .s, .s, .v, .v], .rg 0 [] [.v]] [] [] (all_cons trivial (all_cons (lenm cCoef x0.Terms) (all_cons trivial (all_cons (lenm cCoef x1.Terms) (all_cons (congrArg (AV.bool) c357) all_nil))))) (by kernel_rfl)
    · have c359p := of_decide_eq_false c359
      refine bsp H360 (fun c382 H383 => ?_) (fun c384 H385 => ?_)
      · refine bsp H383 (fun c394 H395 => ?_) (fun c396 H397 => ?_)
        · have c394p := of_decide_eq_true c394
          refine some_e H395 fun e398 => ?_
          subst e398
          exact p_ret Tryz.mo 9 [.rg 0 [] [.v, .v, .e (.int .i64 ((x0.Terms.length : Nat) : Int)), .v, .v, .e (.int .i64 ((x1.Terms.length : Nat) : Int)), .e (.bool false), .v, .v, .v, .e (.int .i64 ((x0.Terms.length : Nat) : Int)), .v, .v, .e (.int .i64 ((x1.Terms.length : Nat) : Int)), .e (.bool true), .v, .v, .v, .v, .v, .v, .v, .v, .v], .eqT 56 (.bool true), .rg 0 [] [.v]] [] [] (all_cons trivial (all_cons (lenm cCoef x0.Terms) (all_cons trivial (all_cons (lenm cCoef x1.Terms) (all_cons (congrArg (AV.bool) c359) (all_cons trivial (all_cons (lenm cCoef x0.Terms) (all_cons trivial (all_cons (lenm cCoef x1.Terms) (all_cons (congrArg (AV.bool) c382) (all_cons (congrArg (AV.bool) c394) all_nil))))))))))) (by kernel_rfl)
        · have c396p := of_decide_eq_false c396
          refine bsp H397 (fun c403 H404 => ?_) (fun c405 H406 => ?_)
          · have c403p := of_decide_eq_true c403
            refine some_e H404 fun e407 => ?_
            subst e407
            exact p_ret Tryz.mo 12 [.rg 0 [] [.v, .v, .e (.int .i64 ((x0.Terms.length : Nat) : Int)), .v, .v, .e (.int .i64 ((x1.Terms.length : Nat) : Int)), .e (.bool false), .v, .v, .v, .e (.int .i64 ((x0.Terms.length : Nat) : Int)), .v, .v, .e (.int .i64 ((x1.Terms.length : Nat) : Int)), .e (.bool true), .v, .v, .v, .v, .v, .v, .v, .v, .v], .eqT 56 (.bool false), .rg 0 [] [.v, .v, .e (.int .i64 ((x0.Terms.length : Nat) : Int)), .v, .v, .e (.int .i64 ((x1.Terms.length : Nat) : Int)), .e (.bool true), .v, .s, .s, .s, .s, .s, .v, .v], .rg 0 [] [.v]] [] [] (all_cons trivial (all_cons (lenm cCoef x0.Terms) (all_cons trivial (all_cons (lenm cCoef x1.Terms) (all_cons (congrArg (AV.bool) c359) (all_cons trivial (all_cons (lenm cCoef x0.Terms) (all_cons trivial (all_cons (lenm cCoef x1.Terms) (all_cons (congrArg (AV.bool) c382) (all_cons (congrArg (AV.bool) c396) (all_cons trivial (all_cons (lenm cCoef x0.Terms) (all_cons trivial (all_cons (lenm cCoef x1.Terms) (all_cons (congrArg (AV.bool) c403) all_nil)))))))))))))))) (by kernel_rfl)
          · have c405p := of_decide_eq_false c405
            refine bsp H406 (fun c408 H409 => ?_) (fun c410 H411 => ?_)
            · have c408p := of_decide_eq_true c408
              refine some_e H409 fun e412 => ?_
              subst e412
              exact p_ret Tryz.mo 13 [.rg 0 [] [.v, .v, .e (.int .i64 ((x0.Terms.length : Nat) : Int)), .v, .v, .e (.int .i64 ((x1.Terms.length : Nat) : Int)), .e (.bool false), .v, .v, .v, .e (.int .i64 ((x0.Terms.length : Nat) : Int)), .v, .v, .e (.int .i64 ((x1.Terms.length : Nat) : Int)), .e (.bool true), .v, .v, .v, .v, .v, .v, .v, .v, .v], .eqT 56 (.bool false), .rg 0 [] [.v, .v, .e (.int .i64 ((x0.Terms.length : Nat) : Int)), .v, .v, .e (.int .i64 ((x1.Terms.length : Nat) : Int)), .e (.bool false), .v, .v, .v, .v, .v, .v, .v, .v], .eqT 80 (.bool true), .rg 0 [] [.v]] [] [] (all_cons trivial (all_cons (lenm cCoef x0.Terms) (all_cons trivial (all_cons (lenm cCoef x1.Terms) (all_cons (congrArg (AV.bool) c359) (all_cons trivial (all_cons (lenm cCoef x0.Terms) (all_cons trivial (all_cons (lenm cCoef x1.Terms) (all_cons (congrArg (AV.bool) c382) (all_cons (congrArg (AV.bool) c396) (all_cons trivial (all_cons (lenm cCoef x0.Terms) (all_cons trivial (all_cons (lenm cCoef x1.Terms) (all_cons (congrArg (AV.bool) c405) (all_cons (congrArg (AV.bool) c408) all_nil))))))))))))))))) (by kernel_rfl)
            · have c410p := of_decide_eq_false c410
              refine some_e H411 fun e413 => ?_
              subst e413
              exact p_ret Tryz.mo 14 [.rg 0 [] [.v, .v, .e (.int .i64 ((x0.Terms.length : Nat) : Int)), .v, .v, .e (.int .i64 ((x1.Terms.length : Nat) : Int)), .e (.bool false), .v, .v, .v, .e (.int .i64 ((x0.Terms.length : Nat) : Int)), .v, .v, .e (.int .i64 ((x1.Terms.length : Nat) : Int)), .e (.bool true), .v, .v, .v, .v, .v, .v, .v, .v, .v], .eqT 56 (.bool false), .rg 0 [] [.v, .v, .e (.int .i64 ((x0.Terms.length : Nat) : Int)), .v, .v, .e (.int .i64 ((x1.Terms.length : Nat) : Int)), .e (.bool false), .v, .v, .v, .v, .v, .v, .v, .v], .eqT 80 (.bool false), .rg 0 [] [.v]] [] [] (all_cons trivial (all_cons (lenm cCoef x0.Terms) (all_cons trivial (all_cons (lenm cCoef x1.Terms) (all_cons (congrArg (AV.bool) c359) (all_cons trivial (all_cons (lenm cCoef x0.Terms) (all_cons trivial (all_cons (lenm cCoef x1.Terms) (all_cons (congrArg (AV.bool) c382) (all_cons (congrArg (AV.bool) c396) (all_cons trivial (all_cons (lenm cCoef x0.Terms) (all_cons trivial (all_cons (lenm cCoef x1.Terms) (all_cons (congrArg (AV.bool) c405) (all_cons (congrArg (AV.bool) c410) all_nil))))))))))))))))) (by kernel_rfl)
      · refine bsp H385 (fun c418 H419 => ?_) (fun c420 H421 => ?_)
        · have c418p := of_decide_eq_true c418
          refine some_e H419 fun e422 => ?_
          subst e422
          exact p_ret Tryz.mo 11 [.rg 0 [] [.v, .v, .e (.int .i64 ((x0.Terms.length : Nat) : Int)), .v, .v, .e (.int .i64 ((x1.Terms.length : Nat) : Int)), .e (.bool false), .v, .v, .v, .e (.int .i64 ((x0.Terms.length : Nat) : Int)), .v, .v, .e (.int .i64 ((x1.Terms.length : Nat) : Int)), .e (.bool false), .v, .s, .s, .s, .s, .s, .v, .v, .v], .rg 0 [] [.v, .v, .e (.int .i64 ((x0.Terms.length : Nat) : Int)), .v, .v, .e (.int .i64 ((x1.Terms.length : Nat) : Int)), .e (.bool true), .v, .s, .s, .s, .s, .s, .v, .v], .rg 0 [] [.v]] [] [] (all_cons trivial (all_cons (lenm cCoef x0.Terms) (all_cons trivial (all_cons (lenm cCoef x1.Terms) (all_cons (congrArg (AV.bool) c359) (all_cons trivial (all_cons (lenm cCoef x0.Terms) (all_cons trivial (all_cons (lenm cCoef x1.Terms) (all_cons (congrArg (AV.bool) c384) (all_cons trivial (all_cons (lenm cCoef x0.Terms) (all_cons trivial (all_cons (lenm cCoef x1.Terms) (all_cons (congrArg (AV.bool) c418) all_nil))))))))))))))) (by kernel_rfl)
        · have c420p := of_decide_eq_false c420
          refine bsp H421 (fun c423 H424 => ?_) (fun c425 H426 => ?_)
          · have c423p := of_decide_eq_true c423
            refine some_e H424 fun e427 => ?_
            subst e427
            exact p_ret Tryz.mo 12 [.rg 0 [] [.v, .v, .e (.int .i64 ((x0.Terms.length : Nat) : Int)), .v, .v, .e (.int .i64 ((x1.Terms.length : Nat) : Int)), .e (.bool false), .v, .v, .v, .e (.int .i64 ((x0.Terms.length : Nat) : Int)), .v, .v, .e (.int .i64 ((x1.Terms.length : Nat) : Int)), .e (.bool false), .v, .s, .s, .s, .s, .s, .v, .v, .v], .rg 0 [] [.v, .v, .e (.int .i64 ((x0.Terms.length : Nat) : Int)), .v, .v, .e (.int .i64 ((x1.Terms.length : Nat) : Int)), .e (.bool false), .v, .v, .v, .v, .v, .v, .v, .v], .eqT 80 (.bool true), .rg 0 [] [.v]] [] [] (all_cons trivial (all_cons (lenm cCoef x0.Terms) (all_cons trivial (all_cons (lenm cCoef x1.Terms) (all_cons (congrArg (AV.bool) c359) (all_cons trivial (all_cons (lenm cCoef x0.Terms) (all_cons trivial (all_cons (lenm cCoef x1.Terms) (all_cons (congrArg (AV.bool) c384) (all_cons trivial (all_cons (lenm cCoef x0.Terms) (all_cons trivial (all_cons (lenm cCoef x1.Terms) (all_cons (congrArg (AV.bool) c420) (all_cons (congrArg (AV.bool) c423) all_nil)))))))))))))))) (by kernel_rfl)
          · have c425p := of_decide_eq_false c425
            refine some_e H426 fun e428 => ?_
            subst e428
            exact p_ret Tryz.mo 13 [.rg 0 [] [.v, .v, .e (.int .i64 ((x0.Terms.length : Nat) : Int)), .v, .v, .e (.int .i64 ((x1.Terms.length : Nat) : Int)), .e (.bool false), .v, .v, .v, .e (.int .i64 ((x0.Terms.length : Nat) : Int)), .v, .v, .e (.int .i64 ((x1.Terms.length : Nat) : Int)), .e (.bool false), .v, .s, .s, .s, .s, .s, .v, .v, .v], .rg 0 [] [.v, .v, .e (.int .i64 ((x0.Terms.length : Nat) : Int)), .v, .v, .e (.int .i64 ((x1.Terms.length : Nat) : Int)), .e (.bool false), .v, .v, .v, .v, .v, .v, .v, .v], .eqT 80 (.bool false), .rg 0 [] [.v]] [] [] (all_cons trivial (all_cons (lenm cCoef x0.Terms) (all_cons trivial (all_cons (lenm cCoef x1.Terms) (all_cons (congrArg (AV.bool) c359) (all_cons trivial (all_cons (lenm cCoef x0.Terms) (all_cons trivial (all_cons (lenm cCoef x1.Terms) (all_cons (congrArg (AV.bool) c384) (all_cons trivial (all_cons (lenm cCoef x0.Terms) (all_cons trivial (all_cons (lenm cCoef x1.Terms) (all_cons (congrArg (AV.bool) c420) (all_cons (congrArg (AV.bool) c425) all_nil)))))))))))))))) (by kernel_rfl)
/-- framewise/framewiseref04.Equal -/
def ref04_Equal (x0 : Linear) (x1 : Linear) : Option Bool :=
  (ref04_Compare x0 x1).bind fun y1 =>
  some (y1 == 0)
theorem ref04_Equal_c (x0 : Linear) (x1 : Linear) (r : Bool) (H : ref04_Equal x0 x1 = some r) : AFn Tryz.prog 95 [.agg [.int .i64 x0.Const, .dslice (x0.Terms.map cCoef)], .agg [.int .i64 x1.Const, .dslice (x1.Terms.map cCoef)]] (.bool r) := by
  unfold ref04_Equal at H
  refine acallX Tryz.func95 9 [.tmp 4] (by kernel_rfl) (by kernel_rfl) ?_
  refine bnd H fun y1 h2 H3 => ?_
  refine some_e H3 fun e4 => ?_
  subst e4
  exact p_ret Tryz.mo 5 [.rg 0 [] [.m, .m, .v], .rg 0 [] [.v, .v, .c true (.int .i64 y1), .v, .v]] [] [] (all_cons Tryz.call165 (all_cons (AFn.is (ref04_Compare_c x0 x1 y1 h2)) all_nil)) (by kernel_rfl)
/-- framewise/framewiseref11.Equal -/
def ref11_Equal (x0 : Shape) (x1 : Shape) : Option Bool :=
  bif (x0.Row == x1.Row) then (
    bif (((x0.Dims.length : Nat) : Int) == ((x1.Dims.length : Nat) : Int)) then (
      (cnt (σ := Unit) (ε := Unit) (ρ := Bool) (fun i45 s44 =>
        grd (i45 < x1.Dims.length) <|
        (ref04_Equal (Linear.mk ((x0.Dims.getD i45 ⟨0, []⟩).Const) ((x0.Dims.getD i45 ⟨0, []⟩).Terms)) (Linear.mk ((x1.Dims.getD i45 ⟨0, []⟩).Const) ((x1.Dims.getD i45 ⟨0, []⟩).Terms))).bind fun y78 =>
        bif y78 then (
          some (.go ())
        ) else (
          some (.ret false)
        )
      ) (fun i45 s44 => ()) (x0.Dims.length - 0) 0 ()).bind <| aft fun u94 =>
      some true
    ) else (
      some false
    )
  ) else (
    some false
  )
def ref11_Equal_S1 (x0 : Shape) (x1 : Shape) (i45 : Nat) (s44 : Unit) : AS := ⟨39, [(2, .hptr 2 0), (3, .hptr 3 0), (4, .bool false), (5, .int .i64 ((i45 : Nat) : Int))], [(2, .cells 24 [.str x0.Row, .dslice (x0.Dims.map cLinear)]), (3, .cells 24 [.str x1.Row, .dslice (x1.Dims.map cLinear)])]⟩
def ref11_Equal_S2 (u66 : Unit) : AS := ⟨39, [(4, .bool false)], []⟩
theorem ref11_Equal_c (x0 : Shape) (x1 : Shape) (r : Bool) (H : ref11_Equal x0 x1 = some r) : AFn Tryz.prog 28 [.agg [.str x0.Row, .dslice (x0.Dims.map cLinear)], .agg [.str x1.Row, .dslice (x1.Dims.map cLinear)]] (.bool r) := by
  unfold ref11_Equal at H
  refine acallX Tryz.func28 39 [.tmp 4] (by kernel_rfl) (by kernel_rfl) ?_
  refine bsp H (fun c5 H6 => ?_) (fun c7 H8 => ?_)
  · refine bsp H6 (fun c9 H10 => ?_) (fun c11 H12 => ?_)
    · refine p_at Tryz.mo 12 [.rg 0 [] [.m, .m, .v], .rg 0 [] [.v, .v, .v, .v, .e (.bool false), .v, .v, .v, .e (.int .i64 ((x0.Dims.length : Nat) : Int)), .v, .v, .e (.int .i64 ((x1.Dims.length : Nat) : Int)), .v, .v], .eqT 19 (.bool false), .rg 0 [] [.v]] [.only [2, 3, 4, 5] [2, 3]] 11 [false] (ref11_Equal_S1 x0 x1 0 ()) (all_cons (congrArg (fun x => AV.bool (!x)) c5) (all_cons trivial (all_cons (lenm cLinear x0.Dims) (all_cons trivial (all_cons (lenm cLinear x1.Dims) (all_cons (congrArg (fun x => AV.bool (!x)) c9) all_nil)))))) (by kernel_rfl) ?_
      refine bnd H10 fun R63 h64 H65 => ?_
      refine p_joinO 1 (ref11_Equal_S2) R63 (by kernel_rfl) ?_ (fun u94 e95 => ?_)
      · refine p_cnt (ref11_Equal_S1 x0 x1) (by kernel_rfl) h64 (fun i45 s44 h67 e68 => ?_) (fun i45 s44 h75 q71 h72 h73 => ?_)
        · have c69 : decide (((i45 : Nat) : Int) < ((x0.Dims.length : Nat) : Int)) = false := decide_eq_false (by omega)
          subst e68
          exact p_bar Tryz.mo 5 [.rg 0 [] [.v, .v, .v, .e (.int .i64 ((x0.Dims.length : Nat) : Int)), .e (.bool false)]] [.only [4] []] (ref11_Equal_S2 ()) (all_cons trivial (all_cons (lenm cLinear x0.Dims) (all_cons (congrArg (AV.bool) c69) all_nil))) (by kernel_rfl)
        · have c74 : decide (((i45 : Nat) : Int) < ((x0.Dims.length : Nat) : Int)) = true := decide_eq_true (by omega)
          refine grd_e h72 fun g76 H77 => ?_
          refine bnd H77 fun y78 h79 H80 => ?_
          refine bsp H80 (fun c81 H82 => ?_) (fun c83 H84 => ?_)
          · refine t_lensH 2 1 (ps := [(x0.Dims.map cLinear).length ≤ 9223372036854775807]) (by kernel_rfl) (fun l87 => ?_)
            have l88 : x0.Dims.length ≤ 9223372036854775807 := by simpa only [All, List.length_map] using l87
            clear l87
            refine some_e H82 fun e89 => ?_
            subst e89
            exact p_bar Tryz.mo 13 [.rg 0 [] [.v, .v, .v, .e (.int .i64 ((x0.Dims.length : Nat) : Int)), .e (.bool true)], .rg 10 [.v, .v, .v, .e (.dptr [.int .i64 ((x0.Dims.getD i45 ⟨0, []⟩).Const), .dslice (((x0.Dims.getD i45 ⟨0, []⟩).Terms).map cCoef)]), .v, .v, .v, .v, .e (.dptr [.int .i64 ((x1.Dims.getD i45 ⟨0, []⟩).Const), .dslice (((x1.Dims.getD i45 ⟨0, []⟩).Terms).map cCoef)]), .v] [.c true (.bool y78), .v], .eqT 38 (.bool false), .rg 0 [] [.v, .v, .v]] [.only [2, 3, 4, 5] [2, 3]] (ref11_Equal_S1 x0 x1 (i45 + 1) ()) (all_cons trivial (all_cons (lenm cLinear x0.Dims) (all_cons (congrArg (AV.bool) c74) (all_app (ix (f := cLinear) (l := x0.Dims) (n := i45) ⟨0, []⟩ cLinear_len (by decide) (by omega)) (all_app (ix (f := cLinear) (l := x1.Dims) (n := i45) ⟨0, []⟩ cLinear_len (by decide) (by omega)) (all_cons Tryz.call95 (all_cons (AFn.is (ref04_Equal_c (Linear.mk ((x0.Dims.getD i45 ⟨0, []⟩).Const) ((x0.Dims.getD i45 ⟨0, []⟩).Terms)) (Linear.mk ((x1.Dims.getD i45 ⟨0, []⟩).Const) ((x1.Dims.getD i45 ⟨0, []⟩).Terms)) y78 h79)) (all_cons trivial (all_cons (congrArg (fun x => AV.bool (!x)) c81) (all_cons (show I64 (((i45 : Nat) : Int) + 1) from by unfold I64; omega) all_nil)))))))))) (by kernel_rfl)
          · refine some_e H84 fun e90 => ?_
            subst e90
            have e91 := out_ret h73
            subst e91
            have H92 := aft_ret H65
            refine some_e H92 fun e93 => ?_
            subst e93
            exact p_ret Tryz.mo 14 [.rg 0 [] [.v, .v, .v, .e (.int .i64 ((x0.Dims.length : Nat) : Int)), .e (.bool true)], .rg 10 [.v, .v, .v, .e (.dptr [.int .i64 ((x0.Dims.getD i45 ⟨0, []⟩).Const), .dslice (((x0.Dims.getD i45 ⟨0, []⟩).Terms).map cCoef)]), .v, .v, .v, .v, .e (.dptr [.int .i64 ((x1.Dims.getD i45 ⟨0, []⟩).Const), .dslice (((x1.Dims.getD i45 ⟨0, []⟩).Terms).map cCoef)]), .v] [.c true (.bool y78), .v], .eqT 38 (.bool true), .rg 0 [] [.v]] [] [] (all_cons trivial (all_cons (lenm cLinear x0.Dims) (all_cons (congrArg (AV.bool) c74) (all_app (ix (f := cLinear) (l := x0.Dims) (n := i45) ⟨0, []⟩ cLinear_len (by decide) (by omega)) (all_app (ix (f := cLinear) (l := x1.Dims) (n := i45) ⟨0, []⟩ cLinear_len (by decide) (by omega)) (all_cons Tryz.call95 (all_cons (AFn.is (ref04_Equal_c (Linear.mk ((x0.Dims.getD i45 ⟨0, []⟩).Const) ((x0.Dims.getD i45 ⟨0, []⟩).Terms)) (Linear.mk ((x1.Dims.getD i45 ⟨0, []⟩).Const) ((x1.Dims.getD i45 ⟨0, []⟩).Terms)) y78 h79)) (all_cons trivial (all_cons (congrArg (fun x => AV.bool (!x)) c83) all_nil))))))))) (by kernel_rfl)
      · subst e95
        have H96 := aft_brk H65
        refine some_e H96 fun e97 => ?_
        subst e97
        exact p_ret Tryz.mo 3 [.rg 0 [] [.v]] [] [] all_nil (by kernel_rfl)
    · refine some_e H12 fun e98 => ?_
      subst e98
      exact p_ret Tryz.mo 10 [.rg 0 [] [.m, .m, .v], .rg 0 [] [.v, .v, .v, .v, .e (.bool false), .v, .v, .v, .e (.int .i64 ((x0.Dims.length : Nat) : Int)), .v, .v, .e (.int .i64 ((x1.Dims.length : Nat) : Int)), .v, .v], .eqT 19 (.bool true), .rg 0 [] [.v]] [] [] (all_cons (congrArg (fun x => AV.bool (!x)) c5) (all_cons trivial (all_cons (lenm cLinear x0.Dims) (all_cons trivial (all_cons (lenm cLinear x1.Dims) (all_cons (congrArg (fun x => AV.bool (!x)) c11) all_nil)))))) (by kernel_rfl)
  · refine some_e H8 fun e99 => ?_
    subst e99
    exact p_ret Tryz.mo 9 [.rg 0 [] [.m, .m, .v], .rg 0 [] [.v, .v, .v, .v, .e (.bool true), .v, .s, .s, .s, .s, .s, .s, .s, .v], .rg 0 [] [.v]] [] [] (all_cons (congrArg (fun x => AV.bool (!x)) c7) all_nil) (by kernel_rfl)
/-- framewise/framewiselaw11.ShapeConcat -/
noncomputable def law11_ShapeConcat (x0 : (Shape × Shape × Shape)) (x1 : Int) : Option Bool :=
  (law11_awake).bind fun y1 =>
  bif y1 then (
    (ref11_Few x0.1).bind fun y41 =>
    bif y41 then (
      (ref11_Few x0.2.1).bind fun y71 =>
      bif y71 then (
        (ref11_Few x0.2.2).bind fun y91 =>
        bif y91 then (
          (shape_Concat x0.1 x0.2.1).bind fun y101 =>
          (ref11_Concat x0.1 x0.2.1).bind fun y104 =>
          (shape_Split x0.1 x1).bind fun y107 =>
          (ref11_Split x0.1 x1).bind fun y110 =>
          (shape_Equal y101.1 y104.1).bind fun y113 =>
          bif y113 then (
            bif (y101.2 == y104.2) then (
              (ref11_Equal y101.1 y104.1).bind fun y178 =>
              bif y178 then (
                (ref11_Equal y107.1 y110.1).bind fun y203 =>
                bif y203 then (
                  (ref11_Equal y107.2.1 y110.2.1).bind fun y221 =>
                  bif y221 then (
                    bif (y107.2.2 == y110.2.2) then (
                      ((
                        bif (y107.2.2 == 0) then (
                          (shape_Concat y107.1 y107.2.1).bind fun y272 =>
                          bif (y272.2 == 0) then (
                            (ref11_Equal y272.1 x0.1).bind fun y279 =>
                            bif y279 then (
                              some (.brk ())
                            ) else (
                              some (.ret false)
                            )
                          ) else (
                            some (.ret false)
                          )
                        ) else (
                          some (.brk ())
                        )
                      ) : Option (Out Unit Bool)).bind (aft fun u267 =>
                        bif (y101.2 == 0) then (
                          (shape_Split y101.1 ((x0.2.1.Dims.length : Nat) : Int)).bind fun y299 =>
                          bif (y299.2.2 == 0) then (
                            (ref11_Equal y299.1 x0.1).bind fun y320 =>
                            bif y320 then (
                              (ref11_Equal y299.2.1 x0.2.1).bind fun y334 =>
                              bif y334 then (
                                (shape_Concat x0.2.1 x0.2.2).bind fun y341 =>
                                (shape_Concat y101.1 x0.2.2).bind fun y344 =>
                                (shape_Concat x0.1 y341.1).bind fun y347 =>
                                (shape_Concat y101.1 (Shape.mk [] [])).bind fun y350 =>
                                bif (y341.2 == 0) then (
                                  bif (y344.2 == y347.2) then (
                                    (ref11_Equal y344.1 y347.1).bind fun y400 =>
                                    bif y400 then (
                                      bif (y350.2 == 0) then (
                                        (ref11_Equal y350.1 y101.1).bind fun y421 =>
                                        some y421
                                      ) else (
                                        some false
                                      )
                                    ) else (
                                      some false
                                    )
                                  ) else (
                                    some false
                                  )
                                ) else (
                                  bif (y350.2 == 0) then (
                                    (ref11_Equal y350.1 y101.1).bind fun y435 =>
                                    some y435
                                  ) else (
                                    some false
                                  )
                                )
                              ) else (
                                some false
                              )
                            ) else (
                              some false
                            )
                          ) else (
                            some false
                          )
                        ) else (
                          some true
                        )
                      )
                    ) else (
                      some false
                    )
                  ) else (
                    some false
                  )
                ) else (
                  some false
                )
              ) else (
                some false
              )
            ) else (
              some false
            )
          ) else (
            some false
          )
        ) else (
          (law11_awake).bind fun y451 =>
          some y451
        )
      ) else (
        (law11_awake).bind fun y455 =>
        some y455
      )
    ) else (
      (law11_awake).bind fun y459 =>
      some y459
    )
  ) else (
    (law11_awake).bind fun y463 =>
    some y463
  )
def law11_ShapeConcat_S1 (x0 : (Shape × Shape × Shape)) (y101 : (Shape × Int)) (u267 : Unit) : AS := ⟨207, [(2, .hptr 2 0), (4, .bool false), (5, .hptr 5 0), (6, .int .i64 y101.2)], [(2, .cells 65 [.str x0.1.Row, .dslice (x0.1.Dims.map cLinear), .str x0.2.1.Row, .dslice (x0.2.1.Dims.map cLinear), .str x0.2.2.Row, .dslice (x0.2.2.Dims.map cLinear)]), (5, .cells 24 [.str y101.1.Row, .dslice (y101.1.Dims.map cLinear)])]⟩
theorem law11_ShapeConcat_c (x0 : (Shape × Shape × Shape)) (x1 : Int) (r : Bool) (H : law11_ShapeConcat x0 x1 = some r) : AFn Tryz.prog 7 [.agg [.str x0.1.Row, .dslice (x0.1.Dims.map cLinear), .str x0.2.1.Row, .dslice (x0.2.1.Dims.map cLinear), .str x0.2.2.Row, .dslice (x0.2.2.Dims.map cLinear)], .int .i64 x1] (.bool r) := by
  unfold law11_ShapeConcat at H
  refine acallX Tryz.func7 207 [.tmp 4] (by kernel_rfl) (by kernel_rfl) ?_
  refine bnd H fun y1 h2 H3 => ?_
  refine bsp H3 (fun c37 H38 => ?_) (fun c39 H40 => ?_)
  · refine bnd H38 fun y41 h42 H43 => ?_
    refine bsp H43 (fun c67 H68 => ?_) (fun c69 H70 => ?_)
    · refine bnd H68 fun y71 h72 H73 => ?_
      refine bsp H73 (fun c87 H88 => ?_) (fun c89 H90 => ?_)
      · refine bnd H88 fun y91 h92 H93 => ?_
        refine bsp H93 (fun c97 H98 => ?_) (fun c99 H100 => ?_)
        · refine bnd H98 fun y101 h102 H103 => ?_
          refine bnd H103 fun y104 h105 H106 => ?_
          refine bnd H106 fun y107 h108 H109 => ?_
          refine bnd H109 fun y110 h111 H112 => ?_
          refine bnd H112 fun y113 h114 H115 => ?_
          refine bsp H115 (fun c145 H146 => ?_) (fun c147 H148 => ?_)
          · refine bsp H146 (fun c174 H175 => ?_) (fun c176 H177 => ?_)
            · refine bnd H175 fun y178 h179 H180 => ?_
              refine bsp H180 (fun c199 H200 => ?_) (fun c201 H202 => ?_)
              · refine bnd H200 fun y203 h204 H205 => ?_
                refine bsp H205 (fun c217 H218 => ?_) (fun c219 H220 => ?_)
                · refine bnd H218 fun y221 h222 H223 => ?_
                  refine bsp H223 (fun c228 H229 => ?_) (fun c230 H231 => ?_)
                  · refine bsp H229 (fun c232 H233 => ?_) (fun c234 H235 => ?_)
                    · refine p_at Tryz.mo 25 [.rg 0 [] [.m, .v], .rg 0 [] [.c true (.bool true), .v, .v, .v, .v, .c true (.bool true), .v, .v, .v, .v, .v, .c true (.bool true), .v, .v, .v, .v, .v, .c true (.bool y91), .v, .v], .eqT 47 (.bool false), .rg 0 [] [.v, .v, .v, .v, .c true (.tup [.agg [.str y101.1.Row, .dslice (y101.1.Dims.map cLinear)], .int .i64 y101.2]), .v, .v, .v, .m, .m, .v], .rg 0 [] [.v, .v, .v, .v, .c true (.tup [.agg [.str y104.1.Row, .dslice (y104.1.Dims.map cLinear)], .int .i64 y104.2]), .v, .v, .v, .m, .m, .v], .rg 0 [] [.v, .v, .v, .c true (.tup [.agg [.str y107.1.Row, .dslice (y107.1.Dims.map cLinear)], .agg [.str y107.2.1.Row, .dslice (y107.2.1.Dims.map cLinear)], .int .i64 y107.2.2]), .v, .v, .v, .v, .m, .m, .m, .m, .v], .rg 0 [] [.v, .v, .v, .c true (.tup [.agg [.str y110.1.Row, .dslice (y110.1.Dims.map cLinear)], .agg [.str y110.2.1.Row, .dslice (y110.2.1.Dims.map cLinear)], .int .i64 y110.2.2]), .v, .v, .v, .v, .m, .m, .m, .m, .v], .rg 0 [] [.v, .v, .c true (.bool true), .v, .v, .v, .v, .e (.bool false), .v, .v, .v, .v, .c true (.bool true), .v, .v, .v, .v, .v, .c true (.bool true), .v, .v, .v, .v, .v, .c true (.bool true), .v, .v, .v, .v, .v, .v, .v], .eqT 112 (.bool false), .rg 0 [] [.v, .v]] [.only [2, 4, 5, 6, 9, 10, 114] [2, 5, 9, 10]] 23 [false, false] ⟨207, [(2, .hptr 2 0), (4, .bool false), (5, .hptr 5 0), (6, .int .i64 y101.2), (9, .hptr 9 0), (10, .hptr 10 0), (114, .bool (y107.2.2 == 0))], [(2, .cells 65 [.str x0.1.Row, .dslice (x0.1.Dims.map cLinear), .str x0.2.1.Row, .dslice (x0.2.1.Dims.map cLinear), .str x0.2.2.Row, .dslice (x0.2.2.Dims.map cLinear)]), (5, .cells 24 [.str y101.1.Row, .dslice (y101.1.Dims.map cLinear)]), (9, .cells 24 [.str y107.1.Row, .dslice (y107.1.Dims.map cLinear)]), (10, .cells 24 [.str y107.2.1.Row, .dslice (y107.2.1.Dims.map cLinear)])]⟩ (all_cons Tryz.call15 (all_cons (AFn.eq (law11_awake_c y1 h2) (congrArg (AV.bool) c37)) (all_cons trivial (all_cons trivial (all_cons Tryz.call16 (all_cons (AFn.eq (ref11_Few_c x0.1 y41 h42) (congrArg (AV.bool) c67)) (all_cons trivial (all_cons trivial (all_cons Tryz.call16 (all_cons (AFn.eq (ref11_Few_c x0.2.1 y71 h72) (congrArg (AV.bool) c87)) (all_cons trivial (all_cons trivial (all_cons Tryz.call16 (all_cons (AFn.is (ref11_Few_c x0.2.2 y91 h92)) (all_cons trivial (all_cons (congrArg (fun x => AV.bool (!x)) c97) (all_cons trivial (all_cons trivial (all_cons Tryz.call41 (all_cons (AFn.is (shape_Concat_c x0.1 x0.2.1 y101 h102)) (all_cons trivial (all_cons trivial (all_cons Tryz.call42 (all_cons (AFn.is (ref11_Concat_c x0.1 x0.2.1 y104 h105)) (all_cons trivial (all_cons Tryz.call43 (all_cons (AFn.is (shape_Split_c x0.1 x1 y107 h108)) (all_cons trivial (all_cons Tryz.call44 (all_cons (AFn.is (ref11_Split_c x0.1 x1 y110 h111)) (all_cons Tryz.call35 (all_cons (AFn.eq (shape_Equal_c y101.1 y104.1 y113 h114) (congrArg (AV.bool) c145)) (all_cons trivial (all_cons (congrArg (fun x => AV.bool (!x)) c174) (all_cons Tryz.call28 (all_cons (AFn.eq (ref11_Equal_c y101.1 y104.1 y178 h179) (congrArg (AV.bool) c199)) (all_cons trivial (all_cons Tryz.call28 (all_cons (AFn.eq (ref11_Equal_c y107.1 y110.1 y203 h204) (congrArg (AV.bool) c217)) (all_cons trivial (all_cons Tryz.call28 (all_cons (AFn.eq (ref11_Equal_c y107.2.1 y110.2.1 y221 h222) (congrArg (AV.bool) c228)) (all_cons trivial (all_cons (congrArg (fun x => AV.bool (!x)) c232) all_nil)))))))))))))))))))))))))))))))))))))))))))) (by kernel_rfl) ?_
                      refine bnd H233 fun v264 h265 H266 => ?_
                      refine p_joinO 0 (law11_ShapeConcat_S1 x0 y101) v264 (by kernel_rfl) ?_ (fun u267 e444 => ?_)
                      · refine bsp h265 (fun c268 H269 => ?_) (fun c270 H271 => ?_)
                        · refine bnd H269 fun y272 h273 H274 => ?_
                          refine bsp H274 (fun c275 H276 => ?_) (fun c277 H278 => ?_)
                          · refine bnd H276 fun y279 h280 H281 => ?_
                            refine bsp H281 (fun c282 H283 => ?_) (fun c284 H285 => ?_)
                            · refine some_e H283 fun e286 => ?_
                              subst e286
                              exact p_bar Tryz.mo 9 [.eqT 114 (.bool true), .rg 0 [] [.v, .v, .c true (.tup [.agg [.str y272.1.Row, .dslice (y272.1.Dims.map cLinear)], .int .i64 y272.2]), .v, .v, .v, .m, .m, .v], .rg 0 [] [.v, .e (.bool false), .v, .v, .v, .v, .c true (.bool y279), .v, .v], .eqT 129 (.bool false)] [.only [2, 4, 5, 6] [2, 5]] (law11_ShapeConcat_S1 x0 y101 ()) (all_cons (congrArg (AV.bool) c268) (all_cons Tryz.call41 (all_cons (AFn.is (shape_Concat_c y107.1 y107.2.1 y272 h273)) (all_cons (congrArg (fun x => AV.bool (!x)) c275) (all_cons trivial (all_cons Tryz.call28 (all_cons (AFn.is (ref11_Equal_c y272.1 x0.1 y279 h280)) (all_cons trivial (all_cons (congrArg (fun x => AV.bool (!x)) c282) all_nil))))))))) (by kernel_rfl)
                            · refine some_e H285 fun e287 => ?_
                              subst e287
                              have H288 := aft_ret H266
                              refine some_e H288 fun e289 => ?_
                              subst e289
                              exact p_ret Tryz.mo 11 [.eqT 114 (.bool true), .rg 0 [] [.v, .v, .c true (.tup [.agg [.str y272.1.Row, .dslice (y272.1.Dims.map cLinear)], .int .i64 y272.2]), .v, .v, .v, .m, .m, .v], .rg 0 [] [.v, .e (.bool false), .v, .v, .v, .v, .c true (.bool y279), .v, .v], .eqT 129 (.bool true), .rg 0 [] [.v]] [] [] (all_cons (congrArg (AV.bool) c268) (all_cons Tryz.call41 (all_cons (AFn.is (shape_Concat_c y107.1 y107.2.1 y272 h273)) (all_cons (congrArg (fun x => AV.bool (!x)) c275) (all_cons trivial (all_cons Tryz.call28 (all_cons (AFn.is (ref11_Equal_c y272.1 x0.1 y279 h280)) (all_cons trivial (all_cons (congrArg (fun x => AV.bool (!x)) c284) all_nil))))))))) (by kernel_rfl)
                          · refine some_e H278 fun e290 => ?_
                            subst e290
                            have H291 := aft_ret H266
                            refine some_e H291 fun e292 => ?_
                            subst e292
                            exact p_ret Tryz.mo 10 [.eqT 114 (.bool true), .rg 0 [] [.v, .v, .c true (.tup [.agg [.str y272.1.Row, .dslice (y272.1.Dims.map cLinear)], .int .i64 y272.2]), .v, .v, .v, .m, .m, .v], .rg 0 [] [.v, .e (.bool true), .v, .s, .s, .s, .s, .s, .v], .rg 0 [] [.v]] [] [] (all_cons (congrArg (AV.bool) c268) (all_cons Tryz.call41 (all_cons (AFn.is (shape_Concat_c y107.1 y107.2.1 y272 h273)) (all_cons (congrArg (fun x => AV.bool (!x)) c277) all_nil)))) (by kernel_rfl)
                        · refine some_e H271 fun e293 => ?_
                          subst e293
                          exact p_bar Tryz.mo 3 [.eqT 114 (.bool false)] [.only [2, 4, 5, 6] [2, 5]] (law11_ShapeConcat_S1 x0 y101 ()) (all_cons (congrArg (AV.bool) c270) all_nil) (by kernel_rfl)
                      · subst e444
                        have H294 := aft_brk H266
                        refine bsp H294 (fun c295 H296 => ?_) (fun c297 H298 => ?_)
                        · refine bnd H296 fun y299 h300 H301 => ?_
                          refine bsp H301 (fun c316 H317 => ?_) (fun c318 H319 => ?_)
                          · refine bnd H317 fun y320 h321 H322 => ?_
                            refine bsp H322 (fun c330 H331 => ?_) (fun c332 H333 => ?_)
                            · refine bnd H331 fun y334 h335 H336 => ?_
                              refine bsp H336 (fun c337 H338 => ?_) (fun c339 H340 => ?_)
                              · refine bnd H338 fun y341 h342 H343 => ?_
                                refine bnd H343 fun y344 h345 H346 => ?_
                                refine bnd H346 fun y347 h348 H349 => ?_
                                refine bnd H349 fun y350 h351 H352 => ?_
                                refine bsp H352 (fun c378 H379 => ?_) (fun c380 H381 => ?_)
                                · refine bsp H379 (fun c396 H397 => ?_) (fun c398 H399 => ?_)
                                  · refine bnd H397 fun y400 h401 H402 => ?_
                                    refine bsp H402 (fun c410 H411 => ?_) (fun c412 H413 => ?_)
                                    · refine bsp H411 (fun c417 H418 => ?_) (fun c419 H420 => ?_)
                                      · refine bnd H418 fun y421 h422 H423 => ?_
                                        refine some_e H423 fun e424 => ?_
                                        subst e424
                                        exact p_ret Tryz.mo 25 [.rg 0 [] [.v, .v], .eqT 131 (.bool false), .rg 0 [] [.v, .v, .v, .v, .e (.int .i64 ((x0.2.1.Dims.length : Nat) : Int)), .c true (.tup [.agg [.str y299.1.Row, .dslice (y299.1.Dims.map cLinear)], .agg [.str y299.2.1.Row, .dslice (y299.2.1.Dims.map cLinear)], .int .i64 y299.2.2]), .v, .v, .v, .v, .m, .m, .m, .m, .v], .rg 0 [] [.v, .e (.bool false), .v, .v, .v, .v, .c true (.bool true), .v, .v, .v, .v, .v, .v, .c true (.bool y334), .v, .v], .eqT 157 (.bool false), .rg 0 [] [.v, .v, .v, .v, .c true (.tup [.agg [.str y341.1.Row, .dslice (y341.1.Dims.map cLinear)], .int .i64 y341.2]), .v, .v, .v, .m, .m, .v], .rg 0 [] [.v, .v, .v, .c true (.tup [.agg [.str y344.1.Row, .dslice (y344.1.Dims.map cLinear)], .int .i64 y344.2]), .v, .v, .v, .m, .m, .v], .rg 0 [] [.v, .v, .v, .c true (.tup [.agg [.str y347.1.Row, .dslice (y347.1.Dims.map cLinear)], .int .i64 y347.2]), .v, .v, .v, .m, .m, .v], .rg 0 [] [.v, .b, .cw true [(1, [(1, 0)])] (.tup [.agg [.str y350.1.Row, .dslice (y350.1.Dims.map cLinear)], .int .i64 y350.2]), .v, .v, .v, .m, .m, .v], .rg 0 [] [.v, .e (.bool false), .v, .v, .v, .e (.bool true), .v, .v, .v, .c true (.bool true), .v, .v, .v, .v, .e (.bool true), .v, .v, .v, .v, .c true (.bool y421), .v, .v]] [] [] (all_cons (congrArg (fun x => AV.bool (!x)) c295) (all_cons trivial (all_cons trivial (all_cons (lenm cLinear x0.2.1.Dims) (all_cons Tryz.call43 (all_cons (AFn.is (shape_Split_c y101.1 ((x0.2.1.Dims.length : Nat) : Int) y299 h300)) (all_cons (congrArg (fun x => AV.bool (!x)) c316) (all_cons trivial (all_cons Tryz.call28 (all_cons (AFn.eq (ref11_Equal_c y299.1 x0.1 y320 h321) (congrArg (AV.bool) c330)) (all_cons trivial (all_cons trivial (all_cons Tryz.call28 (all_cons (AFn.is (ref11_Equal_c y299.2.1 x0.2.1 y334 h335)) (all_cons trivial (all_cons (congrArg (fun x => AV.bool (!x)) c337) (all_cons trivial (all_cons trivial (all_cons Tryz.call41 (all_cons (AFn.is (shape_Concat_c x0.2.1 x0.2.2 y341 h342)) (all_cons trivial (all_cons Tryz.call41 (all_cons (AFn.is (shape_Concat_c y101.1 x0.2.2 y344 h345)) (all_cons trivial (all_cons Tryz.call41 (all_cons (AFn.is (shape_Concat_c x0.1 y341.1 y347 h348)) (all_cons Tryz.call41 (all_cons (AFn.is (shape_Concat_c y101.1 (Shape.mk [] []) y350 h351)) (all_cons (congrArg (fun x => AV.bool (!x)) c378) (all_cons (congrArg (AV.bool) c396) (all_cons Tryz.call28 (all_cons (AFn.eq (ref11_Equal_c y344.1 y347.1 y400 h401) (congrArg (AV.bool) c410)) (all_cons (congrArg (AV.bool) c417) (all_cons Tryz.call28 (all_cons (AFn.is (ref11_Equal_c y350.1 y101.1 y421 h422)) all_nil))))))))))))))))))))))))))))))))))) (by kernel_rfl)
                                      · refine some_e H420 fun e425 => ?_
                                        subst e425
                                        exact p_ret Tryz.mo 25 [.rg 0 [] [.v, .v], .eqT 131 (.bool false), .rg 0 [] [.v, .v, .v, .v, .e (.int .i64 ((x0.2.1.Dims.length : Nat) : Int)), .c true (.tup [.agg [.str y299.1.Row, .dslice (y299.1.Dims.map cLinear)], .agg [.str y299.2.1.Row, .dslice (y299.2.1.Dims.map cLinear)], .int .i64 y299.2.2]), .v, .v, .v, .v, .m, .m, .m, .m, .v], .rg 0 [] [.v, .e (.bool false), .v, .v, .v, .v, .c true (.bool true), .v, .v, .v, .v, .v, .v, .c true (.bool y334), .v, .v], .eqT 157 (.bool false), .rg 0 [] [.v, .v, .v, .v, .c true (.tup [.agg [.str y341.1.Row, .dslice (y341.1.Dims.map cLinear)], .int .i64 y341.2]), .v, .v, .v, .m, .m, .v], .rg 0 [] [.v, .v, .v, .c true (.tup [.agg [.str y344.1.Row, .dslice (y344.1.Dims.map cLinear)], .int .i64 y344.2]), .v, .v, .v, .m, .m, .v], .rg 0 [] [.v, .v, .v, .c true (.tup [.agg [.str y347.1.Row, .dslice (y347.1.Dims.map cLinear)], .int .i64 y347.2]), .v, .v, .v, .m, .m, .v], .rg 0 [] [.v, .b, .cw true [(1, [(1, 0)])] (.tup [.agg [.str y350.1.Row, .dslice (y350.1.Dims.map cLinear)], .int .i64 y350.2]), .v, .v, .v, .m, .m, .v], .rg 0 [] [.v, .e (.bool false), .v, .v, .v, .e (.bool true), .v, .v, .v, .c true (.bool true), .v, .v, .v, .v, .e (.bool false), .v, .v, .s, .s, .s, .v, .v]] [] [] (all_cons (congrArg (fun x => AV.bool (!x)) c295) (all_cons trivial (all_cons trivial (all_cons (lenm cLinear x0.2.1.Dims) (all_cons Tryz.call43 (all_cons (AFn.is (shape_Split_c y101.1 ((x0.2.1.Dims.length : Nat) : Int) y299 h300)) (all_cons (congrArg (fun x => AV.bool (!x)) c316) (all_cons trivial (all_cons Tryz.call28 (all_cons (AFn.eq (ref11_Equal_c y299.1 x0.1 y320 h321) (congrArg (AV.bool) c330)) (all_cons trivial (all_cons trivial (all_cons Tryz.call28 (all_cons (AFn.is (ref11_Equal_c y299.2.1 x0.2.1 y334 h335)) (all_cons trivial (all_cons (congrArg (fun x => AV.bool (!x)) c337) (all_cons trivial (all_cons trivial (all_cons Tryz.call41 (all_cons (AFn.is (shape_Concat_c x0.2.1 x0.2.2 y341 h342)) (all_cons trivial (all_cons Tryz.call41 (all_cons (AFn.is (shape_Concat_c y101.1 x0.2.2 y344 h345)) (all_cons trivial (all_cons Tryz.call41 (all_cons (AFn.is (shape_Concat_c x0.1 y341.1 y347 h348)) (all_cons Tryz.call41 (all_cons (AFn.is (shape_Concat_c y101.1 (Shape.mk [] []) y350 h351)) (all_cons (congrArg (fun x => AV.bool (!x)) c378) (all_cons (congrArg (AV.bool) c396) (all_cons Tryz.call28 (all_cons (AFn.eq (ref11_Equal_c y344.1 y347.1 y400 h401) (congrArg (AV.bool) c410)) (all_cons (congrArg (AV.bool) c419) all_nil))))))))))))))))))))))))))))))))) (by kernel_rfl)
                                    · refine some_e H413 fun e426 => ?_
                                      subst e426
                                      exact p_ret Tryz.mo 25 [.rg 0 [] [.v, .v], .eqT 131 (.bool false), .rg 0 [] [.v, .v, .v, .v, .e (.int .i64 ((x0.2.1.Dims.length : Nat) : Int)), .c true (.tup [.agg [.str y299.1.Row, .dslice (y299.1.Dims.map cLinear)], .agg [.str y299.2.1.Row, .dslice (y299.2.1.Dims.map cLinear)], .int .i64 y299.2.2]), .v, .v, .v, .v, .m, .m, .m, .m, .v], .rg 0 [] [.v, .e (.bool false), .v, .v, .v, .v, .c true (.bool true), .v, .v, .v, .v, .v, .v, .c true (.bool y334), .v, .v], .eqT 157 (.bool false), .rg 0 [] [.v, .v, .v, .v, .c true (.tup [.agg [.str y341.1.Row, .dslice (y341.1.Dims.map cLinear)], .int .i64 y341.2]), .v, .v, .v, .m, .m, .v], .rg 0 [] [.v, .v, .v, .c true (.tup [.agg [.str y344.1.Row, .dslice (y344.1.Dims.map cLinear)], .int .i64 y344.2]), .v, .v, .v, .m, .m, .v], .rg 0 [] [.v, .v, .v, .c true (.tup [.agg [.str y347.1.Row, .dslice (y347.1.Dims.map cLinear)], .int .i64 y347.2]), .v, .v, .v, .m, .m, .v], .rg 0 [] [.v, .b, .cw true [(1, [(1, 0)])] (.tup [.agg [.str y350.1.Row, .dslice (y350.1.Dims.map cLinear)], .int .i64 y350.2]), .v, .v, .v, .m, .m, .v], .rg 0 [] [.v, .e (.bool false), .v, .v, .v, .e (.bool true), .v, .v, .v, .c true (.bool false), .v, .v, .v, .s, .s, .v, .v, .s, .s, .s, .v, .v]] [] [] (all_cons (congrArg (fun x => AV.bool (!x)) c295) (all_cons trivial (all_cons trivial (all_cons (lenm cLinear x0.2.1.Dims) (all_cons Tryz.call43 (all_cons (AFn.is (shape_Split_c y101.1 ((x0.2.1.Dims.length : Nat) : Int) y299 h300)) (all_cons (congrArg (fun x => AV.bool (!x)) c316) (all_cons trivial (all_cons Tryz.call28 (all_cons (AFn.eq (ref11_Equal_c y299.1 x0.1 y320 h321) (congrArg (AV.bool) c330)) (all_cons trivial (all_cons trivial (all_cons Tryz.call28 (all_cons (AFn.is (ref11_Equal_c y299.2.1 x0.2.1 y334 h335)) (all_cons trivial (all_cons (congrArg (fun x => AV.bool (!x)) c337) (all_cons trivial (all_cons trivial (all_cons Tryz.call41 (all_cons (AFn.is (shape_Concat_c x0.2.1 x0.2.2 y341 h342)) (all_cons trivial (all_cons Tryz.call41 (all_cons (AFn.is (shape_Concat_c y101.1 x0.2.2 y344 h345)) (all_cons trivial (all_cons Tryz.call41 (all_cons (AFn.is (shape_Concat_c x0.1 y341.1 y347 h348)) (all_cons Tryz.call41 (all_cons (AFn.is (shape_Concat_c y101.1 (Shape.mk [] []) y350 h351)) (all_cons (congrArg (fun x => AV.bool (!x)) c378) (all_cons (congrArg (AV.bool) c396) (all_cons Tryz.call28 (all_cons (AFn.eq (ref11_Equal_c y344.1 y347.1 y400 h401) (congrArg (AV.bool) c412)) all_nil)))))))))))))))))))))))))))))))) (by kernel_rfl)
                                  · refine some_e H399 fun e427 => ?_
                                    subst e427
                                    exact p_ret Tryz.mo 25 [.rg 0 [] [.v, .v], .eqT 131 (.bool false), .rg 0 [] [.v, .v, .v, .v, .e (.int .i64 ((x0.2.1.Dims.length : Nat) : Int)), .c true (.tup [.agg [.str y299.1.Row, .dslice (y299.1.Dims.map cLinear)], .agg [.str y299.2.1.Row, .dslice (y299.2.1.Dims.map cLinear)], .int .i64 y299.2.2]), .v, .v, .v, .v, .m, .m, .m, .m, .v], .rg 0 [] [.v, .e (.bool false), .v, .v, .v, .v, .c true (.bool true), .v, .v, .v, .v, .v, .v, .c true (.bool y334), .v, .v], .eqT 157 (.bool false), .rg 0 [] [.v, .v, .v, .v, .c true (.tup [.agg [.str y341.1.Row, .dslice (y341.1.Dims.map cLinear)], .int .i64 y341.2]), .v, .v, .v, .m, .m, .v], .rg 0 [] [.v, .v, .v, .c true (.tup [.agg [.str y344.1.Row, .dslice (y344.1.Dims.map cLinear)], .int .i64 y344.2]), .v, .v, .v, .m, .m, .v], .rg 0 [] [.v, .v, .v, .c true (.tup [.agg [.str y347.1.Row, .dslice (y347.1.Dims.map cLinear)], .int .i64 y347.2]), .v, .v, .v, .m, .m, .v], .rg 0 [] [.v, .b, .cw true [(1, [(1, 0)])] (.tup [.agg [.str y350.1.Row, .dslice (y350.1.Dims.map cLinear)], .int .i64 y350.2]), .v, .v, .v, .m, .m, .v], .rg 0 [] [.v, .e (.bool false), .v, .v, .v, .e (.bool false), .v, .s, .s, .s, .v, .v, .v, .s, .s, .v, .v, .s, .s, .s, .v, .v]] [] [] (all_cons (congrArg (fun x => AV.bool (!x)) c295) (all_cons trivial (all_cons trivial (all_cons (lenm cLinear x0.2.1.Dims) (all_cons Tryz.call43 (all_cons (AFn.is (shape_Split_c y101.1 ((x0.2.1.Dims.length : Nat) : Int) y299 h300)) (all_cons (congrArg (fun x => AV.bool (!x)) c316) (all_cons trivial (all_cons Tryz.call28 (all_cons (AFn.eq (ref11_Equal_c y299.1 x0.1 y320 h321) (congrArg (AV.bool) c330)) (all_cons trivial (all_cons trivial (all_cons Tryz.call28 (all_cons (AFn.is (ref11_Equal_c y299.2.1 x0.2.1 y334 h335)) (all_cons trivial (all_cons (congrArg (fun x => AV.bool (!x)) c337) (all_cons trivial (all_cons trivial (all_cons Tryz.call41 (all_cons (AFn.is (shape_Concat_c x0.2.1 x0.2.2 y341 h342)) (all_cons trivial (all_cons Tryz.call41 (all_cons (AFn.is (shape_Concat_c y101.1 x0.2.2 y344 h345)) (all_cons trivial (all_cons Tryz.call41 (all_cons (AFn.is (shape_Concat_c x0.1 y341.1 y347 h348)) (all_cons Tryz.call41 (all_cons (AFn.is (shape_Concat_c y101.1 (Shape.mk [] []) y350 h351)) (all_cons (congrArg (fun x => AV.bool (!x)) c378) (all_cons (congrArg (AV.bool) c398) all_nil)))))))))))))))))))))))))))))) (by kernel_rfl)
                                · refine bsp H381 (fun c431 H432 => ?_) (fun c433 H434 => ?_)
                                  · refine bnd H432 fun y435 h436 H437 => ?_
                                    refine some_e H437 fun e438 => ?_
                                    subst e438
                                    exact p_ret Tryz.mo 25 [.rg 0 [] [.v, .v], .eqT 131 (.bool false), .rg 0 [] [.v, .v, .v, .v, .e (.int .i64 ((x0.2.1.Dims.length : Nat) : Int)), .c true (.tup [.agg [.str y299.1.Row, .dslice (y299.1.Dims.map cLinear)], .agg [.str y299.2.1.Row, .dslice (y299.2.1.Dims.map cLinear)], .int .i64 y299.2.2]), .v, .v, .v, .v, .m, .m, .m, .m, .v], .rg 0 [] [.v, .e (.bool false), .v, .v, .v, .v, .c true (.bool true), .v, .v, .v, .v, .v, .v, .c true (.bool y334), .v, .v], .eqT 157 (.bool false), .rg 0 [] [.v, .v, .v, .v, .c true (.tup [.agg [.str y341.1.Row, .dslice (y341.1.Dims.map cLinear)], .int .i64 y341.2]), .v, .v, .v, .m, .m, .v], .rg 0 [] [.v, .v, .v, .c true (.tup [.agg [.str y344.1.Row, .dslice (y344.1.Dims.map cLinear)], .int .i64 y344.2]), .v, .v, .v, .m, .m, .v], .rg 0 [] [.v, .v, .v, .c true (.tup [.agg [.str y347.1.Row, .dslice (y347.1.Dims.map cLinear)], .int .i64 y347.2]), .v, .v, .v, .m, .m, .v], .rg 0 [] [.v, .b, .cw true [(1, [(1, 0)])] (.tup [.agg [.str y350.1.Row, .dslice (y350.1.Dims.map cLinear)], .int .i64 y350.2]), .v, .v, .v, .m, .m, .v], .rg 0 [] [.v, .e (.bool true), .v, .s, .s, .s, .s, .s, .s, .s, .s, .v, .v, .v, .e (.bool true), .v, .v, .v, .v, .c true (.bool y435), .v, .v]] [] [] (all_cons (congrArg (fun x => AV.bool (!x)) c295) (all_cons trivial (all_cons trivial (all_cons (lenm cLinear x0.2.1.Dims) (all_cons Tryz.call43 (all_cons (AFn.is (shape_Split_c y101.1 ((x0.2.1.Dims.length : Nat) : Int) y299 h300)) (all_cons (congrArg (fun x => AV.bool (!x)) c316) (all_cons trivial (all_cons Tryz.call28 (all_cons (AFn.eq (ref11_Equal_c y299.1 x0.1 y320 h321) (congrArg (AV.bool) c330)) (all_cons trivial (all_cons trivial (all_cons Tryz.call28 (all_cons (AFn.is (ref11_Equal_c y299.2.1 x0.2.1 y334 h335)) (all_cons trivial (all_cons (congrArg (fun x => AV.bool (!x)) c337) (all_cons trivial (all_cons trivial (all_cons Tryz.call41 (all_cons (AFn.is (shape_Concat_c x0.2.1 x0.2.2 y341 h342)) (all_cons trivial (all_cons Tryz.call41 (all_cons (AFn.is (shape_Concat_c y101.1 x0.2.2 y344 h345)) (all_cons trivial (all_cons Tryz.call41 (all_cons (AFn.is (shape_Concat_c x0.1 y341.1 y347 h348)) (all_cons Tryz.call41 (all_cons (AFn.is (shape_Concat_c y101.1 (Shape.mk [] []) y350 h351)) (all_cons (congrArg (fun x => AV.bool (!x)) c380) (all_cons (congrArg (AV.bool) c431) (all_cons Tryz.call28 (all_cons (AFn.is (ref11_Equal_c y350.1 y101.1 y435 h436)) all_nil)))))))))))))))))))))))))))))))) (by kernel_rfl)
                                  · refine some_e H434 fun e439 => ?_
                                    subst e439
                                    exact p_ret Tryz.mo 25 [.rg 0 [] [.v, .v], .eqT 131 (.bool false), .rg 0 [] [.v, .v, .v, .v, .e (.int .i64 ((x0.2.1.Dims.length : Nat) : Int)), .c true (.tup [.agg [.str y299.1.Row, .dslice (y299.1.Dims.map cLinear)], .agg [.str y299.2.1.Row, .dslice (y299.2.1.Dims.map cLinear)], .int .i64 y299.2.2]), .v, .v, .v, .v, .m, .m, .m, .m, .v], .rg 0 [] [.v, .e (.bool false), .v, .v, .v, .v, .c true (.bool true), .v, .v, .v, .v, .v, .v, .c true (.bool y334), .v, .v], .eqT 157 (.bool false), .rg 0 [] [.v, .v, .v, .v, .c true (.tup [.agg [.str y341.1.Row, .dslice (y341.1.Dims.map cLinear)], .int .i64 y341.2]), .v, .v, .v, .m, .m, .v], .rg 0 [] [.v, .v, .v, .c true (.tup [.agg [.str y344.1.Row, .dslice (y344.1.Dims.map cLinear)], .int .i64 y344.2]), .v, .v, .v, .m, .m, .v], .rg 0 [] [.v, .v, .v, .c true (.tup [.agg [.str y347.1.Row, .dslice (y347.1.Dims.map cLinear)], .int .i64 y347.2]), .v, .v, .v, .m, .m, .v], .rg 0 [] [.v, .b, .cw true [(1, [(1, 0)])] (.tup [.agg [.str y350.1.Row, .dslice (y350.1.Dims.map cLinear)], .int .i64 y350.2]), .v, .v, .v, .m, .m, .v], .rg 0 [] [.v, .e (.bool true), .v, .s, .s, .s, .s, .s, .s, .s, .s, .v, .v, .v, .e (.bool false), .v, .v, .s, .s, .s, .v, .v]] [] [] (all_cons (congrArg (fun x => AV.bool (!x)) c295) (all_cons trivial (all_cons trivial (all_cons (lenm cLinear x0.2.1.Dims) (all_cons Tryz.call43 (all_cons (AFn.is (shape_Split_c y101.1 ((x0.2.1.Dims.length : Nat) : Int) y299 h300)) (all_cons (congrArg (fun x => AV.bool (!x)) c316) (all_cons trivial (all_cons Tryz.call28 (all_cons (AFn.eq (ref11_Equal_c y299.1 x0.1 y320 h321) (congrArg (AV.bool) c330)) (all_cons trivial (all_cons trivial (all_cons Tryz.call28 (all_cons (AFn.is (ref11_Equal_c y299.2.1 x0.2.1 y334 h335)) (all_cons trivial (all_cons (congrArg (fun x => AV.bool (!x)) c337) (all_cons trivial (all_cons trivial (all_cons Tryz.call41 (all_cons (AFn.is (shape_Concat_c x0.2.1 x0.2.2 y341 h342)) (all_cons trivial (all_cons Tryz.call41 (all_cons (AFn.is (shape_Concat_c y101.1 x0.2.2 y344 h345)) (all_cons trivial (all_cons Tryz.call41 (all_cons (AFn.is (shape_Concat_c x0.1 y341.1 y347 h348)) (all_cons Tryz.call41 (all_cons (AFn.is (shape_Concat_c y101.1 (Shape.mk [] []) y350 h351)) (all_cons (congrArg (fun x => AV.bool (!x)) c380) (all_cons (congrArg (AV.bool) c433) all_nil)))))))))))))))))))))))))))))) (by kernel_rfl)
                              · refine some_e H340 fun e440 => ?_
                                subst e440
                                exact p_ret Tryz.mo 16 [.rg 0 [] [.v, .v], .eqT 131 (.bool false), .rg 0 [] [.v, .v, .v, .v, .e (.int .i64 ((x0.2.1.Dims.length : Nat) : Int)), .c true (.tup [.agg [.str y299.1.Row, .dslice (y299.1.Dims.map cLinear)], .agg [.str y299.2.1.Row, .dslice (y299.2.1.Dims.map cLinear)], .int .i64 y299.2.2]), .v, .v, .v, .v, .m, .m, .m, .m, .v], .rg 0 [] [.v, .e (.bool false), .v, .v, .v, .v, .c true (.bool true), .v, .v, .v, .v, .v, .v, .c true (.bool y334), .v, .v], .eqT 157 (.bool true), .rg 0 [] [.v]] [] [] (all_cons (congrArg (fun x => AV.bool (!x)) c295) (all_cons trivial (all_cons trivial (all_cons (lenm cLinear x0.2.1.Dims) (all_cons Tryz.call43 (all_cons (AFn.is (shape_Split_c y101.1 ((x0.2.1.Dims.length : Nat) : Int) y299 h300)) (all_cons (congrArg (fun x => AV.bool (!x)) c316) (all_cons trivial (all_cons Tryz.call28 (all_cons (AFn.eq (ref11_Equal_c y299.1 x0.1 y320 h321) (congrArg (AV.bool) c330)) (all_cons trivial (all_cons trivial (all_cons Tryz.call28 (all_cons (AFn.is (ref11_Equal_c y299.2.1 x0.2.1 y334 h335)) (all_cons trivial (all_cons (congrArg (fun x => AV.bool (!x)) c339) all_nil)))))))))))))))) (by kernel_rfl)
                            · refine some_e H333 fun e441 => ?_
                              subst e441
                              exact p_ret Tryz.mo 15 [.rg 0 [] [.v, .v], .eqT 131 (.bool false), .rg 0 [] [.v, .v, .v, .v, .e (.int .i64 ((x0.2.1.Dims.length : Nat) : Int)), .c true (.tup [.agg [.str y299.1.Row, .dslice (y299.1.Dims.map cLinear)], .agg [.str y299.2.1.Row, .dslice (y299.2.1.Dims.map cLinear)], .int .i64 y299.2.2]), .v, .v, .v, .v, .m, .m, .m, .m, .v], .rg 0 [] [.v, .e (.bool false), .v, .v, .v, .v, .c true (.bool false), .v, .v, .v, .s, .s, .s, .s, .s, .v], .rg 0 [] [.v]] [] [] (all_cons (congrArg (fun x => AV.bool (!x)) c295) (all_cons trivial (all_cons trivial (all_cons (lenm cLinear x0.2.1.Dims) (all_cons Tryz.call43 (all_cons (AFn.is (shape_Split_c y101.1 ((x0.2.1.Dims.length : Nat) : Int) y299 h300)) (all_cons (congrArg (fun x => AV.bool (!x)) c316) (all_cons trivial (all_cons Tryz.call28 (all_cons (AFn.eq (ref11_Equal_c y299.1 x0.1 y320 h321) (congrArg (AV.bool) c332)) (all_cons trivial all_nil))))))))))) (by kernel_rfl)
                          · refine some_e H319 fun e442 => ?_
                            subst e442
                            exact p_ret Tryz.mo 15 [.rg 0 [] [.v, .v], .eqT 131 (.bool false), .rg 0 [] [.v, .v, .v, .v, .e (.int .i64 ((x0.2.1.Dims.length : Nat) : Int)), .c true (.tup [.agg [.str y299.1.Row, .dslice (y299.1.Dims.map cLinear)], .agg [.str y299.2.1.Row, .dslice (y299.2.1.Dims.map cLinear)], .int .i64 y299.2.2]), .v, .v, .v, .v, .m, .m, .m, .m, .v], .rg 0 [] [.v, .e (.bool true), .v, .s, .s, .s, .s, .s, .v, .v, .s, .s, .s, .s, .s, .v], .rg 0 [] [.v]] [] [] (all_cons (congrArg (fun x => AV.bool (!x)) c295) (all_cons trivial (all_cons trivial (all_cons (lenm cLinear x0.2.1.Dims) (all_cons Tryz.call43 (all_cons (AFn.is (shape_Split_c y101.1 ((x0.2.1.Dims.length : Nat) : Int) y299 h300)) (all_cons (congrArg (fun x => AV.bool (!x)) c318) all_nil))))))) (by kernel_rfl)
                        · refine some_e H298 fun e443 => ?_
                          subst e443
                          exact p_ret Tryz.mo 8 [.rg 0 [] [.v, .v], .eqT 131 (.bool true), .rg 0 [] [.v]] [] [] (all_cons (congrArg (fun x => AV.bool (!x)) c297) all_nil) (by kernel_rfl)
                    · refine some_e H235 fun e445 => ?_
                      subst e445
                      exact p_ret Tryz.mo 24 [.rg 0 [] [.m, .v], .rg 0 [] [.c true (.bool true), .v, .v, .v, .v, .c true (.bool true), .v, .v, .v, .v, .v, .c true (.bool true), .v, .v, .v, .v, .v, .c true (.bool y91), .v, .v], .eqT 47 (.bool false), .rg 0 [] [.v, .v, .v, .v, .c true (.tup [.agg [.str y101.1.Row, .dslice (y101.1.Dims.map cLinear)], .int .i64 y101.2]), .v, .v, .v, .m, .m, .v], .rg 0 [] [.v, .v, .v, .v, .c true (.tup [.agg [.str y104.1.Row, .dslice (y104.1.Dims.map cLinear)], .int .i64 y104.2]), .v, .v, .v, .m, .m, .v], .rg 0 [] [.v, .v, .v, .c true (.tup [.agg [.str y107.1.Row, .dslice (y107.1.Dims.map cLinear)], .agg [.str y107.2.1.Row, .dslice (y107.2.1.Dims.map cLinear)], .int .i64 y107.2.2]), .v, .v, .v, .v, .m, .m, .m, .m, .v], .rg 0 [] [.v, .v, .v, .c true (.tup [.agg [.str y110.1.Row, .dslice (y110.1.Dims.map cLinear)], .agg [.str y110.2.1.Row, .dslice (y110.2.1.Dims.map cLinear)], .int .i64 y110.2.2]), .v, .v, .v, .v, .m, .m, .m, .m, .v], .rg 0 [] [.v, .v, .c true (.bool true), .v, .v, .v, .v, .e (.bool false), .v, .v, .v, .v, .c true (.bool true), .v, .v, .v, .v, .v, .c true (.bool true), .v, .v, .v, .v, .v, .c true (.bool true), .v, .v, .v, .v, .v, .v, .v], .eqT 112 (.bool true), .rg 0 [] [.v]] [] [] (all_cons Tryz.call15 (all_cons (AFn.eq (law11_awake_c y1 h2) (congrArg (AV.bool) c37)) (all_cons trivial (all_cons trivial (all_cons Tryz.call16 (all_cons (AFn.eq (ref11_Few_c x0.1 y41 h42) (congrArg (AV.bool) c67)) (all_cons trivial (all_cons trivial (all_cons Tryz.call16 (all_cons (AFn.eq (ref11_Few_c x0.2.1 y71 h72) (congrArg (AV.bool) c87)) (all_cons trivial (all_cons trivial (all_cons Tryz.call16 (all_cons (AFn.is (ref11_Few_c x0.2.2 y91 h92)) (all_cons trivial (all_cons (congrArg (fun x => AV.bool (!x)) c97) (all_cons trivial (all_cons trivial (all_cons Tryz.call41 (all_cons (AFn.is (shape_Concat_c x0.1 x0.2.1 y101 h102)) (all_cons trivial (all_cons trivial (all_cons Tryz.call42 (all_cons (AFn.is (ref11_Concat_c x0.1 x0.2.1 y104 h105)) (all_cons trivial (all_cons Tryz.call43 (all_cons (AFn.is (shape_Split_c x0.1 x1 y107 h108)) (all_cons trivial (all_cons Tryz.call44 (all_cons (AFn.is (ref11_Split_c x0.1 x1 y110 h111)) (all_cons Tryz.call35 (all_cons (AFn.eq (shape_Equal_c y101.1 y104.1 y113 h114) (congrArg (AV.bool) c145)) (all_cons trivial (all_cons (congrArg (fun x => AV.bool (!x)) c174) (all_cons Tryz.call28 (all_cons (AFn.eq (ref11_Equal_c y101.1 y104.1 y178 h179) (congrArg (AV.bool) c199)) (all_cons trivial (all_cons Tryz.call28 (all_cons (AFn.eq (ref11_Equal_c y107.1 y110.1 y203 h204) (congrArg (AV.bool) c217)) (all_cons trivial (all_cons Tryz.call28 (all_cons (AFn.eq (ref11_Equal_c y107.2.1 y110.2.1 y221 h222) (congrArg (AV.bool) c228)) (all_cons trivial (all_cons (congrArg (fun x => AV.bool (!x)) c234) all_nil)))))))))))))))))))))))))))))))))))))))))))) (by kernel_rfl)
                  · refine some_e H231 fun e446 => ?_
                    subst e446
                    exact p_ret Tryz.mo 23 [.rg 0 [] [.m, .v], .rg 0 [] [.c true (.bool true), .v, .v, .v, .v, .c true (.bool true), .v, .v, .v, .v, .v, .c true (.bool true), .v, .v, .v, .v, .v, .c true (.bool y91), .v, .v], .eqT 47 (.bool false), .rg 0 [] [.v, .v, .v, .v, .c true (.tup [.agg [.str y101.1.Row, .dslice (y101.1.Dims.map cLinear)], .int .i64 y101.2]), .v, .v, .v, .m, .m, .v], .rg 0 [] [.v, .v, .v, .v, .c true (.tup [.agg [.str y104.1.Row, .dslice (y104.1.Dims.map cLinear)], .int .i64 y104.2]), .v, .v, .v, .m, .m, .v], .rg 0 [] [.v, .v, .v, .c true (.tup [.agg [.str y107.1.Row, .dslice (y107.1.Dims.map cLinear)], .agg [.str y107.2.1.Row, .dslice (y107.2.1.Dims.map cLinear)], .int .i64 y107.2.2]), .v, .v, .v, .v, .m, .m, .m, .m, .v], .rg 0 [] [.v, .v, .v, .c true (.tup [.agg [.str y110.1.Row, .dslice (y110.1.Dims.map cLinear)], .agg [.str y110.2.1.Row, .dslice (y110.2.1.Dims.map cLinear)], .int .i64 y110.2.2]), .v, .v, .v, .v, .m, .m, .m, .m, .v], .rg 0 [] [.v, .v, .c true (.bool true), .v, .v, .v, .v, .e (.bool false), .v, .v, .v, .v, .c true (.bool true), .v, .v, .v, .v, .v, .c true (.bool true), .v, .v, .v, .v, .v, .c true (.bool false), .v, .v, .v, .s, .s, .s, .v], .rg 0 [] [.v]] [] [] (all_cons Tryz.call15 (all_cons (AFn.eq (law11_awake_c y1 h2) (congrArg (AV.bool) c37)) (all_cons trivial (all_cons trivial (all_cons Tryz.call16 (all_cons (AFn.eq (ref11_Few_c x0.1 y41 h42) (congrArg (AV.bool) c67)) (all_cons trivial (all_cons trivial (all_cons Tryz.call16 (all_cons (AFn.eq (ref11_Few_c x0.2.1 y71 h72) (congrArg (AV.bool) c87)) (all_cons trivial (all_cons trivial (all_cons Tryz.call16 (all_cons (AFn.is (ref11_Few_c x0.2.2 y91 h92)) (all_cons trivial (all_cons (congrArg (fun x => AV.bool (!x)) c97) (all_cons trivial (all_cons trivial (all_cons Tryz.call41 (all_cons (AFn.is (shape_Concat_c x0.1 x0.2.1 y101 h102)) (all_cons trivial (all_cons trivial (all_cons Tryz.call42 (all_cons (AFn.is (ref11_Concat_c x0.1 x0.2.1 y104 h105)) (all_cons trivial (all_cons Tryz.call43 (all_cons (AFn.is (shape_Split_c x0.1 x1 y107 h108)) (all_cons trivial (all_cons Tryz.call44 (all_cons (AFn.is (ref11_Split_c x0.1 x1 y110 h111)) (all_cons Tryz.call35 (all_cons (AFn.eq (shape_Equal_c y101.1 y104.1 y113 h114) (congrArg (AV.bool) c145)) (all_cons trivial (all_cons (congrArg (fun x => AV.bool (!x)) c174) (all_cons Tryz.call28 (all_cons (AFn.eq (ref11_Equal_c y101.1 y104.1 y178 h179) (congrArg (AV.bool) c199)) (all_cons trivial (all_cons Tryz.call28 (all_cons (AFn.eq (ref11_Equal_c y107.1 y110.1 y203 h204) (congrArg (AV.bool) c217)) (all_cons trivial (all_cons Tryz.call28 (all_cons (AFn.eq (ref11_Equal_c y107.2.1 y110.2.1 y221 h222) (congrArg (AV.bool) c230)) (all_cons trivial all_nil))))))))))))))))))))))))))))))))))))))))))) (by kernel_rfl)
                · refine some_e H220 fun e447 => ?_
                  subst e447
                  exact p_ret Tryz.mo 23 [.rg 0 [] [.m, .v], .rg 0 [] [.c true (.bool true), .v, .v, .v, .v, .c true (.bool true), .v, .v, .v, .v, .v, .c true (.bool true), .v, .v, .v, .v, .v, .c true (.bool y91), .v, .v], .eqT 47 (.bool false), .rg 0 [] [.v, .v, .v, .v, .c true (.tup [.agg [.str y101.1.Row, .dslice (y101.1.Dims.map cLinear)], .int .i64 y101.2]), .v, .v, .v, .m, .m, .v], .rg 0 [] [.v, .v, .v, .v, .c true (.tup [.agg [.str y104.1.Row, .dslice (y104.1.Dims.map cLinear)], .int .i64 y104.2]), .v, .v, .v, .m, .m, .v], .rg 0 [] [.v, .v, .v, .c true (.tup [.agg [.str y107.1.Row, .dslice (y107.1.Dims.map cLinear)], .agg [.str y107.2.1.Row, .dslice (y107.2.1.Dims.map cLinear)], .int .i64 y107.2.2]), .v, .v, .v, .v, .m, .m, .m, .m, .v], .rg 0 [] [.v, .v, .v, .c true (.tup [.agg [.str y110.1.Row, .dslice (y110.1.Dims.map cLinear)], .agg [.str y110.2.1.Row, .dslice (y110.2.1.Dims.map cLinear)], .int .i64 y110.2.2]), .v, .v, .v, .v, .m, .m, .m, .m, .v], .rg 0 [] [.v, .v, .c true (.bool true), .v, .v, .v, .v, .e (.bool false), .v, .v, .v, .v, .c true (.bool true), .v, .v, .v, .v, .v, .c true (.bool false), .v, .v, .v, .s, .s, .s, .s, .v, .v, .s, .s, .s, .v], .rg 0 [] [.v]] [] [] (all_cons Tryz.call15 (all_cons (AFn.eq (law11_awake_c y1 h2) (congrArg (AV.bool) c37)) (all_cons trivial (all_cons trivial (all_cons Tryz.call16 (all_cons (AFn.eq (ref11_Few_c x0.1 y41 h42) (congrArg (AV.bool) c67)) (all_cons trivial (all_cons trivial (all_cons Tryz.call16 (all_cons (AFn.eq (ref11_Few_c x0.2.1 y71 h72) (congrArg (AV.bool) c87)) (all_cons trivial (all_cons trivial (all_cons Tryz.call16 (all_cons (AFn.is (ref11_Few_c x0.2.2 y91 h92)) (all_cons trivial (all_cons (congrArg (fun x => AV.bool (!x)) c97) (all_cons trivial (all_cons trivial (all_cons Tryz.call41 (all_cons (AFn.is (shape_Concat_c x0.1 x0.2.1 y101 h102)) (all_cons trivial (all_cons trivial (all_cons Tryz.call42 (all_cons (AFn.is (ref11_Concat_c x0.1 x0.2.1 y104 h105)) (all_cons trivial (all_cons Tryz.call43 (all_cons (AFn.is (shape_Split_c x0.1 x1 y107 h108)) (all_cons trivial (all_cons Tryz.call44 (all_cons (AFn.is (ref11_Split_c x0.1 x1 y110 h111)) (all_cons Tryz.call35 (all_cons (AFn.eq (shape_Equal_c y101.1 y104.1 y113 h114) (congrArg (AV.bool) c145)) (all_cons trivial (all_cons (congrArg (fun x => AV.bool (!x)) c174) (all_cons Tryz.call28 (all_cons (AFn.eq (ref11_Equal_c y101.1 y104.1 y178 h179) (congrArg (AV.bool) c199)) (all_cons trivial (all_cons Tryz.call28 (all_cons (AFn.eq (ref11_Equal_c y107.1 y110.1 y203 h204) (congrArg (AV.bool) c219)) (all_cons trivial all_nil)))))))))))))))))))))))))))))))))))))))) (by kernel_rfl)
              · refine some_e H202 fun e448 => ?_
                subst e448
                exact p_ret Tryz.mo 23 [.rg 0 [] [.m, .v], .rg 0 [] [.c true (.bool true), .v, .v, .v, .v, .c true (.bool true), .v, .v, .v, .v, .v, .c true (.bool true), .v, .v, .v, .v, .v, .c true (.bool y91), .v, .v], .eqT 47 (.bool false), .rg 0 [] [.v, .v, .v, .v, .c true (.tup [.agg [.str y101.1.Row, .dslice (y101.1.Dims.map cLinear)], .int .i64 y101.2]), .v, .v, .v, .m, .m, .v], .rg 0 [] [.v, .v, .v, .v, .c true (.tup [.agg [.str y104.1.Row, .dslice (y104.1.Dims.map cLinear)], .int .i64 y104.2]), .v, .v, .v, .m, .m, .v], .rg 0 [] [.v, .v, .v, .c true (.tup [.agg [.str y107.1.Row, .dslice (y107.1.Dims.map cLinear)], .agg [.str y107.2.1.Row, .dslice (y107.2.1.Dims.map cLinear)], .int .i64 y107.2.2]), .v, .v, .v, .v, .m, .m, .m, .m, .v], .rg 0 [] [.v, .v, .v, .c true (.tup [.agg [.str y110.1.Row, .dslice (y110.1.Dims.map cLinear)], .agg [.str y110.2.1.Row, .dslice (y110.2.1.Dims.map cLinear)], .int .i64 y110.2.2]), .v, .v, .v, .v, .m, .m, .m, .m, .v], .rg 0 [] [.v, .v, .c true (.bool true), .v, .v, .v, .v, .e (.bool false), .v, .v, .v, .v, .c true (.bool false), .v, .v, .v, .s, .s, .s, .s, .v, .v, .s, .s, .s, .s, .v, .v, .s, .s, .s, .v], .rg 0 [] [.v]] [] [] (all_cons Tryz.call15 (all_cons (AFn.eq (law11_awake_c y1 h2) (congrArg (AV.bool) c37)) (all_cons trivial (all_cons trivial (all_cons Tryz.call16 (all_cons (AFn.eq (ref11_Few_c x0.1 y41 h42) (congrArg (AV.bool) c67)) (all_cons trivial (all_cons trivial (all_cons Tryz.call16 (all_cons (AFn.eq (ref11_Few_c x0.2.1 y71 h72) (congrArg (AV.bool) c87)) (all_cons trivial (all_cons trivial (all_cons Tryz.call16 (all_cons (AFn.is (ref11_Few_c x0.2.2 y91 h92)) (all_cons trivial (all_cons (congrArg (fun x => AV.bool (!x)) c97) (all_cons trivial (all_cons trivial (all_cons Tryz.call41 (all_cons (AFn.is (shape_Concat_c x0.1 x0.2.1 y101 h102)) (all_cons trivial (all_cons trivial (all_cons Tryz.call42 (all_cons (AFn.is (ref11_Concat_c x0.1 x0.2.1 y104 h105)) (all_cons trivial (all_cons Tryz.call43 (all_cons (AFn.is (shape_Split_c x0.1 x1 y107 h108)) (all_cons trivial (all_cons Tryz.call44 (all_cons (AFn.is (ref11_Split_c x0.1 x1 y110 h111)) (all_cons Tryz.call35 (all_cons (AFn.eq (shape_Equal_c y101.1 y104.1 y113 h114) (congrArg (AV.bool) c145)) (all_cons trivial (all_cons (congrArg (fun x => AV.bool (!x)) c174) (all_cons Tryz.call28 (all_cons (AFn.eq (ref11_Equal_c y101.1 y104.1 y178 h179) (congrArg (AV.bool) c201)) (all_cons trivial all_nil))))))))))))))))))))))))))))))))))))) (by kernel_rfl)
            · refine some_e H177 fun e449 => ?_
              subst e449
              exact p_ret Tryz.mo 23 [.rg 0 [] [.m, .v], .rg 0 [] [.c true (.bool true), .v, .v, .v, .v, .c true (.bool true), .v, .v, .v, .v, .v, .c true (.bool true), .v, .v, .v, .v, .v, .c true (.bool y91), .v, .v], .eqT 47 (.bool false), .rg 0 [] [.v, .v, .v, .v, .c true (.tup [.agg [.str y101.1.Row, .dslice (y101.1.Dims.map cLinear)], .int .i64 y101.2]), .v, .v, .v, .m, .m, .v], .rg 0 [] [.v, .v, .v, .v, .c true (.tup [.agg [.str y104.1.Row, .dslice (y104.1.Dims.map cLinear)], .int .i64 y104.2]), .v, .v, .v, .m, .m, .v], .rg 0 [] [.v, .v, .v, .c true (.tup [.agg [.str y107.1.Row, .dslice (y107.1.Dims.map cLinear)], .agg [.str y107.2.1.Row, .dslice (y107.2.1.Dims.map cLinear)], .int .i64 y107.2.2]), .v, .v, .v, .v, .m, .m, .m, .m, .v], .rg 0 [] [.v, .v, .v, .c true (.tup [.agg [.str y110.1.Row, .dslice (y110.1.Dims.map cLinear)], .agg [.str y110.2.1.Row, .dslice (y110.2.1.Dims.map cLinear)], .int .i64 y110.2.2]), .v, .v, .v, .v, .m, .m, .m, .m, .v], .rg 0 [] [.v, .v, .c true (.bool true), .v, .v, .v, .v, .e (.bool true), .v, .v, .s, .s, .s, .s, .v, .v, .s, .s, .s, .s, .v, .v, .s, .s, .s, .s, .v, .v, .s, .s, .s, .v], .rg 0 [] [.v]] [] [] (all_cons Tryz.call15 (all_cons (AFn.eq (law11_awake_c y1 h2) (congrArg (AV.bool) c37)) (all_cons trivial (all_cons trivial (all_cons Tryz.call16 (all_cons (AFn.eq (ref11_Few_c x0.1 y41 h42) (congrArg (AV.bool) c67)) (all_cons trivial (all_cons trivial (all_cons Tryz.call16 (all_cons (AFn.eq (ref11_Few_c x0.2.1 y71 h72) (congrArg (AV.bool) c87)) (all_cons trivial (all_cons trivial (all_cons Tryz.call16 (all_cons (AFn.is (ref11_Few_c x0.2.2 y91 h92)) (all_cons trivial (all_cons (congrArg (fun x => AV.bool (!x)) c97) (all_cons trivial (all_cons trivial (all_cons Tryz.call41 (all_cons (AFn.is (shape_Concat_c x0.1 x0.2.1 y101 h102)) (all_cons trivial (all_cons trivial (all_cons Tryz.call42 (all_cons (AFn.is (ref11_Concat_c x0.1 x0.2.1 y104 h105)) (all_cons trivial (all_cons Tryz.call43 (all_cons (AFn.is (shape_Split_c x0.1 x1 y107 h108)) (all_cons trivial (all_cons Tryz.call44 (all_cons (AFn.is (ref11_Split_c x0.1 x1 y110 h111)) (all_cons Tryz.call35 (all_cons (AFn.eq (shape_Equal_c y101.1 y104.1 y113 h114) (congrArg (AV.bool) c145)) (all_cons trivial (all_cons (congrArg (fun x => AV.bool (!x)) c176) all_nil)))))))))))))))))))))))))))))))))) (by kernel_rfl)
          · refine some_e H148 fun e450 => ?_
            subst e450
            exact p_ret Tryz.mo 23 [.rg 0 [] [.m, .v], .rg 0 [] [.c true (.bool true), .v, .v, .v, .v, .c true (.bool true), .v, .v, .v, .v, .v, .c true (.bool true), .v, .v, .v, .v, .v, .c true (.bool y91), .v, .v], .eqT 47 (.bool false), .rg 0 [] [.v, .v, .v, .v, .c true (.tup [.agg [.str y101.1.Row, .dslice (y101.1.Dims.map cLinear)], .int .i64 y101.2]), .v, .v, .v, .m, .m, .v], .rg 0 [] [.v, .v, .v, .v, .c true (.tup [.agg [.str y104.1.Row, .dslice (y104.1.Dims.map cLinear)], .int .i64 y104.2]), .v, .v, .v, .m, .m, .v], .rg 0 [] [.v, .v, .v, .c true (.tup [.agg [.str y107.1.Row, .dslice (y107.1.Dims.map cLinear)], .agg [.str y107.2.1.Row, .dslice (y107.2.1.Dims.map cLinear)], .int .i64 y107.2.2]), .v, .v, .v, .v, .m, .m, .m, .m, .v], .rg 0 [] [.v, .v, .v, .c true (.tup [.agg [.str y110.1.Row, .dslice (y110.1.Dims.map cLinear)], .agg [.str y110.2.1.Row, .dslice (y110.2.1.Dims.map cLinear)], .int .i64 y110.2.2]), .v, .v, .v, .v, .m, .m, .m, .m, .v], .rg 0 [] [.v, .v, .c true (.bool false), .v, .v, .s, .s, .s, .v, .v, .s, .s, .s, .s, .v, .v, .s, .s, .s, .s, .v, .v, .s, .s, .s, .s, .v, .v, .s, .s, .s, .v], .rg 0 [] [.v]] [] [] (all_cons Tryz.call15 (all_cons (AFn.eq (law11_awake_c y1 h2) (congrArg (AV.bool) c37)) (all_cons trivial (all_cons trivial (all_cons Tryz.call16 (all_cons (AFn.eq (ref11_Few_c x0.1 y41 h42) (congrArg (AV.bool) c67)) (all_cons trivial (all_cons trivial (all_cons Tryz.call16 (all_cons (AFn.eq (ref11_Few_c x0.2.1 y71 h72) (congrArg (AV.bool) c87)) (all_cons trivial (all_cons trivial (all_cons Tryz.call16 (all_cons (AFn.is (ref11_Few_c x0.2.2 y91 h92)) (all_cons trivial (all_cons (congrArg (fun x => AV.bool (!x)) c97) (all_cons trivial (all_cons trivial (all_cons Tryz.call41 (all_cons (AFn.is (shape_Concat_c x0.1 x0.2.1 y101 h102)) (all_cons trivial (all_cons trivial (all_cons Tryz.call42 (all_cons (AFn.is (ref11_Concat_c x0.1 x0.2.1 y104 h105)) (all_cons trivial (all_cons Tryz.call43 (all_cons (AFn.is (shape_Split_c x0.1 x1 y107 h108)) (all_cons trivial (all_cons Tryz.call44 (all_cons (AFn.is (ref11_Split_c x0.1 x1 y110 h111)) (all_cons Tryz.call35 (all_cons (AFn.eq (shape_Equal_c y101.1 y104.1 y113 h114) (congrArg (AV.bool) c147)) (all_cons trivial all_nil))))))))))))))))))))))))))))))))) (by kernel_rfl)
        · refine bnd H100 fun y451 h452 H453 => ?_
          refine some_e H453 fun e454 => ?_
          subst e454
          exact p_ret Tryz.mo 10 [.rg 0 [] [.m, .v], .rg 0 [] [.c true (.bool true), .v, .v, .v, .v, .c true (.bool true), .v, .v, .v, .v, .v, .c true (.bool true), .v, .v, .v, .v, .v, .c true (.bool y91), .v, .v], .eqT 47 (.bool true), .rg 0 [] [.c true (.bool y451), .v]] [] [] (all_cons Tryz.call15 (all_cons (AFn.eq (law11_awake_c y1 h2) (congrArg (AV.bool) c37)) (all_cons trivial (all_cons trivial (all_cons Tryz.call16 (all_cons (AFn.eq (ref11_Few_c x0.1 y41 h42) (congrArg (AV.bool) c67)) (all_cons trivial (all_cons trivial (all_cons Tryz.call16 (all_cons (AFn.eq (ref11_Few_c x0.2.1 y71 h72) (congrArg (AV.bool) c87)) (all_cons trivial (all_cons trivial (all_cons Tryz.call16 (all_cons (AFn.is (ref11_Few_c x0.2.2 y91 h92)) (all_cons trivial (all_cons (congrArg (fun x => AV.bool (!x)) c99) (all_cons Tryz.call15 (all_cons (AFn.is (law11_awake_c y451 h452)) all_nil)))))))))))))))))) (by kernel_rfl)
      · refine bnd H90 fun y455 h456 H457 => ?_
        refine some_e H457 fun e458 => ?_
        subst e458
        exact p_ret Tryz.mo 9 [.rg 0 [] [.m, .v], .rg 0 [] [.c true (.bool true), .v, .v, .v, .v, .c true (.bool true), .v, .v, .v, .v, .v, .c true (.bool false), .v, .v, .v, .s, .s, .s, .s, .v], .rg 0 [] [.c true (.bool y455), .v]] [] [] (all_cons Tryz.call15 (all_cons (AFn.eq (law11_awake_c y1 h2) (congrArg (AV.bool) c37)) (all_cons trivial (all_cons trivial (all_cons Tryz.call16 (all_cons (AFn.eq (ref11_Few_c x0.1 y41 h42) (congrArg (AV.bool) c67)) (all_cons trivial (all_cons trivial (all_cons Tryz.call16 (all_cons (AFn.eq (ref11_Few_c x0.2.1 y71 h72) (congrArg (AV.bool) c89)) (all_cons trivial (all_cons Tryz.call15 (all_cons (AFn.is (law11_awake_c y455 h456)) all_nil))))))))))))) (by kernel_rfl)
    · refine bnd H70 fun y459 h460 H461 => ?_
      refine some_e H461 fun e462 => ?_
      subst e462
      exact p_ret Tryz.mo 9 [.rg 0 [] [.m, .v], .rg 0 [] [.c true (.bool true), .v, .v, .v, .v, .c true (.bool false), .v, .v, .v, .s, .s, .s, .s, .v, .v, .s, .s, .s, .s, .v], .rg 0 [] [.c true (.bool y459), .v]] [] [] (all_cons Tryz.call15 (all_cons (AFn.eq (law11_awake_c y1 h2) (congrArg (AV.bool) c37)) (all_cons trivial (all_cons trivial (all_cons Tryz.call16 (all_cons (AFn.eq (ref11_Few_c x0.1 y41 h42) (congrArg (AV.bool) c69)) (all_cons trivial (all_cons Tryz.call15 (all_cons (AFn.is (law11_awake_c y459 h460)) all_nil))))))))) (by kernel_rfl)
  · refine bnd H40 fun y463 h464 H465 => ?_
    refine some_e H465 fun e466 => ?_
    subst e466
    exact p_ret Tryz.mo 9 [.rg 0 [] [.m, .v], .rg 0 [] [.c true (.bool false), .v, .v, .s, .s, .s, .s, .v, .v, .s, .s, .s, .s, .v, .v, .s, .s, .s, .s, .v], .rg 0 [] [.c true (.bool y463), .v]] [] [] (all_cons Tryz.call15 (all_cons (AFn.eq (law11_awake_c y1 h2) (congrArg (AV.bool) c39)) (all_cons trivial (all_cons Tryz.call15 (all_cons (AFn.is (law11_awake_c y463 h464)) all_nil))))) (by kernel_rfl)

end Go.Proofs.YtjfpcjnopbfekaaGreatDoor
