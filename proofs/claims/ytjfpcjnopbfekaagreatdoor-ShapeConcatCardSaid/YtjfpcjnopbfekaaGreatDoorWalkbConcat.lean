/- What functions of the program compute, walked: each as a plain function, with the theorem that the code computes it wherever that answers. Printed by a program (gen3.py), part 2. -/
import Derived.Test.YtjfpcjnopbfekaaGreatDoorLibC
import Derived.Test.YtjfpcjnopbfekaaGreatDoorAbN
import Derived.KernelRfl
import Derived.Test.YtjfpcjnopbfekaaGreatDoorProg
import Derived.Test.YtjfpcjnopbfekaaGreatDoorWalkaConcat
set_option linter.unusedSimpArgs false
set_option linter.unusedVariables false
namespace Go.Proofs.YtjfpcjnopbfekaaGreatDoor
open Go.RowKit Go.Ab Go.Sh
/-- (*framewise/linear.reader).take -/
def linear_reader_take_2 (x0 : Str) (x1 : Int) (x2 : (List (Str × Int))) : Option (Str × Str) :=
  (cnt (σ := Unit) (ε := Nat) (ρ := Empty) (fun i134 s133 =>
    (linear_digit (x0.getD i134 0)).bind fun y170 =>
    bif y170 then (
      some (.go ())
    ) else (
      some (.brk i134)
    )
  ) (fun i134 s133 => i134) (x0.length - 0) 0 ()).bind <| aftE fun u184 =>
  grd (u184 ≤ x0.length) <|
  some ((x0.take u184), (x0.drop u184))
def linear_reader_take_2_S1 (x0 : Str) (x1 : Int) (x2 : (List (Str × Int))) (i134 : Nat) (s133 : Unit) : AS := ⟨42, [(0, .hptr 1000 0), (1, .fn 225 []), (4, .str []), (5, .int .i64 ((i134 : Nat) : Int))], [(1000, .cells 165 [.str x0, .int .i64 x1, .amap 1001]), (1001, .smap 9 3 (x2.map (mapV cInt_i64)))]⟩
def linear_reader_take_2_S2 (x0 : Str) (x1 : Int) (x2 : (List (Str × Int))) (u160 : Nat) : AS := ⟨42, [(0, .hptr 1000 0), (4, .str []), (5, .int .i64 ((u160 : Nat) : Int))], [(1000, .cells 165 [.str x0, .int .i64 x1, .amap 1001]), (1001, .smap 9 3 (x2.map (mapV cInt_i64)))]⟩
theorem linear_reader_take_2_c (x0 : Str) (x1 : Int) (x2 : (List (Str × Int))) (r : (Str × Str)) (H : linear_reader_take_2 x0 x1 x2 = some r) : ACall Tryz.prog 270 [.hptr 1000 0, .fn 225 []] [(1000, .cells 165 [.str x0, .int .i64 x1, .amap 1001]), (1001, .smap 9 3 (x2.map (mapV cInt_i64)))] (fun r2 h2 => r2 = (.str r.1) ∧ h2 = [(1000, .cells 165 [.str r.2, .int .i64 x1, .amap 1001]), (1001, .smap 9 3 (x2.map (mapV cInt_i64)))]) := by
  unfold linear_reader_take_2 at H
  refine acallX Tryz.func270 42 [.tmp 4] (by kernel_rfl) (by kernel_rfl) ?_
  refine p_at Tryz.mo 6 [.rg 0 [] [.v], .rg 0 [] [.v]] [.only [0, 1, 4, 5] [1000, 1001]] 6 [] (linear_reader_take_2_S1 x0 x1 x2 0 ()) all_nil (by kernel_rfl) ?_
  refine bnd H fun R157 h158 H159 => ?_
  refine p_joinO 1 (linear_reader_take_2_S2 x0 x1 x2) R157 (by kernel_rfl) ?_ (fun u184 e185 => ?_)
  · refine p_cnt (linear_reader_take_2_S1 x0 x1 x2) (by kernel_rfl) h158 (fun i134 s133 h161 e162 => ?_) (fun i134 s133 h169 q165 h166 h167 => ?_)
    · have c163 : decide (((i134 : Nat) : Int) < ((x0.length : Nat) : Int)) = false := decide_eq_false (by omega)
      subst e162
      exact p_bar Tryz.mo 5 [.rg 0 [] [.v, .v, .v, .v, .v, .v, .e (.bool false), .v, .s, .s, .s, .s, .s, .s, .s, .s, .v]] [.only [0, 4, 5] [1000, 1001]] (linear_reader_take_2_S2 x0 x1 x2 i134) (all_cons trivial (all_cons (congrArg (AV.bool) c163) all_nil)) (by kernel_rfl)
    · have c168 : decide (((i134 : Nat) : Int) < ((x0.length : Nat) : Int)) = true := decide_eq_true (by omega)
      refine bnd h166 fun y170 h171 H172 => ?_
      refine bsp H172 (fun c173 H174 => ?_) (fun c175 H176 => ?_)
      · refine t_lensH 1000 0 (ps := [x0.length ≤ 9223372036854775807]) (by kernel_rfl) (fun l179 => ?_)
        have l180 : x0.length ≤ 9223372036854775807 := by simpa only [All, List.length_map] using l179
        clear l179
        refine some_e H174 fun e181 => ?_
        subst e181
        exact p_bar Tryz.mo 8 [.rg 0 [] [.v, .v, .v, .v, .v, .v, .e (.bool true), .v, .v, .v, .v, .v, .v, .v, .v, .c true (.bool y170), .v], .eqT 23 (.bool true), .rg 0 [] [.v, .v, .v]] [.only [0, 1, 4, 5] [1000, 1001]] (linear_reader_take_2_S1 x0 x1 x2 (i134 + 1) ()) (all_cons trivial (all_cons (congrArg (AV.bool) c168) (all_cons (show (0 : Int) ≤ ((i134 : Nat) : Int) ∧ ((i134 : Nat) : Int) < (x0.length : Int) from by omega) (all_cons Tryz.call225 (all_cons (AFn.is (linear_digit_c (x0.getD i134 0) y170 h171)) (all_cons (congrArg (AV.bool) c173) (all_cons (show I64 (((i134 : Nat) : Int) + 1) from by unfold I64; omega) all_nil))))))) (by kernel_rfl)
      · refine some_e H176 fun e182 => ?_
        subst e182
        have e183 := out_brk h167
        subst e183
        exact p_bar Tryz.mo 6 [.rg 0 [] [.v, .v, .v, .v, .v, .v, .e (.bool true), .v, .v, .v, .v, .v, .v, .v, .v, .c true (.bool y170), .v], .eqT 23 (.bool false)] [.only [0, 4, 5] [1000, 1001]] (linear_reader_take_2_S2 x0 x1 x2 i134) (all_cons trivial (all_cons (congrArg (AV.bool) c168) (all_cons (show (0 : Int) ≤ ((i134 : Nat) : Int) ∧ ((i134 : Nat) : Int) < (x0.length : Int) from by omega) (all_cons Tryz.call225 (all_cons (AFn.is (linear_digit_c (x0.getD i134 0) y170 h171)) (all_cons (congrArg (AV.bool) c175) all_nil)))))) (by kernel_rfl)
  · subst e185
    have H186 := aftE_brk H159
    refine grd_e H186 fun g187 H188 => ?_
    refine some_e H188 fun e189 => ?_
    subst e189
    exact p_ret Tryz.mo 7 [.rg 0 [] [.v, .v, .v, .v, .v, .e (.str (x0.take u184)), .v], .rg 0 [] [.v, .v, .v, .v, .v, .v, .e (.str (x0.drop u184)), .v, .v, .m], .rg 0 [] [.v, .v]] [] [1000, 1001] (all_cons (show (0 : Int) ≤ 0 ∧ 0 ≤ ((u184 : Nat) : Int) ∧ ((u184 : Nat) : Int) ≤ (x0.length : Int) from by omega) (all_cons (sl_take x0 u184) (all_cons (show (0 : Int) ≤ ((u184 : Nat) : Int) ∧ ((u184 : Nat) : Int) ≤ (x0.length : Int) ∧ (x0.length : Int) ≤ (x0.length : Int) from by omega) (all_cons (sl_drop x0 u184) all_nil)))) (by kernel_rfl)
/-- (*framewise/linear.reader).number -/
def linear_reader_number (x0 : Str) (x1 : Int) (x2 : (List (Str × Int))) : Option ((Int × Bool) × Str) :=
  (linear_reader_take_2 x0 x1 x2).bind fun y37 =>
  (lib_Atoi y37.1).bind fun y40 =>
  bif y40.2 then (
    bif decide (((y37.1.length : Nat) : Int) ≤ 7) then (
      grd (0 < y37.1.length) <|
      bif (((y37.1.getD 0 0).toNat : Int) == 48) then (
        some ((y40.1, (y37.1 == [48])), y37.2)
      ) else (
        some ((y40.1, true), y37.2)
      )
    ) else (
      some ((y40.1, false), y37.2)
    )
  ) else (
    some ((y40.1, false), y37.2)
  )
theorem linear_reader_number_c (x0 : Str) (x1 : Int) (x2 : (List (Str × Int))) (r : ((Int × Bool) × Str)) (H : linear_reader_number x0 x1 x2 = some r) : ACall Tryz.prog 227 [.hptr 1000 0] [(1000, .cells 165 [.str x0, .int .i64 x1, .amap 1001]), (1001, .smap 9 3 (x2.map (mapV cInt_i64)))] (fun r2 h2 => r2 = (.tup [.int .i64 r.1.1, .bool r.1.2]) ∧ h2 = [(1000, .cells 165 [.str r.2, .int .i64 x1, .amap 1001]), (1001, .smap 9 3 (x2.map (mapV cInt_i64)))]) := by
  unfold linear_reader_number at H
  refine acallX Tryz.func227 31 [.tmp 2, .tmp 3] (by kernel_rfl) (by kernel_rfl) ?_
  refine bnd H fun y37 h38 H39 => ?_
  refine bnd H39 fun y40 h41 H42 => ?_
  refine bsp H42 (fun c53 H54 => ?_) (fun c55 H56 => ?_)
  · refine bsp H54 (fun c63 H64 => ?_) (fun c65 H66 => ?_)
    · have c63p := of_decide_eq_true c63
      refine grd_e H64 fun g67 H68 => ?_
      refine bsp H68 (fun c69 H70 => ?_) (fun c71 H72 => ?_)
      · refine some_e H70 fun e73 => ?_
        subst e73
        exact p_ret Tryz.mo 10 [.rg 0 [] [.v, .v], .rg 0 [] [.v, .hR [(1000, 1000), (1001, 1001)] 8 (.str y37.1) [(1000, .cells 165 [.str y37.2, .int .i64 x1, .amap 1001]), (1001, .smap 9 3 (x2.map (mapV cInt_i64)))], .v], .rg 0 [] [.v, .cf true (.tup [.int .i64 y40.1, errV 272 y40.2]), .v, .v, .v, .v, .v], .eqT 6 (.nilI), .rg 0 [] [.v, .v, .v, .v, .v, .v, .e (.bool true), .v, .v, .v, .v, .e (.bool false), .v, .v, .v, .v, .v, .v, .v]] [] [1000, 1001] (all_cons Tryz.call270 (all_cons (linear_reader_take_2_c x0 x1 x2 y37 h38) (all_cons Tryz.call167 (all_cons (AFn.is (lib_Atoi_c y37.1 y40 h41)) (all_cons (show okRes true (.tup [.int .i64 y40.1, errV 272 y40.2]) = true from by cases h0 : y40.2 <;> rfl) (all_cons (congrArg (errV 272) c53) (all_cons trivial (all_cons (congrArg (AV.bool) c63) (all_cons (show (0 : Int) ≤ 0 ∧ 0 < (y37.1.length : Int) from by omega) (all_cons (congrArg (fun x => AV.bool (!x)) c69) all_nil)))))))))) (by kernel_rfl)
      · refine some_e H72 fun e74 => ?_
        subst e74
        exact p_ret Tryz.mo 10 [.rg 0 [] [.v, .v], .rg 0 [] [.v, .hR [(1000, 1000), (1001, 1001)] 8 (.str y37.1) [(1000, .cells 165 [.str y37.2, .int .i64 x1, .amap 1001]), (1001, .smap 9 3 (x2.map (mapV cInt_i64)))], .v], .rg 0 [] [.v, .cf true (.tup [.int .i64 y40.1, errV 272 y40.2]), .v, .v, .v, .v, .v], .eqT 6 (.nilI), .rg 0 [] [.v, .v, .v, .v, .v, .v, .e (.bool true), .v, .v, .v, .v, .e (.bool true), .v, .s, .s, .v, .v, .v, .v]] [] [1000, 1001] (all_cons Tryz.call270 (all_cons (linear_reader_take_2_c x0 x1 x2 y37 h38) (all_cons Tryz.call167 (all_cons (AFn.is (lib_Atoi_c y37.1 y40 h41)) (all_cons (show okRes true (.tup [.int .i64 y40.1, errV 272 y40.2]) = true from by cases h0 : y40.2 <;> rfl) (all_cons (congrArg (errV 272) c53) (all_cons trivial (all_cons (congrArg (AV.bool) c63) (all_cons (show (0 : Int) ≤ 0 ∧ 0 < (y37.1.length : Int) from by omega) (all_cons (congrArg (fun x => AV.bool (!x)) c71) all_nil)))))))))) (by kernel_rfl)
    · have c65p := of_decide_eq_false c65
      refine some_e H66 fun e75 => ?_
      subst e75
      exact p_ret Tryz.mo 10 [.rg 0 [] [.v, .v], .rg 0 [] [.v, .hR [(1000, 1000), (1001, 1001)] 8 (.str y37.1) [(1000, .cells 165 [.str y37.2, .int .i64 x1, .amap 1001]), (1001, .smap 9 3 (x2.map (mapV cInt_i64)))], .v], .rg 0 [] [.v, .cf true (.tup [.int .i64 y40.1, errV 272 y40.2]), .v, .v, .v, .v, .v], .eqT 6 (.nilI), .rg 0 [] [.v, .v, .v, .v, .v, .v, .e (.bool false), .v, .v, .s, .s, .s, .s, .s, .s, .s, .v, .v, .v]] [] [1000, 1001] (all_cons Tryz.call270 (all_cons (linear_reader_take_2_c x0 x1 x2 y37 h38) (all_cons Tryz.call167 (all_cons (AFn.is (lib_Atoi_c y37.1 y40 h41)) (all_cons (show okRes true (.tup [.int .i64 y40.1, errV 272 y40.2]) = true from by cases h0 : y40.2 <;> rfl) (all_cons (congrArg (errV 272) c53) (all_cons trivial (all_cons (congrArg (AV.bool) c65) all_nil)))))))) (by kernel_rfl)
  · refine some_e H56 fun e76 => ?_
    subst e76
    exact p_ret Tryz.mo 10 [.rg 0 [] [.v, .v], .rg 0 [] [.v, .hR [(1000, 1000), (1001, 1001)] 8 (.str y37.1) [(1000, .cells 165 [.str y37.2, .int .i64 x1, .amap 1001]), (1001, .smap 9 3 (x2.map (mapV cInt_i64)))], .v], .rg 0 [] [.v, .cf true (.tup [.int .i64 y40.1, errV 272 y40.2]), .v, .v, .v, .v, .v], .eqT 6 (.iface 272 (.any)), .rg 0 [] [.v, .v, .v, .v, .s, .s, .s, .v, .v, .s, .s, .s, .s, .s, .s, .s, .v, .v, .v]] [] [1000, 1001] (all_cons Tryz.call270 (all_cons (linear_reader_take_2_c x0 x1 x2 y37 h38) (all_cons Tryz.call167 (all_cons (AFn.is (lib_Atoi_c y37.1 y40 h41)) (all_cons (show okRes true (.tup [.int .i64 y40.1, errV 272 y40.2]) = true from by cases h0 : y40.2 <;> rfl) (all_cons (congrArg (errV 272) c55) all_nil)))))) (by kernel_rfl)
/-- (*framewise/linear.reader).item -/
def linear_reader_item (x0 : Int) (x1 : Str) (x2 : Int) (x3 : (List (Str × Int))) : Option (Bool × Str × Int × (List (Str × Int))) :=
  bif (x1 == []) then (
    some (false, x1, x2, x3)
  ) else (
    grd (0 < x1.length) <|
    (linear_digit (x1.getD 0 0)).bind fun y146 =>
    bif y146 then (
      (linear_reader_number x1 x2 x3).bind fun y156 =>
      bif y156.1.2 then (
        (strings_TrimLeft y156.2 [32]).bind fun y163 =>
        (strings_HasPrefix y163 [42]).bind fun y166 =>
        ((
          bif y166 then (
            grd (1 ≤ y163.length) <|
            (linear_reader_spaces (y163.drop 1) x2 x3).bind fun y241 =>
            some (.brk y241)
          ) else (
            ((
              bif (y156.2 == []) then (
                some true
              ) else (
                grd (0 < y156.2.length) <|
                (linear_letter (y156.2.getD 0 0)).bind fun y265 =>
                some (!y265)
              )
            ) : Option Bool).bind fun v255 =>
            bif v255 then (
              some (.ret (true, y156.2, (w64 (x2 + (w64 (x0 * y156.1.1)))), x3))
            ) else (
              some (.brk y156.2)
            )
          )
        ) : Option (Out Str (Bool × Str × Int × (List (Str × Int))))).bind (aft fun u234 =>
          (linear_reader_variable u234 x2 x3).bind fun y278 =>
          some (y278.1.2, y278.2, x2, (mput y278.1.1 (w64 ((mget 0 y278.1.1 x3) + (w64 (x0 * y156.1.1)))) x3))
        )
      ) else (
        some (false, y156.2, x2, x3)
      )
    ) else (
      (linear_reader_variable x1 x2 x3).bind fun y284 =>
      some (y284.1.2, y284.2, x2, (mput y284.1.1 (w64 ((mget 0 y284.1.1 x3) + x0)) x3))
    )
  )
def linear_reader_item_S1 (x0 : Int) (x2 : Int) (x3 : (List (Str × Int))) (y156 : ((Int × Bool) × Str)) (u234 : Str) : AS := ⟨104, [(0, .hptr 1000 0), (1, .int .i64 x0), (4, .bool false), (7, .int .i64 y156.1.1), (8, .bool y156.1.2)], [(1000, .cells 165 [.str u234, .int .i64 x2, .amap 1001]), (1001, .smap 9 3 (x3.map (mapV cInt_i64)))]⟩
def linear_reader_item_S2 (x0 : Int) (x2 : Int) (x3 : (List (Str × Int))) (y156 : ((Int × Bool) × Str)) (v255 : Bool) : AS := ⟨104, [(0, .hptr 1000 0), (1, .int .i64 x0), (4, .bool false), (7, .int .i64 y156.1.1), (8, .bool y156.1.2), (60, .bool v255)], [(1000, .cells 165 [.str y156.2, .int .i64 x2, .amap 1001]), (1001, .smap 9 3 (x3.map (mapV cInt_i64)))]⟩
theorem linear_reader_item_c (x0 : Int) (x1 : Str) (x2 : Int) (x3 : (List (Str × Int))) (r : (Bool × Str × Int × (List (Str × Int)))) (H : linear_reader_item x0 x1 x2 x3 = some r) : ACall Tryz.prog 157 [.hptr 1000 0, .int .i64 x0] [(1000, .cells 165 [.str x1, .int .i64 x2, .amap 1001]), (1001, .smap 9 3 (x3.map (mapV cInt_i64)))] (fun r2 h2 => r2 = (.bool r.1) ∧ h2 = [(1000, .cells 165 [.str r.2.1, .int .i64 r.2.2.1, .amap 1001]), (1001, .smap 9 3 (r.2.2.2.map (mapV cInt_i64)))]) := by
  unfold linear_reader_item at H
  refine acallX Tryz.func157 104 [.tmp 4] (by kernel_rfl) (by kernel_rfl) ?_
  refine bsp H (fun c139 H140 => ?_) (fun c141 H142 => ?_)
  · refine some_e H140 fun e143 => ?_
    subst e143
    exact p_ret Tryz.mo 10 [.rg 0 [] [.v], .rg 0 [] [.v, .v, .v, .v, .v], .eqT 15 (.bool true), .rg 0 [] [.v]] [] [1000, 1001] (all_cons (congrArg (AV.bool) c139) all_nil) (by kernel_rfl)
  · refine grd_e H142 fun g144 H145 => ?_
    refine bnd H145 fun y146 h147 H148 => ?_
    refine bsp H148 (fun c152 H153 => ?_) (fun c154 H155 => ?_)
    · refine bnd H153 fun y156 h157 H158 => ?_
      refine bsp H158 (fun c159 H160 => ?_) (fun c161 H162 => ?_)
      · refine bnd H160 fun y163 h164 H165 => ?_
        refine bnd H165 fun y166 h167 H168 => ?_
        refine p_at Tryz.mo 28 [.rg 0 [] [.v], .rg 0 [] [.v, .v, .v, .v, .v], .eqT 15 (.bool false), .rg 0 [] [.v, .v, .v, .v, .v, .c true (.bool y146), .v], .eqT 22 (.bool false), .rg 0 [] [.v, .hR [(1000, 1000), (1001, 1001)] 40 (.tup [.int .i64 y156.1.1, .bool y156.1.2]) [(1000, .cells 165 [.str y156.2, .int .i64 x2, .amap 1001]), (1001, .smap 9 3 (x3.map (mapV cInt_i64)))], .v, .v, .v, .v, .v], .rg 0 [] [.v, .v], .eqT 44 (.bool false), .rg 0 [] [.v, .v, .v, .v, .c true (.str y163), .v], .rg 0 [] [.v, .c true (.bool y166), .v]] [.only [0, 1, 4, 7, 8, 9, 50] [1000, 1001]] 25 [false, false, false] ⟨104, [(0, .hptr 1000 0), (1, .int .i64 x0), (4, .bool false), (7, .int .i64 y156.1.1), (8, .bool y156.1.2), (9, .str y163), (50, .bool y166)], [(1000, .cells 165 [.str y156.2, .int .i64 x2, .amap 1001]), (1001, .smap 9 3 (x3.map (mapV cInt_i64)))]⟩ (all_cons (congrArg (AV.bool) c141) (all_cons (show (0 : Int) ≤ 0 ∧ 0 < (x1.length : Int) from by omega) (all_cons Tryz.call225 (all_cons (AFn.is (linear_digit_c (x1.getD 0 0) y146 h147)) (all_cons trivial (all_cons (congrArg (fun x => AV.bool (!x)) c152) (all_cons Tryz.call227 (all_cons (linear_reader_number_c x1 x2 x3 y156 h157) (all_cons trivial (all_cons (congrArg (fun x => AV.bool (!x)) c159) (all_cons Tryz.call228 (all_cons (AFn.is (strings_TrimLeft_c y156.2 [32] y163 h164)) (all_cons Tryz.call166 (all_cons (AFn.is (strings_HasPrefix_c y163 [42] y166 h167)) all_nil)))))))))))))) (by kernel_rfl) ?_
        refine bnd H168 fun v231 h232 H233 => ?_
        refine p_joinO 1 (linear_reader_item_S1 x0 x2 x3 y156) v231 (by kernel_rfl) ?_ (fun u234 e282 => ?_)
        · refine bsp h232 (fun c235 H236 => ?_) (fun c237 H238 => ?_)
          · refine grd_e H236 fun g239 H240 => ?_
            refine bnd H240 fun y241 h242 H243 => ?_
            refine some_e H243 fun e244 => ?_
            subst e244
            exact p_bar Tryz.mo 5 [.eqT 50 (.bool true), .rg 0 [] [.v, .v, .e (.str (y163.drop 1)), .v, .v, .m], .rg 0 [] [.v, .hR [(1000, 1000), (1001, 1001)] 59 (.tup []) [(1000, .cells 165 [.str y241, .int .i64 x2, .amap 1001]), (1001, .smap 9 3 (x3.map (mapV cInt_i64)))]]] [.only [0, 1, 4, 7, 8] [1000, 1001]] (linear_reader_item_S1 x0 x2 x3 y156 y241) (all_cons (congrArg (AV.bool) c235) (all_cons (show (0 : Int) ≤ 1 ∧ 1 ≤ (y163.length : Int) ∧ (y163.length : Int) ≤ (y163.length : Int) from by omega) (all_cons (sl_drop y163 1) (all_cons Tryz.call158 (all_cons (linear_reader_spaces_c (y163.drop 1) x2 x3 y241 h242) all_nil))))) (by kernel_rfl)
          · refine p_at Tryz.mo 3 [.eqT 50 (.bool false)] [.only [0, 1, 4, 7, 8] [1000, 1001]] 2 [false] ⟨104, [(0, .hptr 1000 0), (1, .int .i64 x0), (4, .bool false), (7, .int .i64 y156.1.1), (8, .bool y156.1.2)], [(1000, .cells 165 [.str y156.2, .int .i64 x2, .amap 1001]), (1001, .smap 9 3 (x3.map (mapV cInt_i64)))]⟩ (all_cons (congrArg (AV.bool) c237) all_nil) (by kernel_rfl) ?_
            refine bnd H238 fun v255 h256 H257 => ?_
            refine p_join 0 (linear_reader_item_S2 x0 x2 x3 y156 v255) (by kernel_rfl) ?_ ?_
            · refine bsp h256 (fun c258 H259 => ?_) (fun c260 H261 => ?_)
              · refine some_e H259 fun e262 => ?_
                subst e262
                exact p_bar Tryz.mo 1 [.rg 0 [] [.v, .v, .v, .v, .e (.bool true), .v, .s, .s, .s, .s, .s, .s, .s, .v, .v]] [.only [0, 1, 4, 7, 8, 60] [1000, 1001]] (linear_reader_item_S2 x0 x2 x3 y156 true) (all_cons (congrArg (AV.bool) c258) all_nil) (by kernel_rfl)
              · refine grd_e H261 fun g263 H264 => ?_
                refine bnd H264 fun y265 h266 H267 => ?_
                refine some_e H267 fun e268 => ?_
                subst e268
                exact p_bar Tryz.mo 1 [.rg 0 [] [.v, .v, .v, .v, .e (.bool false), .v, .v, .v, .v, .v, .v, .c true (.bool y265), .v, .v, .v]] [.only [0, 1, 4, 7, 8, 60] [1000, 1001]] (linear_reader_item_S2 x0 x2 x3 y156 (!y265)) (all_cons (congrArg (AV.bool) c260) (all_cons (show (0 : Int) ≤ 0 ∧ 0 < (y156.2.length : Int) from by omega) (all_cons Tryz.call229 (all_cons (AFn.is (linear_letter_c (y156.2.getD 0 0) y265 h266)) (all_cons trivial all_nil))))) (by kernel_rfl)
            · refine bsp H257 (fun c269 H270 => ?_) (fun c271 H272 => ?_)
              · refine some_e H270 fun e273 => ?_
                subst e273
                have H274 := aft_ret H233
                refine some_e H274 fun e275 => ?_
                subst e275
                exact p_ret Tryz.mo 7 [.eqT 60 (.bool true), .rg 0 [] [.v, .v, .v, .v, .v, .v, .v, .w, .w, .v, .v, .v, .m], .rg 0 [] [.v]] [] [1000, 1001] (all_cons (congrArg (AV.bool) c269) all_nil) (by kernel_rfl)
              · refine some_e H272 fun e276 => ?_
                subst e276
                exact p_bar Tryz.mo 3 [.eqT 60 (.bool false)] [.only [0, 1, 4, 7, 8] [1000, 1001]] (linear_reader_item_S1 x0 x2 x3 y156 y156.2) (all_cons (congrArg (AV.bool) c271) all_nil) (by kernel_rfl)
        · subst e282
          have H277 := aft_brk H233
          refine bnd H277 fun y278 h279 H280 => ?_
          refine some_e H280 fun e281 => ?_
          subst e281
          exact p_ret Tryz.mo 7 [.rg 0 [] [.v, .hR [(1000, 1000), (1001, 1001)] 89 (.tup [.str y278.1.1, .bool y278.1.2]) [(1000, .cells 165 [.str y278.2, .int .i64 x2, .amap 1001]), (1001, .smap 9 3 (x3.map (mapV cInt_i64)))], .v, .v, .v, .v, .v], .rg 0 [] [.v, .v, .v, .v, .v, .v, .l (.int .i64 (mget 0 y278.1.1 x3)), .v, .v, .w, .w, .m, .rwH 1001 (.smap 9 3 ((mput y278.1.1 (w64 ((mget 0 y278.1.1 x3) + (w64 (x0 * y156.1.1)))) x3).map (mapV cInt_i64)))], .rg 0 [] [.v, .v]] [] [1000, 1001] (all_cons Tryz.call226 (all_cons (linear_reader_variable_c u234 x2 x3 y278 h279) (all_cons (aget_mapV (c := cInt_i64) y278.1.1 0 x3) (all_cons (congrArg (AO.smap 9 3) (aput_mapV (c := cInt_i64) y278.1.1 (w64 ((mget 0 y278.1.1 x3) + (w64 (x0 * y156.1.1)))) x3)) all_nil)))) (by kernel_rfl)
      · refine some_e H162 fun e283 => ?_
        subst e283
        exact p_ret Tryz.mo 24 [.rg 0 [] [.v], .rg 0 [] [.v, .v, .v, .v, .v], .eqT 15 (.bool false), .rg 0 [] [.v, .v, .v, .v, .v, .c true (.bool y146), .v], .eqT 22 (.bool false), .rg 0 [] [.v, .hR [(1000, 1000), (1001, 1001)] 40 (.tup [.int .i64 y156.1.1, .bool y156.1.2]) [(1000, .cells 165 [.str y156.2, .int .i64 x2, .amap 1001]), (1001, .smap 9 3 (x3.map (mapV cInt_i64)))], .v, .v, .v, .v, .v], .rg 0 [] [.v, .v], .eqT 44 (.bool true), .rg 0 [] [.v]] [] [1000, 1001] (all_cons (congrArg (AV.bool) c141) (all_cons (show (0 : Int) ≤ 0 ∧ 0 < (x1.length : Int) from by omega) (all_cons Tryz.call225 (all_cons (AFn.is (linear_digit_c (x1.getD 0 0) y146 h147)) (all_cons trivial (all_cons (congrArg (fun x => AV.bool (!x)) c152) (all_cons Tryz.call227 (all_cons (linear_reader_number_c x1 x2 x3 y156 h157) (all_cons trivial (all_cons (congrArg (fun x => AV.bool (!x)) c161) all_nil)))))))))) (by kernel_rfl)
    · refine bnd H155 fun y284 h285 H286 => ?_
      refine some_e H286 fun e287 => ?_
      subst e287
      exact p_ret Tryz.mo 20 [.rg 0 [] [.v], .rg 0 [] [.v, .v, .v, .v, .v], .eqT 15 (.bool false), .rg 0 [] [.v, .v, .v, .v, .v, .c true (.bool y146), .v], .eqT 22 (.bool true), .rg 0 [] [.v, .hR [(1000, 1000), (1001, 1001)] 25 (.tup [.str y284.1.1, .bool y284.1.2]) [(1000, .cells 165 [.str y284.2, .int .i64 x2, .amap 1001]), (1001, .smap 9 3 (x3.map (mapV cInt_i64)))], .v, .v, .v, .v, .v], .rg 0 [] [.v, .v, .v, .v, .v, .v, .l (.int .i64 (mget 0 y284.1.1 x3)), .v, .w, .m, .rwH 1001 (.smap 9 3 ((mput y284.1.1 (w64 ((mget 0 y284.1.1 x3) + x0)) x3).map (mapV cInt_i64)))], .rg 0 [] [.v, .v]] [] [1000, 1001] (all_cons (congrArg (AV.bool) c141) (all_cons (show (0 : Int) ≤ 0 ∧ 0 < (x1.length : Int) from by omega) (all_cons Tryz.call225 (all_cons (AFn.is (linear_digit_c (x1.getD 0 0) y146 h147)) (all_cons trivial (all_cons (congrArg (fun x => AV.bool (!x)) c154) (all_cons Tryz.call226 (all_cons (linear_reader_variable_c x1 x2 x3 y284 h285) (all_cons (aget_mapV (c := cInt_i64) y284.1.1 0 x3) (all_cons (congrArg (AO.smap 9 3) (aput_mapV (c := cInt_i64) y284.1.1 (w64 ((mget 0 y284.1.1 x3) + x0)) x3)) all_nil)))))))))) (by kernel_rfl)
/-- (*framewise/linear.sum).result -/
noncomputable def linear_sum_result_2 (x0 : Str) (x1 : Int) (x2 : (List (Str × Int))) : Option (Linear × Int) :=
  mrngK (σ := (List Str)) (ε := Empty) (β := (Linear × Int)) x2 (fun e164 s94 =>
    bif (e164.2 == 0) then (
      some (.go s94)
    ) else (
      grd ((s94.length + 1) * 16 ≤ 140737488355328) <|
      some (.go (s94 ++ [e164.1]))
    )
  ) [] (fun s94 =>
    (lib_Sort s94).bind fun y97 =>
    (cnt (σ := (List Coef)) (ε := (List Coef)) (ρ := Empty) (fun i117 s116 =>
      grd ((s116.length + 1) * 24 ≤ 140737488355328) <|
      some (.go (s116 ++ [(Coef.mk (y97.getD i117 []) (mget 0 (y97.getD i117 []) x2))]))
    ) (fun i117 s116 => s116) (y97.length - 0) 0 []).bind <| aftE fun u148 =>
    (linear_Valid (Linear.mk x1 u148)).bind fun y151 =>
    bif y151 then (
      some ((Linear.mk x1 u148), 0)
    ) else (
      some ((Linear.mk 0 []), 3)
    )
  )
def linear_sum_result_2_S1 (x0 : Str) (x1 : Int) (x2 : (List (Str × Int))) (i95 : (List Nat)) (s94 : (List Str)) : AS := ⟨58, [(0, .hptr 1000 1), (2, .hptr 2 0), (3, .int .i64 0), (4, .hptr 4 0), (5, .rslice 30), (19, .hptr 19 0)], [(2, .cells 39 [.int .i64 0, .eslice]), (4, .cells 39 [.int .i64 x1, .eslice]), (19, .iter (x2.map (mapV cInt_i64)) i95), (30, .row 9 1 (s94.map cStr)), (1000, .cells 165 [.str x0, .int .i64 x1, .dmap (x2.map (mapV cInt_i64))])]⟩
def linear_sum_result_2_S2 (x0 : Str) (x1 : Int) (x2 : (List (Str × Int))) (y97 : (List Str)) (i117 : Nat) (s116 : (List Coef)) : AS := ⟨58, [(0, .hptr 1000 1), (2, .hptr 2 0), (3, .int .i64 0), (4, .hptr 4 0), (33, .rslice 30), (34, .int .i64 ((y97.length : Nat) : Int)), (35, .int .i64 ((i117 : Nat) : Int))], [(2, .cells 39 [.int .i64 0, .eslice]), (4, .cells 39 [.int .i64 x1, .rslice 50]), (30, .row 9 1 (y97.map cStr)), (50, .row 44 2 (s116.map cCoef)), (1000, .cells 165 [.str x0, .int .i64 x1, .dmap (x2.map (mapV cInt_i64))])]⟩
def linear_sum_result_2_S3 (x0 : Str) (x1 : Int) (x2 : (List (Str × Int))) (u131 : (List Coef)) : AS := ⟨58, [(2, .hptr 2 0), (3, .int .i64 0), (4, .hptr 4 0)], [(2, .cells 39 [.int .i64 0, .eslice]), (4, .cells 39 [.int .i64 x1, .rslice 50]), (50, .row 44 2 (u131.map cCoef)), (1000, .cells 165 [.str x0, .int .i64 x1, .dmap (x2.map (mapV cInt_i64))])]⟩
theorem linear_sum_result_2_c (x0 : Str) (x1 : Int) (x2 : (List (Str × Int))) (r : (Linear × Int)) (H : linear_sum_result_2 x0 x1 x2 = some r) : ACall Tryz.prog 149 [.hptr 1000 1] [(1000, .cells 165 [.str x0, .int .i64 x1, .amap 1001]), (1001, .smap 9 3 (x2.map (mapV cInt_i64)))] (fun r2 h2 => r2 = (.tup [.agg [.int .i64 r.1.Const, .dslice (r.1.Terms.map cCoef)], .int .i64 r.2]) ∧ h2 = []) := by
  unfold linear_sum_result_2 at H
  refine acallX Tryz.func149 58 [.cell 2 39, .tmp 3] (by kernel_rfl) (by kernel_rfl) ?_
  refine p_at Tryz.mo 10 [.rg 0 [] [.m, .v], .rg 0 [] [.v, .v, .v, .v, .b, .m, .m], .rg 0 [] [.v], .rg 0 [] [.v, .v, .v, .v, .fm 1001, .m]] [.er 5 30 9 1, .only [0, 2, 3, 4, 5, 19] [2, 4, 19, 30, 1000]] 10 [] (linear_sum_result_2_S1 x0 x1 x2 [] []) (all_cons (mapV_fl cInt_i64_ok x2) all_nil) (by kernel_rfl) ?_
  refine p_mrngX (cc := cInt_i64) 19 (linear_sum_result_2_S1 x0 x1 x2) (by kernel_rfl) H [.v] (fun i95 s94 => ⟨by kernel_rfl, by kernel_rfl⟩) (fun i95 s94 => ⟨58, [(0, .hptr 1000 1), (2, .hptr 2 0), (3, .int .i64 0), (4, .hptr 4 0), (5, .rslice 30), (19, .hptr 19 0), (20, .tup [.bool false]), (21, .bool false)], [(2, .cells 39 [.int .i64 0, .eslice]), (4, .cells 39 [.int .i64 x1, .eslice]), (19, .iter (x2.map (mapV cInt_i64)) i95), (30, .row 9 1 (s94.map cStr)), (1000, .cells 165 [.str x0, .int .i64 x1, .dmap (x2.map (mapV cInt_i64))])]⟩) (fun i95 s94 => by kernel_rfl) (fun i95 s94 n163 e164 => ⟨58, [(0, .hptr 1000 1), (2, .hptr 2 0), (3, .int .i64 0), (4, .hptr 4 0), (5, .rslice 30), (19, .hptr 19 0), (20, .tup [.bool true, .str e164.1, .int .i64 e164.2]), (21, .bool true)], [(2, .cells 39 [.int .i64 0, .eslice]), (4, .cells 39 [.int .i64 x1, .eslice]), (19, .iter (x2.map (mapV cInt_i64)) (i95 ++ [n163])), (30, .row 9 1 (s94.map cStr)), (1000, .cells 165 [.str x0, .int .i64 x1, .dmap (x2.map (mapV cInt_i64))])]⟩) (fun i95 s94 n163 e164 => by kernel_rfl) (fun i95 s94 H96 => ?_) (fun i95 s94 n163 e164 h165 q160 h161 h162 => ?_)
  · refine bnd H96 fun y97 h98 H99 => ?_
    refine p_at Tryz.mo 9 [.rg 0 [] [.v, .hR [(30, 1000)] 32 (.tup []) [(1000, .row 9 1 (y97.map cStr))]], .rg 0 [] [.v, .e (.int .i64 ((y97.length : Nat) : Int)), .v]] [.erH 4 1 50 44 2, .only [0, 2, 3, 4, 33, 34, 35] [2, 4, 30, 50, 1000]] 9 [false] (linear_sum_result_2_S2 x0 x1 x2 y97 0 []) (all_cons Tryz.call138 (all_cons (lib_Sort_c s94 y97 h98) (all_cons trivial (all_cons (lenm cStr y97) all_nil)))) (by kernel_rfl) ?_
    refine bnd H99 fun R128 h129 H130 => ?_
    refine p_joinO 1 (linear_sum_result_2_S3 x0 x1 x2) R128 (by kernel_rfl) ?_ (fun u148 e149 => ?_)
    · refine p_cnt (linear_sum_result_2_S2 x0 x1 x2 y97) (by kernel_rfl) h129 (fun i117 s116 h132 e133 => ?_) (fun i117 s116 h140 q136 h137 h138 => ?_)
      · have c134 : decide (((i117 : Nat) : Int) < ((y97.length : Nat) : Int)) = false := decide_eq_false (by omega)
        subst e133
        exact p_bar Tryz.mo 5 [.rg 0 [] [.e (.bool false)]] [.only [2, 3, 4] [2, 4, 50, 1000]] (linear_sum_result_2_S3 x0 x1 x2 s116) (all_cons (congrArg (AV.bool) c134) all_nil) (by kernel_rfl)
      · have c139 : decide (((i117 : Nat) : Int) < ((y97.length : Nat) : Int)) = true := decide_eq_true (by omega)
        refine grd_e h137 fun g141 H142 => ?_
        refine t_lensR 30 (n := (y97.map cStr).length) (by kernel_rfl) (fun l145 => ?_)
        have l146 : y97.length ≤ 9223372036854775807 := by simpa only [List.length_map] using l145
        clear l145
        refine some_e H142 fun e147 => ?_
        subst e147
        exact p_bar Tryz.mo 11 [.rg 0 [] [.e (.bool true)], .rg 0 [] [.v, .rl i117 0 (.str (y97.getD i117 [])), .v], .rg 11 [.v, .v, .v, .v, .v, .v, .v, .v, .l (.int .i64 (mget 0 (y97.getD i117 []) x2)), .b, .b] [.ap, .rwH 50 (.row 44 2 ((s116 ++ [(Coef.mk (y97.getD i117 []) (mget 0 (y97.getD i117 []) x2))]).map cCoef)), .v, .m], .rg 0 [] [.v, .v]] [.only [0, 2, 3, 4, 33, 34, 35] [2, 4, 30, 50, 1000]] (linear_sum_result_2_S2 x0 x1 x2 y97 (i117 + 1) (s116 ++ [(Coef.mk (y97.getD i117 []) (mget 0 (y97.getD i117 []) x2))])) (all_cons (congrArg (AV.bool) c139) (all_cons (show (0 : Int) ≤ ((i117 : Nat) : Int) ∧ ((i117 : Nat) : Int) < ((y97.map cStr).length : Int) from by rw [List.length_map]; omega) (all_cons (rlP (f := cStr) (l := y97) (n := i117) 1 0 1 (by omega) (by decide)) (all_cons (rl1 (f := cStr) (l := y97) (n := i117) [] 0 (by omega)) (all_cons (aget_mapV (c := cInt_i64) (y97.getD i117 []) 0 x2) (all_app (apR (c := cCoef) cCoef_ok s116 [(Coef.mk (y97.getD i117 []) (mget 0 (y97.getD i117 []) x2))] 24 (by decide) (by simpa using g141)) (all_cons (apQ 44 2 cCoef s116 [(Coef.mk (y97.getD i117 []) (mget 0 (y97.getD i117 []) x2))]) (all_cons (show I64 (((i117 : Nat) : Int) + 1) from by unfold I64; omega) all_nil)))))))) (by kernel_rfl)
    · subst e149
      have H150 := aftE_brk H130
      refine bnd H150 fun y151 h152 H153 => ?_
      refine bsp H153 (fun c154 H155 => ?_) (fun c156 H157 => ?_)
      · refine some_e H155 fun e158 => ?_
        subst e158
        exact p_ret Tryz.mo 9 [.rg 0 [] [.v, .c false (.bool y151), .v], .eqT 55 (.bool false), .rg 0 [] [.v, .m, .v]] [.fz 50] [] (all_cons Tryz.call99 (all_cons (AFn.is (linear_Valid_c (Linear.mk x1 u148) y151 h152)) (all_cons trivial (all_cons (congrArg (fun x => AV.bool (!x)) c154) all_nil)))) (by kernel_rfl)
      · refine some_e H157 fun e159 => ?_
        subst e159
        exact p_ret Tryz.mo 8 [.rg 0 [] [.v, .c false (.bool y151), .v], .eqT 55 (.bool true), .rg 0 [] [.b, .m, .v]] [.wkH 2 1 []] [] (all_cons Tryz.call99 (all_cons (AFn.is (linear_Valid_c (Linear.mk x1 u148) y151 h152)) (all_cons trivial (all_cons (congrArg (fun x => AV.bool (!x)) c156) all_nil)))) (by kernel_rfl)
  · refine bsp h161 (fun c166 H167 => ?_) (fun c168 H169 => ?_)
    · refine some_e H167 fun e170 => ?_
      subst e170
      exact p_bar Tryz.mo 11 [.rg 0 [] [.en n163 (.tup [.str e164.1, .int .i64 e164.2]), .v, .v, .v, .v], .rg 0 [] [.v, .v], .eqT 26 (.bool false)] [.only [0, 2, 3, 4, 5, 19] [2, 4, 19, 30, 1000]] (linear_sum_result_2_S1 x0 x1 x2 (i95 ++ [n163]) s94) (all_cons (seen_last i95 n163) (all_cons (en_eq (cc := cInt_i64) h165) (all_cons (congrArg (fun x => AV.bool (!x)) c166) all_nil))) (by kernel_rfl)
    · refine grd_e H169 fun g171 H172 => ?_
      refine some_e H172 fun e173 => ?_
      subst e173
      exact p_bar Tryz.mo 11 [.rg 0 [] [.en n163 (.tup [.str e164.1, .int .i64 e164.2]), .v, .v, .v, .v], .rg 0 [] [.v, .v], .eqT 26 (.bool true), .rg 0 [] [.v, .v, .b, .ap, .rwH 30 (.row 9 1 ((s94 ++ [e164.1]).map cStr)), .v]] [.only [0, 2, 3, 4, 5, 19] [2, 4, 19, 30, 1000]] (linear_sum_result_2_S1 x0 x1 x2 (i95 ++ [n163]) (s94 ++ [e164.1])) (all_cons (seen_last i95 n163) (all_cons (en_eq (cc := cInt_i64) h165) (all_cons (congrArg (fun x => AV.bool (!x)) c168) (all_app (apR (c := cStr) cStr_ok s94 [e164.1] 16 (by decide) (by simpa using g171)) (all_cons (apQ 9 1 cStr s94 [e164.1]) all_nil))))) (by kernel_rfl)
/-- framewise/linear.Parse -/
noncomputable def linear_Parse (x0 : Str) : Option (Linear × Int) :=
  (linear_reader_spaces x0 0 []).bind fun y1 =>
  (linear_reader_sign y1 0 []).bind fun y4 =>
  (whl (σ := (Int × Str × Int × (List (Str × Int)))) (ε := (Linear × Int)) (ρ := (Linear × Int)) (fun s71 =>
    (linear_reader_spaces s71.2.1 s71.2.2.1 s71.2.2.2).bind fun y79 =>
    (linear_reader_item s71.1 y79 s71.2.2.1 s71.2.2.2).bind fun y82 =>
    bif y82.1 then (
      (linear_reader_spaces y82.2.1 y82.2.2.1 y82.2.2.2).bind fun y89 =>
      bif (y89 == []) then (
        (linear_sum_result_2 y89 y82.2.2.1 y82.2.2.2).bind fun y99 =>
        some (.ret (y99.1, y99.2))
      ) else (
        (linear_reader_sign y89 y82.2.2.1 y82.2.2.2).bind fun y106 =>
        bif y106.1.2 then (
          some (.go (y106.1.1, y106.2, y82.2.2.1, y82.2.2.2))
        ) else (
          some (.ret ((Linear.mk 0 []), 6))
        )
      )
    ) else (
      some (.ret ((Linear.mk 0 []), 6))
    )
  ) 4294967296 (y4.1.1, y4.2, 0, [])).bind <| aft some
def linear_Parse_S1 (s71 : (Int × Str × Int × (List (Str × Int)))) : AS := ⟨51, [(2, .hptr 2 0), (3, .int .i64 0), (4, .hptr 13 0), (5, .bm 157 13 0), (6, .int .i64 s71.1)], [(2, .cells 39 [.int .i64 0, .eslice]), (10, .smap 9 3 (s71.2.2.2.map (mapV cInt_i64))), (13, .cells 165 [.str s71.2.1, .int .i64 s71.2.2.1, .amap 10])]⟩
theorem linear_Parse_c (x0 : Str) (r : (Linear × Int)) (H : linear_Parse x0 = some r) : AFn Tryz.prog 93 [.str x0] (.tup [.agg [.int .i64 r.1.Const, .dslice (r.1.Terms.map cCoef)], .int .i64 r.2]) := by
  unfold linear_Parse at H
  refine acallX Tryz.func93 51 [.cell 2 39, .tmp 3] (by kernel_rfl) (by kernel_rfl) ?_
  refine bnd H fun y1 h2 H3 => ?_
  refine bnd H3 fun y4 h5 H6 => ?_
  refine p_at Tryz.mo 11 [.rg 0 [] [.m, .v], .rg 0 [] [.v, .m, .b, .b, .m, .v], .rg 0 [] [.v, .v, .v], .rg 0 [] [.v, .hR [(13, 1000), (10, 1001)] 17 (.tup []) [(1000, .cells 165 [.str y1, .int .i64 0, .amap 1001]), (1001, .smap 9 3 ([].map (mapV cInt_i64)))]], .rg 0 [] [.v, .hR [(13, 1000), (10, 1001)] 20 (.tup [.int .i64 y4.1.1, .bool y4.1.2]) [(1000, .cells 165 [.str y4.2, .int .i64 0, .amap 1001]), (1001, .smap 9 3 ([].map (mapV cInt_i64)))], .v, .v, .v, .v, .v]] [.only [2, 3, 4, 5, 6] [2, 10, 13]] 11 [] (linear_Parse_S1 (y4.1.1, y4.2, 0, [])) (all_cons Tryz.call158 (all_cons (linear_reader_spaces_c x0 0 [] y1 h2) (all_cons Tryz.call159 (all_cons (linear_reader_sign_c y1 0 [] y4 h5) all_nil)))) (by kernel_rfl) ?_
  refine bnd H6 fun R73 h74 H75 => ?_
  refine p_whl (linear_Parse_S1) (by kernel_rfl) h74 (fun s71 q76 h77 h78 => ?_)
  · refine bnd h77 fun y79 h80 H81 => ?_
    refine bnd H81 fun y82 h83 H84 => ?_
    refine bsp H84 (fun c85 H86 => ?_) (fun c87 H88 => ?_)
    · refine bnd H86 fun y89 h90 H91 => ?_
      refine bsp H91 (fun c95 H96 => ?_) (fun c97 H98 => ?_)
      · refine bnd H96 fun y99 h100 H101 => ?_
        refine some_e H101 fun e102 => ?_
        subst e102
        have e103 := out_ret h78
        subst e103
        have H104 := aft_ret H75
        refine some_e H104 fun e105 => ?_
        subst e105
        exact p_ret Tryz.mo 19 [.rg 0 [] [.v, .hR [(13, 1000), (10, 1001)] 24 (.tup []) [(1000, .cells 165 [.str y79, .int .i64 s71.2.2.1, .amap 1001]), (1001, .smap 9 3 (s71.2.2.2.map (mapV cInt_i64)))]], .rg 0 [] [.v, .v, .hR [(13, 1000), (10, 1001)] 27 (.bool y82.1) [(1000, .cells 165 [.str y82.2.1, .int .i64 y82.2.2.1, .amap 1001]), (1001, .smap 9 3 (y82.2.2.2.map (mapV cInt_i64)))], .v], .eqT 28 (.bool false), .rg 0 [] [.v, .hR [(13, 1000), (10, 1001)] 31 (.tup []) [(1000, .cells 165 [.str y89, .int .i64 y82.2.2.1, .amap 1001]), (1001, .smap 9 3 (y82.2.2.2.map (mapV cInt_i64)))]], .rg 0 [] [.v, .v, .v, .v, .v], .eqT 36 (.bool true), .rg 0 [] [.v, .v, .v, .hR [(13, 1000), (10, 1001)] 40 (.tup [.agg [.int .i64 y99.1.Const, .dslice (y99.1.Terms.map cCoef)], .int .i64 y99.2]) [], .v, .v, .m, .v]] [] [] (all_cons Tryz.call158 (all_cons (linear_reader_spaces_c s71.2.1 s71.2.2.1 s71.2.2.2 y79 h80) (all_cons Tryz.call157 (all_cons (linear_reader_item_c s71.1 y79 s71.2.2.1 s71.2.2.2 y82 h83) (all_cons trivial (all_cons (congrArg (fun x => AV.bool (!x)) c85) (all_cons Tryz.call158 (all_cons (linear_reader_spaces_c y82.2.1 y82.2.2.1 y82.2.2.2 y89 h90) (all_cons (congrArg (AV.bool) c95) (all_cons Tryz.call149 (all_cons (linear_sum_result_2_c y89 y82.2.2.1 y82.2.2.2 y99 h100) all_nil))))))))))) (by kernel_rfl)
      · refine bnd H98 fun y106 h107 H108 => ?_
        refine bsp H108 (fun c109 H110 => ?_) (fun c111 H112 => ?_)
        · refine some_e H110 fun e113 => ?_
          subst e113
          exact p_bar Tryz.mo 26 [.rg 0 [] [.v, .hR [(13, 1000), (10, 1001)] 24 (.tup []) [(1000, .cells 165 [.str y79, .int .i64 s71.2.2.1, .amap 1001]), (1001, .smap 9 3 (s71.2.2.2.map (mapV cInt_i64)))]], .rg 0 [] [.v, .v, .hR [(13, 1000), (10, 1001)] 27 (.bool y82.1) [(1000, .cells 165 [.str y82.2.1, .int .i64 y82.2.2.1, .amap 1001]), (1001, .smap 9 3 (y82.2.2.2.map (mapV cInt_i64)))], .v], .eqT 28 (.bool false), .rg 0 [] [.v, .hR [(13, 1000), (10, 1001)] 31 (.tup []) [(1000, .cells 165 [.str y89, .int .i64 y82.2.2.1, .amap 1001]), (1001, .smap 9 3 (y82.2.2.2.map (mapV cInt_i64)))]], .rg 0 [] [.v, .v, .v, .v, .v], .eqT 36 (.bool false), .rg 0 [] [.v], .rg 0 [] [.v, .hR [(13, 1000), (10, 1001)] 45 (.tup [.int .i64 y106.1.1, .bool y106.1.2]) [(1000, .cells 165 [.str y106.2, .int .i64 y82.2.2.1, .amap 1001]), (1001, .smap 9 3 (y82.2.2.2.map (mapV cInt_i64)))], .v, .v, .v, .v, .v], .rg 0 [] [.v, .v], .eqT 49 (.bool false)] [.only [2, 3, 4, 5, 6] [2, 10, 13]] (linear_Parse_S1 (y106.1.1, y106.2, y82.2.2.1, y82.2.2.2)) (all_cons Tryz.call158 (all_cons (linear_reader_spaces_c s71.2.1 s71.2.2.1 s71.2.2.2 y79 h80) (all_cons Tryz.call157 (all_cons (linear_reader_item_c s71.1 y79 s71.2.2.1 s71.2.2.2 y82 h83) (all_cons trivial (all_cons (congrArg (fun x => AV.bool (!x)) c85) (all_cons Tryz.call158 (all_cons (linear_reader_spaces_c y82.2.1 y82.2.2.1 y82.2.2.2 y89 h90) (all_cons (congrArg (AV.bool) c97) (all_cons Tryz.call159 (all_cons (linear_reader_sign_c y89 y82.2.2.1 y82.2.2.2 y106 h107) (all_cons trivial (all_cons (congrArg (fun x => AV.bool (!x)) c109) all_nil))))))))))))) (by kernel_rfl)
        · refine some_e H112 fun e114 => ?_
          subst e114
          have e115 := out_ret h78
          subst e115
          have H116 := aft_ret H75
          refine some_e H116 fun e117 => ?_
          subst e117
          exact p_ret Tryz.mo 28 [.rg 0 [] [.v, .hR [(13, 1000), (10, 1001)] 24 (.tup []) [(1000, .cells 165 [.str y79, .int .i64 s71.2.2.1, .amap 1001]), (1001, .smap 9 3 (s71.2.2.2.map (mapV cInt_i64)))]], .rg 0 [] [.v, .v, .hR [(13, 1000), (10, 1001)] 27 (.bool y82.1) [(1000, .cells 165 [.str y82.2.1, .int .i64 y82.2.2.1, .amap 1001]), (1001, .smap 9 3 (y82.2.2.2.map (mapV cInt_i64)))], .v], .eqT 28 (.bool false), .rg 0 [] [.v, .hR [(13, 1000), (10, 1001)] 31 (.tup []) [(1000, .cells 165 [.str y89, .int .i64 y82.2.2.1, .amap 1001]), (1001, .smap 9 3 (y82.2.2.2.map (mapV cInt_i64)))]], .rg 0 [] [.v, .v, .v, .v, .v], .eqT 36 (.bool false), .rg 0 [] [.v], .rg 0 [] [.v, .hR [(13, 1000), (10, 1001)] 45 (.tup [.int .i64 y106.1.1, .bool y106.1.2]) [(1000, .cells 165 [.str y106.2, .int .i64 y82.2.2.1, .amap 1001]), (1001, .smap 9 3 (y82.2.2.2.map (mapV cInt_i64)))], .v, .v, .v, .v, .v], .rg 0 [] [.v, .v], .eqT 49 (.bool true), .rg 0 [] [.b, .m, .v]] [.wkH 2 1 []] [] (all_cons Tryz.call158 (all_cons (linear_reader_spaces_c s71.2.1 s71.2.2.1 s71.2.2.2 y79 h80) (all_cons Tryz.call157 (all_cons (linear_reader_item_c s71.1 y79 s71.2.2.1 s71.2.2.2 y82 h83) (all_cons trivial (all_cons (congrArg (fun x => AV.bool (!x)) c85) (all_cons Tryz.call158 (all_cons (linear_reader_spaces_c y82.2.1 y82.2.2.1 y82.2.2.2 y89 h90) (all_cons (congrArg (AV.bool) c97) (all_cons Tryz.call159 (all_cons (linear_reader_sign_c y89 y82.2.2.1 y82.2.2.2 y106 h107) (all_cons trivial (all_cons (congrArg (fun x => AV.bool (!x)) c111) all_nil))))))))))))) (by kernel_rfl)
    · refine some_e H88 fun e118 => ?_
      subst e118
      have e119 := out_ret h78
      subst e119
      have H120 := aft_ret H75
      refine some_e H120 fun e121 => ?_
      subst e121
      exact p_ret Tryz.mo 11 [.rg 0 [] [.v, .hR [(13, 1000), (10, 1001)] 24 (.tup []) [(1000, .cells 165 [.str y79, .int .i64 s71.2.2.1, .amap 1001]), (1001, .smap 9 3 (s71.2.2.2.map (mapV cInt_i64)))]], .rg 0 [] [.v, .v, .hR [(13, 1000), (10, 1001)] 27 (.bool y82.1) [(1000, .cells 165 [.str y82.2.1, .int .i64 y82.2.2.1, .amap 1001]), (1001, .smap 9 3 (y82.2.2.2.map (mapV cInt_i64)))], .v], .eqT 28 (.bool true), .rg 0 [] [.b, .m, .v]] [.wkH 2 1 []] [] (all_cons Tryz.call158 (all_cons (linear_reader_spaces_c s71.2.1 s71.2.2.1 s71.2.2.2 y79 h80) (all_cons Tryz.call157 (all_cons (linear_reader_item_c s71.1 y79 s71.2.2.1 s71.2.2.2 y82 h83) (all_cons trivial (all_cons (congrArg (fun x => AV.bool (!x)) c87) all_nil)))))) (by kernel_rfl)
/-- framewise/shape.Parse -/
noncomputable def shape_Parse (x0 : Str) : Option (Shape × Int) :=
  (strings_CutPrefix x0 [91]).bind fun y1 =>
  (strings_CutSuffix y1.1 [93]).bind fun y4 =>
  bif y1.2 then (
    bif y4.2 then (
      (lib_Split y4.1 [44, 32]).bind fun y19 =>
      (cnt (σ := (Str × (List Linear))) (ε := (Str × (List Linear))) (ρ := (Shape × Int)) (fun i241 s240 =>
        (strings_CutSuffix (y19.getD i241 []) [46, 46]).bind fun y395 =>
        ((
          ((
            bif y395.2 then (
              bif (((i241 : Nat) : Int) == 0) then (
                some (.ret (.brk (true, true, y395.1, s240.2)))
              ) else (
                some (.brk true)
              )
            ) else (
              some (.brk false)
            )
          ) : Option (Out Bool (Out (Bool × Bool × Str × (List Linear)) (Stp (Str × (List Linear)) (Str × (List Linear)) (Shape × Int))))).bind (aft fun u483 =>
            (linear_Parse (y19.getD i241 [])).bind fun y498 =>
            ((
              bif (y498.2 == 0) then (
                some (.brk ())
              ) else (
                bif (y4.1 == []) then (
                  some (.brk ())
                ) else (
                  some (.ret (.ret (.ret ((Shape.mk [] []), 6))))
                )
              )
            ) : Option (Out Unit (Out (Bool × Bool × Str × (List Linear)) (Stp (Str × (List Linear)) (Str × (List Linear)) (Shape × Int))))).bind (aft fun u512 =>
              bif (y4.1 == []) then (
                some (.brk (u483, false, s240.1, s240.2))
              ) else (
                grd ((s240.2.length + 1) * 32 ≤ 140737488355328) <|
                some (.brk (u483, false, s240.1, (s240.2 ++ [y498.1])))
              )
            )
          )
        ) : Option (Out (Bool × Bool × Str × (List Linear)) (Stp (Str × (List Linear)) (Str × (List Linear)) (Shape × Int)))).bind (aft fun u471 =>
          some (.go (u471.2.2.1, u471.2.2.2))
        )
      ) (fun i241 s240 => (s240.1, s240.2)) (y19.length - 0) 0 ([], [])).bind <| aft fun u549 =>
      (shape_Valid (Shape.mk u549.1 u549.2)).bind fun y552 =>
      bif y552 then (
        (shape_text (Shape.mk u549.1 u549.2)).bind fun y566 =>
        bif (y566 == x0) then (
          some ((Shape.mk u549.1 u549.2), 0)
        ) else (
          some ((Shape.mk [] []), 6)
        )
      ) else (
        some ((Shape.mk [] []), 6)
      )
    ) else (
      some ((Shape.mk [] []), 6)
    )
  ) else (
    some ((Shape.mk [] []), 6)
  )
def shape_Parse_S1 (x0 : Str) (y4 : (Str × Bool)) (y19 : (List Str)) (i241 : Nat) (s240 : (Str × (List Linear))) : AS := ⟨83, [(0, .str x0), (2, .hptr 2 0), (3, .int .i64 0), (4, .str y4.1), (7, .hptr 7 0), (32, .dslice (y19.map cStr)), (33, .int .i64 ((y19.length : Nat) : Int)), (34, .int .i64 ((i241 : Nat) : Int))], [(2, .cells 24 [.str [], .eslice]), (7, .cells 24 [.str s240.1, .rslice 69]), (69, .row 39 2 (s240.2.map cLinear))]⟩
def shape_Parse_S2 (x0 : Str) (u385 : (Str × (List Linear))) : AS := ⟨83, [(0, .str x0), (2, .hptr 2 0), (3, .int .i64 0), (7, .hptr 7 0)], [(2, .cells 24 [.str [], .eslice]), (7, .cells 24 [.str u385.1, .rslice 69]), (69, .row 39 2 (u385.2.map cLinear))]⟩
def shape_Parse_S3 (x0 : Str) (y4 : (Str × Bool)) (y19 : (List Str)) (i241 : Nat) (y395 : (Str × Bool)) (u471 : (Bool × Bool × Str × (List Linear))) : AS := ⟨83, [(0, .str x0), (2, .hptr 2 0), (3, .int .i64 0), (4, .str y4.1), (7, .hptr 7 0), (8, .int .i64 ((i241 : Nat) : Int)), (9, .str (y19.getD i241 [])), (10, .str y395.1), (11, .bool u471.1), (32, .dslice (y19.map cStr)), (33, .int .i64 ((y19.length : Nat) : Int)), (34, .int .i64 ((i241 : Nat) : Int)), (35, .bool true), (48, .bool u471.2.1)], [(2, .cells 24 [.str [], .eslice]), (7, .cells 24 [.str u471.2.2.1, .rslice 69]), (69, .row 39 2 (u471.2.2.2.map cLinear))]⟩
def shape_Parse_S4 (x0 : Str) (y4 : (Str × Bool)) (y19 : (List Str)) (i241 : Nat) (s240 : (Str × (List Linear))) (y395 : (Str × Bool)) (u483 : Bool) : AS := ⟨83, [(0, .str x0), (2, .hptr 2 0), (3, .int .i64 0), (4, .str y4.1), (7, .hptr 7 0), (8, .int .i64 ((i241 : Nat) : Int)), (9, .str (y19.getD i241 [])), (10, .str y395.1), (11, .bool u483), (32, .dslice (y19.map cStr)), (33, .int .i64 ((y19.length : Nat) : Int)), (34, .int .i64 ((i241 : Nat) : Int)), (35, .bool true), (48, .bool false)], [(2, .cells 24 [.str [], .eslice]), (7, .cells 24 [.str s240.1, .rslice 69]), (69, .row 39 2 (s240.2.map cLinear))]⟩
def shape_Parse_S5 (x0 : Str) (y4 : (Str × Bool)) (y19 : (List Str)) (i241 : Nat) (s240 : (Str × (List Linear))) (y395 : (Str × Bool)) (u483 : Bool) (y498 : (Linear × Int)) (u512 : Unit) : AS := ⟨83, [(0, .str x0), (2, .hptr 2 0), (3, .int .i64 0), (4, .str y4.1), (7, .hptr 7 0), (8, .int .i64 ((i241 : Nat) : Int)), (9, .str (y19.getD i241 [])), (10, .str y395.1), (11, .bool u483), (12, .hptr 12 0), (13, .int .i64 y498.2), (32, .dslice (y19.map cStr)), (33, .int .i64 ((y19.length : Nat) : Int)), (34, .int .i64 ((i241 : Nat) : Int)), (35, .bool true), (48, .bool false), (61, .bool false)], [(2, .cells 24 [.str [], .eslice]), (7, .cells 24 [.str s240.1, .rslice 69]), (12, .cells 39 [.int .i64 y498.1.Const, .dslice (y498.1.Terms.map cCoef)]), (69, .row 39 2 (s240.2.map cLinear))]⟩
theorem shape_Parse_c (x0 : Str) (r : (Shape × Int)) (H : shape_Parse x0 = some r) : AFn Tryz.prog 26 [.str x0] (.tup [.agg [.str r.1.Row, .dslice (r.1.Dims.map cLinear)], .int .i64 r.2]) := by
  unfold shape_Parse at H
  refine acallX Tryz.func26 83 [.cell 2 24, .tmp 3] (by kernel_rfl) (by kernel_rfl) ?_
  refine bnd H fun y1 h2 H3 => ?_
  refine bnd H3 fun y4 h5 H6 => ?_
  refine bsp H6 (fun c11 H12 => ?_) (fun c13 H14 => ?_)
  · refine bsp H12 (fun c15 H16 => ?_) (fun c17 H18 => ?_)
    · refine bnd H16 fun y19 h20 H21 => ?_
      refine p_at Tryz.mo 19 [.rg 0 [] [.m, .v], .rg 0 [] [.v, .c true (.tup [.str y1.1, .bool y1.2]), .v, .v, .v, .v, .v], .rg 0 [] [.v, .c true (.tup [.str y4.1, .bool y4.2]), .v, .v, .v, .v, .v], .eqT 5 (.bool true), .rg 0 [] [.v, .v, .v, .v, .v, .v], .eqT 29 (.bool false), .rg 0 [] [.m], .rg 0 [] [.v, .c true (.dslice (y19.map cStr)), .e (.int .i64 ((y19.length : Nat) : Int)), .v]] [.erH 7 1 69 39 2, .only [0, 2, 3, 4, 7, 32, 33, 34] [2, 7, 69]] 17 [false] (shape_Parse_S1 x0 y4 y19 0 ([], [])) (all_cons Tryz.call90 (all_cons (AFn.is (strings_CutPrefix_c x0 [91] y1 h2)) (all_cons Tryz.call91 (all_cons (AFn.is (strings_CutSuffix_c y1.1 [93] y4 h5)) (all_cons (congrArg (AV.bool) c11) (all_cons trivial (all_cons trivial (all_cons (congrArg (fun x => AV.bool (!x)) c15) (all_cons Tryz.call92 (all_cons (AFn.is (lib_Split_c y4.1 [44, 32] y19 h20)) (all_cons trivial (all_cons (lenm cStr y19) all_nil)))))))))))) (by kernel_rfl) ?_
      refine bnd H21 fun R382 h383 H384 => ?_
      refine p_joinO 1 (shape_Parse_S2 x0) R382 (by kernel_rfl) ?_ (fun u549 e550 => ?_)
      · refine p_cnt (shape_Parse_S1 x0 y4 y19) (by kernel_rfl) h383 (fun i241 s240 h386 e387 => ?_) (fun i241 s240 h394 q390 h391 h392 => ?_)
        · have c388 : decide (((i241 : Nat) : Int) < ((y19.length : Nat) : Int)) = false := decide_eq_false (by omega)
          subst e387
          exact p_bar Tryz.mo 5 [.rg 0 [] [.e (.bool false)]] [.only [0, 2, 3, 7] [2, 7, 69]] (shape_Parse_S2 x0 (s240.1, s240.2)) (all_cons (congrArg (AV.bool) c388) all_nil) (by kernel_rfl)
        · have c393 : decide (((i241 : Nat) : Int) < ((y19.length : Nat) : Int)) = true := decide_eq_true (by omega)
          refine bnd h391 fun y395 h396 H397 => ?_
          refine p_at Tryz.mo 13 [.rg 0 [] [.e (.bool true)], .rg 0 [] [.v, .e (.dptr [.str (y19.getD i241 [])]), .v, .v, .v], .rg 0 [] [.v, .c true (.tup [.str y395.1, .bool y395.2]), .v, .v, .v, .v, .v]] [.only [0, 2, 3, 4, 7, 8, 9, 10, 11, 32, 33, 34, 35] [2, 7, 69]] 13 [true] ⟨83, [(0, .str x0), (2, .hptr 2 0), (3, .int .i64 0), (4, .str y4.1), (7, .hptr 7 0), (8, .int .i64 ((i241 : Nat) : Int)), (9, .str (y19.getD i241 [])), (10, .str y395.1), (11, .bool y395.2), (32, .dslice (y19.map cStr)), (33, .int .i64 ((y19.length : Nat) : Int)), (34, .int .i64 ((i241 : Nat) : Int)), (35, .bool true)], [(2, .cells 24 [.str [], .eslice]), (7, .cells 24 [.str s240.1, .rslice 69]), (69, .row 39 2 (s240.2.map cLinear))]⟩ (all_cons (congrArg (AV.bool) c393) (all_app (ix (f := cStr) (l := y19) (n := i241) [] cStr_len (by decide) (by omega)) (all_cons Tryz.call91 (all_cons (AFn.is (strings_CutSuffix_c (y19.getD i241 []) [46, 46] y395 h396)) all_nil)))) (by kernel_rfl) ?_
          refine bnd H397 fun v468 h469 H470 => ?_
          refine p_joinO 3 (shape_Parse_S3 x0 y4 y19 i241 y395) v468 (by kernel_rfl) ?_ (fun u471 e548 => ?_)
          · refine bnd h469 fun v480 h481 H482 => ?_
            refine p_joinO 1 (shape_Parse_S4 x0 y4 y19 i241 s240 y395) v480 (by kernel_rfl) ?_ (fun u483 e541 => ?_)
            · refine bsp h481 (fun c484 H485 => ?_) (fun c486 H487 => ?_)
              · refine bsp H485 (fun c488 H489 => ?_) (fun c490 H491 => ?_)
                · refine some_e H489 fun e492 => ?_
                  subst e492
                  have H493 := aft_ret H482
                  refine some_e H493 fun e494 => ?_
                  subst e494
                  exact p_bar Tryz.mo 7 [.eqT 11 (.bool true), .rg 0 [] [.v, .v, .v, .v, .v], .eqT 48 (.bool true), .rg 0 [] [.v, .v, .m]] [.only [0, 2, 3, 4, 7, 8, 9, 10, 11, 32, 33, 34, 35, 48] [2, 7, 69]] (shape_Parse_S3 x0 y4 y19 i241 y395 (true, true, y395.1, s240.2)) (all_cons (congrArg (AV.bool) c484) (all_cons (congrArg (AV.bool) c488) all_nil)) (by kernel_rfl)
                · refine some_e H491 fun e495 => ?_
                  subst e495
                  exact p_bar Tryz.mo 5 [.eqT 11 (.bool true), .rg 0 [] [.v, .v, .v, .v, .v], .eqT 48 (.bool false)] [.only [0, 2, 3, 4, 7, 8, 9, 10, 11, 32, 33, 34, 35, 48] [2, 7, 69]] (shape_Parse_S4 x0 y4 y19 i241 s240 y395 true) (all_cons (congrArg (AV.bool) c484) (all_cons (congrArg (AV.bool) c490) all_nil)) (by kernel_rfl)
              · refine some_e H487 fun e496 => ?_
                subst e496
                exact p_bar Tryz.mo 4 [.eqT 11 (.bool false), .rg 0 [] [.v, .v, .s, .s, .v]] [.only [0, 2, 3, 4, 7, 8, 9, 10, 11, 32, 33, 34, 35, 48] [2, 7, 69]] (shape_Parse_S4 x0 y4 y19 i241 s240 y395 false) (all_cons (congrArg (AV.bool) c486) all_nil) (by kernel_rfl)
            · subst e541
              have H497 := aft_brk H482
              refine bnd H497 fun y498 h499 H500 => ?_
              refine p_at Tryz.mo 4 [.rg 0 [] [.v, .c true (.tup [.agg [.int .i64 y498.1.Const, .dslice (y498.1.Terms.map cCoef)], .int .i64 y498.2]), .v, .v, .v, .m, .m, .v]] [.only [0, 2, 3, 4, 7, 8, 9, 10, 11, 12, 13, 32, 33, 34, 35, 48] [2, 7, 12, 69]] 4 [] ⟨83, [(0, .str x0), (2, .hptr 2 0), (3, .int .i64 0), (4, .str y4.1), (7, .hptr 7 0), (8, .int .i64 ((i241 : Nat) : Int)), (9, .str (y19.getD i241 [])), (10, .str y395.1), (11, .bool u483), (12, .hptr 12 0), (13, .int .i64 y498.2), (32, .dslice (y19.map cStr)), (33, .int .i64 ((y19.length : Nat) : Int)), (34, .int .i64 ((i241 : Nat) : Int)), (35, .bool true), (48, .bool false)], [(2, .cells 24 [.str [], .eslice]), (7, .cells 24 [.str s240.1, .rslice 69]), (12, .cells 39 [.int .i64 y498.1.Const, .dslice (y498.1.Terms.map cCoef)]), (69, .row 39 2 (s240.2.map cLinear))]⟩ (all_cons Tryz.call93 (all_cons (AFn.is (linear_Parse_c (y19.getD i241 []) y498 h499)) all_nil)) (by kernel_rfl) ?_
              refine bnd H500 fun v509 h510 H511 => ?_
              refine p_joinO 1 (shape_Parse_S5 x0 y4 y19 i241 s240 y395 u483 y498) v509 (by kernel_rfl) ?_ (fun u512 e540 => ?_)
              · refine bsp h510 (fun c513 H514 => ?_) (fun c515 H516 => ?_)
                · refine some_e H514 fun e517 => ?_
                  subst e517
                  exact p_bar Tryz.mo 3 [.rg 0 [] [.v, .e (.bool false), .v, .s, .s, .v]] [.only [0, 2, 3, 4, 7, 8, 9, 10, 11, 12, 13, 32, 33, 34, 35, 48, 61] [2, 7, 12, 69]] (shape_Parse_S5 x0 y4 y19 i241 s240 y395 u483 y498 ()) (all_cons (congrArg (fun x => AV.bool (!x)) c513) all_nil) (by kernel_rfl)
                · refine bsp H516 (fun c518 H519 => ?_) (fun c520 H521 => ?_)
                  · refine some_e H519 fun e522 => ?_
                    subst e522
                    exact p_bar Tryz.mo 4 [.rg 0 [] [.v, .e (.bool true), .v, .v, .v, .v], .eqT 61 (.bool false)] [.only [0, 2, 3, 4, 7, 8, 9, 10, 11, 12, 13, 32, 33, 34, 35, 48, 61] [2, 7, 12, 69]] (shape_Parse_S5 x0 y4 y19 i241 s240 y395 u483 y498 ()) (all_cons (congrArg (fun x => AV.bool (!x)) c515) (all_cons (congrArg (fun x => AV.bool (!x)) c518) all_nil)) (by kernel_rfl)
                  · refine some_e H521 fun e523 => ?_
                    subst e523
                    have H524 := aft_ret H511
                    refine some_e H524 fun e525 => ?_
                    subst e525
                    have H526 := aft_ret H470
                    refine some_e H526 fun e527 => ?_
                    subst e527
                    have e528 := out_ret h392
                    subst e528
                    have H529 := aft_ret H384
                    refine some_e H529 fun e530 => ?_
                    subst e530
                    exact p_ret Tryz.mo 6 [.rg 0 [] [.v, .e (.bool true), .v, .v, .v, .v], .eqT 61 (.bool true), .rg 0 [] [.b, .m, .v]] [.wkH 2 1 []] [] (all_cons (congrArg (fun x => AV.bool (!x)) c515) (all_cons (congrArg (fun x => AV.bool (!x)) c520) all_nil)) (by kernel_rfl)
              · subst e540
                have H531 := aft_brk H511
                refine bsp H531 (fun c532 H533 => ?_) (fun c534 H535 => ?_)
                · refine some_e H533 fun e536 => ?_
                  subst e536
                  exact p_bar Tryz.mo 5 [.rg 0 [] [.v, .v], .eqT 64 (.bool false)] [.only [0, 2, 3, 4, 7, 8, 9, 10, 11, 32, 33, 34, 35, 48] [2, 7, 69]] (shape_Parse_S3 x0 y4 y19 i241 y395 (u483, false, s240.1, s240.2)) (all_cons (congrArg (fun x => AV.bool (!x)) c532) all_nil) (by kernel_rfl)
                · refine grd_e H535 fun g537 H538 => ?_
                  refine some_e H538 fun e539 => ?_
                  subst e539
                  exact p_bar Tryz.mo 5 [.rg 0 [] [.v, .v], .eqT 64 (.bool true), .rg 0 [] [.v, .v, .v, .b, .ap, .rwH 69 (.row 39 2 ((s240.2 ++ [y498.1]).map cLinear)), .v, .m]] [.only [0, 2, 3, 4, 7, 8, 9, 10, 11, 32, 33, 34, 35, 48] [2, 7, 69]] (shape_Parse_S3 x0 y4 y19 i241 y395 (u483, false, s240.1, (s240.2 ++ [y498.1]))) (all_cons (congrArg (fun x => AV.bool (!x)) c534) (all_app (apR (c := cLinear) cLinear_ok s240.2 [y498.1] 32 (by decide) (by simpa using g537)) (all_cons (apQ 39 2 cLinear s240.2 [y498.1]) all_nil))) (by kernel_rfl)
          · subst e548
            have H542 := aft_brk H470
            refine t_lens 32 (ps := [(y19.map cStr).length ≤ 9223372036854775807]) (by kernel_rfl) (fun l545 => ?_)
            have l546 : y19.length ≤ 9223372036854775807 := by simpa only [All, List.length_map] using l545
            clear l545
            refine some_e H542 fun e547 => ?_
            subst e547
            exact p_bar Tryz.mo 1 [.rg 0 [] [.v, .v]] [.only [0, 2, 3, 4, 7, 32, 33, 34] [2, 7, 69]] (shape_Parse_S1 x0 y4 y19 (i241 + 1) (u471.2.2.1, u471.2.2.2)) (all_cons (show I64 (((i241 : Nat) : Int) + 1) from by unfold I64; omega) all_nil) (by kernel_rfl)
      · subst e550
        have H551 := aft_brk H384
        refine bnd H551 fun y552 h553 H554 => ?_
        refine bsp H554 (fun c562 H563 => ?_) (fun c564 H565 => ?_)
        · refine bnd H563 fun y566 h567 H568 => ?_
          refine bsp H568 (fun c569 H570 => ?_) (fun c571 H572 => ?_)
          · refine some_e H570 fun e573 => ?_
            subst e573
            exact p_ret Tryz.mo 9 [.rg 0 [] [.v, .c false (.bool true), .v, .v, .v, .c false (.str y566), .v, .v, .v], .eqT 80 (.bool false), .rg 0 [] [.v, .m, .v]] [.fz 69] [] (all_cons Tryz.call31 (all_cons (AFn.eq (shape_Valid_c (Shape.mk u549.1 u549.2) y552 h553) (congrArg (AV.bool) c562)) (all_cons trivial (all_cons Tryz.call88 (all_cons (AFn.is (shape_text_c (Shape.mk u549.1 u549.2) y566 h567)) (all_cons (congrArg (fun x => AV.bool (!x)) c569) all_nil)))))) (by kernel_rfl)
          · refine some_e H572 fun e574 => ?_
            subst e574
            exact p_ret Tryz.mo 8 [.rg 0 [] [.v, .c false (.bool true), .v, .v, .v, .c false (.str y566), .v, .v, .v], .eqT 80 (.bool true), .rg 0 [] [.b, .m, .v]] [.wkH 2 1 []] [] (all_cons Tryz.call31 (all_cons (AFn.eq (shape_Valid_c (Shape.mk u549.1 u549.2) y552 h553) (congrArg (AV.bool) c562)) (all_cons trivial (all_cons Tryz.call88 (all_cons (AFn.is (shape_text_c (Shape.mk u549.1 u549.2) y566 h567)) (all_cons (congrArg (fun x => AV.bool (!x)) c571) all_nil)))))) (by kernel_rfl)
        · refine some_e H565 fun e575 => ?_
          subst e575
          exact p_ret Tryz.mo 7 [.rg 0 [] [.v, .c false (.bool false), .v, .v, .s, .s, .s, .s, .v], .rg 0 [] [.b, .m, .v]] [.wkH 2 1 []] [] (all_cons Tryz.call31 (all_cons (AFn.eq (shape_Valid_c (Shape.mk u549.1 u549.2) y552 h553) (congrArg (AV.bool) c564)) (all_cons trivial all_nil))) (by kernel_rfl)
    · refine some_e H18 fun e576 => ?_
      subst e576
      exact p_ret Tryz.mo 15 [.rg 0 [] [.m, .v], .rg 0 [] [.v, .c true (.tup [.str y1.1, .bool y1.2]), .v, .v, .v, .v, .v], .rg 0 [] [.v, .c true (.tup [.str y4.1, .bool y4.2]), .v, .v, .v, .v, .v], .eqT 5 (.bool true), .rg 0 [] [.v, .v, .v, .v, .v, .v], .eqT 29 (.bool true), .rg 0 [] [.b, .m, .v]] [.wkH 2 1 []] [] (all_cons Tryz.call90 (all_cons (AFn.is (strings_CutPrefix_c x0 [91] y1 h2)) (all_cons Tryz.call91 (all_cons (AFn.is (strings_CutSuffix_c y1.1 [93] y4 h5)) (all_cons (congrArg (AV.bool) c11) (all_cons trivial (all_cons trivial (all_cons (congrArg (fun x => AV.bool (!x)) c17) all_nil)))))))) (by kernel_rfl)
  · refine some_e H14 fun e577 => ?_
    subst e577
    exact p_ret Tryz.mo 14 [.rg 0 [] [.m, .v], .rg 0 [] [.v, .c true (.tup [.str y1.1, .bool y1.2]), .v, .v, .v, .v, .v], .rg 0 [] [.v, .c true (.tup [.str y4.1, .bool y4.2]), .v, .v, .v, .v, .v], .eqT 5 (.bool false), .rg 0 [] [.v, .v, .v, .s, .s, .v], .rg 0 [] [.b, .m, .v]] [.wkH 2 1 []] [] (all_cons Tryz.call90 (all_cons (AFn.is (strings_CutPrefix_c x0 [91] y1 h2)) (all_cons Tryz.call91 (all_cons (AFn.is (strings_CutSuffix_c y1.1 [93] y4 h5)) (all_cons (congrArg (AV.bool) c13) (all_cons trivial all_nil)))))) (by kernel_rfl)
/-- framewise/linear.Eval$1 -/
def linear_Eval_1 (x0 : Value) (x1 : Coef) : Option Bool :=
  some (x0.Var == x1.Var)
theorem linear_Eval_1_c (x0 : Value) (x1 : Coef) (r : Bool) (H : linear_Eval_1 x0 x1 = some r) : AFn Tryz.prog 150 [.agg [.str x0.Var, .int .i64 x0.N], .dptr [.str x1.Var, .int .i64 x1.C]] (.bool r) := by
  unfold linear_Eval_1 at H
  refine acallX Tryz.func150 9 [.tmp 3] (by kernel_rfl) (by kernel_rfl) ?_
  refine some_e H fun e1 => ?_
  subst e1
  exact p_ret Tryz.mo 5 [.rg 0 [] [.m, .v], .rg 0 [] [.v, .v, .v, .v, .v, .v]] [] [] all_nil (by kernel_rfl)
/-- slices.IndexFunc[[]framewise/api.Value,framewise/api.Value] -/
def slices_IndexFunc_api_Value (x0 : (List Value)) (x1 : Str) (x2 : Int) : Option Int :=
  (cnt (σ := Unit) (ε := Unit) (ρ := Int) (fun i90 s89 =>
    (linear_Eval_1 (Value.mk ((x0.getD i90 ⟨[], 0⟩).Var) ((x0.getD i90 ⟨[], 0⟩).N)) (Coef.mk x1 x2)).bind fun y119 =>
    bif y119 then (
      some (.ret ((i90 : Nat) : Int))
    ) else (
      some (.go ())
    )
  ) (fun i90 s89 => ()) (x0.length - 0) 0 ()).bind <| aft fun u135 =>
  some (-1)
def slices_IndexFunc_api_Value_S1 (x0 : (List Value)) (x1 : Str) (x2 : Int) (i90 : Nat) (s89 : Unit) : AS := ⟨19, [(0, .dslice (x0.map cValue)), (1, .fn 150 [.hptr 1000 0]), (4, .int .i64 0), (7, .int .i64 ((x0.length : Nat) : Int)), (8, .int .i64 ((i90 : Nat) : Int))], [(1000, .cells 44 [.str x1, .int .i64 x2])]⟩
def slices_IndexFunc_api_Value_S2 (x1 : Str) (x2 : Int) (u109 : Unit) : AS := ⟨19, [(4, .int .i64 0)], [(1000, .cells 44 [.str x1, .int .i64 x2])]⟩
theorem slices_IndexFunc_api_Value_c (x0 : (List Value)) (x1 : Str) (x2 : Int) (r : Int) (H : slices_IndexFunc_api_Value x0 x1 x2 = some r) : ACall Tryz.prog 111 [.dslice (x0.map cValue), .fn 150 [.hptr 1000 0]] [(1000, .cells 44 [.str x1, .int .i64 x2])] (fun r2 h2 => r2 = (.int .i64 r) ∧ h2 = [(1000, .cells 44 [.str x1, .int .i64 x2])]) := by
  unfold slices_IndexFunc_api_Value at H
  refine acallX Tryz.func111 19 [.tmp 4] (by kernel_rfl) (by kernel_rfl) ?_
  refine p_at Tryz.mo 6 [.rg 0 [] [.v], .rg 0 [] [.v, .e (.int .i64 ((x0.length : Nat) : Int)), .v]] [.only [0, 1, 4, 7, 8] [1000]] 6 [] (slices_IndexFunc_api_Value_S1 x0 x1 x2 0 ()) (all_cons trivial (all_cons (lenm cValue x0) all_nil)) (by kernel_rfl) ?_
  refine bnd H fun R106 h107 H108 => ?_
  refine p_joinO 1 (slices_IndexFunc_api_Value_S2 x1 x2) R106 (by kernel_rfl) ?_ (fun u135 e136 => ?_)
  · refine p_cnt (slices_IndexFunc_api_Value_S1 x0 x1 x2) (by kernel_rfl) h107 (fun i90 s89 h110 e111 => ?_) (fun i90 s89 h118 q114 h115 h116 => ?_)
    · have c112 : decide (((i90 : Nat) : Int) < ((x0.length : Nat) : Int)) = false := decide_eq_false (by omega)
      subst e111
      exact p_bar Tryz.mo 5 [.rg 0 [] [.e (.bool false)]] [.only [4] [1000]] (slices_IndexFunc_api_Value_S2 x1 x2 ()) (all_cons (congrArg (AV.bool) c112) all_nil) (by kernel_rfl)
    · have c117 : decide (((i90 : Nat) : Int) < ((x0.length : Nat) : Int)) = true := decide_eq_true (by omega)
      refine bnd h115 fun y119 h120 H121 => ?_
      refine bsp H121 (fun c122 H123 => ?_) (fun c124 H125 => ?_)
      · refine some_e H123 fun e126 => ?_
        subst e126
        have e127 := out_ret h116
        subst e127
        have H128 := aft_ret H108
        refine some_e H128 fun e129 => ?_
        subst e129
        exact p_ret Tryz.mo 16 [.rg 0 [] [.e (.bool true)], .rg 0 [] [.v, .v], .rg 0 [] [.v, .v, .v, .e (.dptr [.str ((x0.getD i90 ⟨[], 0⟩).Var), .int .i64 ((x0.getD i90 ⟨[], 0⟩).N)]), .v, .c false (.bool y119)], .eqT 16 (.bool true), .rg 0 [] [.v, .v]] [] [1000] (all_cons (congrArg (AV.bool) c117) (all_app (ix (f := cValue) (l := x0) (n := i90) ⟨[], 0⟩ cValue_len (by decide) (by omega)) (all_cons Tryz.call150 (all_cons (AFn.is (linear_Eval_1_c (Value.mk ((x0.getD i90 ⟨[], 0⟩).Var) ((x0.getD i90 ⟨[], 0⟩).N)) (Coef.mk x1 x2) y119 h120)) (all_cons (congrArg (AV.bool) c122) all_nil))))) (by kernel_rfl)
      · refine t_lens 0 (ps := [(x0.map cValue).length ≤ 9223372036854775807]) (by kernel_rfl) (fun l132 => ?_)
        have l133 : x0.length ≤ 9223372036854775807 := by simpa only [All, List.length_map] using l132
        clear l132
        refine some_e H125 fun e134 => ?_
        subst e134
        exact p_bar Tryz.mo 15 [.rg 0 [] [.e (.bool true)], .rg 0 [] [.v, .v], .rg 0 [] [.v, .v, .v, .e (.dptr [.str ((x0.getD i90 ⟨[], 0⟩).Var), .int .i64 ((x0.getD i90 ⟨[], 0⟩).N)]), .v, .c false (.bool y119)], .eqT 16 (.bool false), .rg 0 [] [.v, .v]] [.only [0, 1, 4, 7, 8] [1000]] (slices_IndexFunc_api_Value_S1 x0 x1 x2 (i90 + 1) ()) (all_cons (congrArg (AV.bool) c117) (all_app (ix (f := cValue) (l := x0) (n := i90) ⟨[], 0⟩ cValue_len (by decide) (by omega)) (all_cons Tryz.call150 (all_cons (AFn.is (linear_Eval_1_c (Value.mk ((x0.getD i90 ⟨[], 0⟩).Var) ((x0.getD i90 ⟨[], 0⟩).N)) (Coef.mk x1 x2) y119 h120)) (all_cons (congrArg (AV.bool) c124) (all_cons (show I64 (((i90 : Nat) : Int) + 1) from by unfold I64; omega) all_nil)))))) (by kernel_rfl)
  · subst e136
    have H137 := aft_brk H108
    refine some_e H137 fun e138 => ?_
    subst e138
    exact p_ret Tryz.mo 3 [.rg 0 [] [.v]] [] [1000] all_nil (by kernel_rfl)
/-- framewise/linear.Eval -/
def linear_Eval (x0 : Linear) (x1 : (List Value)) : Option (Int × Int) :=
  (linear_Valid x0).bind fun y1 =>
  bif y1 then (
    (cnt (σ := Int) (ε := Int) (ρ := (Int × Int)) (fun i65 s64 =>
      (slices_IndexFunc_api_Value x1 ((x0.Terms.getD i65 ⟨[], 0⟩).Var) ((x0.Terms.getD i65 ⟨[], 0⟩).C)).bind fun y108 =>
      bif decide (y108 < 0) then (
        some (.ret (0, 7))
      ) else (
        grd (0 ≤ y108 ∧ y108 < (x1.length : Int)) <|
        bif decide (((x1.getD y108.toNat ⟨[], 0⟩).N) < (-1000000000)) then (
          some (.ret (0, 2))
        ) else (
          bif decide (((x1.getD y108.toNat ⟨[], 0⟩).N) > 1000000000) then (
            some (.ret (0, 2))
          ) else (
            some (.go (w64 (s64 + (w64 (((x0.Terms.getD i65 ⟨[], 0⟩).C) * ((x1.getD y108.toNat ⟨[], 0⟩).N))))))
          )
        )
      )
    ) (fun i65 s64 => s64) (x0.Terms.length - 0) 0 x0.Const).bind <| aft fun u146 =>
    some (u146, 0)
  ) else (
    some (0, 1)
  )
def linear_Eval_S1 (x0 : Linear) (x1 : (List Value)) (i65 : Nat) (s64 : Int) : AS := ⟨51, [(1, .dslice (x1.map cValue)), (4, .int .i64 0), (5, .int .i64 0), (6, .int .i64 s64), (17, .dslice (x0.Terms.map cCoef)), (18, .int .i64 ((x0.Terms.length : Nat) : Int)), (19, .int .i64 ((i65 : Nat) : Int))], []⟩
def linear_Eval_S2 (u98 : Int) : AS := ⟨51, [(4, .int .i64 0), (5, .int .i64 0), (6, .int .i64 u98)], []⟩
theorem linear_Eval_c (x0 : Linear) (x1 : (List Value)) (r : (Int × Int)) (H : linear_Eval x0 x1 = some r) : AFn Tryz.prog 85 [.agg [.int .i64 x0.Const, .dslice (x0.Terms.map cCoef)], .dslice (x1.map cValue)] (.tup [.int .i64 r.1, .int .i64 r.2]) := by
  unfold linear_Eval at H
  refine acallX Tryz.func85 51 [.tmp 4, .tmp 5] (by kernel_rfl) (by kernel_rfl) ?_
  refine bnd H fun y1 h2 H3 => ?_
  refine bsp H3 (fun c4 H5 => ?_) (fun c6 H7 => ?_)
  · refine p_at Tryz.mo 14 [.rg 0 [] [.m, .v, .v], .rg 0 [] [.v, .c true (.bool y1), .v], .eqT 13 (.bool false), .rg 0 [] [.v, .v, .v], .rg 0 [] [.v, .v, .e (.int .i64 ((x0.Terms.length : Nat) : Int)), .v]] [.only [1, 4, 5, 6, 17, 18, 19] []] 13 [false] (linear_Eval_S1 x0 x1 0 x0.Const) (all_cons Tryz.call99 (all_cons (AFn.is (linear_Valid_c x0 y1 h2)) (all_cons trivial (all_cons (congrArg (fun x => AV.bool (!x)) c4) (all_cons trivial (all_cons (lenm cCoef x0.Terms) all_nil)))))) (by kernel_rfl) ?_
    refine bnd H5 fun R95 h96 H97 => ?_
    refine p_joinO 1 (linear_Eval_S2) R95 (by kernel_rfl) ?_ (fun u146 e147 => ?_)
    · refine p_cnt (linear_Eval_S1 x0 x1) (by kernel_rfl) h96 (fun i65 s64 h99 e100 => ?_) (fun i65 s64 h107 q103 h104 h105 => ?_)
      · have c101 : decide (((i65 : Nat) : Int) < ((x0.Terms.length : Nat) : Int)) = false := decide_eq_false (by omega)
        subst e100
        exact p_bar Tryz.mo 5 [.rg 0 [] [.e (.bool false)]] [.only [4, 5, 6] []] (linear_Eval_S2 s64) (all_cons (congrArg (AV.bool) c101) all_nil) (by kernel_rfl)
      · have c106 : decide (((i65 : Nat) : Int) < ((x0.Terms.length : Nat) : Int)) = true := decide_eq_true (by omega)
        refine bnd h104 fun y108 h109 H110 => ?_
        refine bsp H110 (fun c111 H112 => ?_) (fun c113 H114 => ?_)
        · have c111p := of_decide_eq_true c111
          refine some_e H112 fun e115 => ?_
          subst e115
          have e116 := out_ret h105
          subst e116
          have H117 := aft_ret H97
          refine some_e H117 fun e118 => ?_
          subst e118
          exact p_ret Tryz.mo 19 [.rg 0 [] [.e (.bool true)], .rg 0 [] [.e (.dptr [.str ((x0.Terms.getD i65 ⟨[], 0⟩).Var), .int .i64 ((x0.Terms.getD i65 ⟨[], 0⟩).C)]), .v, .m, .m], .rg 0 [] [.v, .v, .hR [(8, 1000)] 25 (.int .i64 y108) [(1000, .cells 44 [.str ((x0.Terms.getD i65 ⟨[], 0⟩).Var), .int .i64 ((x0.Terms.getD i65 ⟨[], 0⟩).C)])], .v], .rg 0 [] [.v, .v], .eqT 27 (.bool true), .rg 0 [] [.v, .v]] [] [] (all_cons (congrArg (AV.bool) c106) (all_app (ix (f := cCoef) (l := x0.Terms) (n := i65) ⟨[], 0⟩ cCoef_len (by decide) (by omega)) (all_cons Tryz.call111 (all_cons (slices_IndexFunc_api_Value_c x1 ((x0.Terms.getD i65 ⟨[], 0⟩).Var) ((x0.Terms.getD i65 ⟨[], 0⟩).C) y108 h109) (all_cons (congrArg (AV.bool) c111) all_nil))))) (by kernel_rfl)
        · have c113p := of_decide_eq_false c113
          refine grd_e H114 fun g119 H120 => ?_
          refine bsp H120 (fun c125 H126 => ?_) (fun c127 H128 => ?_)
          · have c125p := of_decide_eq_true c125
            refine some_e H126 fun e129 => ?_
            subst e129
            have e130 := out_ret h105
            subst e130
            have H131 := aft_ret H97
            refine some_e H131 fun e132 => ?_
            subst e132
            exact p_ret Tryz.mo 26 [.rg 0 [] [.e (.bool true)], .rg 0 [] [.e (.dptr [.str ((x0.Terms.getD i65 ⟨[], 0⟩).Var), .int .i64 ((x0.Terms.getD i65 ⟨[], 0⟩).C)]), .v, .m, .m], .rg 0 [] [.v, .v, .hR [(8, 1000)] 25 (.int .i64 y108) [(1000, .cells 44 [.str ((x0.Terms.getD i65 ⟨[], 0⟩).Var), .int .i64 ((x0.Terms.getD i65 ⟨[], 0⟩).C)])], .v], .rg 0 [] [.v, .v], .eqT 27 (.bool false), .rg 0 [] [.v, .v, .e (.dptr [.str ((x1.getD y108.toNat ⟨[], 0⟩).Var), .int .i64 ((x1.getD y108.toNat ⟨[], 0⟩).N)]), .v, .v, .v], .rg 0 [] [.v, .e (.bool true), .v, .s, .s, .v], .rg 0 [] [.v, .v]] [] [] (all_cons (congrArg (AV.bool) c106) (all_app (ix (f := cCoef) (l := x0.Terms) (n := i65) ⟨[], 0⟩ cCoef_len (by decide) (by omega)) (all_cons Tryz.call111 (all_cons (slices_IndexFunc_api_Value_c x1 ((x0.Terms.getD i65 ⟨[], 0⟩).Var) ((x0.Terms.getD i65 ⟨[], 0⟩).C) y108 h109) (all_cons (congrArg (AV.bool) c113) (all_app (ixz (f := cValue) (l := x1) (n := y108) ⟨[], 0⟩ cValue_len (by decide) (by exact g119)) (all_cons (congrArg (AV.bool) c125) all_nil))))))) (by kernel_rfl)
          · have c127p := of_decide_eq_false c127
            refine bsp H128 (fun c133 H134 => ?_) (fun c135 H136 => ?_)
            · have c133p := of_decide_eq_true c133
              refine some_e H134 fun e137 => ?_
              subst e137
              have e138 := out_ret h105
              subst e138
              have H139 := aft_ret H97
              refine some_e H139 fun e140 => ?_
              subst e140
              exact p_ret Tryz.mo 27 [.rg 0 [] [.e (.bool true)], .rg 0 [] [.e (.dptr [.str ((x0.Terms.getD i65 ⟨[], 0⟩).Var), .int .i64 ((x0.Terms.getD i65 ⟨[], 0⟩).C)]), .v, .m, .m], .rg 0 [] [.v, .v, .hR [(8, 1000)] 25 (.int .i64 y108) [(1000, .cells 44 [.str ((x0.Terms.getD i65 ⟨[], 0⟩).Var), .int .i64 ((x0.Terms.getD i65 ⟨[], 0⟩).C)])], .v], .rg 0 [] [.v, .v], .eqT 27 (.bool false), .rg 0 [] [.v, .v, .e (.dptr [.str ((x1.getD y108.toNat ⟨[], 0⟩).Var), .int .i64 ((x1.getD y108.toNat ⟨[], 0⟩).N)]), .v, .v, .v], .rg 0 [] [.v, .e (.bool false), .v, .v, .v, .v], .eqT 38 (.bool true), .rg 0 [] [.v, .v]] [] [] (all_cons (congrArg (AV.bool) c106) (all_app (ix (f := cCoef) (l := x0.Terms) (n := i65) ⟨[], 0⟩ cCoef_len (by decide) (by omega)) (all_cons Tryz.call111 (all_cons (slices_IndexFunc_api_Value_c x1 ((x0.Terms.getD i65 ⟨[], 0⟩).Var) ((x0.Terms.getD i65 ⟨[], 0⟩).C) y108 h109) (all_cons (congrArg (AV.bool) c113) (all_app (ixz (f := cValue) (l := x1) (n := y108) ⟨[], 0⟩ cValue_len (by decide) (by exact g119)) (all_cons (congrArg (AV.bool) c127) (all_cons (congrArg (AV.bool) c133) all_nil)))))))) (by kernel_rfl)
            · have c135p := of_decide_eq_false c135
              refine t_lens 17 (ps := [(x0.Terms.map cCoef).length ≤ 9223372036854775807]) (by kernel_rfl) (fun l143 => ?_)
              have l144 : x0.Terms.length ≤ 9223372036854775807 := by simpa only [All, List.length_map] using l143
              clear l143
              refine some_e H136 fun e145 => ?_
              subst e145
              exact p_bar Tryz.mo 27 [.rg 0 [] [.e (.bool true)], .rg 0 [] [.e (.dptr [.str ((x0.Terms.getD i65 ⟨[], 0⟩).Var), .int .i64 ((x0.Terms.getD i65 ⟨[], 0⟩).C)]), .v, .m, .m], .rg 0 [] [.v, .v, .hR [(8, 1000)] 25 (.int .i64 y108) [(1000, .cells 44 [.str ((x0.Terms.getD i65 ⟨[], 0⟩).Var), .int .i64 ((x0.Terms.getD i65 ⟨[], 0⟩).C)])], .v], .rg 0 [] [.v, .v], .eqT 27 (.bool false), .rg 0 [] [.v, .v, .e (.dptr [.str ((x1.getD y108.toNat ⟨[], 0⟩).Var), .int .i64 ((x1.getD y108.toNat ⟨[], 0⟩).N)]), .v, .v, .v], .rg 0 [] [.v, .e (.bool false), .v, .v, .v, .v], .eqT 38 (.bool false), .rg 9 [.v, .v, .v, .v, .v, .e (.dptr [.str ((x1.getD y108.toNat ⟨[], 0⟩).Var), .int .i64 ((x1.getD y108.toNat ⟨[], 0⟩).N)]), .v, .v, .w] [.w, .v], .rg 0 [] [.v, .v]] [.only [1, 4, 5, 6, 17, 18, 19] []] (linear_Eval_S1 x0 x1 (i65 + 1) (w64 (s64 + (w64 (((x0.Terms.getD i65 ⟨[], 0⟩).C) * ((x1.getD y108.toNat ⟨[], 0⟩).N)))))) (all_cons (congrArg (AV.bool) c106) (all_app (ix (f := cCoef) (l := x0.Terms) (n := i65) ⟨[], 0⟩ cCoef_len (by decide) (by omega)) (all_cons Tryz.call111 (all_cons (slices_IndexFunc_api_Value_c x1 ((x0.Terms.getD i65 ⟨[], 0⟩).Var) ((x0.Terms.getD i65 ⟨[], 0⟩).C) y108 h109) (all_cons (congrArg (AV.bool) c113) (all_app (ixz (f := cValue) (l := x1) (n := y108) ⟨[], 0⟩ cValue_len (by decide) (by exact g119)) (all_cons (congrArg (AV.bool) c127) (all_cons (congrArg (AV.bool) c135) (all_app (ixz (f := cValue) (l := x1) (n := y108) ⟨[], 0⟩ cValue_len (by decide) (by exact g119)) (all_cons (show I64 (((i65 : Nat) : Int) + 1) from by unfold I64; omega) all_nil)))))))))) (by kernel_rfl)
    · subst e147
      have H148 := aft_brk H97
      refine some_e H148 fun e149 => ?_
      subst e149
      exact p_ret Tryz.mo 3 [.rg 0 [] [.v, .v, .v]] [] [] all_nil (by kernel_rfl)
  · refine some_e H7 fun e150 => ?_
    subst e150
    exact p_ret Tryz.mo 10 [.rg 0 [] [.m, .v, .v], .rg 0 [] [.v, .c true (.bool y1), .v], .eqT 13 (.bool true), .rg 0 [] [.v, .v]] [] [] (all_cons Tryz.call99 (all_cons (AFn.is (linear_Valid_c x0 y1 h2)) (all_cons trivial (all_cons (congrArg (fun x => AV.bool (!x)) c6) all_nil)))) (by kernel_rfl)
/-- framewise/shape.Eval -/
def shape_Eval (x0 : Shape) (x1 : (List Value)) : Option ((List Int) × Int) :=
  (shape_Valid x0).bind fun y1 =>
  bif y1 then (
    bif (x0.Row == []) then (
      (cnt (σ := (List Int)) (ε := (List Int)) (ρ := ((List Int) × Int)) (fun i71 s70 =>
        (linear_Eval (Linear.mk ((x0.Dims.getD i71 ⟨0, []⟩).Const) ((x0.Dims.getD i71 ⟨0, []⟩).Terms)) x1).bind fun y114 =>
        bif (y114.2 == 0) then (
          bif decide (y114.1 < 0) then (
            some (.ret ([], 2))
          ) else (
            bif decide (y114.1 > 4096) then (
              some (.ret ([], 2))
            ) else (
              grd ((s70.length + 1) * 8 ≤ 140737488355328) <|
              some (.go (s70 ++ [y114.1]))
            )
          )
        ) else (
          some (.ret ([], y114.2))
        )
      ) (fun i71 s70 => s70) (x0.Dims.length - 0) 0 []).bind <| aft fun u152 =>
      some (u152, 0)
    ) else (
      some ([], 13)
    )
  ) else (
    some ([], 1)
  )
def shape_Eval_S1 (x0 : Shape) (x1 : (List Value)) (i71 : Nat) (s70 : (List Int)) : AS := ⟨47, [(1, .dslice (x1.map cValue)), (4, .eslice), (5, .int .i64 0), (6, .rslice 44), (20, .dslice (x0.Dims.map cLinear)), (21, .int .i64 ((x0.Dims.length : Nat) : Int)), (22, .int .i64 ((i71 : Nat) : Int))], [(44, .row 3 1 (s70.map cInt_i64))]⟩
def shape_Eval_S2 (u104 : (List Int)) : AS := ⟨47, [(4, .eslice), (5, .int .i64 0), (6, .rslice 44)], [(44, .row 3 1 (u104.map cInt_i64))]⟩
theorem shape_Eval_c (x0 : Shape) (x1 : (List Value)) (r : ((List Int) × Int)) (H : shape_Eval x0 x1 = some r) : AFn Tryz.prog 19 [.agg [.str x0.Row, .dslice (x0.Dims.map cLinear)], .dslice (x1.map cValue)] (.tup [.dslice (r.1.map cInt_i64), .int .i64 r.2]) := by
  unfold shape_Eval at H
  refine acallX Tryz.func19 47 [.tmp 4, .tmp 5] (by kernel_rfl) (by kernel_rfl) ?_
  refine bnd H fun y1 h2 H3 => ?_
  refine bsp H3 (fun c8 H9 => ?_) (fun c10 H11 => ?_)
  · refine bsp H9 (fun c12 H13 => ?_) (fun c14 H15 => ?_)
    · refine p_at Tryz.mo 19 [.rg 0 [] [.m, .v, .v], .rg 0 [] [.v, .c true (.bool y1), .v, .v], .eqT 11 (.bool false), .rg 0 [] [.v, .v, .v, .v], .eqT 15 (.bool false), .rg 0 [] [.v], .rg 0 [] [.v, .v, .e (.int .i64 ((x0.Dims.length : Nat) : Int)), .v]] [.er 6 44 3 1, .only [1, 4, 5, 6, 20, 21, 22] [44]] 17 [false, false] (shape_Eval_S1 x0 x1 0 []) (all_cons Tryz.call31 (all_cons (AFn.is (shape_Valid_c x0 y1 h2)) (all_cons trivial (all_cons (congrArg (fun x => AV.bool (!x)) c8) (all_cons (congrArg (fun x => AV.bool (!x)) c12) (all_cons trivial (all_cons (lenm cLinear x0.Dims) all_nil))))))) (by kernel_rfl) ?_
      refine bnd H13 fun R101 h102 H103 => ?_
      refine p_joinO 1 (shape_Eval_S2) R101 (by kernel_rfl) ?_ (fun u152 e153 => ?_)
      · refine p_cnt (shape_Eval_S1 x0 x1) (by kernel_rfl) h102 (fun i71 s70 h105 e106 => ?_) (fun i71 s70 h113 q109 h110 h111 => ?_)
        · have c107 : decide (((i71 : Nat) : Int) < ((x0.Dims.length : Nat) : Int)) = false := decide_eq_false (by omega)
          subst e106
          exact p_bar Tryz.mo 5 [.rg 0 [] [.e (.bool false)]] [.only [4, 5, 6] [44]] (shape_Eval_S2 s70) (all_cons (congrArg (AV.bool) c107) all_nil) (by kernel_rfl)
        · have c112 : decide (((i71 : Nat) : Int) < ((x0.Dims.length : Nat) : Int)) = true := decide_eq_true (by omega)
          refine bnd h110 fun y114 h115 H116 => ?_
          refine bsp H116 (fun c117 H118 => ?_) (fun c119 H120 => ?_)
          · refine bsp H118 (fun c125 H126 => ?_) (fun c127 H128 => ?_)
            · have c125p := of_decide_eq_true c125
              refine some_e H126 fun e129 => ?_
              subst e129
              have e130 := out_ret h111
              subst e130
              have H131 := aft_ret H103
              refine some_e H131 fun e132 => ?_
              subst e132
              exact p_ret Tryz.mo 24 [.rg 0 [] [.e (.bool true)], .rg 0 [] [.e (.dptr [.int .i64 ((x0.Dims.getD i71 ⟨0, []⟩).Const), .dslice (((x0.Dims.getD i71 ⟨0, []⟩).Terms).map cCoef)]), .v, .m, .m], .rg 0 [] [.v, .v, .c true (.tup [.int .i64 y114.1, .int .i64 y114.2]), .v, .v, .v, .v, .v], .rg 0 [] [.v, .v], .eqT 33 (.bool false), .rg 0 [] [.v, .e (.bool true), .v, .s, .s, .v], .rg 0 [] [.v, .v]] [.wk 4 []] [] (all_cons (congrArg (AV.bool) c112) (all_app (ix (f := cLinear) (l := x0.Dims) (n := i71) ⟨0, []⟩ cLinear_len (by decide) (by omega)) (all_cons Tryz.call85 (all_cons (AFn.is (linear_Eval_c (Linear.mk ((x0.Dims.getD i71 ⟨0, []⟩).Const) ((x0.Dims.getD i71 ⟨0, []⟩).Terms)) x1 y114 h115)) (all_cons (congrArg (fun x => AV.bool (!x)) c117) (all_cons (congrArg (AV.bool) c125) all_nil)))))) (by kernel_rfl)
            · have c127p := of_decide_eq_false c127
              refine bsp H128 (fun c133 H134 => ?_) (fun c135 H136 => ?_)
              · have c133p := of_decide_eq_true c133
                refine some_e H134 fun e137 => ?_
                subst e137
                have e138 := out_ret h111
                subst e138
                have H139 := aft_ret H103
                refine some_e H139 fun e140 => ?_
                subst e140
                exact p_ret Tryz.mo 25 [.rg 0 [] [.e (.bool true)], .rg 0 [] [.e (.dptr [.int .i64 ((x0.Dims.getD i71 ⟨0, []⟩).Const), .dslice (((x0.Dims.getD i71 ⟨0, []⟩).Terms).map cCoef)]), .v, .m, .m], .rg 0 [] [.v, .v, .c true (.tup [.int .i64 y114.1, .int .i64 y114.2]), .v, .v, .v, .v, .v], .rg 0 [] [.v, .v], .eqT 33 (.bool false), .rg 0 [] [.v, .e (.bool false), .v, .v, .v, .v], .eqT 40 (.bool true), .rg 0 [] [.v, .v]] [.wk 4 []] [] (all_cons (congrArg (AV.bool) c112) (all_app (ix (f := cLinear) (l := x0.Dims) (n := i71) ⟨0, []⟩ cLinear_len (by decide) (by omega)) (all_cons Tryz.call85 (all_cons (AFn.is (linear_Eval_c (Linear.mk ((x0.Dims.getD i71 ⟨0, []⟩).Const) ((x0.Dims.getD i71 ⟨0, []⟩).Terms)) x1 y114 h115)) (all_cons (congrArg (fun x => AV.bool (!x)) c117) (all_cons (congrArg (AV.bool) c127) (all_cons (congrArg (AV.bool) c133) all_nil))))))) (by kernel_rfl)
              · have c135p := of_decide_eq_false c135
                refine grd_e H136 fun g141 H142 => ?_
                refine t_lens 20 (ps := [(x0.Dims.map cLinear).length ≤ 9223372036854775807]) (by kernel_rfl) (fun l145 => ?_)
                have l146 : x0.Dims.length ≤ 9223372036854775807 := by simpa only [All, List.length_map] using l145
                clear l145
                refine some_e H142 fun e147 => ?_
                subst e147
                exact p_bar Tryz.mo 25 [.rg 0 [] [.e (.bool true)], .rg 0 [] [.e (.dptr [.int .i64 ((x0.Dims.getD i71 ⟨0, []⟩).Const), .dslice (((x0.Dims.getD i71 ⟨0, []⟩).Terms).map cCoef)]), .v, .m, .m], .rg 0 [] [.v, .v, .c true (.tup [.int .i64 y114.1, .int .i64 y114.2]), .v, .v, .v, .v, .v], .rg 0 [] [.v, .v], .eqT 33 (.bool false), .rg 0 [] [.v, .e (.bool false), .v, .v, .v, .v], .eqT 40 (.bool false), .rg 0 [] [.v, .v, .b, .ap, .rwH 44 (.row 3 1 ((s70 ++ [y114.1]).map cInt_i64)), .v], .rg 0 [] [.v, .v]] [.only [1, 4, 5, 6, 20, 21, 22] [44]] (shape_Eval_S1 x0 x1 (i71 + 1) (s70 ++ [y114.1])) (all_cons (congrArg (AV.bool) c112) (all_app (ix (f := cLinear) (l := x0.Dims) (n := i71) ⟨0, []⟩ cLinear_len (by decide) (by omega)) (all_cons Tryz.call85 (all_cons (AFn.is (linear_Eval_c (Linear.mk ((x0.Dims.getD i71 ⟨0, []⟩).Const) ((x0.Dims.getD i71 ⟨0, []⟩).Terms)) x1 y114 h115)) (all_cons (congrArg (fun x => AV.bool (!x)) c117) (all_cons (congrArg (AV.bool) c127) (all_cons (congrArg (AV.bool) c135) (all_app (apR (c := cInt_i64) cInt_i64_ok s70 [y114.1] 8 (by decide) (by simpa using g141)) (all_cons (apQ 3 1 cInt_i64 s70 [y114.1]) (all_cons (show I64 (((i71 : Nat) : Int) + 1) from by unfold I64; omega) all_nil)))))))))) (by kernel_rfl)
          · refine some_e H120 fun e148 => ?_
            subst e148
            have e149 := out_ret h111
            subst e149
            have H150 := aft_ret H103
            refine some_e H150 fun e151 => ?_
            subst e151
            exact p_ret Tryz.mo 19 [.rg 0 [] [.e (.bool true)], .rg 0 [] [.e (.dptr [.int .i64 ((x0.Dims.getD i71 ⟨0, []⟩).Const), .dslice (((x0.Dims.getD i71 ⟨0, []⟩).Terms).map cCoef)]), .v, .m, .m], .rg 0 [] [.v, .v, .c true (.tup [.int .i64 y114.1, .int .i64 y114.2]), .v, .v, .v, .v, .v], .rg 0 [] [.v, .v], .eqT 33 (.bool true), .rg 0 [] [.v, .v, .v]] [.wk 4 []] [] (all_cons (congrArg (AV.bool) c112) (all_app (ix (f := cLinear) (l := x0.Dims) (n := i71) ⟨0, []⟩ cLinear_len (by decide) (by omega)) (all_cons Tryz.call85 (all_cons (AFn.is (linear_Eval_c (Linear.mk ((x0.Dims.getD i71 ⟨0, []⟩).Const) ((x0.Dims.getD i71 ⟨0, []⟩).Terms)) x1 y114 h115)) (all_cons (congrArg (fun x => AV.bool (!x)) c119) all_nil))))) (by kernel_rfl)
      · subst e153
        have H154 := aft_brk H103
        refine some_e H154 fun e155 => ?_
        subst e155
        exact p_ret Tryz.mo 3 [.rg 0 [] [.v, .v, .v]] [.fz 44] [] all_nil (by kernel_rfl)
    · refine some_e H15 fun e156 => ?_
      subst e156
      exact p_ret Tryz.mo 15 [.rg 0 [] [.m, .v, .v], .rg 0 [] [.v, .c true (.bool y1), .v, .v], .eqT 11 (.bool false), .rg 0 [] [.v, .v, .v, .v], .eqT 15 (.bool true), .rg 0 [] [.v, .v]] [.wk 4 []] [] (all_cons Tryz.call31 (all_cons (AFn.is (shape_Valid_c x0 y1 h2)) (all_cons trivial (all_cons (congrArg (fun x => AV.bool (!x)) c8) (all_cons (congrArg (fun x => AV.bool (!x)) c14) all_nil))))) (by kernel_rfl)
  · refine some_e H11 fun e157 => ?_
    subst e157
    exact p_ret Tryz.mo 11 [.rg 0 [] [.m, .v, .v], .rg 0 [] [.v, .c true (.bool y1), .v, .v], .eqT 11 (.bool true), .rg 0 [] [.v, .v]] [.wk 4 []] [] (all_cons Tryz.call31 (all_cons (AFn.is (shape_Valid_c x0 y1 h2)) (all_cons trivial (all_cons (congrArg (fun x => AV.bool (!x)) c10) all_nil)))) (by kernel_rfl)
/-- slices.Equal[[]framewise/api.Coef,framewise/api.Coef] -/
def slices_Equal_api_Coef (x0 : (List Coef)) (x1 : (List Coef)) : Option Bool :=
  bif (((x0.length : Nat) : Int) == ((x1.length : Nat) : Int)) then (
    (cnt (σ := Unit) (ε := Unit) (ρ := Bool) (fun i31 s30 =>
      grd (i31 < x1.length) <|
      bif ((((x0.getD i31 ⟨[], 0⟩).Var) == ((x1.getD i31 ⟨[], 0⟩).Var)) && ((((x0.getD i31 ⟨[], 0⟩).C) == ((x1.getD i31 ⟨[], 0⟩).C)) && true)) then (
        some (.go ())
      ) else (
        some (.ret false)
      )
    ) (fun i31 s30 => ()) (x0.length - 0) 0 ()).bind <| aft fun u74 =>
    some true
  ) else (
    some false
  )
def slices_Equal_api_Coef_S1 (x0 : (List Coef)) (x1 : (List Coef)) (i31 : Nat) (s30 : Unit) : AS := ⟨26, [(0, .dslice (x0.map cCoef)), (1, .dslice (x1.map cCoef)), (4, .bool false), (12, .int .i64 ((x0.length : Nat) : Int)), (13, .int .i64 ((i31 : Nat) : Int))], []⟩
def slices_Equal_api_Coef_S2 (u49 : Unit) : AS := ⟨26, [(4, .bool false)], []⟩
theorem slices_Equal_api_Coef_c (x0 : (List Coef)) (x1 : (List Coef)) (r : Bool) (H : slices_Equal_api_Coef x0 x1 = some r) : AFn Tryz.prog 173 [.dslice (x0.map cCoef), .dslice (x1.map cCoef)] (.bool r) := by
  unfold slices_Equal_api_Coef at H
  refine acallX Tryz.func173 26 [.tmp 4] (by kernel_rfl) (by kernel_rfl) ?_
  refine bsp H (fun c1 H2 => ?_) (fun c3 H4 => ?_)
  · refine p_at Tryz.mo 12 [.rg 0 [] [.v], .rg 0 [] [.v, .e (.int .i64 ((x0.length : Nat) : Int)), .v, .e (.int .i64 ((x1.length : Nat) : Int)), .v], .eqT 10 (.bool false), .rg 0 [] [.v, .e (.int .i64 ((x0.length : Nat) : Int)), .v]] [.only [0, 1, 4, 12, 13] []] 11 [false] (slices_Equal_api_Coef_S1 x0 x1 0 ()) (all_cons trivial (all_cons (lenm cCoef x0) (all_cons trivial (all_cons (lenm cCoef x1) (all_cons (congrArg (fun x => AV.bool (!x)) c1) (all_cons trivial (all_cons (lenm cCoef x0) all_nil))))))) (by kernel_rfl) ?_
    refine bnd H2 fun R46 h47 H48 => ?_
    refine p_joinO 1 (slices_Equal_api_Coef_S2) R46 (by kernel_rfl) ?_ (fun u74 e75 => ?_)
    · refine p_cnt (slices_Equal_api_Coef_S1 x0 x1) (by kernel_rfl) h47 (fun i31 s30 h50 e51 => ?_) (fun i31 s30 h58 q54 h55 h56 => ?_)
      · have c52 : decide (((i31 : Nat) : Int) < ((x0.length : Nat) : Int)) = false := decide_eq_false (by omega)
        subst e51
        exact p_bar Tryz.mo 5 [.rg 0 [] [.e (.bool false)]] [.only [4] []] (slices_Equal_api_Coef_S2 ()) (all_cons (congrArg (AV.bool) c52) all_nil) (by kernel_rfl)
      · have c57 : decide (((i31 : Nat) : Int) < ((x0.length : Nat) : Int)) = true := decide_eq_true (by omega)
        refine grd_e h55 fun g59 H60 => ?_
        refine bsp H60 (fun c61 H62 => ?_) (fun c63 H64 => ?_)
        · refine t_lens 0 (ps := [(x0.map cCoef).length ≤ 9223372036854775807]) (by kernel_rfl) (fun l67 => ?_)
          have l68 : x0.length ≤ 9223372036854775807 := by simpa only [All, List.length_map] using l67
          clear l67
          refine some_e H62 fun e69 => ?_
          subst e69
          exact p_bar Tryz.mo 15 [.rg 0 [] [.e (.bool true)], .rg 0 [] [.v, .v], .rg 8 [.v, .v, .e (.dptr [.str ((x0.getD i31 ⟨[], 0⟩).Var), .int .i64 ((x0.getD i31 ⟨[], 0⟩).C)]), .v, .v, .v, .e (.dptr [.str ((x1.getD i31 ⟨[], 0⟩).Var), .int .i64 ((x1.getD i31 ⟨[], 0⟩).C)]), .v] [.w], .eqT 24 (.bool false), .rg 0 [] [.v, .v]] [.only [0, 1, 4, 12, 13] []] (slices_Equal_api_Coef_S1 x0 x1 (i31 + 1) ()) (all_cons (congrArg (AV.bool) c57) (all_app (ix (f := cCoef) (l := x0) (n := i31) ⟨[], 0⟩ cCoef_len (by decide) (by omega)) (all_app (ix (f := cCoef) (l := x1) (n := i31) ⟨[], 0⟩ cCoef_len (by decide) (by omega)) (all_cons (congrArg (fun x => AV.bool (!x)) c61) (all_cons (show I64 (((i31 : Nat) : Int) + 1) from by unfold I64; omega) all_nil))))) (by kernel_rfl)
        · refine some_e H64 fun e70 => ?_
          subst e70
          have e71 := out_ret h56
          subst e71
          have H72 := aft_ret H48
          refine some_e H72 fun e73 => ?_
          subst e73
          exact p_ret Tryz.mo 16 [.rg 0 [] [.e (.bool true)], .rg 0 [] [.v, .v], .rg 8 [.v, .v, .e (.dptr [.str ((x0.getD i31 ⟨[], 0⟩).Var), .int .i64 ((x0.getD i31 ⟨[], 0⟩).C)]), .v, .v, .v, .e (.dptr [.str ((x1.getD i31 ⟨[], 0⟩).Var), .int .i64 ((x1.getD i31 ⟨[], 0⟩).C)]), .v] [.w], .eqT 24 (.bool true), .rg 0 [] [.v]] [] [] (all_cons (congrArg (AV.bool) c57) (all_app (ix (f := cCoef) (l := x0) (n := i31) ⟨[], 0⟩ cCoef_len (by decide) (by omega)) (all_app (ix (f := cCoef) (l := x1) (n := i31) ⟨[], 0⟩ cCoef_len (by decide) (by omega)) (all_cons (congrArg (fun x => AV.bool (!x)) c63) all_nil)))) (by kernel_rfl)
    · subst e75
      have H76 := aft_brk H48
      refine some_e H76 fun e77 => ?_
      subst e77
      exact p_ret Tryz.mo 3 [.rg 0 [] [.v]] [] [] all_nil (by kernel_rfl)
  · refine some_e H4 fun e78 => ?_
    subst e78
    exact p_ret Tryz.mo 10 [.rg 0 [] [.v], .rg 0 [] [.v, .e (.int .i64 ((x0.length : Nat) : Int)), .v, .e (.int .i64 ((x1.length : Nat) : Int)), .v], .eqT 10 (.bool true), .rg 0 [] [.v]] [] [] (all_cons trivial (all_cons (lenm cCoef x0) (all_cons trivial (all_cons (lenm cCoef x1) (all_cons (congrArg (fun x => AV.bool (!x)) c3) all_nil))))) (by kernel_rfl)
/-- framewise/shape.same -/
def shape_same (x0 : Linear) (x1 : Linear) : Option Bool :=
  bif (x0.Const == x1.Const) then (
    (slices_Equal_api_Coef x0.Terms x1.Terms).bind fun y8 =>
    some y8
  ) else (
    some false
  )
theorem shape_same_c (x0 : Linear) (x1 : Linear) (r : Bool) (H : shape_same x0 x1 = some r) : AFn Tryz.prog 103 [.agg [.int .i64 x0.Const, .dslice (x0.Terms.map cCoef)], .agg [.int .i64 x1.Const, .dslice (x1.Terms.map cCoef)]] (.bool r) := by
  unfold shape_same at H
  refine acallX Tryz.func103 17 [.tmp 4] (by kernel_rfl) (by kernel_rfl) ?_
  refine bsp H (fun c4 H5 => ?_) (fun c6 H7 => ?_)
  · refine bnd H5 fun y8 h9 H10 => ?_
    refine some_e H10 fun e11 => ?_
    subst e11
    exact p_ret Tryz.mo 5 [.rg 0 [] [.m, .m, .v], .rg 0 [] [.v, .v, .v, .v, .e (.bool true), .v, .v, .v, .v, .v, .c true (.bool y8), .v, .v]] [] [] (all_cons (congrArg (AV.bool) c4) (all_cons Tryz.call173 (all_cons (AFn.is (slices_Equal_api_Coef_c x0.Terms x1.Terms y8 h9)) all_nil))) (by kernel_rfl)
  · refine some_e H7 fun e12 => ?_
    subst e12
    exact p_ret Tryz.mo 5 [.rg 0 [] [.m, .m, .v], .rg 0 [] [.v, .v, .v, .v, .e (.bool false), .v, .s, .s, .s, .s, .s, .v, .v]] [] [] (all_cons (congrArg (AV.bool) c6) all_nil) (by kernel_rfl)
/-- slices.EqualFunc[[]framewise/api.Linear,[]framewise/api.Linear,framewise/api.Linear,framewise/api.Linear] -/
def slices_EqualFunc_api_Linear (x0 : (List Linear)) (x1 : (List Linear)) : Option Bool :=
  bif (((x0.length : Nat) : Int) == ((x1.length : Nat) : Int)) then (
    (cnt (σ := Unit) (ε := Unit) (ρ := Bool) (fun i37 s36 =>
      grd (i37 < x1.length) <|
      (shape_same (Linear.mk ((x0.getD i37 ⟨0, []⟩).Const) ((x0.getD i37 ⟨0, []⟩).Terms)) (Linear.mk ((x1.getD i37 ⟨0, []⟩).Const) ((x1.getD i37 ⟨0, []⟩).Terms))).bind fun y70 =>
      bif y70 then (
        some (.go ())
      ) else (
        some (.ret false)
      )
    ) (fun i37 s36 => ()) (x0.length - 0) 0 ()).bind <| aft fun u86 =>
    some true
  ) else (
    some false
  )
def slices_EqualFunc_api_Linear_S1 (x0 : (List Linear)) (x1 : (List Linear)) (i37 : Nat) (s36 : Unit) : AS := ⟨32, [(1, .dslice (x1.map cLinear)), (2, .fn 103 []), (6, .bool false), (15, .dslice (x0.map cLinear)), (16, .int .i64 ((x0.length : Nat) : Int)), (17, .int .i64 ((i37 : Nat) : Int))], []⟩
def slices_EqualFunc_api_Linear_S2 (u58 : Unit) : AS := ⟨32, [(6, .bool false)], []⟩
theorem slices_EqualFunc_api_Linear_c (x0 : (List Linear)) (x1 : (List Linear)) (r : Bool) (H : slices_EqualFunc_api_Linear x0 x1 = some r) : AFn Tryz.prog 102 [.dslice (x0.map cLinear), .dslice (x1.map cLinear), .fn 103 []] (.bool r) := by
  unfold slices_EqualFunc_api_Linear at H
  refine acallX Tryz.func102 32 [.tmp 6] (by kernel_rfl) (by kernel_rfl) ?_
  refine bsp H (fun c1 H2 => ?_) (fun c3 H4 => ?_)
  · refine p_at Tryz.mo 12 [.rg 0 [] [.v], .rg 0 [] [.v, .e (.int .i64 ((x0.length : Nat) : Int)), .v, .e (.int .i64 ((x1.length : Nat) : Int)), .v], .eqT 14 (.bool false), .rg 0 [] [.v, .e (.int .i64 ((x0.length : Nat) : Int)), .v]] [.only [1, 2, 6, 15, 16, 17] []] 11 [false] (slices_EqualFunc_api_Linear_S1 x0 x1 0 ()) (all_cons trivial (all_cons (lenm cLinear x0) (all_cons trivial (all_cons (lenm cLinear x1) (all_cons (congrArg (fun x => AV.bool (!x)) c1) (all_cons trivial (all_cons (lenm cLinear x0) all_nil))))))) (by kernel_rfl) ?_
    refine bnd H2 fun R55 h56 H57 => ?_
    refine p_joinO 1 (slices_EqualFunc_api_Linear_S2) R55 (by kernel_rfl) ?_ (fun u86 e87 => ?_)
    · refine p_cnt (slices_EqualFunc_api_Linear_S1 x0 x1) (by kernel_rfl) h56 (fun i37 s36 h59 e60 => ?_) (fun i37 s36 h67 q63 h64 h65 => ?_)
      · have c61 : decide (((i37 : Nat) : Int) < ((x0.length : Nat) : Int)) = false := decide_eq_false (by omega)
        subst e60
        exact p_bar Tryz.mo 5 [.rg 0 [] [.e (.bool false)]] [.only [6] []] (slices_EqualFunc_api_Linear_S2 ()) (all_cons (congrArg (AV.bool) c61) all_nil) (by kernel_rfl)
      · have c66 : decide (((i37 : Nat) : Int) < ((x0.length : Nat) : Int)) = true := decide_eq_true (by omega)
        refine grd_e h64 fun g68 H69 => ?_
        refine bnd H69 fun y70 h71 H72 => ?_
        refine bsp H72 (fun c73 H74 => ?_) (fun c75 H76 => ?_)
        · refine t_lens 15 (ps := [(x0.map cLinear).length ≤ 9223372036854775807]) (by kernel_rfl) (fun l79 => ?_)
          have l80 : x0.length ≤ 9223372036854775807 := by simpa only [All, List.length_map] using l79
          clear l79
          refine some_e H74 fun e81 => ?_
          subst e81
          exact p_bar Tryz.mo 17 [.rg 0 [] [.e (.bool true)], .rg 0 [] [.v, .e (.dptr [.int .i64 ((x0.getD i37 ⟨0, []⟩).Const), .dslice (((x0.getD i37 ⟨0, []⟩).Terms).map cCoef)]), .v, .m, .v, .m], .rg 0 [] [.v, .v, .e (.dptr [.int .i64 ((x1.getD i37 ⟨0, []⟩).Const), .dslice (((x1.getD i37 ⟨0, []⟩).Terms).map cCoef)]), .v, .m, .m], .rg 0 [] [.v, .v, .v, .c true (.bool y70), .v], .eqT 30 (.bool false), .rg 0 [] [.v, .v]] [.only [1, 2, 6, 15, 16, 17] []] (slices_EqualFunc_api_Linear_S1 x0 x1 (i37 + 1) ()) (all_cons (congrArg (AV.bool) c66) (all_app (ix (f := cLinear) (l := x0) (n := i37) ⟨0, []⟩ cLinear_len (by decide) (by omega)) (all_app (ix (f := cLinear) (l := x1) (n := i37) ⟨0, []⟩ cLinear_len (by decide) (by omega)) (all_cons Tryz.call103 (all_cons (AFn.is (shape_same_c (Linear.mk ((x0.getD i37 ⟨0, []⟩).Const) ((x0.getD i37 ⟨0, []⟩).Terms)) (Linear.mk ((x1.getD i37 ⟨0, []⟩).Const) ((x1.getD i37 ⟨0, []⟩).Terms)) y70 h71)) (all_cons trivial (all_cons (congrArg (fun x => AV.bool (!x)) c73) (all_cons (show I64 (((i37 : Nat) : Int) + 1) from by unfold I64; omega) all_nil)))))))) (by kernel_rfl)
        · refine some_e H76 fun e82 => ?_
          subst e82
          have e83 := out_ret h65
          subst e83
          have H84 := aft_ret H57
          refine some_e H84 fun e85 => ?_
          subst e85
          exact p_ret Tryz.mo 18 [.rg 0 [] [.e (.bool true)], .rg 0 [] [.v, .e (.dptr [.int .i64 ((x0.getD i37 ⟨0, []⟩).Const), .dslice (((x0.getD i37 ⟨0, []⟩).Terms).map cCoef)]), .v, .m, .v, .m], .rg 0 [] [.v, .v, .e (.dptr [.int .i64 ((x1.getD i37 ⟨0, []⟩).Const), .dslice (((x1.getD i37 ⟨0, []⟩).Terms).map cCoef)]), .v, .m, .m], .rg 0 [] [.v, .v, .v, .c true (.bool y70), .v], .eqT 30 (.bool true), .rg 0 [] [.v]] [] [] (all_cons (congrArg (AV.bool) c66) (all_app (ix (f := cLinear) (l := x0) (n := i37) ⟨0, []⟩ cLinear_len (by decide) (by omega)) (all_app (ix (f := cLinear) (l := x1) (n := i37) ⟨0, []⟩ cLinear_len (by decide) (by omega)) (all_cons Tryz.call103 (all_cons (AFn.is (shape_same_c (Linear.mk ((x0.getD i37 ⟨0, []⟩).Const) ((x0.getD i37 ⟨0, []⟩).Terms)) (Linear.mk ((x1.getD i37 ⟨0, []⟩).Const) ((x1.getD i37 ⟨0, []⟩).Terms)) y70 h71)) (all_cons trivial (all_cons (congrArg (fun x => AV.bool (!x)) c75) all_nil))))))) (by kernel_rfl)
    · subst e87
      have H88 := aft_brk H57
      refine some_e H88 fun e89 => ?_
      subst e89
      exact p_ret Tryz.mo 3 [.rg 0 [] [.v]] [] [] all_nil (by kernel_rfl)
  · refine some_e H4 fun e90 => ?_
    subst e90
    exact p_ret Tryz.mo 10 [.rg 0 [] [.v], .rg 0 [] [.v, .e (.int .i64 ((x0.length : Nat) : Int)), .v, .e (.int .i64 ((x1.length : Nat) : Int)), .v], .eqT 14 (.bool true), .rg 0 [] [.v]] [] [] (all_cons trivial (all_cons (lenm cLinear x0) (all_cons trivial (all_cons (lenm cLinear x1) (all_cons (congrArg (fun x => AV.bool (!x)) c3) all_nil))))) (by kernel_rfl)
/-- framewise/shape.Equal -/
def shape_Equal (x0 : Shape) (x1 : Shape) : Option Bool :=
  bif (x0.Row == x1.Row) then (
    (slices_EqualFunc_api_Linear x0.Dims x1.Dims).bind fun y8 =>
    some y8
  ) else (
    some false
  )
theorem shape_Equal_c (x0 : Shape) (x1 : Shape) (r : Bool) (H : shape_Equal x0 x1 = some r) : AFn Tryz.prog 35 [.agg [.str x0.Row, .dslice (x0.Dims.map cLinear)], .agg [.str x1.Row, .dslice (x1.Dims.map cLinear)]] (.bool r) := by
  unfold shape_Equal at H
  refine acallX Tryz.func35 17 [.tmp 4] (by kernel_rfl) (by kernel_rfl) ?_
  refine bsp H (fun c4 H5 => ?_) (fun c6 H7 => ?_)
  · refine bnd H5 fun y8 h9 H10 => ?_
    refine some_e H10 fun e11 => ?_
    subst e11
    exact p_ret Tryz.mo 5 [.rg 0 [] [.m, .m, .v], .rg 0 [] [.v, .v, .v, .v, .e (.bool true), .v, .v, .v, .v, .v, .c true (.bool y8), .v, .v]] [] [] (all_cons (congrArg (AV.bool) c4) (all_cons Tryz.call102 (all_cons (AFn.is (slices_EqualFunc_api_Linear_c x0.Dims x1.Dims y8 h9)) all_nil))) (by kernel_rfl)
  · refine some_e H7 fun e12 => ?_
    subst e12
    exact p_ret Tryz.mo 5 [.rg 0 [] [.m, .m, .v], .rg 0 [] [.v, .v, .v, .v, .e (.bool false), .v, .s, .s, .s, .s, .s, .v, .v]] [] [] (all_cons (congrArg (AV.bool) c6) all_nil) (by kernel_rfl)
/-- framewise/framewiseref11.SameInts -/
def ref11_SameInts (x0 : (List Int)) (x1 : (List Int)) : Option Bool :=
  bif (((x0.length : Nat) : Int) == ((x1.length : Nat) : Int)) then (
    (cnt (σ := Unit) (ε := Unit) (ρ := Bool) (fun i31 s30 =>
      grd (i31 < x1.length) <|
      bif ((x0.getD i31 0) == (x1.getD i31 0)) then (
        some (.go ())
      ) else (
        some (.ret false)
      )
    ) (fun i31 s30 => ()) (x0.length - 0) 0 ()).bind <| aft fun u74 =>
    some true
  ) else (
    some false
  )
def ref11_SameInts_S1 (x0 : (List Int)) (x1 : (List Int)) (i31 : Nat) (s30 : Unit) : AS := ⟨26, [(0, .dslice (x0.map cInt_i64)), (1, .dslice (x1.map cInt_i64)), (4, .bool false), (5, .int .i64 ((i31 : Nat) : Int))], []⟩
def ref11_SameInts_S2 (u49 : Unit) : AS := ⟨26, [(4, .bool false)], []⟩
theorem ref11_SameInts_c (x0 : (List Int)) (x1 : (List Int)) (r : Bool) (H : ref11_SameInts x0 x1 = some r) : AFn Tryz.prog 23 [.dslice (x0.map cInt_i64), .dslice (x1.map cInt_i64)] (.bool r) := by
  unfold ref11_SameInts at H
  refine acallX Tryz.func23 26 [.tmp 4] (by kernel_rfl) (by kernel_rfl) ?_
  refine bsp H (fun c1 H2 => ?_) (fun c3 H4 => ?_)
  · refine p_at Tryz.mo 12 [.rg 0 [] [.v], .rg 0 [] [.v, .e (.int .i64 ((x0.length : Nat) : Int)), .v, .e (.int .i64 ((x1.length : Nat) : Int)), .v], .eqT 10 (.bool false), .rg 0 [] [.v]] [.only [0, 1, 4, 5] []] 11 [false] (ref11_SameInts_S1 x0 x1 0 ()) (all_cons trivial (all_cons (lenm cInt_i64 x0) (all_cons trivial (all_cons (lenm cInt_i64 x1) (all_cons (congrArg (fun x => AV.bool (!x)) c1) all_nil))))) (by kernel_rfl) ?_
    refine bnd H2 fun R46 h47 H48 => ?_
    refine p_joinO 1 (ref11_SameInts_S2) R46 (by kernel_rfl) ?_ (fun u74 e75 => ?_)
    · refine p_cnt (ref11_SameInts_S1 x0 x1) (by kernel_rfl) h47 (fun i31 s30 h50 e51 => ?_) (fun i31 s30 h58 q54 h55 h56 => ?_)
      · have c52 : decide (((i31 : Nat) : Int) < ((x0.length : Nat) : Int)) = false := decide_eq_false (by omega)
        subst e51
        exact p_bar Tryz.mo 5 [.rg 0 [] [.v, .v, .e (.int .i64 ((x0.length : Nat) : Int)), .e (.bool false)]] [.only [4] []] (ref11_SameInts_S2 ()) (all_cons trivial (all_cons (lenm cInt_i64 x0) (all_cons (congrArg (AV.bool) c52) all_nil))) (by kernel_rfl)
      · have c57 : decide (((i31 : Nat) : Int) < ((x0.length : Nat) : Int)) = true := decide_eq_true (by omega)
        refine grd_e h55 fun g59 H60 => ?_
        refine bsp H60 (fun c61 H62 => ?_) (fun c63 H64 => ?_)
        · refine t_lens 0 (ps := [(x0.map cInt_i64).length ≤ 9223372036854775807]) (by kernel_rfl) (fun l67 => ?_)
          have l68 : x0.length ≤ 9223372036854775807 := by simpa only [All, List.length_map] using l67
          clear l67
          refine some_e H62 fun e69 => ?_
          subst e69
          exact p_bar Tryz.mo 13 [.rg 0 [] [.v, .v, .e (.int .i64 ((x0.length : Nat) : Int)), .e (.bool true)], .rg 8 [.v, .v, .e (.dptr [.int .i64 (x0.getD i31 0)]), .v, .v, .v, .e (.dptr [.int .i64 (x1.getD i31 0)]), .v] [.v], .eqT 25 (.bool false), .rg 0 [] [.v, .v, .v]] [.only [0, 1, 4, 5] []] (ref11_SameInts_S1 x0 x1 (i31 + 1) ()) (all_cons trivial (all_cons (lenm cInt_i64 x0) (all_cons (congrArg (AV.bool) c57) (all_app (ix (f := cInt_i64) (l := x0) (n := i31) 0 cInt_i64_len (by decide) (by omega)) (all_app (ix (f := cInt_i64) (l := x1) (n := i31) 0 cInt_i64_len (by decide) (by omega)) (all_cons (congrArg (fun x => AV.bool (!x)) c61) (all_cons (show I64 (((i31 : Nat) : Int) + 1) from by unfold I64; omega) all_nil))))))) (by kernel_rfl)
        · refine some_e H64 fun e70 => ?_
          subst e70
          have e71 := out_ret h56
          subst e71
          have H72 := aft_ret H48
          refine some_e H72 fun e73 => ?_
          subst e73
          exact p_ret Tryz.mo 14 [.rg 0 [] [.v, .v, .e (.int .i64 ((x0.length : Nat) : Int)), .e (.bool true)], .rg 8 [.v, .v, .e (.dptr [.int .i64 (x0.getD i31 0)]), .v, .v, .v, .e (.dptr [.int .i64 (x1.getD i31 0)]), .v] [.v], .eqT 25 (.bool true), .rg 0 [] [.v]] [] [] (all_cons trivial (all_cons (lenm cInt_i64 x0) (all_cons (congrArg (AV.bool) c57) (all_app (ix (f := cInt_i64) (l := x0) (n := i31) 0 cInt_i64_len (by decide) (by omega)) (all_app (ix (f := cInt_i64) (l := x1) (n := i31) 0 cInt_i64_len (by decide) (by omega)) (all_cons (congrArg (fun x => AV.bool (!x)) c63) all_nil)))))) (by kernel_rfl)
    · subst e75
      have H76 := aft_brk H48
      refine some_e H76 fun e77 => ?_
      subst e77
      exact p_ret Tryz.mo 3 [.rg 0 [] [.v]] [] [] all_nil (by kernel_rfl)
  · refine some_e H4 fun e78 => ?_
    subst e78
    exact p_ret Tryz.mo 10 [.rg 0 [] [.v], .rg 0 [] [.v, .e (.int .i64 ((x0.length : Nat) : Int)), .v, .e (.int .i64 ((x1.length : Nat) : Int)), .v], .eqT 10 (.bool true), .rg 0 [] [.v]] [] [] (all_cons trivial (all_cons (lenm cInt_i64 x0) (all_cons trivial (all_cons (lenm cInt_i64 x1) (all_cons (congrArg (fun x => AV.bool (!x)) c3) all_nil))))) (by kernel_rfl)
/-- framewise/framewiselaw11.awake -/
noncomputable def law11_awake  : Option Bool :=
  (law11_dim 1 [110] 1).bind fun y1 =>
  (law11_dim 0 [] 3).bind fun y4 =>
  (shape_Print (Shape.mk [114] [y1, y4])).bind fun y7 =>
  (law11_dim 1 [109] 0).bind fun y10 =>
  (law11_dim 2 [107] 0).bind fun y13 =>
  (shape_Subst (Shape.mk [114] [y1, y4]) [(Bind.mk 2 [114] (Linear.mk 0 []) (Shape.mk [] [y10]) []), (Bind.mk 1 [110] y13 (Shape.mk [] []) [])]).bind fun y16 =>
  (shape_Print y16.1).bind fun y19 =>
  (shape_Parse y19.1).bind fun y22 =>
  (shape_Eval y16.1 [(Value.mk [107] 2), (Value.mk [109] 7)]).bind fun y25 =>
  bif (y7.2 == 0) then (
    bif (y16.2 == 0) then (
      bif (y19.2 == 0) then (
        bif (y22.2 == 0) then (
          bif (y25.2 == 0) then (
            bif (y7.1 == [91, 114, 46, 46, 44, 32, 110, 43, 49, 44, 32, 51, 93]) then (
              bif (y19.1 == [91, 109, 44, 32, 50, 107, 43, 49, 44, 32, 51, 93]) then (
                (shape_Equal y16.1 y22.1).bind fun y259 =>
                bif y259 then (
                  (ref11_SameInts y25.1 [7, 5, 3]).bind fun y276 =>
                  bif y276 then (
                    (shape_Valid (Shape.mk [114] [y1, y4])).bind fun y286 =>
                    some y286
                  ) else (
                    some false
                  )
                ) else (
                  some false
                )
              ) else (
                some false
              )
            ) else (
              some false
            )
          ) else (
            some false
          )
        ) else (
          some false
        )
      ) else (
        some false
      )
    ) else (
      some false
    )
  ) else (
    some false
  )
theorem law11_awake_c  (r : Bool) (H : law11_awake  = some r) : AFn Tryz.prog 15 [] (.bool r) := by
  unfold law11_awake at H
  refine acallX Tryz.func15 91 [.tmp 0] (by kernel_rfl) (by kernel_rfl) ?_
  refine bnd H fun y1 h2 H3 => ?_
  refine bnd H3 fun y4 h5 H6 => ?_
  refine bnd H6 fun y7 h8 H9 => ?_
  refine bnd H9 fun y10 h11 H12 => ?_
  refine bnd H12 fun y13 h14 H15 => ?_
  refine bnd H15 fun y16 h17 H18 => ?_
  refine bnd H18 fun y19 h20 H21 => ?_
  refine bnd H21 fun y22 h23 H24 => ?_
  refine bnd H24 fun y25 h26 H27 => ?_
  refine bsp H27 (fun c69 H70 => ?_) (fun c71 H72 => ?_)
  · refine bsp H70 (fun c110 H111 => ?_) (fun c112 H113 => ?_)
    · refine bsp H111 (fun c147 H148 => ?_) (fun c149 H150 => ?_)
      · refine bsp H148 (fun c180 H181 => ?_) (fun c182 H183 => ?_)
        · refine bsp H181 (fun c209 H210 => ?_) (fun c211 H212 => ?_)
          · refine bsp H210 (fun c234 H235 => ?_) (fun c236 H237 => ?_)
            · refine bsp H235 (fun c255 H256 => ?_) (fun c257 H258 => ?_)
              · refine bnd H256 fun y259 h260 H261 => ?_
                refine bsp H261 (fun c272 H273 => ?_) (fun c274 H275 => ?_)
                · refine bnd H273 fun y276 h277 H278 => ?_
                  refine bsp H278 (fun c282 H283 => ?_) (fun c284 H285 => ?_)
                  · refine bnd H283 fun y286 h287 H288 => ?_
                    refine some_e H288 fun e289 => ?_
                    subst e289
                    exact p_ret Tryz.mo 17 [.rg 0 [] [.v], .rg 0 [] [.c true (.agg [.int .i64 y1.Const, .dslice (y1.Terms.map cCoef)]), .c true (.agg [.int .i64 y4.Const, .dslice (y4.Terms.map cCoef)]), .b, .b, .m, .m], .rg 0 [] [.v, .c true (.tup [.str y7.1, .int .i64 y7.2]), .v, .v, .v, .v, .v], .rg 14 [.v, .c true (.agg [.int .i64 y10.Const, .dslice (y10.Terms.map cCoef)]), .b, .b, .b, .c true (.agg [.int .i64 y13.Const, .dslice (y13.Terms.map cCoef)]), .b, .bw [[(0, 3)], [(1, 5)]], .c true (.tup [.agg [.str y16.1.Row, .dslice (y16.1.Dims.map cLinear)], .int .i64 y16.2]), .v, .v, .v, .m, .m] [.v], .rg 0 [] [.v, .c true (.tup [.str y19.1, .int .i64 y19.2]), .v, .v, .v, .v, .v], .rg 0 [] [.v, .c true (.tup [.agg [.str y22.1.Row, .dslice (y22.1.Dims.map cLinear)], .int .i64 y22.2]), .v, .v, .v, .m, .m, .v], .rg 0 [] [.v, .b, .b, .b, .c true (.tup [.dslice (y25.1.map cInt_i64), .int .i64 y25.2]), .v, .v, .v, .v, .v], .rg 0 [] [.v, .e (.bool true), .v, .v, .e (.bool true), .v, .v, .v, .e (.bool true), .v, .v, .v, .e (.bool true), .v, .v, .v, .e (.bool true), .v, .v, .v, .e (.bool true), .v, .v, .v, .e (.bool true), .v, .v, .v, .v, .c true (.bool true), .v, .v, .v, .b, .c true (.bool true), .v, .v, .v, .c true (.bool y286), .v, .v]] [] [] (all_cons Tryz.call79 (all_cons (AFn.is (law11_dim_c 1 [110] 1 y1 h2)) (all_cons Tryz.call79 (all_cons (AFn.is (law11_dim_c 0 [] 3 y4 h5)) (all_cons Tryz.call24 (all_cons (AFn.is (shape_Print_c (Shape.mk [114] [y1, y4]) y7 h8)) (all_cons Tryz.call79 (all_cons (AFn.is (law11_dim_c 1 [109] 0 y10 h11)) (all_cons Tryz.call79 (all_cons (AFn.is (law11_dim_c 2 [107] 0 y13 h14)) (all_cons Tryz.call18 (all_cons (AFn.is (shape_Subst_c (Shape.mk [114] [y1, y4]) [(Bind.mk 2 [114] (Linear.mk 0 []) (Shape.mk [] [y10]) []), (Bind.mk 1 [110] y13 (Shape.mk [] []) [])] y16 h17)) (all_cons Tryz.call24 (all_cons (AFn.is (shape_Print_c y16.1 y19 h20)) (all_cons Tryz.call26 (all_cons (AFn.is (shape_Parse_c y19.1 y22 h23)) (all_cons Tryz.call19 (all_cons (AFn.is (shape_Eval_c y16.1 [(Value.mk [107] 2), (Value.mk [109] 7)] y25 h26)) (all_cons (congrArg (AV.bool) c69) (all_cons (congrArg (AV.bool) c110) (all_cons (congrArg (AV.bool) c147) (all_cons (congrArg (AV.bool) c180) (all_cons (congrArg (AV.bool) c209) (all_cons (congrArg (AV.bool) c234) (all_cons (congrArg (AV.bool) c255) (all_cons Tryz.call35 (all_cons (AFn.eq (shape_Equal_c y16.1 y22.1 y259 h260) (congrArg (AV.bool) c272)) (all_cons Tryz.call23 (all_cons (AFn.eq (ref11_SameInts_c y25.1 [7, 5, 3] y276 h277) (congrArg (AV.bool) c282)) (all_cons Tryz.call31 (all_cons (AFn.is (shape_Valid_c (Shape.mk [114] [y1, y4]) y286 h287)) all_nil))))))))))))))))))))))))))))))) (by kernel_rfl)
                  · refine some_e H285 fun e290 => ?_
                    subst e290
                    exact p_ret Tryz.mo 17 [.rg 0 [] [.v], .rg 0 [] [.c true (.agg [.int .i64 y1.Const, .dslice (y1.Terms.map cCoef)]), .c true (.agg [.int .i64 y4.Const, .dslice (y4.Terms.map cCoef)]), .b, .b, .m, .m], .rg 0 [] [.v, .c true (.tup [.str y7.1, .int .i64 y7.2]), .v, .v, .v, .v, .v], .rg 14 [.v, .c true (.agg [.int .i64 y10.Const, .dslice (y10.Terms.map cCoef)]), .b, .b, .b, .c true (.agg [.int .i64 y13.Const, .dslice (y13.Terms.map cCoef)]), .b, .bw [[(0, 3)], [(1, 5)]], .c true (.tup [.agg [.str y16.1.Row, .dslice (y16.1.Dims.map cLinear)], .int .i64 y16.2]), .v, .v, .v, .m, .m] [.v], .rg 0 [] [.v, .c true (.tup [.str y19.1, .int .i64 y19.2]), .v, .v, .v, .v, .v], .rg 0 [] [.v, .c true (.tup [.agg [.str y22.1.Row, .dslice (y22.1.Dims.map cLinear)], .int .i64 y22.2]), .v, .v, .v, .m, .m, .v], .rg 0 [] [.v, .b, .b, .b, .c true (.tup [.dslice (y25.1.map cInt_i64), .int .i64 y25.2]), .v, .v, .v, .v, .v], .rg 0 [] [.v, .e (.bool true), .v, .v, .e (.bool true), .v, .v, .v, .e (.bool true), .v, .v, .v, .e (.bool true), .v, .v, .v, .e (.bool true), .v, .v, .v, .e (.bool true), .v, .v, .v, .e (.bool true), .v, .v, .v, .v, .c true (.bool true), .v, .v, .v, .b, .c true (.bool false), .v, .v, .s, .s, .v, .v]] [] [] (all_cons Tryz.call79 (all_cons (AFn.is (law11_dim_c 1 [110] 1 y1 h2)) (all_cons Tryz.call79 (all_cons (AFn.is (law11_dim_c 0 [] 3 y4 h5)) (all_cons Tryz.call24 (all_cons (AFn.is (shape_Print_c (Shape.mk [114] [y1, y4]) y7 h8)) (all_cons Tryz.call79 (all_cons (AFn.is (law11_dim_c 1 [109] 0 y10 h11)) (all_cons Tryz.call79 (all_cons (AFn.is (law11_dim_c 2 [107] 0 y13 h14)) (all_cons Tryz.call18 (all_cons (AFn.is (shape_Subst_c (Shape.mk [114] [y1, y4]) [(Bind.mk 2 [114] (Linear.mk 0 []) (Shape.mk [] [y10]) []), (Bind.mk 1 [110] y13 (Shape.mk [] []) [])] y16 h17)) (all_cons Tryz.call24 (all_cons (AFn.is (shape_Print_c y16.1 y19 h20)) (all_cons Tryz.call26 (all_cons (AFn.is (shape_Parse_c y19.1 y22 h23)) (all_cons Tryz.call19 (all_cons (AFn.is (shape_Eval_c y16.1 [(Value.mk [107] 2), (Value.mk [109] 7)] y25 h26)) (all_cons (congrArg (AV.bool) c69) (all_cons (congrArg (AV.bool) c110) (all_cons (congrArg (AV.bool) c147) (all_cons (congrArg (AV.bool) c180) (all_cons (congrArg (AV.bool) c209) (all_cons (congrArg (AV.bool) c234) (all_cons (congrArg (AV.bool) c255) (all_cons Tryz.call35 (all_cons (AFn.eq (shape_Equal_c y16.1 y22.1 y259 h260) (congrArg (AV.bool) c272)) (all_cons Tryz.call23 (all_cons (AFn.eq (ref11_SameInts_c y25.1 [7, 5, 3] y276 h277) (congrArg (AV.bool) c284)) all_nil))))))))))))))))))))))))))))) (by kernel_rfl)
                · refine some_e H275 fun e291 => ?_
                  subst e291
                  exact p_ret Tryz.mo 17 [.rg 0 [] [.v], .rg 0 [] [.c true (.agg [.int .i64 y1.Const, .dslice (y1.Terms.map cCoef)]), .c true (.agg [.int .i64 y4.Const, .dslice (y4.Terms.map cCoef)]), .b, .b, .m, .m], .rg 0 [] [.v, .c true (.tup [.str y7.1, .int .i64 y7.2]), .v, .v, .v, .v, .v], .rg 14 [.v, .c true (.agg [.int .i64 y10.Const, .dslice (y10.Terms.map cCoef)]), .b, .b, .b, .c true (.agg [.int .i64 y13.Const, .dslice (y13.Terms.map cCoef)]), .b, .bw [[(0, 3)], [(1, 5)]], .c true (.tup [.agg [.str y16.1.Row, .dslice (y16.1.Dims.map cLinear)], .int .i64 y16.2]), .v, .v, .v, .m, .m] [.v], .rg 0 [] [.v, .c true (.tup [.str y19.1, .int .i64 y19.2]), .v, .v, .v, .v, .v], .rg 0 [] [.v, .c true (.tup [.agg [.str y22.1.Row, .dslice (y22.1.Dims.map cLinear)], .int .i64 y22.2]), .v, .v, .v, .m, .m, .v], .rg 0 [] [.v, .b, .b, .b, .c true (.tup [.dslice (y25.1.map cInt_i64), .int .i64 y25.2]), .v, .v, .v, .v, .v], .rg 0 [] [.v, .e (.bool true), .v, .v, .e (.bool true), .v, .v, .v, .e (.bool true), .v, .v, .v, .e (.bool true), .v, .v, .v, .e (.bool true), .v, .v, .v, .e (.bool true), .v, .v, .v, .e (.bool true), .v, .v, .v, .v, .c true (.bool false), .v, .v, .s, .s, .s, .v, .v, .s, .s, .v, .v]] [] [] (all_cons Tryz.call79 (all_cons (AFn.is (law11_dim_c 1 [110] 1 y1 h2)) (all_cons Tryz.call79 (all_cons (AFn.is (law11_dim_c 0 [] 3 y4 h5)) (all_cons Tryz.call24 (all_cons (AFn.is (shape_Print_c (Shape.mk [114] [y1, y4]) y7 h8)) (all_cons Tryz.call79 (all_cons (AFn.is (law11_dim_c 1 [109] 0 y10 h11)) (all_cons Tryz.call79 (all_cons (AFn.is (law11_dim_c 2 [107] 0 y13 h14)) (all_cons Tryz.call18 (all_cons (AFn.is (shape_Subst_c (Shape.mk [114] [y1, y4]) [(Bind.mk 2 [114] (Linear.mk 0 []) (Shape.mk [] [y10]) []), (Bind.mk 1 [110] y13 (Shape.mk [] []) [])] y16 h17)) (all_cons Tryz.call24 (all_cons (AFn.is (shape_Print_c y16.1 y19 h20)) (all_cons Tryz.call26 (all_cons (AFn.is (shape_Parse_c y19.1 y22 h23)) (all_cons Tryz.call19 (all_cons (AFn.is (shape_Eval_c y16.1 [(Value.mk [107] 2), (Value.mk [109] 7)] y25 h26)) (all_cons (congrArg (AV.bool) c69) (all_cons (congrArg (AV.bool) c110) (all_cons (congrArg (AV.bool) c147) (all_cons (congrArg (AV.bool) c180) (all_cons (congrArg (AV.bool) c209) (all_cons (congrArg (AV.bool) c234) (all_cons (congrArg (AV.bool) c255) (all_cons Tryz.call35 (all_cons (AFn.eq (shape_Equal_c y16.1 y22.1 y259 h260) (congrArg (AV.bool) c274)) all_nil))))))))))))))))))))))))))) (by kernel_rfl)
              · refine some_e H258 fun e292 => ?_
                subst e292
                exact p_ret Tryz.mo 17 [.rg 0 [] [.v], .rg 0 [] [.c true (.agg [.int .i64 y1.Const, .dslice (y1.Terms.map cCoef)]), .c true (.agg [.int .i64 y4.Const, .dslice (y4.Terms.map cCoef)]), .b, .b, .m, .m], .rg 0 [] [.v, .c true (.tup [.str y7.1, .int .i64 y7.2]), .v, .v, .v, .v, .v], .rg 14 [.v, .c true (.agg [.int .i64 y10.Const, .dslice (y10.Terms.map cCoef)]), .b, .b, .b, .c true (.agg [.int .i64 y13.Const, .dslice (y13.Terms.map cCoef)]), .b, .bw [[(0, 3)], [(1, 5)]], .c true (.tup [.agg [.str y16.1.Row, .dslice (y16.1.Dims.map cLinear)], .int .i64 y16.2]), .v, .v, .v, .m, .m] [.v], .rg 0 [] [.v, .c true (.tup [.str y19.1, .int .i64 y19.2]), .v, .v, .v, .v, .v], .rg 0 [] [.v, .c true (.tup [.agg [.str y22.1.Row, .dslice (y22.1.Dims.map cLinear)], .int .i64 y22.2]), .v, .v, .v, .m, .m, .v], .rg 0 [] [.v, .b, .b, .b, .c true (.tup [.dslice (y25.1.map cInt_i64), .int .i64 y25.2]), .v, .v, .v, .v, .v], .rg 0 [] [.v, .e (.bool true), .v, .v, .e (.bool true), .v, .v, .v, .e (.bool true), .v, .v, .v, .e (.bool true), .v, .v, .v, .e (.bool true), .v, .v, .v, .e (.bool true), .v, .v, .v, .e (.bool false), .v, .v, .s, .s, .s, .v, .v, .s, .s, .s, .v, .v, .s, .s, .v, .v]] [] [] (all_cons Tryz.call79 (all_cons (AFn.is (law11_dim_c 1 [110] 1 y1 h2)) (all_cons Tryz.call79 (all_cons (AFn.is (law11_dim_c 0 [] 3 y4 h5)) (all_cons Tryz.call24 (all_cons (AFn.is (shape_Print_c (Shape.mk [114] [y1, y4]) y7 h8)) (all_cons Tryz.call79 (all_cons (AFn.is (law11_dim_c 1 [109] 0 y10 h11)) (all_cons Tryz.call79 (all_cons (AFn.is (law11_dim_c 2 [107] 0 y13 h14)) (all_cons Tryz.call18 (all_cons (AFn.is (shape_Subst_c (Shape.mk [114] [y1, y4]) [(Bind.mk 2 [114] (Linear.mk 0 []) (Shape.mk [] [y10]) []), (Bind.mk 1 [110] y13 (Shape.mk [] []) [])] y16 h17)) (all_cons Tryz.call24 (all_cons (AFn.is (shape_Print_c y16.1 y19 h20)) (all_cons Tryz.call26 (all_cons (AFn.is (shape_Parse_c y19.1 y22 h23)) (all_cons Tryz.call19 (all_cons (AFn.is (shape_Eval_c y16.1 [(Value.mk [107] 2), (Value.mk [109] 7)] y25 h26)) (all_cons (congrArg (AV.bool) c69) (all_cons (congrArg (AV.bool) c110) (all_cons (congrArg (AV.bool) c147) (all_cons (congrArg (AV.bool) c180) (all_cons (congrArg (AV.bool) c209) (all_cons (congrArg (AV.bool) c234) (all_cons (congrArg (AV.bool) c257) all_nil))))))))))))))))))))))))) (by kernel_rfl)
            · refine some_e H237 fun e293 => ?_
              subst e293
              exact p_ret Tryz.mo 17 [.rg 0 [] [.v], .rg 0 [] [.c true (.agg [.int .i64 y1.Const, .dslice (y1.Terms.map cCoef)]), .c true (.agg [.int .i64 y4.Const, .dslice (y4.Terms.map cCoef)]), .b, .b, .m, .m], .rg 0 [] [.v, .c true (.tup [.str y7.1, .int .i64 y7.2]), .v, .v, .v, .v, .v], .rg 14 [.v, .c true (.agg [.int .i64 y10.Const, .dslice (y10.Terms.map cCoef)]), .b, .b, .b, .c true (.agg [.int .i64 y13.Const, .dslice (y13.Terms.map cCoef)]), .b, .bw [[(0, 3)], [(1, 5)]], .c true (.tup [.agg [.str y16.1.Row, .dslice (y16.1.Dims.map cLinear)], .int .i64 y16.2]), .v, .v, .v, .m, .m] [.v], .rg 0 [] [.v, .c true (.tup [.str y19.1, .int .i64 y19.2]), .v, .v, .v, .v, .v], .rg 0 [] [.v, .c true (.tup [.agg [.str y22.1.Row, .dslice (y22.1.Dims.map cLinear)], .int .i64 y22.2]), .v, .v, .v, .m, .m, .v], .rg 0 [] [.v, .b, .b, .b, .c true (.tup [.dslice (y25.1.map cInt_i64), .int .i64 y25.2]), .v, .v, .v, .v, .v], .rg 0 [] [.v, .e (.bool true), .v, .v, .e (.bool true), .v, .v, .v, .e (.bool true), .v, .v, .v, .e (.bool true), .v, .v, .v, .e (.bool true), .v, .v, .v, .e (.bool false), .v, .v, .s, .s, .v, .v, .s, .s, .s, .v, .v, .s, .s, .s, .v, .v, .s, .s, .v, .v]] [] [] (all_cons Tryz.call79 (all_cons (AFn.is (law11_dim_c 1 [110] 1 y1 h2)) (all_cons Tryz.call79 (all_cons (AFn.is (law11_dim_c 0 [] 3 y4 h5)) (all_cons Tryz.call24 (all_cons (AFn.is (shape_Print_c (Shape.mk [114] [y1, y4]) y7 h8)) (all_cons Tryz.call79 (all_cons (AFn.is (law11_dim_c 1 [109] 0 y10 h11)) (all_cons Tryz.call79 (all_cons (AFn.is (law11_dim_c 2 [107] 0 y13 h14)) (all_cons Tryz.call18 (all_cons (AFn.is (shape_Subst_c (Shape.mk [114] [y1, y4]) [(Bind.mk 2 [114] (Linear.mk 0 []) (Shape.mk [] [y10]) []), (Bind.mk 1 [110] y13 (Shape.mk [] []) [])] y16 h17)) (all_cons Tryz.call24 (all_cons (AFn.is (shape_Print_c y16.1 y19 h20)) (all_cons Tryz.call26 (all_cons (AFn.is (shape_Parse_c y19.1 y22 h23)) (all_cons Tryz.call19 (all_cons (AFn.is (shape_Eval_c y16.1 [(Value.mk [107] 2), (Value.mk [109] 7)] y25 h26)) (all_cons (congrArg (AV.bool) c69) (all_cons (congrArg (AV.bool) c110) (all_cons (congrArg (AV.bool) c147) (all_cons (congrArg (AV.bool) c180) (all_cons (congrArg (AV.bool) c209) (all_cons (congrArg (AV.bool) c236) all_nil)))))))))))))))))))))))) (by kernel_rfl)
          · refine some_e H212 fun e294 => ?_
            subst e294
            exact p_ret Tryz.mo 17 [.rg 0 [] [.v], .rg 0 [] [.c true (.agg [.int .i64 y1.Const, .dslice (y1.Terms.map cCoef)]), .c true (.agg [.int .i64 y4.Const, .dslice (y4.Terms.map cCoef)]), .b, .b, .m, .m], .rg 0 [] [.v, .c true (.tup [.str y7.1, .int .i64 y7.2]), .v, .v, .v, .v, .v], .rg 14 [.v, .c true (.agg [.int .i64 y10.Const, .dslice (y10.Terms.map cCoef)]), .b, .b, .b, .c true (.agg [.int .i64 y13.Const, .dslice (y13.Terms.map cCoef)]), .b, .bw [[(0, 3)], [(1, 5)]], .c true (.tup [.agg [.str y16.1.Row, .dslice (y16.1.Dims.map cLinear)], .int .i64 y16.2]), .v, .v, .v, .m, .m] [.v], .rg 0 [] [.v, .c true (.tup [.str y19.1, .int .i64 y19.2]), .v, .v, .v, .v, .v], .rg 0 [] [.v, .c true (.tup [.agg [.str y22.1.Row, .dslice (y22.1.Dims.map cLinear)], .int .i64 y22.2]), .v, .v, .v, .m, .m, .v], .rg 0 [] [.v, .b, .b, .b, .c true (.tup [.dslice (y25.1.map cInt_i64), .int .i64 y25.2]), .v, .v, .v, .v, .v], .rg 0 [] [.v, .e (.bool true), .v, .v, .e (.bool true), .v, .v, .v, .e (.bool true), .v, .v, .v, .e (.bool true), .v, .v, .v, .e (.bool false), .v, .v, .s, .s, .v, .v, .s, .s, .v, .v, .s, .s, .s, .v, .v, .s, .s, .s, .v, .v, .s, .s, .v, .v]] [] [] (all_cons Tryz.call79 (all_cons (AFn.is (law11_dim_c 1 [110] 1 y1 h2)) (all_cons Tryz.call79 (all_cons (AFn.is (law11_dim_c 0 [] 3 y4 h5)) (all_cons Tryz.call24 (all_cons (AFn.is (shape_Print_c (Shape.mk [114] [y1, y4]) y7 h8)) (all_cons Tryz.call79 (all_cons (AFn.is (law11_dim_c 1 [109] 0 y10 h11)) (all_cons Tryz.call79 (all_cons (AFn.is (law11_dim_c 2 [107] 0 y13 h14)) (all_cons Tryz.call18 (all_cons (AFn.is (shape_Subst_c (Shape.mk [114] [y1, y4]) [(Bind.mk 2 [114] (Linear.mk 0 []) (Shape.mk [] [y10]) []), (Bind.mk 1 [110] y13 (Shape.mk [] []) [])] y16 h17)) (all_cons Tryz.call24 (all_cons (AFn.is (shape_Print_c y16.1 y19 h20)) (all_cons Tryz.call26 (all_cons (AFn.is (shape_Parse_c y19.1 y22 h23)) (all_cons Tryz.call19 (all_cons (AFn.is (shape_Eval_c y16.1 [(Value.mk [107] 2), (Value.mk [109] 7)] y25 h26)) (all_cons (congrArg (AV.bool) c69) (all_cons (congrArg (AV.bool) c110) (all_cons (congrArg (AV.bool) c147) (all_cons (congrArg (AV.bool) c180) (all_cons (congrArg (AV.bool) c211) all_nil))))))))))))))))))))))) (by kernel_rfl)
        · refine some_e H183 fun e295 => ?_
          subst e295
          exact p_ret Tryz.mo 17 [.rg 0 [] [.v], .rg 0 [] [.c true (.agg [.int .i64 y1.Const, .dslice (y1.Terms.map cCoef)]), .c true (.agg [.int .i64 y4.Const, .dslice (y4.Terms.map cCoef)]), .b, .b, .m, .m], .rg 0 [] [.v, .c true (.tup [.str y7.1, .int .i64 y7.2]), .v, .v, .v, .v, .v], .rg 14 [.v, .c true (.agg [.int .i64 y10.Const, .dslice (y10.Terms.map cCoef)]), .b, .b, .b, .c true (.agg [.int .i64 y13.Const, .dslice (y13.Terms.map cCoef)]), .b, .bw [[(0, 3)], [(1, 5)]], .c true (.tup [.agg [.str y16.1.Row, .dslice (y16.1.Dims.map cLinear)], .int .i64 y16.2]), .v, .v, .v, .m, .m] [.v], .rg 0 [] [.v, .c true (.tup [.str y19.1, .int .i64 y19.2]), .v, .v, .v, .v, .v], .rg 0 [] [.v, .c true (.tup [.agg [.str y22.1.Row, .dslice (y22.1.Dims.map cLinear)], .int .i64 y22.2]), .v, .v, .v, .m, .m, .v], .rg 0 [] [.v, .b, .b, .b, .c true (.tup [.dslice (y25.1.map cInt_i64), .int .i64 y25.2]), .v, .v, .v, .v, .v], .rg 0 [] [.v, .e (.bool true), .v, .v, .e (.bool true), .v, .v, .v, .e (.bool true), .v, .v, .v, .e (.bool false), .v, .v, .s, .s, .v, .v, .s, .s, .v, .v, .s, .s, .v, .v, .s, .s, .s, .v, .v, .s, .s, .s, .v, .v, .s, .s, .v, .v]] [] [] (all_cons Tryz.call79 (all_cons (AFn.is (law11_dim_c 1 [110] 1 y1 h2)) (all_cons Tryz.call79 (all_cons (AFn.is (law11_dim_c 0 [] 3 y4 h5)) (all_cons Tryz.call24 (all_cons (AFn.is (shape_Print_c (Shape.mk [114] [y1, y4]) y7 h8)) (all_cons Tryz.call79 (all_cons (AFn.is (law11_dim_c 1 [109] 0 y10 h11)) (all_cons Tryz.call79 (all_cons (AFn.is (law11_dim_c 2 [107] 0 y13 h14)) (all_cons Tryz.call18 (all_cons (AFn.is (shape_Subst_c (Shape.mk [114] [y1, y4]) [(Bind.mk 2 [114] (Linear.mk 0 []) (Shape.mk [] [y10]) []), (Bind.mk 1 [110] y13 (Shape.mk [] []) [])] y16 h17)) (all_cons Tryz.call24 (all_cons (AFn.is (shape_Print_c y16.1 y19 h20)) (all_cons Tryz.call26 (all_cons (AFn.is (shape_Parse_c y19.1 y22 h23)) (all_cons Tryz.call19 (all_cons (AFn.is (shape_Eval_c y16.1 [(Value.mk [107] 2), (Value.mk [109] 7)] y25 h26)) (all_cons (congrArg (AV.bool) c69) (all_cons (congrArg (AV.bool) c110) (all_cons (congrArg (AV.bool) c147) (all_cons (congrArg (AV.bool) c182) all_nil)))))))))))))))))))))) (by kernel_rfl)
      · refine some_e H150 fun e296 => ?_
        subst e296
        exact p_ret Tryz.mo 17 [.rg 0 [] [.v], .rg 0 [] [.c true (.agg [.int .i64 y1.Const, .dslice (y1.Terms.map cCoef)]), .c true (.agg [.int .i64 y4.Const, .dslice (y4.Terms.map cCoef)]), .b, .b, .m, .m], .rg 0 [] [.v, .c true (.tup [.str y7.1, .int .i64 y7.2]), .v, .v, .v, .v, .v], .rg 14 [.v, .c true (.agg [.int .i64 y10.Const, .dslice (y10.Terms.map cCoef)]), .b, .b, .b, .c true (.agg [.int .i64 y13.Const, .dslice (y13.Terms.map cCoef)]), .b, .bw [[(0, 3)], [(1, 5)]], .c true (.tup [.agg [.str y16.1.Row, .dslice (y16.1.Dims.map cLinear)], .int .i64 y16.2]), .v, .v, .v, .m, .m] [.v], .rg 0 [] [.v, .c true (.tup [.str y19.1, .int .i64 y19.2]), .v, .v, .v, .v, .v], .rg 0 [] [.v, .c true (.tup [.agg [.str y22.1.Row, .dslice (y22.1.Dims.map cLinear)], .int .i64 y22.2]), .v, .v, .v, .m, .m, .v], .rg 0 [] [.v, .b, .b, .b, .c true (.tup [.dslice (y25.1.map cInt_i64), .int .i64 y25.2]), .v, .v, .v, .v, .v], .rg 0 [] [.v, .e (.bool true), .v, .v, .e (.bool true), .v, .v, .v, .e (.bool false), .v, .v, .s, .s, .v, .v, .s, .s, .v, .v, .s, .s, .v, .v, .s, .s, .v, .v, .s, .s, .s, .v, .v, .s, .s, .s, .v, .v, .s, .s, .v, .v]] [] [] (all_cons Tryz.call79 (all_cons (AFn.is (law11_dim_c 1 [110] 1 y1 h2)) (all_cons Tryz.call79 (all_cons (AFn.is (law11_dim_c 0 [] 3 y4 h5)) (all_cons Tryz.call24 (all_cons (AFn.is (shape_Print_c (Shape.mk [114] [y1, y4]) y7 h8)) (all_cons Tryz.call79 (all_cons (AFn.is (law11_dim_c 1 [109] 0 y10 h11)) (all_cons Tryz.call79 (all_cons (AFn.is (law11_dim_c 2 [107] 0 y13 h14)) (all_cons Tryz.call18 (all_cons (AFn.is (shape_Subst_c (Shape.mk [114] [y1, y4]) [(Bind.mk 2 [114] (Linear.mk 0 []) (Shape.mk [] [y10]) []), (Bind.mk 1 [110] y13 (Shape.mk [] []) [])] y16 h17)) (all_cons Tryz.call24 (all_cons (AFn.is (shape_Print_c y16.1 y19 h20)) (all_cons Tryz.call26 (all_cons (AFn.is (shape_Parse_c y19.1 y22 h23)) (all_cons Tryz.call19 (all_cons (AFn.is (shape_Eval_c y16.1 [(Value.mk [107] 2), (Value.mk [109] 7)] y25 h26)) (all_cons (congrArg (AV.bool) c69) (all_cons (congrArg (AV.bool) c110) (all_cons (congrArg (AV.bool) c149) all_nil))))))))))))))))))))) (by kernel_rfl)
    · refine some_e H113 fun e297 => ?_
      subst e297
      exact p_ret Tryz.mo 17 [.rg 0 [] [.v], .rg 0 [] [.c true (.agg [.int .i64 y1.Const, .dslice (y1.Terms.map cCoef)]), .c true (.agg [.int .i64 y4.Const, .dslice (y4.Terms.map cCoef)]), .b, .b, .m, .m], .rg 0 [] [.v, .c true (.tup [.str y7.1, .int .i64 y7.2]), .v, .v, .v, .v, .v], .rg 14 [.v, .c true (.agg [.int .i64 y10.Const, .dslice (y10.Terms.map cCoef)]), .b, .b, .b, .c true (.agg [.int .i64 y13.Const, .dslice (y13.Terms.map cCoef)]), .b, .bw [[(0, 3)], [(1, 5)]], .c true (.tup [.agg [.str y16.1.Row, .dslice (y16.1.Dims.map cLinear)], .int .i64 y16.2]), .v, .v, .v, .m, .m] [.v], .rg 0 [] [.v, .c true (.tup [.str y19.1, .int .i64 y19.2]), .v, .v, .v, .v, .v], .rg 0 [] [.v, .c true (.tup [.agg [.str y22.1.Row, .dslice (y22.1.Dims.map cLinear)], .int .i64 y22.2]), .v, .v, .v, .m, .m, .v], .rg 0 [] [.v, .b, .b, .b, .c true (.tup [.dslice (y25.1.map cInt_i64), .int .i64 y25.2]), .v, .v, .v, .v, .v], .rg 0 [] [.v, .e (.bool true), .v, .v, .e (.bool false), .v, .v, .s, .s, .v, .v, .s, .s, .v, .v, .s, .s, .v, .v, .s, .s, .v, .v, .s, .s, .v, .v, .s, .s, .s, .v, .v, .s, .s, .s, .v, .v, .s, .s, .v, .v]] [] [] (all_cons Tryz.call79 (all_cons (AFn.is (law11_dim_c 1 [110] 1 y1 h2)) (all_cons Tryz.call79 (all_cons (AFn.is (law11_dim_c 0 [] 3 y4 h5)) (all_cons Tryz.call24 (all_cons (AFn.is (shape_Print_c (Shape.mk [114] [y1, y4]) y7 h8)) (all_cons Tryz.call79 (all_cons (AFn.is (law11_dim_c 1 [109] 0 y10 h11)) (all_cons Tryz.call79 (all_cons (AFn.is (law11_dim_c 2 [107] 0 y13 h14)) (all_cons Tryz.call18 (all_cons (AFn.is (shape_Subst_c (Shape.mk [114] [y1, y4]) [(Bind.mk 2 [114] (Linear.mk 0 []) (Shape.mk [] [y10]) []), (Bind.mk 1 [110] y13 (Shape.mk [] []) [])] y16 h17)) (all_cons Tryz.call24 (all_cons (AFn.is (shape_Print_c y16.1 y19 h20)) (all_cons Tryz.call26 (all_cons (AFn.is (shape_Parse_c y19.1 y22 h23)) (all_cons Tryz.call19 (all_cons (AFn.is (shape_Eval_c y16.1 [(Value.mk [107] 2), (Value.mk [109] 7)] y25 h26)) (all_cons (congrArg (AV.bool) c69) (all_cons (congrArg (AV.bool) c112) all_nil)))))))))))))))))))) (by kernel_rfl)
  · refine some_e H72 fun e298 => ?_
    subst e298
    exact p_ret Tryz.mo 17 [.rg 0 [] [.v], .rg 0 [] [.c true (.agg [.int .i64 y1.Const, .dslice (y1.Terms.map cCoef)]), .c true (.agg [.int .i64 y4.Const, .dslice (y4.Terms.map cCoef)]), .b, .b, .m, .m], .rg 0 [] [.v, .c true (.tup [.str y7.1, .int .i64 y7.2]), .v, .v, .v, .v, .v], .rg 14 [.v, .c true (.agg [.int .i64 y10.Const, .dslice (y10.Terms.map cCoef)]), .b, .b, .b, .c true (.agg [.int .i64 y13.Const, .dslice (y13.Terms.map cCoef)]), .b, .bw [[(0, 3)], [(1, 5)]], .c true (.tup [.agg [.str y16.1.Row, .dslice (y16.1.Dims.map cLinear)], .int .i64 y16.2]), .v, .v, .v, .m, .m] [.v], .rg 0 [] [.v, .c true (.tup [.str y19.1, .int .i64 y19.2]), .v, .v, .v, .v, .v], .rg 0 [] [.v, .c true (.tup [.agg [.str y22.1.Row, .dslice (y22.1.Dims.map cLinear)], .int .i64 y22.2]), .v, .v, .v, .m, .m, .v], .rg 0 [] [.v, .b, .b, .b, .c true (.tup [.dslice (y25.1.map cInt_i64), .int .i64 y25.2]), .v, .v, .v, .v, .v], .rg 0 [] [.v, .e (.bool false), .v, .s, .s, .v, .v, .s, .s, .v, .v, .s, .s, .v, .v, .s, .s, .v, .v, .s, .s, .v, .v, .s, .s, .v, .v, .s, .s, .s, .v, .v, .s, .s, .s, .v, .v, .s, .s, .v, .v]] [] [] (all_cons Tryz.call79 (all_cons (AFn.is (law11_dim_c 1 [110] 1 y1 h2)) (all_cons Tryz.call79 (all_cons (AFn.is (law11_dim_c 0 [] 3 y4 h5)) (all_cons Tryz.call24 (all_cons (AFn.is (shape_Print_c (Shape.mk [114] [y1, y4]) y7 h8)) (all_cons Tryz.call79 (all_cons (AFn.is (law11_dim_c 1 [109] 0 y10 h11)) (all_cons Tryz.call79 (all_cons (AFn.is (law11_dim_c 2 [107] 0 y13 h14)) (all_cons Tryz.call18 (all_cons (AFn.is (shape_Subst_c (Shape.mk [114] [y1, y4]) [(Bind.mk 2 [114] (Linear.mk 0 []) (Shape.mk [] [y10]) []), (Bind.mk 1 [110] y13 (Shape.mk [] []) [])] y16 h17)) (all_cons Tryz.call24 (all_cons (AFn.is (shape_Print_c y16.1 y19 h20)) (all_cons Tryz.call26 (all_cons (AFn.is (shape_Parse_c y19.1 y22 h23)) (all_cons Tryz.call19 (all_cons (AFn.is (shape_Eval_c y16.1 [(Value.mk [107] 2), (Value.mk [109] 7)] y25 h26)) (all_cons (congrArg (AV.bool) c71) all_nil))))))))))))))))))) (by kernel_rfl)
/-- framewise/framewiseref11.fewLinear -/
def ref11_fewLinear (x0 : Linear) : Option Bool :=
  (cnt (σ := Unit) (ε := Unit) (ρ := Bool) (fun i23 s22 =>
    bif decide (((((x0.Terms.getD i23 ⟨[], 0⟩).Var).length : Nat) : Int) > 35) then (
      some (.ret false)
    ) else (
      some (.go ())
    )
  ) (fun i23 s22 => ()) (x0.Terms.length - 0) 0 ()).bind <| aft fun u62 =>
  some (decide (((x0.Terms.length : Nat) : Int) ≤ 14))
def ref11_fewLinear_S1 (x0 : Linear) (i23 : Nat) (s22 : Unit) : AS := ⟨23, [(1, .hptr 1 0), (2, .bool false), (3, .int .i64 ((i23 : Nat) : Int))], [(1, .cells 39 [.int .i64 x0.Const, .dslice (x0.Terms.map cCoef)])]⟩
def ref11_fewLinear_S2 (x0 : Linear) (u39 : Unit) : AS := ⟨23, [(1, .hptr 1 0), (2, .bool false)], [(1, .cells 39 [.int .i64 x0.Const, .dslice (x0.Terms.map cCoef)])]⟩
theorem ref11_fewLinear_c (x0 : Linear) (r : Bool) (H : ref11_fewLinear x0 = some r) : AFn Tryz.prog 80 [.agg [.int .i64 x0.Const, .dslice (x0.Terms.map cCoef)]] (.bool r) := by
  unfold ref11_fewLinear at H
  refine acallX Tryz.func80 23 [.tmp 2] (by kernel_rfl) (by kernel_rfl) ?_
  refine p_at Tryz.mo 6 [.rg 0 [] [.m, .v], .rg 0 [] [.v]] [.only [1, 2, 3] [1]] 6 [] (ref11_fewLinear_S1 x0 0 ()) all_nil (by kernel_rfl) ?_
  refine bnd H fun R36 h37 H38 => ?_
  refine p_joinO 1 (ref11_fewLinear_S2 x0) R36 (by kernel_rfl) ?_ (fun u62 e63 => ?_)
  · refine p_cnt (ref11_fewLinear_S1 x0) (by kernel_rfl) h37 (fun i23 s22 h40 e41 => ?_) (fun i23 s22 h48 q44 h45 h46 => ?_)
    · have c42 : decide (((i23 : Nat) : Int) < ((x0.Terms.length : Nat) : Int)) = false := decide_eq_false (by omega)
      subst e41
      exact p_bar Tryz.mo 5 [.rg 0 [] [.v, .v, .v, .e (.int .i64 ((x0.Terms.length : Nat) : Int)), .e (.bool false)]] [.only [1, 2] [1]] (ref11_fewLinear_S2 x0 ()) (all_cons trivial (all_cons (lenm cCoef x0.Terms) (all_cons (congrArg (AV.bool) c42) all_nil))) (by kernel_rfl)
    · have c47 : decide (((i23 : Nat) : Int) < ((x0.Terms.length : Nat) : Int)) = true := decide_eq_true (by omega)
      refine bsp h45 (fun c49 H50 => ?_) (fun c51 H52 => ?_)
      · have c49p := of_decide_eq_true c49
        refine some_e H50 fun e53 => ?_
        subst e53
        have e54 := out_ret h46
        subst e54
        have H55 := aft_ret H38
        refine some_e H55 fun e56 => ?_
        subst e56
        exact p_ret Tryz.mo 14 [.rg 0 [] [.v, .v, .v, .e (.int .i64 ((x0.Terms.length : Nat) : Int)), .e (.bool true)], .rg 0 [] [.v, .v, .v, .e (.dptr [.str ((x0.Terms.getD i23 ⟨[], 0⟩).Var), .int .i64 ((x0.Terms.getD i23 ⟨[], 0⟩).C)]), .v, .v, .v, .v], .eqT 18 (.bool true), .rg 0 [] [.v]] [] [] (all_cons trivial (all_cons (lenm cCoef x0.Terms) (all_cons (congrArg (AV.bool) c47) (all_app (ix (f := cCoef) (l := x0.Terms) (n := i23) ⟨[], 0⟩ cCoef_len (by decide) (by omega)) (all_cons trivial (all_cons (congrArg (AV.bool) c49) all_nil)))))) (by kernel_rfl)
      · have c51p := of_decide_eq_false c51
        refine t_lensH 1 1 (ps := [(x0.Terms.map cCoef).length ≤ 9223372036854775807]) (by kernel_rfl) (fun l59 => ?_)
        have l60 : x0.Terms.length ≤ 9223372036854775807 := by simpa only [All, List.length_map] using l59
        clear l59
        refine some_e H52 fun e61 => ?_
        subst e61
        exact p_bar Tryz.mo 13 [.rg 0 [] [.v, .v, .v, .e (.int .i64 ((x0.Terms.length : Nat) : Int)), .e (.bool true)], .rg 0 [] [.v, .v, .v, .e (.dptr [.str ((x0.Terms.getD i23 ⟨[], 0⟩).Var), .int .i64 ((x0.Terms.getD i23 ⟨[], 0⟩).C)]), .v, .v, .v, .v], .eqT 18 (.bool false), .rg 0 [] [.v, .v, .v]] [.only [1, 2, 3] [1]] (ref11_fewLinear_S1 x0 (i23 + 1) ()) (all_cons trivial (all_cons (lenm cCoef x0.Terms) (all_cons (congrArg (AV.bool) c47) (all_app (ix (f := cCoef) (l := x0.Terms) (n := i23) ⟨[], 0⟩ cCoef_len (by decide) (by omega)) (all_cons trivial (all_cons (congrArg (AV.bool) c51) (all_cons (show I64 (((i23 : Nat) : Int) + 1) from by unfold I64; omega) all_nil))))))) (by kernel_rfl)
  · subst e63
    have H64 := aft_brk H38
    refine some_e H64 fun e65 => ?_
    subst e65
    exact p_ret Tryz.mo 3 [.rg 0 [] [.v, .v, .e (.int .i64 ((x0.Terms.length : Nat) : Int)), .v, .v]] [] [] (all_cons trivial (all_cons (lenm cCoef x0.Terms) all_nil)) (by kernel_rfl)
/-- framewise/framewiseref11.Few -/
def ref11_Few (x0 : Shape) : Option Bool :=
  (cnt (σ := Unit) (ε := Unit) (ρ := Bool) (fun i29 s28 =>
    (ref11_fewLinear (Linear.mk ((x0.Dims.getD i29 ⟨0, []⟩).Const) ((x0.Dims.getD i29 ⟨0, []⟩).Terms))).bind fun y58 =>
    bif y58 then (
      some (.go ())
    ) else (
      some (.ret false)
    )
  ) (fun i29 s28 => ()) (x0.Dims.length - 0) 0 ()).bind <| aft fun u74 =>
  bif decide (((x0.Dims.length : Nat) : Int) ≤ 8) then (
    some (decide (((x0.Row.length : Nat) : Int) ≤ 35))
  ) else (
    some false
  )
def ref11_Few_S1 (x0 : Shape) (i29 : Nat) (s28 : Unit) : AS := ⟨28, [(1, .hptr 1 0), (2, .bool false), (3, .int .i64 ((i29 : Nat) : Int))], [(1, .cells 24 [.str x0.Row, .dslice (x0.Dims.map cLinear)])]⟩
def ref11_Few_S2 (x0 : Shape) (u48 : Unit) : AS := ⟨28, [(1, .hptr 1 0), (2, .bool false)], [(1, .cells 24 [.str x0.Row, .dslice (x0.Dims.map cLinear)])]⟩
theorem ref11_Few_c (x0 : Shape) (r : Bool) (H : ref11_Few x0 = some r) : AFn Tryz.prog 16 [.agg [.str x0.Row, .dslice (x0.Dims.map cLinear)]] (.bool r) := by
  unfold ref11_Few at H
  refine acallX Tryz.func16 28 [.tmp 2] (by kernel_rfl) (by kernel_rfl) ?_
  refine p_at Tryz.mo 6 [.rg 0 [] [.m, .v], .rg 0 [] [.v]] [.only [1, 2, 3] [1]] 6 [] (ref11_Few_S1 x0 0 ()) all_nil (by kernel_rfl) ?_
  refine bnd H fun R45 h46 H47 => ?_
  refine p_joinO 1 (ref11_Few_S2 x0) R45 (by kernel_rfl) ?_ (fun u74 e75 => ?_)
  · refine p_cnt (ref11_Few_S1 x0) (by kernel_rfl) h46 (fun i29 s28 h49 e50 => ?_) (fun i29 s28 h57 q53 h54 h55 => ?_)
    · have c51 : decide (((i29 : Nat) : Int) < ((x0.Dims.length : Nat) : Int)) = false := decide_eq_false (by omega)
      subst e50
      exact p_bar Tryz.mo 5 [.rg 0 [] [.v, .v, .v, .e (.int .i64 ((x0.Dims.length : Nat) : Int)), .e (.bool false)]] [.only [1, 2] [1]] (ref11_Few_S2 x0 ()) (all_cons trivial (all_cons (lenm cLinear x0.Dims) (all_cons (congrArg (AV.bool) c51) all_nil))) (by kernel_rfl)
    · have c56 : decide (((i29 : Nat) : Int) < ((x0.Dims.length : Nat) : Int)) = true := decide_eq_true (by omega)
      refine bnd h54 fun y58 h59 H60 => ?_
      refine bsp H60 (fun c61 H62 => ?_) (fun c63 H64 => ?_)
      · refine t_lensH 1 1 (ps := [(x0.Dims.map cLinear).length ≤ 9223372036854775807]) (by kernel_rfl) (fun l67 => ?_)
        have l68 : x0.Dims.length ≤ 9223372036854775807 := by simpa only [All, List.length_map] using l67
        clear l67
        refine some_e H62 fun e69 => ?_
        subst e69
        exact p_bar Tryz.mo 13 [.rg 0 [] [.v, .v, .v, .e (.int .i64 ((x0.Dims.length : Nat) : Int)), .e (.bool true)], .rg 0 [] [.v, .v, .v, .e (.dptr [.int .i64 ((x0.Dims.getD i29 ⟨0, []⟩).Const), .dslice (((x0.Dims.getD i29 ⟨0, []⟩).Terms).map cCoef)]), .v, .c true (.bool y58), .v], .eqT 17 (.bool false), .rg 0 [] [.v, .v, .v]] [.only [1, 2, 3] [1]] (ref11_Few_S1 x0 (i29 + 1) ()) (all_cons trivial (all_cons (lenm cLinear x0.Dims) (all_cons (congrArg (AV.bool) c56) (all_app (ix (f := cLinear) (l := x0.Dims) (n := i29) ⟨0, []⟩ cLinear_len (by decide) (by omega)) (all_cons Tryz.call80 (all_cons (AFn.is (ref11_fewLinear_c (Linear.mk ((x0.Dims.getD i29 ⟨0, []⟩).Const) ((x0.Dims.getD i29 ⟨0, []⟩).Terms)) y58 h59)) (all_cons trivial (all_cons (congrArg (fun x => AV.bool (!x)) c61) (all_cons (show I64 (((i29 : Nat) : Int) + 1) from by unfold I64; omega) all_nil))))))))) (by kernel_rfl)
      · refine some_e H64 fun e70 => ?_
        subst e70
        have e71 := out_ret h55
        subst e71
        have H72 := aft_ret H47
        refine some_e H72 fun e73 => ?_
        subst e73
        exact p_ret Tryz.mo 14 [.rg 0 [] [.v, .v, .v, .e (.int .i64 ((x0.Dims.length : Nat) : Int)), .e (.bool true)], .rg 0 [] [.v, .v, .v, .e (.dptr [.int .i64 ((x0.Dims.getD i29 ⟨0, []⟩).Const), .dslice (((x0.Dims.getD i29 ⟨0, []⟩).Terms).map cCoef)]), .v, .c true (.bool y58), .v], .eqT 17 (.bool true), .rg 0 [] [.v]] [] [] (all_cons trivial (all_cons (lenm cLinear x0.Dims) (all_cons (congrArg (AV.bool) c56) (all_app (ix (f := cLinear) (l := x0.Dims) (n := i29) ⟨0, []⟩ cLinear_len (by decide) (by omega)) (all_cons Tryz.call80 (all_cons (AFn.is (ref11_fewLinear_c (Linear.mk ((x0.Dims.getD i29 ⟨0, []⟩).Const) ((x0.Dims.getD i29 ⟨0, []⟩).Terms)) y58 h59)) (all_cons trivial (all_cons (congrArg (fun x => AV.bool (!x)) c63) all_nil)))))))) (by kernel_rfl)
  · subst e75
    have H76 := aft_brk H47
    refine bsp H76 (fun c77 H78 => ?_) (fun c79 H80 => ?_)
    · have c77p := of_decide_eq_true c77
      refine some_e H78 fun e81 => ?_
      subst e81
      exact p_ret Tryz.mo 3 [.rg 0 [] [.v, .v, .e (.int .i64 ((x0.Dims.length : Nat) : Int)), .e (.bool true), .v, .v, .v, .v, .v, .v, .v]] [] [] (all_cons trivial (all_cons (lenm cLinear x0.Dims) (all_cons (congrArg (AV.bool) c77) (all_cons trivial all_nil)))) (by kernel_rfl)
    · have c79p := of_decide_eq_false c79
      refine some_e H80 fun e82 => ?_
      subst e82
      exact p_ret Tryz.mo 3 [.rg 0 [] [.v, .v, .e (.int .i64 ((x0.Dims.length : Nat) : Int)), .e (.bool false), .v, .s, .s, .s, .s, .v, .v]] [] [] (all_cons trivial (all_cons (lenm cLinear x0.Dims) (all_cons (congrArg (AV.bool) c79) all_nil))) (by kernel_rfl)
/-- framewise/shape.Concat -/
noncomputable def shape_Concat (x0 : Shape) (x1 : Shape) : Option (Shape × Int) :=
  (shape_Valid x0).bind fun y1 =>
  bif y1 then (
    (shape_Valid x1).bind fun y19 =>
    bif y19 then (
      bif (x1.Row == []) then (
        (lib_ConcatL [x0.Dims, x1.Dims]).bind fun y34 =>
        (shape_made x0.Row y34).bind fun y37 =>
        some (y37.1, y37.2)
      ) else (
        some ((Shape.mk [] []), 13)
      )
    ) else (
      some ((Shape.mk [] []), 1)
    )
  ) else (
    some ((Shape.mk [] []), 1)
  )
theorem shape_Concat_c (x0 : Shape) (x1 : Shape) (r : (Shape × Int)) (H : shape_Concat x0 x1 = some r) : AFn Tryz.prog 41 [.agg [.str x0.Row, .dslice (x0.Dims.map cLinear)], .agg [.str x1.Row, .dslice (x1.Dims.map cLinear)]] (.tup [.agg [.str r.1.Row, .dslice (r.1.Dims.map cLinear)], .int .i64 r.2]) := by
  unfold shape_Concat at H
  refine acallX Tryz.func41 32 [.cell 4 24, .tmp 5] (by kernel_rfl) (by kernel_rfl) ?_
  refine bnd H fun y1 h2 H3 => ?_
  refine bsp H3 (fun c15 H16 => ?_) (fun c17 H18 => ?_)
  · refine bnd H16 fun y19 h20 H21 => ?_
    refine bsp H21 (fun c26 H27 => ?_) (fun c28 H29 => ?_)
    · refine bsp H27 (fun c30 H31 => ?_) (fun c32 H33 => ?_)
      · refine bnd H31 fun y34 h35 H36 => ?_
        refine bnd H36 fun y37 h38 H39 => ?_
        refine some_e H39 fun e40 => ?_
        subst e40
        exact p_ret Tryz.mo 16 [.rg 0 [] [.m, .m, .m, .v], .rg 0 [] [.v, .c true (.bool true), .v, .v, .v, .c true (.bool y19), .v, .v, .v], .eqT 6 (.bool false), .rg 0 [] [.v, .v, .v, .v], .eqT 16 (.bool false), .rg 11 [.v, .v, .v, .v, .v, .v, .b, .c true (.dslice (y34.map cLinear)), .c true (.tup [.agg [.str y37.1.Row, .dslice (y37.1.Dims.map cLinear)], .int .i64 y37.2]), .v, .v] [.m, .v]] [] [] (all_cons Tryz.call31 (all_cons (AFn.eq (shape_Valid_c x0 y1 h2) (congrArg (AV.bool) c15)) (all_cons trivial (all_cons Tryz.call31 (all_cons (AFn.is (shape_Valid_c x1 y19 h20)) (all_cons trivial (all_cons (congrArg (fun x => AV.bool (!x)) c26) (all_cons (congrArg (fun x => AV.bool (!x)) c30) (all_cons Tryz.call109 (all_cons (AFn.is (lib_ConcatL_c cLinear [x0.Dims, x1.Dims] cLinear_ok y34 h35)) (all_cons Tryz.call84 (all_cons (AFn.is (shape_made_c x0.Row y34 y37 h38)) all_nil)))))))))))) (by kernel_rfl)
      · refine some_e H33 fun e41 => ?_
        subst e41
        exact p_ret Tryz.mo 15 [.rg 0 [] [.m, .m, .m, .v], .rg 0 [] [.v, .c true (.bool true), .v, .v, .v, .c true (.bool y19), .v, .v, .v], .eqT 6 (.bool false), .rg 0 [] [.v, .v, .v, .v], .eqT 16 (.bool true), .rg 0 [] [.b, .m, .v]] [.wkH 4 1 []] [] (all_cons Tryz.call31 (all_cons (AFn.eq (shape_Valid_c x0 y1 h2) (congrArg (AV.bool) c15)) (all_cons trivial (all_cons Tryz.call31 (all_cons (AFn.is (shape_Valid_c x1 y19 h20)) (all_cons trivial (all_cons (congrArg (fun x => AV.bool (!x)) c26) (all_cons (congrArg (fun x => AV.bool (!x)) c32) all_nil)))))))) (by kernel_rfl)
    · refine some_e H29 fun e42 => ?_
      subst e42
      exact p_ret Tryz.mo 11 [.rg 0 [] [.m, .m, .m, .v], .rg 0 [] [.v, .c true (.bool true), .v, .v, .v, .c true (.bool y19), .v, .v, .v], .eqT 6 (.bool true), .rg 0 [] [.b, .m, .v]] [.wkH 4 1 []] [] (all_cons Tryz.call31 (all_cons (AFn.eq (shape_Valid_c x0 y1 h2) (congrArg (AV.bool) c15)) (all_cons trivial (all_cons Tryz.call31 (all_cons (AFn.is (shape_Valid_c x1 y19 h20)) (all_cons trivial (all_cons (congrArg (fun x => AV.bool (!x)) c28) all_nil))))))) (by kernel_rfl)
  · refine some_e H18 fun e43 => ?_
    subst e43
    exact p_ret Tryz.mo 10 [.rg 0 [] [.m, .m, .m, .v], .rg 0 [] [.v, .c true (.bool false), .v, .v, .s, .s, .s, .v, .v], .rg 0 [] [.b, .m, .v]] [.wkH 4 1 []] [] (all_cons Tryz.call31 (all_cons (AFn.eq (shape_Valid_c x0 y1 h2) (congrArg (AV.bool) c17)) (all_cons trivial all_nil))) (by kernel_rfl)
/-- framewise/framewiseref04.small -/
def ref04_small (x0 : Int) : Option Bool :=
  bif decide (x0 ≥ (-1000000)) then (
    some (decide (x0 ≤ 1000000))
  ) else (
    some false
  )
theorem ref04_small_c (x0 : Int) (r : Bool) (H : ref04_small x0 = some r) : AFn Tryz.prog 151 [.int .i64 x0] (.bool r) := by
  unfold ref04_small at H
  refine acallX Tryz.func151 9 [.tmp 2] (by kernel_rfl) (by kernel_rfl) ?_
  refine bsp H (fun c1 H2 => ?_) (fun c3 H4 => ?_)
  · have c1p := of_decide_eq_true c1
    refine some_e H2 fun e5 => ?_
    subst e5
    exact p_ret Tryz.mo 5 [.rg 0 [] [.v], .rg 0 [] [.v, .e (.bool true), .v, .v, .v, .v, .v]] [] [] (all_cons (congrArg (AV.bool) c1) all_nil) (by kernel_rfl)
  · have c3p := of_decide_eq_false c3
    refine some_e H4 fun e6 => ?_
    subst e6
    exact p_ret Tryz.mo 5 [.rg 0 [] [.v], .rg 0 [] [.v, .e (.bool false), .v, .s, .s, .v, .v]] [] [] (all_cons (congrArg (AV.bool) c3) all_nil) (by kernel_rfl)
/-- framewise/framewiseref04.digit -/
def ref04_digit (x0 : UInt8) : Option Bool :=
  bif decide (((x0).toNat : Int) ≥ 48) then (
    some (decide (((x0).toNat : Int) ≤ 57))
  ) else (
    some false
  )
theorem ref04_digit_c (x0 : UInt8) (r : Bool) (H : ref04_digit x0 = some r) : AFn Tryz.prog 171 [.int .u8 ((x0).toNat : Int)] (.bool r) := by
  unfold ref04_digit at H
  refine acallX Tryz.func171 9 [.tmp 2] (by kernel_rfl) (by kernel_rfl) ?_
  refine bsp H (fun c1 H2 => ?_) (fun c3 H4 => ?_)
  · have c1p := of_decide_eq_true c1
    refine some_e H2 fun e5 => ?_
    subst e5
    exact p_ret Tryz.mo 5 [.rg 0 [] [.v], .rg 0 [] [.v, .e (.bool true), .v, .v, .v, .v, .v]] [] [] (all_cons (congrArg (AV.bool) c1) all_nil) (by kernel_rfl)
  · have c3p := of_decide_eq_false c3
    refine some_e H4 fun e6 => ?_
    subst e6
    exact p_ret Tryz.mo 5 [.rg 0 [] [.v], .rg 0 [] [.v, .e (.bool false), .v, .s, .s, .v, .v]] [] [] (all_cons (congrArg (AV.bool) c3) all_nil) (by kernel_rfl)
/-- framewise/framewiseref04.letter -/
def ref04_letter (x0 : UInt8) : Option Bool :=
  bif decide (((x0).toNat : Int) ≥ 97) then (
    some (decide (((x0).toNat : Int) ≤ 122))
  ) else (
    some false
  )
theorem ref04_letter_c (x0 : UInt8) (r : Bool) (H : ref04_letter x0 = some r) : AFn Tryz.prog 172 [.int .u8 ((x0).toNat : Int)] (.bool r) := by
  unfold ref04_letter at H
  refine acallX Tryz.func172 9 [.tmp 2] (by kernel_rfl) (by kernel_rfl) ?_
  refine bsp H (fun c1 H2 => ?_) (fun c3 H4 => ?_)
  · have c1p := of_decide_eq_true c1
    refine some_e H2 fun e5 => ?_
    subst e5
    exact p_ret Tryz.mo 5 [.rg 0 [] [.v], .rg 0 [] [.v, .e (.bool true), .v, .v, .v, .v, .v]] [] [] (all_cons (congrArg (AV.bool) c1) all_nil) (by kernel_rfl)
  · have c3p := of_decide_eq_false c3
    refine some_e H4 fun e6 => ?_
    subst e6
    exact p_ret Tryz.mo 5 [.rg 0 [] [.v], .rg 0 [] [.v, .e (.bool false), .v, .s, .s, .v, .v]] [] [] (all_cons (congrArg (AV.bool) c3) all_nil) (by kernel_rfl)
/-- framewise/framewiseref04.Name -/
def ref04_Name (x0 : Str) : Option Bool :=
  bif (((x0.length : Nat) : Int) == 0) then (
    some false
  ) else (
    bif decide (((x0.length : Nat) : Int) > 30) then (
      some false
    ) else (
      grd (0 < x0.length) <|
      bif (((x0.getD 0 0).toNat : Int) == 95) then (
        bif decide (((x0.length : Nat) : Int) < 2) then (
          some false
        ) else (
          bif decide (((x0.length : Nat) : Int) > 10) then (
            some false
          ) else (
            grd (1 < x0.length) <|
            bif (((x0.getD 1 0).toNat : Int) == 48) then (
              some false
            ) else (
              (cnt (σ := Unit) (ε := Unit) (ρ := Bool) (fun i173 s172 =>
                (ref04_digit (x0.getD i173 0)).bind fun y202 =>
                bif y202 then (
                  some (.go ())
                ) else (
                  some (.ret false)
                )
              ) (fun i173 s172 => ()) (x0.length - 1) 1 ()).bind <| aft fun u218 =>
              some true
            )
          )
        )
      ) else (
        (cnt (σ := Unit) (ε := Unit) (ρ := Bool) (fun i289 s288 =>
          (ref04_letter (x0.getD i289 0)).bind fun y357 =>
          ((
            bif y357 then (
              some (.brk ())
            ) else (
              bif (((i289 : Nat) : Int) == 0) then (
                some (.ret (.ret false))
              ) else (
                (ref04_digit (x0.getD i289 0)).bind fun y401 =>
                bif y401 then (
                  some (.brk ())
                ) else (
                  some (.ret (.ret false))
                )
              )
            )
          ) : Option (Out Unit (Stp Unit Unit Bool))).bind (aft fun u385 =>
            some (.go ())
          )
        ) (fun i289 s288 => ()) (x0.length - 0) 0 ()).bind <| aft fun u422 =>
        some true
      )
    )
  )
def ref04_Name_S1 (x0 : Str) (i173 : Nat) (s172 : Unit) : AS := ⟨62, [(0, .str x0), (2, .bool false), (3, .int .i64 ((i173 : Nat) : Int))], []⟩
def ref04_Name_S2 (x0 : Str) (u192 : Unit) : AS := ⟨62, [(0, .str x0), (2, .bool false)], []⟩
def ref04_Name_S3 (x0 : Str) (i289 : Nat) (s288 : Unit) : AS := ⟨62, [(0, .str x0), (2, .bool false), (4, .int .i64 ((i289 : Nat) : Int))], []⟩
def ref04_Name_S4 (u347 : Unit) : AS := ⟨62, [(2, .bool false)], []⟩
def ref04_Name_S5 (x0 : Str) (i289 : Nat) (u385 : Unit) : AS := ⟨62, [(0, .str x0), (2, .bool false), (4, .int .i64 ((i289 : Nat) : Int)), (43, .bool true), (61, .bool false)], []⟩
theorem ref04_Name_c (x0 : Str) (r : Bool) (H : ref04_Name x0 = some r) : AFn Tryz.prog 100 [.str x0] (.bool r) := by
  unfold ref04_Name at H
  refine acallX Tryz.func100 62 [.tmp 2] (by kernel_rfl) (by kernel_rfl) ?_
  refine bsp H (fun c5 H6 => ?_) (fun c7 H8 => ?_)
  · refine some_e H6 fun e9 => ?_
    subst e9
    exact p_ret Tryz.mo 9 [.rg 0 [] [.v], .rg 0 [] [.v, .v, .e (.bool true), .v, .s, .s, .s, .v], .rg 0 [] [.v]] [] [] (all_cons trivial (all_cons (congrArg (AV.bool) c5) all_nil)) (by kernel_rfl)
  · refine bsp H8 (fun c10 H11 => ?_) (fun c12 H13 => ?_)
    · have c10p := of_decide_eq_true c10
      refine some_e H11 fun e14 => ?_
      subst e14
      exact p_ret Tryz.mo 10 [.rg 0 [] [.v], .rg 0 [] [.v, .v, .e (.bool false), .v, .v, .v, .v, .v], .eqT 12 (.bool true), .rg 0 [] [.v]] [] [] (all_cons trivial (all_cons (congrArg (AV.bool) c7) (all_cons trivial (all_cons (congrArg (AV.bool) c10) all_nil)))) (by kernel_rfl)
    · have c12p := of_decide_eq_false c12
      refine grd_e H13 fun g15 H16 => ?_
      refine bsp H16 (fun c108 H109 => ?_) (fun c110 H111 => ?_)
      · refine bsp H109 (fun c122 H123 => ?_) (fun c124 H125 => ?_)
        · have c122p := of_decide_eq_true c122
          refine some_e H123 fun e126 => ?_
          subst e126
          exact p_ret Tryz.mo 20 [.rg 0 [] [.v], .rg 0 [] [.v, .v, .e (.bool false), .v, .v, .v, .v, .v], .eqT 12 (.bool false), .rg 0 [] [.v, .v, .v], .eqT 15 (.bool true), .rg 0 [] [.v, .v, .e (.bool true), .v, .s, .s, .s, .v, .v, .s, .s, .s, .v], .rg 0 [] [.v]] [] [] (all_cons trivial (all_cons (congrArg (AV.bool) c7) (all_cons trivial (all_cons (congrArg (AV.bool) c12) (all_cons (show (0 : Int) ≤ 0 ∧ 0 < (x0.length : Int) from by omega) (all_cons (congrArg (AV.bool) c108) (all_cons trivial (all_cons (congrArg (AV.bool) c122) all_nil)))))))) (by kernel_rfl)
        · have c124p := of_decide_eq_false c124
          refine bsp H125 (fun c133 H134 => ?_) (fun c135 H136 => ?_)
          · have c133p := of_decide_eq_true c133
            refine some_e H134 fun e137 => ?_
            subst e137
            exact p_ret Tryz.mo 20 [.rg 0 [] [.v], .rg 0 [] [.v, .v, .e (.bool false), .v, .v, .v, .v, .v], .eqT 12 (.bool false), .rg 0 [] [.v, .v, .v], .eqT 15 (.bool true), .rg 0 [] [.v, .v, .e (.bool false), .v, .v, .v, .e (.bool true), .v, .v, .s, .s, .s, .v], .rg 0 [] [.v]] [] [] (all_cons trivial (all_cons (congrArg (AV.bool) c7) (all_cons trivial (all_cons (congrArg (AV.bool) c12) (all_cons (show (0 : Int) ≤ 0 ∧ 0 < (x0.length : Int) from by omega) (all_cons (congrArg (AV.bool) c108) (all_cons trivial (all_cons (congrArg (AV.bool) c124) (all_cons trivial (all_cons (congrArg (AV.bool) c133) all_nil)))))))))) (by kernel_rfl)
          · have c135p := of_decide_eq_false c135
            refine grd_e H136 fun g138 H139 => ?_
            refine bsp H139 (fun c140 H141 => ?_) (fun c142 H143 => ?_)
            · refine some_e H141 fun e144 => ?_
              subst e144
              exact p_ret Tryz.mo 21 [.rg 0 [] [.v], .rg 0 [] [.v, .v, .e (.bool false), .v, .v, .v, .v, .v], .eqT 12 (.bool false), .rg 0 [] [.v, .v, .v], .eqT 15 (.bool true), .rg 0 [] [.v, .v, .e (.bool false), .v, .v, .v, .e (.bool false), .v, .v, .v, .v, .v, .v], .eqT 28 (.bool true), .rg 0 [] [.v]] [] [] (all_cons trivial (all_cons (congrArg (AV.bool) c7) (all_cons trivial (all_cons (congrArg (AV.bool) c12) (all_cons (show (0 : Int) ≤ 0 ∧ 0 < (x0.length : Int) from by omega) (all_cons (congrArg (AV.bool) c108) (all_cons trivial (all_cons (congrArg (AV.bool) c124) (all_cons trivial (all_cons (congrArg (AV.bool) c135) (all_cons (show (0 : Int) ≤ 1 ∧ 1 < (x0.length : Int) from by omega) (all_cons (congrArg (AV.bool) c140) all_nil)))))))))))) (by kernel_rfl)
            · refine p_at Tryz.mo 23 [.rg 0 [] [.v], .rg 0 [] [.v, .v, .e (.bool false), .v, .v, .v, .v, .v], .eqT 12 (.bool false), .rg 0 [] [.v, .v, .v], .eqT 15 (.bool true), .rg 0 [] [.v, .v, .e (.bool false), .v, .v, .v, .e (.bool false), .v, .v, .v, .v, .v, .v], .eqT 28 (.bool false), .rg 0 [] [.v]] [.only [0, 2, 3] []] 20 [false, true, false] (ref04_Name_S1 x0 1 ()) (all_cons trivial (all_cons (congrArg (AV.bool) c7) (all_cons trivial (all_cons (congrArg (AV.bool) c12) (all_cons (show (0 : Int) ≤ 0 ∧ 0 < (x0.length : Int) from by omega) (all_cons (congrArg (AV.bool) c108) (all_cons trivial (all_cons (congrArg (AV.bool) c124) (all_cons trivial (all_cons (congrArg (AV.bool) c135) (all_cons (show (0 : Int) ≤ 1 ∧ 1 < (x0.length : Int) from by omega) (all_cons (congrArg (AV.bool) c142) all_nil)))))))))))) (by kernel_rfl) ?_
              refine bnd H143 fun R189 h190 H191 => ?_
              refine p_joinO 1 (ref04_Name_S2 x0) R189 (by kernel_rfl) ?_ (fun u218 e219 => ?_)
              · refine p_cnt (ref04_Name_S1 x0) (by kernel_rfl) h190 (fun i173 s172 h193 e194 => ?_) (fun i173 s172 h201 q197 h198 h199 => ?_)
                · have c195 : decide (((i173 : Nat) : Int) < ((x0.length : Nat) : Int)) = false := decide_eq_false (by omega)
                  subst e194
                  exact p_bar Tryz.mo 5 [.rg 0 [] [.v, .v, .v, .e (.bool false)]] [.only [0, 2] []] (ref04_Name_S2 x0 ()) (all_cons trivial (all_cons (congrArg (AV.bool) c195) all_nil)) (by kernel_rfl)
                · have c200 : decide (((i173 : Nat) : Int) < ((x0.length : Nat) : Int)) = true := decide_eq_true (by omega)
                  refine bnd h198 fun y202 h203 H204 => ?_
                  refine bsp H204 (fun c205 H206 => ?_) (fun c207 H208 => ?_)
                  · refine t_lens 0 (ps := [x0.length ≤ 9223372036854775807]) (by kernel_rfl) (fun l211 => ?_)
                    have l212 : x0.length ≤ 9223372036854775807 := by simpa only [All, List.length_map] using l211
                    clear l211
                    refine some_e H206 fun e213 => ?_
                    subst e213
                    exact p_bar Tryz.mo 13 [.rg 0 [] [.v, .v, .v, .e (.bool true)], .rg 0 [] [.v, .v, .v, .c true (.bool y202), .v], .eqT 39 (.bool false), .rg 0 [] [.v, .v, .v]] [.only [0, 2, 3] []] (ref04_Name_S1 x0 (i173 + 1) ()) (all_cons trivial (all_cons (congrArg (AV.bool) c200) (all_cons (show (0 : Int) ≤ ((i173 : Nat) : Int) ∧ ((i173 : Nat) : Int) < (x0.length : Int) from by omega) (all_cons Tryz.call171 (all_cons (AFn.is (ref04_digit_c (x0.getD i173 0) y202 h203)) (all_cons trivial (all_cons (congrArg (fun x => AV.bool (!x)) c205) (all_cons (show I64 (((i173 : Nat) : Int) + 1) from by unfold I64; omega) all_nil)))))))) (by kernel_rfl)
                  · refine some_e H208 fun e214 => ?_
                    subst e214
                    have e215 := out_ret h199
                    subst e215
                    have H216 := aft_ret H191
                    refine some_e H216 fun e217 => ?_
                    subst e217
                    exact p_ret Tryz.mo 14 [.rg 0 [] [.v, .v, .v, .e (.bool true)], .rg 0 [] [.v, .v, .v, .c true (.bool y202), .v], .eqT 39 (.bool true), .rg 0 [] [.v]] [] [] (all_cons trivial (all_cons (congrArg (AV.bool) c200) (all_cons (show (0 : Int) ≤ ((i173 : Nat) : Int) ∧ ((i173 : Nat) : Int) < (x0.length : Int) from by omega) (all_cons Tryz.call171 (all_cons (AFn.is (ref04_digit_c (x0.getD i173 0) y202 h203)) (all_cons trivial (all_cons (congrArg (fun x => AV.bool (!x)) c207) all_nil))))))) (by kernel_rfl)
              · subst e219
                have H220 := aft_brk H191
                refine some_e H220 fun e221 => ?_
                subst e221
                exact p_ret Tryz.mo 3 [.rg 0 [] [.v]] [] [] all_nil (by kernel_rfl)
      · refine p_at Tryz.mo 18 [.rg 0 [] [.v], .rg 0 [] [.v, .v, .e (.bool false), .v, .v, .v, .v, .v], .eqT 12 (.bool false), .rg 0 [] [.v, .v, .v], .eqT 15 (.bool false), .rg 0 [] [.v]] [.only [0, 2, 4] []] 16 [false, false] (ref04_Name_S3 x0 0 ()) (all_cons trivial (all_cons (congrArg (AV.bool) c7) (all_cons trivial (all_cons (congrArg (AV.bool) c12) (all_cons (show (0 : Int) ≤ 0 ∧ 0 < (x0.length : Int) from by omega) (all_cons (congrArg (AV.bool) c110) all_nil)))))) (by kernel_rfl) ?_
        refine bnd H111 fun R344 h345 H346 => ?_
        refine p_joinO 1 (ref04_Name_S4) R344 (by kernel_rfl) ?_ (fun u422 e423 => ?_)
        · refine p_cnt (ref04_Name_S3 x0) (by kernel_rfl) h345 (fun i289 s288 h348 e349 => ?_) (fun i289 s288 h356 q352 h353 h354 => ?_)
          · have c350 : decide (((i289 : Nat) : Int) < ((x0.length : Nat) : Int)) = false := decide_eq_false (by omega)
            subst e349
            exact p_bar Tryz.mo 5 [.rg 0 [] [.v, .v, .v, .e (.bool false)]] [.only [2] []] (ref04_Name_S4 ()) (all_cons trivial (all_cons (congrArg (AV.bool) c350) all_nil)) (by kernel_rfl)
          · have c355 : decide (((i289 : Nat) : Int) < ((x0.length : Nat) : Int)) = true := decide_eq_true (by omega)
            refine bnd h353 fun y357 h358 H359 => ?_
            refine p_at Tryz.mo 8 [.rg 0 [] [.v, .v, .v, .e (.bool true)]] [.only [0, 2, 4, 43] []] 8 [true] ⟨62, [(0, .str x0), (2, .bool false), (4, .int .i64 ((i289 : Nat) : Int)), (43, .bool true)], []⟩ (all_cons trivial (all_cons (congrArg (AV.bool) c355) all_nil)) (by kernel_rfl) ?_
            refine bnd H359 fun v382 h383 H384 => ?_
            refine p_joinO 2 (ref04_Name_S5 x0 i289) v382 (by kernel_rfl) ?_ (fun u385 e421 => ?_)
            · refine bsp h383 (fun c386 H387 => ?_) (fun c388 H389 => ?_)
              · refine some_e H387 fun e390 => ?_
                subst e390
                exact p_bar Tryz.mo 3 [.rg 0 [] [.v, .v, .v, .c true (.bool true), .v, .v, .s, .s, .s, .s, .s, .s, .s, .s, .s, .v]] [.only [0, 2, 4, 43, 61] []] (ref04_Name_S5 x0 i289 ()) (all_cons (show (0 : Int) ≤ ((i289 : Nat) : Int) ∧ ((i289 : Nat) : Int) < (x0.length : Int) from by omega) (all_cons Tryz.call172 (all_cons (AFn.eq (ref04_letter_c (x0.getD i289 0) y357 h358) (congrArg (AV.bool) c386)) (all_cons trivial all_nil)))) (by kernel_rfl)
              · refine bsp H389 (fun c391 H392 => ?_) (fun c393 H394 => ?_)
                · refine some_e H392 fun e395 => ?_
                  subst e395
                  have H396 := aft_ret H384
                  refine some_e H396 fun e397 => ?_
                  subst e397
                  have e398 := out_ret h354
                  subst e398
                  have H399 := aft_ret H346
                  refine some_e H399 fun e400 => ?_
                  subst e400
                  exact p_ret Tryz.mo 5 [.rg 0 [] [.v, .v, .v, .c true (.bool false), .v, .v, .v, .e (.bool true), .v, .s, .s, .s, .s, .s, .v, .v], .rg 0 [] [.v]] [] [] (all_cons (show (0 : Int) ≤ ((i289 : Nat) : Int) ∧ ((i289 : Nat) : Int) < (x0.length : Int) from by omega) (all_cons Tryz.call172 (all_cons (AFn.eq (ref04_letter_c (x0.getD i289 0) y357 h358) (congrArg (AV.bool) c388)) (all_cons trivial (all_cons (congrArg (AV.bool) c391) all_nil))))) (by kernel_rfl)
                · refine bnd H394 fun y401 h402 H403 => ?_
                  refine bsp H403 (fun c404 H405 => ?_) (fun c406 H407 => ?_)
                  · refine some_e H405 fun e408 => ?_
                    subst e408
                    exact p_bar Tryz.mo 4 [.rg 0 [] [.v, .v, .v, .c true (.bool false), .v, .v, .v, .e (.bool false), .v, .v, .v, .v, .c true (.bool y401), .v, .v, .v], .eqT 61 (.bool false)] [.only [0, 2, 4, 43, 61] []] (ref04_Name_S5 x0 i289 ()) (all_cons (show (0 : Int) ≤ ((i289 : Nat) : Int) ∧ ((i289 : Nat) : Int) < (x0.length : Int) from by omega) (all_cons Tryz.call172 (all_cons (AFn.eq (ref04_letter_c (x0.getD i289 0) y357 h358) (congrArg (AV.bool) c388)) (all_cons trivial (all_cons (congrArg (AV.bool) c393) (all_cons (show (0 : Int) ≤ ((i289 : Nat) : Int) ∧ ((i289 : Nat) : Int) < (x0.length : Int) from by omega) (all_cons Tryz.call171 (all_cons (AFn.is (ref04_digit_c (x0.getD i289 0) y401 h402)) (all_cons trivial (all_cons (congrArg (fun x => AV.bool (!x)) c404) all_nil)))))))))) (by kernel_rfl)
                  · refine some_e H407 fun e409 => ?_
                    subst e409
                    have H410 := aft_ret H384
                    refine some_e H410 fun e411 => ?_
                    subst e411
                    have e412 := out_ret h354
                    subst e412
                    have H413 := aft_ret H346
                    refine some_e H413 fun e414 => ?_
                    subst e414
                    exact p_ret Tryz.mo 6 [.rg 0 [] [.v, .v, .v, .c true (.bool false), .v, .v, .v, .e (.bool false), .v, .v, .v, .v, .c true (.bool y401), .v, .v, .v], .eqT 61 (.bool true), .rg 0 [] [.v]] [] [] (all_cons (show (0 : Int) ≤ ((i289 : Nat) : Int) ∧ ((i289 : Nat) : Int) < (x0.length : Int) from by omega) (all_cons Tryz.call172 (all_cons (AFn.eq (ref04_letter_c (x0.getD i289 0) y357 h358) (congrArg (AV.bool) c388)) (all_cons trivial (all_cons (congrArg (AV.bool) c393) (all_cons (show (0 : Int) ≤ ((i289 : Nat) : Int) ∧ ((i289 : Nat) : Int) < (x0.length : Int) from by omega) (all_cons Tryz.call171 (all_cons (AFn.is (ref04_digit_c (x0.getD i289 0) y401 h402)) (all_cons trivial (all_cons (congrArg (fun x => AV.bool (!x)) c406) all_nil)))))))))) (by kernel_rfl)
            · subst e421
              have H415 := aft_brk H384
              refine t_lens 0 (ps := [x0.length ≤ 9223372036854775807]) (by kernel_rfl) (fun l418 => ?_)
              have l419 : x0.length ≤ 9223372036854775807 := by simpa only [All, List.length_map] using l418
              clear l418
              refine some_e H415 fun e420 => ?_
              subst e420
              exact p_bar Tryz.mo 1 [.rg 0 [] [.v, .v, .v]] [.only [0, 2, 4] []] (ref04_Name_S3 x0 (i289 + 1) ()) (all_cons (show I64 (((i289 : Nat) : Int) + 1) from by unfold I64; omega) all_nil) (by kernel_rfl)
        · subst e423
          have H424 := aft_brk H346
          refine some_e H424 fun e425 => ?_
          subst e425
          exact p_ret Tryz.mo 3 [.rg 0 [] [.v]] [] [] all_nil (by kernel_rfl)
/-- framewise/framewiseref04.Valid -/
def ref04_Valid (x0 : Linear) : Option Bool :=
  (ref04_small x0.Const).bind fun y1 =>
  bif y1 then (
    bif decide (((x0.Terms.length : Nat) : Int) > 12) then (
      some false
    ) else (
      (cnt (σ := Unit) (ε := Unit) (ρ := Bool) (fun i143 s142 =>
        (ref04_Name ((x0.Terms.getD i143 ⟨[], 0⟩).Var)).bind fun y241 =>
        ((
          bif y241 then (
            bif (((x0.Terms.getD i143 ⟨[], 0⟩).C) == 0) then (
              some (.ret (.ret false))
            ) else (
              (ref04_small ((x0.Terms.getD i143 ⟨[], 0⟩).C)).bind fun y304 =>
              bif y304 then (
                bif decide (((i143 : Nat) : Int) > 0) then (
                  grd (0 ≤ (w64 (((i143 : Nat) : Int) - 1)) ∧ (w64 (((i143 : Nat) : Int) - 1)) < (x0.Terms.length : Int)) <|
                  bif (Op.bytesLess ((x0.Terms.getD (w64 (((i143 : Nat) : Int) - 1)).toNat ⟨[], 0⟩).Var) ((x0.Terms.getD i143 ⟨[], 0⟩).Var)) then (
                    some (.brk ())
                  ) else (
                    some (.ret (.ret false))
                  )
                ) else (
                  some (.brk ())
                )
              ) else (
                some (.ret (.ret false))
              )
            )
          ) else (
            some (.ret (.ret false))
          )
        ) : Option (Out Unit (Stp Unit Unit Bool))).bind (aft fun u289 =>
          some (.go ())
        )
      ) (fun i143 s142 => ()) (x0.Terms.length - 0) 0 ()).bind <| aft fun u348 =>
      some true
    )
  ) else (
    some false
  )
def ref04_Valid_S1 (x0 : Linear) (i143 : Nat) (s142 : Unit) : AS := ⟨58, [(1, .hptr 1 0), (2, .bool false), (3, .int .i64 ((i143 : Nat) : Int))], [(1, .cells 39 [.int .i64 x0.Const, .dslice (x0.Terms.map cCoef)])]⟩
def ref04_Valid_S2 (u231 : Unit) : AS := ⟨58, [(2, .bool false)], []⟩
def ref04_Valid_S3 (x0 : Linear) (i143 : Nat) (u289 : Unit) : AS := ⟨58, [(1, .hptr 1 0), (2, .bool false), (3, .int .i64 ((i143 : Nat) : Int)), (4, .hptr 4 0), (19, .bool true), (57, .bool false)], [(1, .cells 39 [.int .i64 x0.Const, .dslice (x0.Terms.map cCoef)]), (4, .cells 44 [.str ((x0.Terms.getD i143 ⟨[], 0⟩).Var), .int .i64 ((x0.Terms.getD i143 ⟨[], 0⟩).C)])]⟩
theorem ref04_Valid_c (x0 : Linear) (r : Bool) (H : ref04_Valid x0 = some r) : AFn Tryz.prog 87 [.agg [.int .i64 x0.Const, .dslice (x0.Terms.map cCoef)]] (.bool r) := by
  unfold ref04_Valid at H
  refine acallX Tryz.func87 58 [.tmp 2] (by kernel_rfl) (by kernel_rfl) ?_
  refine bnd H fun y1 h2 H3 => ?_
  refine bsp H3 (fun c8 H9 => ?_) (fun c10 H11 => ?_)
  · refine bsp H9 (fun c12 H13 => ?_) (fun c14 H15 => ?_)
    · have c12p := of_decide_eq_true c12
      refine some_e H13 fun e16 => ?_
      subst e16
      exact p_ret Tryz.mo 10 [.rg 0 [] [.m, .v], .rg 0 [] [.v, .v, .c true (.bool true), .v, .v, .v, .v, .e (.int .i64 ((x0.Terms.length : Nat) : Int)), .v, .v], .eqT 14 (.bool true), .rg 0 [] [.v]] [] [] (all_cons Tryz.call151 (all_cons (AFn.eq (ref04_small_c x0.Const y1 h2) (congrArg (AV.bool) c8)) (all_cons trivial (all_cons trivial (all_cons (lenm cCoef x0.Terms) (all_cons (congrArg (AV.bool) c12) all_nil)))))) (by kernel_rfl)
    · have c14p := of_decide_eq_false c14
      refine p_at Tryz.mo 12 [.rg 0 [] [.m, .v], .rg 0 [] [.v, .v, .c true (.bool true), .v, .v, .v, .v, .e (.int .i64 ((x0.Terms.length : Nat) : Int)), .v, .v], .eqT 14 (.bool false), .rg 0 [] [.v]] [.only [1, 2, 3] [1]] 11 [false] (ref04_Valid_S1 x0 0 ()) (all_cons Tryz.call151 (all_cons (AFn.eq (ref04_small_c x0.Const y1 h2) (congrArg (AV.bool) c8)) (all_cons trivial (all_cons trivial (all_cons (lenm cCoef x0.Terms) (all_cons (congrArg (AV.bool) c14) all_nil)))))) (by kernel_rfl) ?_
      refine bnd H15 fun R228 h229 H230 => ?_
      refine p_joinO 1 (ref04_Valid_S2) R228 (by kernel_rfl) ?_ (fun u348 e349 => ?_)
      · refine p_cnt (ref04_Valid_S1 x0) (by kernel_rfl) h229 (fun i143 s142 h232 e233 => ?_) (fun i143 s142 h240 q236 h237 h238 => ?_)
        · have c234 : decide (((i143 : Nat) : Int) < ((x0.Terms.length : Nat) : Int)) = false := decide_eq_false (by omega)
          subst e233
          exact p_bar Tryz.mo 5 [.rg 0 [] [.v, .v, .v, .e (.int .i64 ((x0.Terms.length : Nat) : Int)), .e (.bool false)]] [.only [2] []] (ref04_Valid_S2 ()) (all_cons trivial (all_cons (lenm cCoef x0.Terms) (all_cons (congrArg (AV.bool) c234) all_nil))) (by kernel_rfl)
        · have c239 : decide (((i143 : Nat) : Int) < ((x0.Terms.length : Nat) : Int)) = true := decide_eq_true (by omega)
          refine bnd h237 fun y241 h242 H243 => ?_
          refine p_at Tryz.mo 10 [.rg 0 [] [.v, .v, .v, .e (.int .i64 ((x0.Terms.length : Nat) : Int)), .e (.bool true)], .rg 0 [] [.v, .v, .v, .e (.dptr [.str ((x0.Terms.getD i143 ⟨[], 0⟩).Var), .int .i64 ((x0.Terms.getD i143 ⟨[], 0⟩).C)]), .v, .m, .m]] [.only [1, 2, 3, 4, 19] [1, 4]] 10 [true] ⟨58, [(1, .hptr 1 0), (2, .bool false), (3, .int .i64 ((i143 : Nat) : Int)), (4, .hptr 4 0), (19, .bool true)], [(1, .cells 39 [.int .i64 x0.Const, .dslice (x0.Terms.map cCoef)]), (4, .cells 44 [.str ((x0.Terms.getD i143 ⟨[], 0⟩).Var), .int .i64 ((x0.Terms.getD i143 ⟨[], 0⟩).C)])]⟩ (all_cons trivial (all_cons (lenm cCoef x0.Terms) (all_cons (congrArg (AV.bool) c239) (all_app (ix (f := cCoef) (l := x0.Terms) (n := i143) ⟨[], 0⟩ cCoef_len (by decide) (by omega)) all_nil)))) (by kernel_rfl) ?_
          refine bnd H243 fun v286 h287 H288 => ?_
          refine p_joinO 2 (ref04_Valid_S3 x0 i143) v286 (by kernel_rfl) ?_ (fun u289 e347 => ?_)
          · refine bsp h287 (fun c290 H291 => ?_) (fun c292 H293 => ?_)
            · refine bsp H291 (fun c294 H295 => ?_) (fun c296 H297 => ?_)
              · refine some_e H295 fun e298 => ?_
                subst e298
                have H299 := aft_ret H288
                refine some_e H299 fun e300 => ?_
                subst e300
                have e301 := out_ret h238
                subst e301
                have H302 := aft_ret H230
                refine some_e H302 fun e303 => ?_
                subst e303
                exact p_ret Tryz.mo 5 [.rg 28 [.v, .v, .c true (.bool true), .v, .v, .v, .v, .e (.bool true), .v, .v, .s, .s, .s, .s, .v, .v, .s, .s, .s, .s, .s, .s, .s, .s, .s, .s, .s, .s] [.s, .s, .v], .rg 0 [] [.v]] [] [] (all_cons Tryz.call100 (all_cons (AFn.eq (ref04_Name_c ((x0.Terms.getD i143 ⟨[], 0⟩).Var) y241 h242) (congrArg (AV.bool) c290)) (all_cons trivial (all_cons (congrArg (AV.bool) c294) all_nil)))) (by kernel_rfl)
              · refine bnd H297 fun y304 h305 H306 => ?_
                refine bsp H306 (fun c307 H308 => ?_) (fun c309 H310 => ?_)
                · refine bsp H308 (fun c311 H312 => ?_) (fun c313 H314 => ?_)
                  · have c311p := of_decide_eq_true c311
                    refine grd_e H312 fun g315 H316 => ?_
                    refine bsp H316 (fun c317 H318 => ?_) (fun c319 H320 => ?_)
                    · refine some_e H318 fun e321 => ?_
                      subst e321
                      exact p_bar Tryz.mo 4 [.rg 28 [.v, .v, .c true (.bool true), .v, .v, .v, .v, .e (.bool false), .v, .v, .v, .v, .c true (.bool true), .v, .v, .v, .v, .e (.bool true), .v, .v, .v, .v, .w, .e (.dptr [.str ((x0.Terms.getD (w64 (((i143 : Nat) : Int) - 1)).toNat ⟨[], 0⟩).Var), .int .i64 ((x0.Terms.getD (w64 (((i143 : Nat) : Int) - 1)).toNat ⟨[], 0⟩).C)]), .v, .v, .v, .v] [.v, .v, .v], .eqT 57 (.bool false)] [.only [1, 2, 3, 4, 19, 57] [1, 4]] (ref04_Valid_S3 x0 i143 ()) (all_cons Tryz.call100 (all_cons (AFn.eq (ref04_Name_c ((x0.Terms.getD i143 ⟨[], 0⟩).Var) y241 h242) (congrArg (AV.bool) c290)) (all_cons trivial (all_cons (congrArg (AV.bool) c296) (all_cons Tryz.call151 (all_cons (AFn.eq (ref04_small_c ((x0.Terms.getD i143 ⟨[], 0⟩).C) y304 h305) (congrArg (AV.bool) c307)) (all_cons trivial (all_cons (congrArg (AV.bool) c311) (all_app (ixz (f := cCoef) (l := x0.Terms) (n := (w64 (((i143 : Nat) : Int) - 1))) ⟨[], 0⟩ cCoef_len (by decide) (by exact g315)) (all_cons (congrArg (fun x => AV.bool (!x)) c317) all_nil)))))))))) (by kernel_rfl)
                    · refine some_e H320 fun e322 => ?_
                      subst e322
                      have H323 := aft_ret H288
                      refine some_e H323 fun e324 => ?_
                      subst e324
                      have e325 := out_ret h238
                      subst e325
                      have H326 := aft_ret H230
                      refine some_e H326 fun e327 => ?_
                      subst e327
                      exact p_ret Tryz.mo 6 [.rg 28 [.v, .v, .c true (.bool true), .v, .v, .v, .v, .e (.bool false), .v, .v, .v, .v, .c true (.bool true), .v, .v, .v, .v, .e (.bool true), .v, .v, .v, .v, .w, .e (.dptr [.str ((x0.Terms.getD (w64 (((i143 : Nat) : Int) - 1)).toNat ⟨[], 0⟩).Var), .int .i64 ((x0.Terms.getD (w64 (((i143 : Nat) : Int) - 1)).toNat ⟨[], 0⟩).C)]), .v, .v, .v, .v] [.v, .v, .v], .eqT 57 (.bool true), .rg 0 [] [.v]] [] [] (all_cons Tryz.call100 (all_cons (AFn.eq (ref04_Name_c ((x0.Terms.getD i143 ⟨[], 0⟩).Var) y241 h242) (congrArg (AV.bool) c290)) (all_cons trivial (all_cons (congrArg (AV.bool) c296) (all_cons Tryz.call151 (all_cons (AFn.eq (ref04_small_c ((x0.Terms.getD i143 ⟨[], 0⟩).C) y304 h305) (congrArg (AV.bool) c307)) (all_cons trivial (all_cons (congrArg (AV.bool) c311) (all_app (ixz (f := cCoef) (l := x0.Terms) (n := (w64 (((i143 : Nat) : Int) - 1))) ⟨[], 0⟩ cCoef_len (by decide) (by exact g315)) (all_cons (congrArg (fun x => AV.bool (!x)) c319) all_nil)))))))))) (by kernel_rfl)
                  · have c313p := of_decide_eq_false c313
                    refine some_e H314 fun e328 => ?_
                    subst e328
                    exact p_bar Tryz.mo 3 [.rg 28 [.v, .v, .c true (.bool true), .v, .v, .v, .v, .e (.bool false), .v, .v, .v, .v, .c true (.bool true), .v, .v, .v, .v, .e (.bool false), .v, .s, .s, .s, .s, .s, .s, .s, .s, .s] [.s, .v, .v]] [.only [1, 2, 3, 4, 19, 57] [1, 4]] (ref04_Valid_S3 x0 i143 ()) (all_cons Tryz.call100 (all_cons (AFn.eq (ref04_Name_c ((x0.Terms.getD i143 ⟨[], 0⟩).Var) y241 h242) (congrArg (AV.bool) c290)) (all_cons trivial (all_cons (congrArg (AV.bool) c296) (all_cons Tryz.call151 (all_cons (AFn.eq (ref04_small_c ((x0.Terms.getD i143 ⟨[], 0⟩).C) y304 h305) (congrArg (AV.bool) c307)) (all_cons trivial (all_cons (congrArg (AV.bool) c313) all_nil)))))))) (by kernel_rfl)
                · refine some_e H310 fun e329 => ?_
                  subst e329
                  have H330 := aft_ret H288
                  refine some_e H330 fun e331 => ?_
                  subst e331
                  have e332 := out_ret h238
                  subst e332
                  have H333 := aft_ret H230
                  refine some_e H333 fun e334 => ?_
                  subst e334
                  exact p_ret Tryz.mo 5 [.rg 28 [.v, .v, .c true (.bool true), .v, .v, .v, .v, .e (.bool false), .v, .v, .v, .v, .c true (.bool false), .v, .v, .v, .s, .s, .s, .s, .s, .s, .s, .s, .s, .s, .s, .s] [.s, .s, .v], .rg 0 [] [.v]] [] [] (all_cons Tryz.call100 (all_cons (AFn.eq (ref04_Name_c ((x0.Terms.getD i143 ⟨[], 0⟩).Var) y241 h242) (congrArg (AV.bool) c290)) (all_cons trivial (all_cons (congrArg (AV.bool) c296) (all_cons Tryz.call151 (all_cons (AFn.eq (ref04_small_c ((x0.Terms.getD i143 ⟨[], 0⟩).C) y304 h305) (congrArg (AV.bool) c309)) (all_cons trivial all_nil))))))) (by kernel_rfl)
            · refine some_e H293 fun e335 => ?_
              subst e335
              have H336 := aft_ret H288
              refine some_e H336 fun e337 => ?_
              subst e337
              have e338 := out_ret h238
              subst e338
              have H339 := aft_ret H230
              refine some_e H339 fun e340 => ?_
              subst e340
              exact p_ret Tryz.mo 5 [.rg 28 [.v, .v, .c true (.bool false), .v, .v, .s, .s, .s, .v, .v, .s, .s, .s, .s, .v, .v, .s, .s, .s, .s, .s, .s, .s, .s, .s, .s, .s, .s] [.s, .s, .v], .rg 0 [] [.v]] [] [] (all_cons Tryz.call100 (all_cons (AFn.eq (ref04_Name_c ((x0.Terms.getD i143 ⟨[], 0⟩).Var) y241 h242) (congrArg (AV.bool) c292)) (all_cons trivial all_nil))) (by kernel_rfl)
          · subst e347
            have H341 := aft_brk H288
            refine t_lensH 1 1 (ps := [(x0.Terms.map cCoef).length ≤ 9223372036854775807]) (by kernel_rfl) (fun l344 => ?_)
            have l345 : x0.Terms.length ≤ 9223372036854775807 := by simpa only [All, List.length_map] using l344
            clear l344
            refine some_e H341 fun e346 => ?_
            subst e346
            exact p_bar Tryz.mo 1 [.rg 0 [] [.v, .v, .v]] [.only [1, 2, 3] [1]] (ref04_Valid_S1 x0 (i143 + 1) ()) (all_cons (show I64 (((i143 : Nat) : Int) + 1) from by unfold I64; omega) all_nil) (by kernel_rfl)
      · subst e349
        have H350 := aft_brk H230
        refine some_e H350 fun e351 => ?_
        subst e351
        exact p_ret Tryz.mo 3 [.rg 0 [] [.v]] [] [] all_nil (by kernel_rfl)
  · refine some_e H11 fun e352 => ?_
    subst e352
    exact p_ret Tryz.mo 9 [.rg 0 [] [.m, .v], .rg 0 [] [.v, .v, .c true (.bool false), .v, .v, .s, .s, .s, .s, .v], .rg 0 [] [.v]] [] [] (all_cons Tryz.call151 (all_cons (AFn.eq (ref04_small_c x0.Const y1 h2) (congrArg (AV.bool) c10)) (all_cons trivial all_nil))) (by kernel_rfl)
/-- framewise/framewiseref11.Valid -/
def ref11_Valid (x0 : Shape) : Option Bool :=
  (cnt (σ := Unit) (ε := Unit) (ρ := Bool) (fun i29 s28 =>
    (ref04_Valid (Linear.mk ((x0.Dims.getD i29 ⟨0, []⟩).Const) ((x0.Dims.getD i29 ⟨0, []⟩).Terms))).bind fun y58 =>
    bif y58 then (
      some (.go ())
    ) else (
      some (.ret false)
    )
  ) (fun i29 s28 => ()) (x0.Dims.length - 0) 0 ()).bind <| aft fun u74 =>
  bif decide (((x0.Dims.length : Nat) : Int) ≤ 6) then (
    bif (x0.Row == []) then (
      some true
    ) else (
      (ref04_Name x0.Row).bind fun y96 =>
      some y96
    )
  ) else (
    some false
  )
def ref11_Valid_S1 (x0 : Shape) (i29 : Nat) (s28 : Unit) : AS := ⟨32, [(1, .hptr 1 0), (2, .bool false), (3, .int .i64 ((i29 : Nat) : Int))], [(1, .cells 24 [.str x0.Row, .dslice (x0.Dims.map cLinear)])]⟩
def ref11_Valid_S2 (x0 : Shape) (u48 : Unit) : AS := ⟨32, [(1, .hptr 1 0), (2, .bool false)], [(1, .cells 24 [.str x0.Row, .dslice (x0.Dims.map cLinear)])]⟩
theorem ref11_Valid_c (x0 : Shape) (r : Bool) (H : ref11_Valid x0 = some r) : AFn Tryz.prog 32 [.agg [.str x0.Row, .dslice (x0.Dims.map cLinear)]] (.bool r) := by
  unfold ref11_Valid at H
  refine acallX Tryz.func32 32 [.tmp 2] (by kernel_rfl) (by kernel_rfl) ?_
  refine p_at Tryz.mo 6 [.rg 0 [] [.m, .v], .rg 0 [] [.v]] [.only [1, 2, 3] [1]] 6 [] (ref11_Valid_S1 x0 0 ()) all_nil (by kernel_rfl) ?_
  refine bnd H fun R45 h46 H47 => ?_
  refine p_joinO 1 (ref11_Valid_S2 x0) R45 (by kernel_rfl) ?_ (fun u74 e75 => ?_)
  · refine p_cnt (ref11_Valid_S1 x0) (by kernel_rfl) h46 (fun i29 s28 h49 e50 => ?_) (fun i29 s28 h57 q53 h54 h55 => ?_)
    · have c51 : decide (((i29 : Nat) : Int) < ((x0.Dims.length : Nat) : Int)) = false := decide_eq_false (by omega)
      subst e50
      exact p_bar Tryz.mo 5 [.rg 0 [] [.v, .v, .v, .e (.int .i64 ((x0.Dims.length : Nat) : Int)), .e (.bool false)]] [.only [1, 2] [1]] (ref11_Valid_S2 x0 ()) (all_cons trivial (all_cons (lenm cLinear x0.Dims) (all_cons (congrArg (AV.bool) c51) all_nil))) (by kernel_rfl)
    · have c56 : decide (((i29 : Nat) : Int) < ((x0.Dims.length : Nat) : Int)) = true := decide_eq_true (by omega)
      refine bnd h54 fun y58 h59 H60 => ?_
      refine bsp H60 (fun c61 H62 => ?_) (fun c63 H64 => ?_)
      · refine t_lensH 1 1 (ps := [(x0.Dims.map cLinear).length ≤ 9223372036854775807]) (by kernel_rfl) (fun l67 => ?_)
        have l68 : x0.Dims.length ≤ 9223372036854775807 := by simpa only [All, List.length_map] using l67
        clear l67
        refine some_e H62 fun e69 => ?_
        subst e69
        exact p_bar Tryz.mo 13 [.rg 0 [] [.v, .v, .v, .e (.int .i64 ((x0.Dims.length : Nat) : Int)), .e (.bool true)], .rg 0 [] [.v, .v, .v, .e (.dptr [.int .i64 ((x0.Dims.getD i29 ⟨0, []⟩).Const), .dslice (((x0.Dims.getD i29 ⟨0, []⟩).Terms).map cCoef)]), .v, .c true (.bool y58), .v], .eqT 17 (.bool false), .rg 0 [] [.v, .v, .v]] [.only [1, 2, 3] [1]] (ref11_Valid_S1 x0 (i29 + 1) ()) (all_cons trivial (all_cons (lenm cLinear x0.Dims) (all_cons (congrArg (AV.bool) c56) (all_app (ix (f := cLinear) (l := x0.Dims) (n := i29) ⟨0, []⟩ cLinear_len (by decide) (by omega)) (all_cons Tryz.call87 (all_cons (AFn.is (ref04_Valid_c (Linear.mk ((x0.Dims.getD i29 ⟨0, []⟩).Const) ((x0.Dims.getD i29 ⟨0, []⟩).Terms)) y58 h59)) (all_cons trivial (all_cons (congrArg (fun x => AV.bool (!x)) c61) (all_cons (show I64 (((i29 : Nat) : Int) + 1) from by unfold I64; omega) all_nil))))))))) (by kernel_rfl)
      · refine some_e H64 fun e70 => ?_
        subst e70
        have e71 := out_ret h55
        subst e71
        have H72 := aft_ret H47
        refine some_e H72 fun e73 => ?_
        subst e73
        exact p_ret Tryz.mo 14 [.rg 0 [] [.v, .v, .v, .e (.int .i64 ((x0.Dims.length : Nat) : Int)), .e (.bool true)], .rg 0 [] [.v, .v, .v, .e (.dptr [.int .i64 ((x0.Dims.getD i29 ⟨0, []⟩).Const), .dslice (((x0.Dims.getD i29 ⟨0, []⟩).Terms).map cCoef)]), .v, .c true (.bool y58), .v], .eqT 17 (.bool true), .rg 0 [] [.v]] [] [] (all_cons trivial (all_cons (lenm cLinear x0.Dims) (all_cons (congrArg (AV.bool) c56) (all_app (ix (f := cLinear) (l := x0.Dims) (n := i29) ⟨0, []⟩ cLinear_len (by decide) (by omega)) (all_cons Tryz.call87 (all_cons (AFn.is (ref04_Valid_c (Linear.mk ((x0.Dims.getD i29 ⟨0, []⟩).Const) ((x0.Dims.getD i29 ⟨0, []⟩).Terms)) y58 h59)) (all_cons trivial (all_cons (congrArg (fun x => AV.bool (!x)) c63) all_nil)))))))) (by kernel_rfl)
  · subst e75
    have H76 := aft_brk H47
    refine bsp H76 (fun c84 H85 => ?_) (fun c86 H87 => ?_)
    · have c84p := of_decide_eq_true c84
      refine bsp H85 (fun c91 H92 => ?_) (fun c93 H94 => ?_)
      · refine some_e H92 fun e95 => ?_
        subst e95
        exact p_ret Tryz.mo 3 [.rg 0 [] [.v, .v, .e (.int .i64 ((x0.Dims.length : Nat) : Int)), .e (.bool true), .v, .v, .v, .e (.bool true), .v, .s, .s, .s, .v, .v, .v]] [] [] (all_cons trivial (all_cons (lenm cLinear x0.Dims) (all_cons (congrArg (AV.bool) c84) (all_cons (congrArg (AV.bool) c91) all_nil)))) (by kernel_rfl)
      · refine bnd H94 fun y96 h97 H98 => ?_
        refine some_e H98 fun e99 => ?_
        subst e99
        exact p_ret Tryz.mo 3 [.rg 0 [] [.v, .v, .e (.int .i64 ((x0.Dims.length : Nat) : Int)), .e (.bool true), .v, .v, .v, .e (.bool false), .v, .v, .v, .c true (.bool y96), .v, .v, .v]] [] [] (all_cons trivial (all_cons (lenm cLinear x0.Dims) (all_cons (congrArg (AV.bool) c84) (all_cons (congrArg (AV.bool) c93) (all_cons Tryz.call100 (all_cons (AFn.is (ref04_Name_c x0.Row y96 h97)) all_nil)))))) (by kernel_rfl)
    · have c86p := of_decide_eq_false c86
      refine some_e H87 fun e100 => ?_
      subst e100
      exact p_ret Tryz.mo 3 [.rg 0 [] [.v, .v, .e (.int .i64 ((x0.Dims.length : Nat) : Int)), .e (.bool false), .v, .s, .s, .s, .s, .s, .s, .s, .s, .v, .v]] [] [] (all_cons trivial (all_cons (lenm cLinear x0.Dims) (all_cons (congrArg (AV.bool) c86) all_nil))) (by kernel_rfl)
/-- framewise/framewiseref11.join -/
def ref11_join (x0 : Str) (x1 : (List Linear)) (x2 : (List Linear)) : Option (Shape × Int) :=
  bif decide ((w64 (((x1.length : Nat) : Int) + ((x2.length : Nat) : Int))) > 6) then (
    some ((Shape.mk [] []), 3)
  ) else (
    grd (x1.length * 32 ≤ 140737488355328) <|
    grd ((x1.length + x2.length) * 32 ≤ 140737488355328) <|
    some ((Shape.mk x0 (x1 ++ x2)), 0)
  )
theorem ref11_join_c (x0 : Str) (x1 : (List Linear)) (x2 : (List Linear)) (r : (Shape × Int)) (H : ref11_join x0 x1 x2 = some r) : AFn Tryz.prog 108 [.str x0, .dslice (x1.map cLinear), .dslice (x2.map cLinear)] (.tup [.agg [.str r.1.Row, .dslice (r.1.Dims.map cLinear)], .int .i64 r.2]) := by
  unfold ref11_join at H
  refine acallX Tryz.func108 22 [.cell 6 24, .tmp 7] (by kernel_rfl) (by kernel_rfl) ?_
  refine bsp H (fun c1 H2 => ?_) (fun c3 H4 => ?_)
  · have c1p := of_decide_eq_true c1
    refine some_e H2 fun e5 => ?_
    subst e5
    exact p_ret Tryz.mo 10 [.rg 0 [] [.m, .v], .rg 0 [] [.v, .e (.int .i64 ((x1.length : Nat) : Int)), .v, .e (.int .i64 ((x2.length : Nat) : Int)), .w, .v], .eqT 13 (.bool true), .rg 0 [] [.b, .m, .v]] [.wkH 6 1 []] [] (all_cons trivial (all_cons (lenm cLinear x1) (all_cons trivial (all_cons (lenm cLinear x2) (all_cons (congrArg (AV.bool) c1) all_nil))))) (by kernel_rfl)
  · have c3p := of_decide_eq_false c3
    refine grd_e H4 fun g6 H7 => ?_
    refine grd_e H7 fun g8 H9 => ?_
    refine some_e H9 fun e10 => ?_
    subst e10
    exact p_ret Tryz.mo 11 [.rg 0 [] [.m, .v], .rg 0 [] [.v, .e (.int .i64 ((x1.length : Nat) : Int)), .v, .e (.int .i64 ((x2.length : Nat) : Int)), .w, .v], .eqT 13 (.bool false), .rg 0 [] [.v, .b, .v, .er 16 18 39 2, .ap, .rwH 18 (.row 39 2 (x1.map cLinear)), .v, .ap, .rwH 20 (.row 39 2 ((x1 ++ x2).map cLinear)), .b, .m, .v]] [.fz 20] [] (all_cons trivial (all_cons (lenm cLinear x1) (all_cons trivial (all_cons (lenm cLinear x2) (all_cons (congrArg (AV.bool) c3) (all_app (apR (c := cLinear) cLinear_ok [] x1 32 (by decide) (by simpa using g6)) (all_cons (apQ0 39 2 cLinear x1) (all_app (apR (c := cLinear) cLinear_ok x1 x2 32 (by decide) (by simpa using g8)) (all_cons (apQ 39 2 cLinear x1 x2) all_nil))))))))) (by kernel_rfl)
/-- framewise/framewiseref11.Concat -/
def ref11_Concat (x0 : Shape) (x1 : Shape) : Option (Shape × Int) :=
  (ref11_Valid x0).bind fun y1 =>
  bif y1 then (
    (ref11_Valid x1).bind fun y19 =>
    bif y19 then (
      bif (x1.Row == []) then (
        (ref11_join x0.Row x0.Dims x1.Dims).bind fun y34 =>
        some (y34.1, y34.2)
      ) else (
        some ((Shape.mk [] []), 13)
      )
    ) else (
      some ((Shape.mk [] []), 1)
    )
  ) else (
    some ((Shape.mk [] []), 1)
  )
theorem ref11_Concat_c (x0 : Shape) (x1 : Shape) (r : (Shape × Int)) (H : ref11_Concat x0 x1 = some r) : AFn Tryz.prog 42 [.agg [.str x0.Row, .dslice (x0.Dims.map cLinear)], .agg [.str x1.Row, .dslice (x1.Dims.map cLinear)]] (.tup [.agg [.str r.1.Row, .dslice (r.1.Dims.map cLinear)], .int .i64 r.2]) := by
  unfold ref11_Concat at H
  refine acallX Tryz.func42 30 [.cell 4 24, .tmp 5] (by kernel_rfl) (by kernel_rfl) ?_
  refine bnd H fun y1 h2 H3 => ?_
  refine bsp H3 (fun c15 H16 => ?_) (fun c17 H18 => ?_)
  · refine bnd H16 fun y19 h20 H21 => ?_
    refine bsp H21 (fun c26 H27 => ?_) (fun c28 H29 => ?_)
    · refine bsp H27 (fun c30 H31 => ?_) (fun c32 H33 => ?_)
      · refine bnd H31 fun y34 h35 H36 => ?_
        refine some_e H36 fun e37 => ?_
        subst e37
        exact p_ret Tryz.mo 16 [.rg 0 [] [.m, .m, .m, .v], .rg 0 [] [.v, .c true (.bool true), .v, .v, .v, .c true (.bool y19), .v, .v, .v], .eqT 6 (.bool false), .rg 0 [] [.v, .v, .v, .v], .eqT 16 (.bool false), .rg 0 [] [.v, .v, .v, .v, .v, .v, .c true (.tup [.agg [.str y34.1.Row, .dslice (y34.1.Dims.map cLinear)], .int .i64 y34.2]), .v, .v, .m, .v]] [] [] (all_cons Tryz.call32 (all_cons (AFn.eq (ref11_Valid_c x0 y1 h2) (congrArg (AV.bool) c15)) (all_cons trivial (all_cons Tryz.call32 (all_cons (AFn.is (ref11_Valid_c x1 y19 h20)) (all_cons trivial (all_cons (congrArg (fun x => AV.bool (!x)) c26) (all_cons (congrArg (fun x => AV.bool (!x)) c30) (all_cons Tryz.call108 (all_cons (AFn.is (ref11_join_c x0.Row x0.Dims x1.Dims y34 h35)) all_nil)))))))))) (by kernel_rfl)
      · refine some_e H33 fun e38 => ?_
        subst e38
        exact p_ret Tryz.mo 15 [.rg 0 [] [.m, .m, .m, .v], .rg 0 [] [.v, .c true (.bool true), .v, .v, .v, .c true (.bool y19), .v, .v, .v], .eqT 6 (.bool false), .rg 0 [] [.v, .v, .v, .v], .eqT 16 (.bool true), .rg 0 [] [.b, .m, .v]] [.wkH 4 1 []] [] (all_cons Tryz.call32 (all_cons (AFn.eq (ref11_Valid_c x0 y1 h2) (congrArg (AV.bool) c15)) (all_cons trivial (all_cons Tryz.call32 (all_cons (AFn.is (ref11_Valid_c x1 y19 h20)) (all_cons trivial (all_cons (congrArg (fun x => AV.bool (!x)) c26) (all_cons (congrArg (fun x => AV.bool (!x)) c32) all_nil)))))))) (by kernel_rfl)
    · refine some_e H29 fun e39 => ?_
      subst e39
      exact p_ret Tryz.mo 11 [.rg 0 [] [.m, .m, .m, .v], .rg 0 [] [.v, .c true (.bool true), .v, .v, .v, .c true (.bool y19), .v, .v, .v], .eqT 6 (.bool true), .rg 0 [] [.b, .m, .v]] [.wkH 4 1 []] [] (all_cons Tryz.call32 (all_cons (AFn.eq (ref11_Valid_c x0 y1 h2) (congrArg (AV.bool) c15)) (all_cons trivial (all_cons Tryz.call32 (all_cons (AFn.is (ref11_Valid_c x1 y19 h20)) (all_cons trivial (all_cons (congrArg (fun x => AV.bool (!x)) c28) all_nil))))))) (by kernel_rfl)
  · refine some_e H18 fun e40 => ?_
    subst e40
    exact p_ret Tryz.mo 10 [.rg 0 [] [.m, .m, .m, .v], .rg 0 [] [.v, .c true (.bool false), .v, .v, .s, .s, .s, .v, .v], .rg 0 [] [.b, .m, .v]] [.wkH 4 1 []] [] (all_cons Tryz.call32 (all_cons (AFn.eq (ref11_Valid_c x0 y1 h2) (congrArg (AV.bool) c17)) (all_cons trivial all_nil))) (by kernel_rfl)
/-- framewise/shape.Split -/
noncomputable def shape_Split (x0 : Shape) (x1 : Int) : Option (Shape × Shape × Int) :=
  (shape_Valid x0).bind fun y1 =>
  bif y1 then (
    bif decide (x1 < 0) then (
      some ((Shape.mk [] []), (Shape.mk [] []), 2)
    ) else (
      bif decide (x1 > ((x0.Dims.length : Nat) : Int)) then (
        some ((Shape.mk [] []), (Shape.mk [] []), 13)
      ) else (
        grd (0 ≤ (w64 (((x0.Dims.length : Nat) : Int) - x1)) ∧ (w64 (((x0.Dims.length : Nat) : Int) - x1)) ≤ (x0.Dims.length : Int)) <|
        (shape_clones (x0.Dims.take ((w64 (((x0.Dims.length : Nat) : Int) - x1)).toNat))).bind fun y32 =>
        (shape_clones (x0.Dims.drop ((w64 (((x0.Dims.length : Nat) : Int) - x1)).toNat))).bind fun y35 =>
        some ((Shape.mk x0.Row y32), (Shape.mk [] y35), 0)
      )
    )
  ) else (
    some ((Shape.mk [] []), (Shape.mk [] []), 1)
  )
theorem shape_Split_c (x0 : Shape) (x1 : Int) (r : (Shape × Shape × Int)) (H : shape_Split x0 x1 = some r) : AFn Tryz.prog 43 [.agg [.str x0.Row, .dslice (x0.Dims.map cLinear)], .int .i64 x1] (.tup [.agg [.str r.1.Row, .dslice (r.1.Dims.map cLinear)], .agg [.str r.2.1.Row, .dslice (r.2.1.Dims.map cLinear)], .int .i64 r.2.2]) := by
  unfold shape_Split at H
  refine acallX Tryz.func43 46 [.cell 4 24, .cell 5 24, .tmp 6] (by kernel_rfl) (by kernel_rfl) ?_
  refine bnd H fun y1 h2 H3 => ?_
  refine bsp H3 (fun c12 H13 => ?_) (fun c14 H15 => ?_)
  · refine bsp H13 (fun c20 H21 => ?_) (fun c22 H23 => ?_)
    · have c20p := of_decide_eq_true c20
      refine some_e H21 fun e24 => ?_
      subst e24
      exact p_ret Tryz.mo 15 [.rg 0 [] [.m, .m, .m, .v], .rg 0 [] [.v, .c true (.bool y1), .v, .v], .eqT 8 (.bool false), .rg 0 [] [.v, .v, .v], .eqT 14 (.bool true), .rg 0 [] [.b, .b, .m, .m, .v]] [.wkH 4 1 [], .wkH 5 1 []] [] (all_cons Tryz.call31 (all_cons (AFn.is (shape_Valid_c x0 y1 h2)) (all_cons trivial (all_cons (congrArg (fun x => AV.bool (!x)) c12) (all_cons (congrArg (AV.bool) c20) all_nil))))) (by kernel_rfl)
    · have c22p := of_decide_eq_false c22
      refine bsp H23 (fun c25 H26 => ?_) (fun c27 H28 => ?_)
      · have c25p := of_decide_eq_true c25
        refine some_e H26 fun e29 => ?_
        subst e29
        exact p_ret Tryz.mo 19 [.rg 0 [] [.m, .m, .m, .v], .rg 0 [] [.v, .c true (.bool y1), .v, .v], .eqT 8 (.bool false), .rg 0 [] [.v, .v, .v], .eqT 14 (.bool false), .rg 0 [] [.v, .v, .v, .e (.int .i64 ((x0.Dims.length : Nat) : Int)), .v, .v], .eqT 19 (.bool true), .rg 0 [] [.b, .b, .m, .m, .v]] [.wkH 4 1 [], .wkH 5 1 []] [] (all_cons Tryz.call31 (all_cons (AFn.is (shape_Valid_c x0 y1 h2)) (all_cons trivial (all_cons (congrArg (fun x => AV.bool (!x)) c12) (all_cons (congrArg (AV.bool) c22) (all_cons trivial (all_cons (lenm cLinear x0.Dims) (all_cons (congrArg (AV.bool) c25) all_nil)))))))) (by kernel_rfl)
      · have c27p := of_decide_eq_false c27
        refine grd_e H28 fun g30 H31 => ?_
        refine bnd H31 fun y32 h33 H34 => ?_
        refine bnd H34 fun y35 h36 H37 => ?_
        refine some_e H37 fun e38 => ?_
        subst e38
        exact p_ret Tryz.mo 22 [.rg 0 [] [.m, .m, .m, .v], .rg 0 [] [.v, .c true (.bool y1), .v, .v], .eqT 8 (.bool false), .rg 0 [] [.v, .v, .v], .eqT 14 (.bool false), .rg 0 [] [.v, .v, .v, .e (.int .i64 ((x0.Dims.length : Nat) : Int)), .v, .v], .eqT 19 (.bool false), .rg 0 [] [.v, .v, .e (.int .i64 ((x0.Dims.length : Nat) : Int)), .v, .w, .v], .rg 15 [.v, .v, .v, .v, .v, .e (.dslice ((x0.Dims.take ((w64 (((x0.Dims.length : Nat) : Int) - x1)).toNat)).map cLinear)), .hN (.rslice 0) [(0, .row 39 2 (y32.map cLinear))], .b, .v, .v, .v, .e (.dslice ((x0.Dims.drop ((w64 (((x0.Dims.length : Nat) : Int) - x1)).toNat)).map cLinear)), .hN (.rslice 0) [(0, .row 39 2 (y35.map cLinear))], .b, .m] [.m, .v]] [.fz 38, .fz 44] [] (all_cons Tryz.call31 (all_cons (AFn.is (shape_Valid_c x0 y1 h2)) (all_cons trivial (all_cons (congrArg (fun x => AV.bool (!x)) c12) (all_cons (congrArg (AV.bool) c22) (all_cons trivial (all_cons (lenm cLinear x0.Dims) (all_cons (congrArg (AV.bool) c27) (all_cons trivial (all_cons (lenm cLinear x0.Dims) (all_cons (show ((0 : Int) ≤ 0 ∧ 0 ≤ (w64 (((x0.Dims.length : Nat) : Int) - x1)) ∧ (w64 (((x0.Dims.length : Nat) : Int) - x1)) ≤ ((x0.Dims.map cLinear).length : Int)) ∧ UL 2 (x0.Dims.map cLinear) from ⟨by first | omega | (simp only [List.length_map]; omega), UL.map cLinear_len _⟩) (all_cons (slm_take cLinear x0.Dims ((w64 (((x0.Dims.length : Nat) : Int) - x1)).toNat)) (all_cons Tryz.call82 (all_cons (shape_clones_c (x0.Dims.take ((w64 (((x0.Dims.length : Nat) : Int) - x1)).toNat)) y32 h33) (all_cons (show ((0 : Int) ≤ (w64 (((x0.Dims.length : Nat) : Int) - x1)) ∧ (w64 (((x0.Dims.length : Nat) : Int) - x1)) ≤ ((x0.Dims.map cLinear).length : Int) ∧ ((x0.Dims.map cLinear).length : Int) ≤ ((x0.Dims.map cLinear).length : Int)) ∧ UL 2 (x0.Dims.map cLinear) from ⟨by first | omega | (simp only [List.length_map]; omega), UL.map cLinear_len _⟩) (all_cons (slm_drop cLinear x0.Dims ((w64 (((x0.Dims.length : Nat) : Int) - x1)).toNat)) (all_cons Tryz.call82 (all_cons (shape_clones_c (x0.Dims.drop ((w64 (((x0.Dims.length : Nat) : Int) - x1)).toNat)) y35 h36) all_nil)))))))))))))))))) (by kernel_rfl)
  · refine some_e H15 fun e39 => ?_
    subst e39
    exact p_ret Tryz.mo 11 [.rg 0 [] [.m, .m, .m, .v], .rg 0 [] [.v, .c true (.bool y1), .v, .v], .eqT 8 (.bool true), .rg 0 [] [.b, .b, .m, .m, .v]] [.wkH 4 1 [], .wkH 5 1 []] [] (all_cons Tryz.call31 (all_cons (AFn.is (shape_Valid_c x0 y1 h2)) (all_cons trivial (all_cons (congrArg (fun x => AV.bool (!x)) c14) all_nil)))) (by kernel_rfl)
/-- framewise/framewiseref11.Split -/
def ref11_Split (x0 : Shape) (x1 : Int) : Option (Shape × Shape × Int) :=
  (ref11_Valid x0).bind fun y1 =>
  bif y1 then (
    bif decide (x1 < 0) then (
      some ((Shape.mk [] []), (Shape.mk [] []), 2)
    ) else (
      bif decide (((x0.Dims.length : Nat) : Int) < x1) then (
        some ((Shape.mk [] []), (Shape.mk [] []), 13)
      ) else (
        grd (0 ≤ (w64 (((x0.Dims.length : Nat) : Int) - x1)) ∧ (w64 (((x0.Dims.length : Nat) : Int) - x1)) ≤ (x0.Dims.length : Int)) <|
        grd ((0 + (x0.Dims.take ((w64 (((x0.Dims.length : Nat) : Int) - x1)).toNat)).length) * 32 ≤ 140737488355328) <|
        grd ((0 + (x0.Dims.drop ((w64 (((x0.Dims.length : Nat) : Int) - x1)).toNat)).length) * 32 ≤ 140737488355328) <|
        some ((Shape.mk x0.Row (x0.Dims.take ((w64 (((x0.Dims.length : Nat) : Int) - x1)).toNat))), (Shape.mk [] (x0.Dims.drop ((w64 (((x0.Dims.length : Nat) : Int) - x1)).toNat))), 0)
      )
    )
  ) else (
    some ((Shape.mk [] []), (Shape.mk [] []), 1)
  )
theorem ref11_Split_c (x0 : Shape) (x1 : Int) (r : (Shape × Shape × Int)) (H : ref11_Split x0 x1 = some r) : AFn Tryz.prog 44 [.agg [.str x0.Row, .dslice (x0.Dims.map cLinear)], .int .i64 x1] (.tup [.agg [.str r.1.Row, .dslice (r.1.Dims.map cLinear)], .agg [.str r.2.1.Row, .dslice (r.2.1.Dims.map cLinear)], .int .i64 r.2.2]) := by
  unfold ref11_Split at H
  refine acallX Tryz.func44 48 [.cell 4 24, .cell 5 24, .tmp 6] (by kernel_rfl) (by kernel_rfl) ?_
  refine bnd H fun y1 h2 H3 => ?_
  refine bsp H3 (fun c12 H13 => ?_) (fun c14 H15 => ?_)
  · refine bsp H13 (fun c20 H21 => ?_) (fun c22 H23 => ?_)
    · have c20p := of_decide_eq_true c20
      refine some_e H21 fun e24 => ?_
      subst e24
      exact p_ret Tryz.mo 15 [.rg 0 [] [.m, .m, .m, .v], .rg 0 [] [.v, .c true (.bool y1), .v, .v], .eqT 8 (.bool false), .rg 0 [] [.v, .v, .v], .eqT 14 (.bool true), .rg 0 [] [.b, .b, .m, .m, .v]] [.wkH 4 1 [], .wkH 5 1 []] [] (all_cons Tryz.call32 (all_cons (AFn.is (ref11_Valid_c x0 y1 h2)) (all_cons trivial (all_cons (congrArg (fun x => AV.bool (!x)) c12) (all_cons (congrArg (AV.bool) c20) all_nil))))) (by kernel_rfl)
    · have c22p := of_decide_eq_false c22
      refine bsp H23 (fun c25 H26 => ?_) (fun c27 H28 => ?_)
      · have c25p := of_decide_eq_true c25
        refine some_e H26 fun e29 => ?_
        subst e29
        exact p_ret Tryz.mo 19 [.rg 0 [] [.m, .m, .m, .v], .rg 0 [] [.v, .c true (.bool y1), .v, .v], .eqT 8 (.bool false), .rg 0 [] [.v, .v, .v], .eqT 14 (.bool false), .rg 0 [] [.v, .v, .e (.int .i64 ((x0.Dims.length : Nat) : Int)), .v, .v, .v], .eqT 19 (.bool true), .rg 0 [] [.b, .b, .m, .m, .v]] [.wkH 4 1 [], .wkH 5 1 []] [] (all_cons Tryz.call32 (all_cons (AFn.is (ref11_Valid_c x0 y1 h2)) (all_cons trivial (all_cons (congrArg (fun x => AV.bool (!x)) c12) (all_cons (congrArg (AV.bool) c22) (all_cons trivial (all_cons (lenm cLinear x0.Dims) (all_cons (congrArg (AV.bool) c25) all_nil)))))))) (by kernel_rfl)
      · have c27p := of_decide_eq_false c27
        refine grd_e H28 fun g30 H31 => ?_
        refine grd_e H31 fun g32 H33 => ?_
        refine grd_e H33 fun g34 H35 => ?_
        refine some_e H35 fun e36 => ?_
        subst e36
        exact p_ret Tryz.mo 22 [.rg 0 [] [.m, .m, .m, .v], .rg 0 [] [.v, .c true (.bool y1), .v, .v], .eqT 8 (.bool false), .rg 0 [] [.v, .v, .v], .eqT 14 (.bool false), .rg 0 [] [.v, .v, .e (.int .i64 ((x0.Dims.length : Nat) : Int)), .v, .v, .v], .eqT 19 (.bool false), .rg 0 [] [.v, .v, .e (.int .i64 ((x0.Dims.length : Nat) : Int)), .v, .w, .v], .rg 17 [.v, .v, .b, .v, .v, .v, .e (.dslice ((x0.Dims.take ((w64 (((x0.Dims.length : Nat) : Int) - x1)).toNat)).map cLinear)), .apx ((x0.Dims.take ((w64 (((x0.Dims.length : Nat) : Int) - x1)).toNat)).map cLinear), .b, .b, .v, .v, .v, .e (.dslice ((x0.Dims.drop ((w64 (((x0.Dims.length : Nat) : Int) - x1)).toNat)).map cLinear)), .apx ((x0.Dims.drop ((w64 (((x0.Dims.length : Nat) : Int) - x1)).toNat)).map cLinear), .b, .m] [.m, .v]] [.fz 39, .fz 46] [] (all_cons Tryz.call32 (all_cons (AFn.is (ref11_Valid_c x0 y1 h2)) (all_cons trivial (all_cons (congrArg (fun x => AV.bool (!x)) c12) (all_cons (congrArg (AV.bool) c22) (all_cons trivial (all_cons (lenm cLinear x0.Dims) (all_cons (congrArg (AV.bool) c27) (all_cons trivial (all_cons (lenm cLinear x0.Dims) (all_cons (show ((0 : Int) ≤ 0 ∧ 0 ≤ (w64 (((x0.Dims.length : Nat) : Int) - x1)) ∧ (w64 (((x0.Dims.length : Nat) : Int) - x1)) ≤ ((x0.Dims.map cLinear).length : Int)) ∧ UL 2 (x0.Dims.map cLinear) from ⟨by first | omega | (simp only [List.length_map]; omega), UL.map cLinear_len _⟩) (all_cons (slm_take cLinear x0.Dims ((w64 (((x0.Dims.length : Nat) : Int) - x1)).toNat)) (all_app (apXP (c := cLinear) cLinear_ok [] (x0.Dims.take ((w64 (((x0.Dims.length : Nat) : Int) - x1)).toNat)) 32 (by decide) (by simpa using g32) rfl) (all_cons (show ((0 : Int) ≤ (w64 (((x0.Dims.length : Nat) : Int) - x1)) ∧ (w64 (((x0.Dims.length : Nat) : Int) - x1)) ≤ ((x0.Dims.map cLinear).length : Int) ∧ ((x0.Dims.map cLinear).length : Int) ≤ ((x0.Dims.map cLinear).length : Int)) ∧ UL 2 (x0.Dims.map cLinear) from ⟨by first | omega | (simp only [List.length_map]; omega), UL.map cLinear_len _⟩) (all_cons (slm_drop cLinear x0.Dims ((w64 (((x0.Dims.length : Nat) : Int) - x1)).toNat)) (all_app (apXP (c := cLinear) cLinear_ok [] (x0.Dims.drop ((w64 (((x0.Dims.length : Nat) : Int) - x1)).toNat)) 32 (by decide) (by simpa using g34) rfl) all_nil)))))))))))))))) (by kernel_rfl)
  · refine some_e H15 fun e37 => ?_
    subst e37
    exact p_ret Tryz.mo 11 [.rg 0 [] [.m, .m, .m, .v], .rg 0 [] [.v, .c true (.bool y1), .v, .v], .eqT 8 (.bool true), .rg 0 [] [.b, .b, .m, .m, .v]] [.wkH 4 1 [], .wkH 5 1 []] [] (all_cons Tryz.call32 (all_cons (AFn.is (ref11_Valid_c x0 y1 h2)) (all_cons trivial (all_cons (congrArg (fun x => AV.bool (!x)) c14) all_nil)))) (by kernel_rfl)

end Go.Proofs.YtjfpcjnopbfekaaGreatDoor
