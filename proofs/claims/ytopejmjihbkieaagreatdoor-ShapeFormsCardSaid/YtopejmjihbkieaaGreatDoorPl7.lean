/- PLAIN LAWS: the example of the document, computed. -/
import Derived.Test.YtopejmjihbkieaaGreatDoorPl6
import Derived.KernelRfl
set_option linter.unusedSimpArgs false
set_option linter.unusedVariables false
namespace Go.Proofs.YtopejmjihbkieaaGreatDoor
open Go.Ab Go.Sh
theorem clone_eq (l : List Coef) (h : l.length ≤ 1000000) : slices_Clone_api_Coef l = some l := by
  unfold slices_Clone_api_Coef
  rw [grd_pos (by omega)]
  exact nilc_same fun e => by rw [e]
noncomputable def sumT (n : Int) (m : List (Str × Int)) : Option (Linear × Int) := bif goodM m then some (endSum n m (sortI (namesOf m))) else linear_sum_result n m
noncomputable def sumT2 (s : Str) (n : Int) (m : List (Str × Int)) : Option (Linear × Int) := bif goodM m then some (endSum n m (sortI (namesOf m))) else linear_sum_result_2 s n m
noncomputable def cloneT (l : List Coef) : Option (List Coef) := bif decide (l.length ≤ 1000000) then some l else slices_Clone_api_Coef l
theorem sum_T : linear_sum_result = sumT := by
  funext n m
  unfold sumT
  cases h : goodM m
  · rfl
  · exact sum_result_eq n m h
theorem sum_T2 : linear_sum_result_2 = sumT2 := by
  funext s n m
  unfold sumT2
  cases h : goodM m
  · rfl
  · exact sum_result_2_eq s n m h
theorem clone_T : slices_Clone_api_Coef = cloneT := by
  funext l
  unfold cloneT
  by_cases h : l.length ≤ 1000000
  · rw [decide_eq_true h]; exact clone_eq l h
  · rw [decide_eq_false h]; rfl
noncomputable def linear_SubstT (x0 : Linear) (x1 : (List Bind)) : Option (Linear × Int) :=
  (linear_Valid x0).bind fun y1 =>
  bif y1 then (
    (cnt (σ := (Int × (List (Str × Int)))) (ε := (Int × (List (Str × Int)))) (ρ := (Linear × Int)) (fun i122 s121 =>
      (slices_IndexFunc_api_Bind_2 x1 ((x0.Terms.getD i122 ⟨[], 0⟩).Var) ((x0.Terms.getD i122 ⟨[], 0⟩).C)).bind fun y193 =>
      ((
        bif decide (y193 < 0) then (
          some (.brk (true, s121.1, (mput ((x0.Terms.getD i122 ⟨[], 0⟩).Var) (w64 ((mget 0 ((x0.Terms.getD i122 ⟨[], 0⟩).Var) s121.2) + ((x0.Terms.getD i122 ⟨[], 0⟩).C))) s121.2)))
        ) else (
          grd (0 ≤ y193 ∧ y193 < (x1.length : Int)) <|
          (linear_Valid (Linear.mk (((x1.getD y193.toNat (⟨0, [], ⟨0, []⟩, ⟨[], []⟩, []⟩)).Dim).Const) (((x1.getD y193.toNat (⟨0, [], ⟨0, []⟩, ⟨[], []⟩, []⟩)).Dim).Terms))).bind fun y231 =>
          bif y231 then (
            (linear_sum_add (Linear.mk (((x1.getD y193.toNat (⟨0, [], ⟨0, []⟩, ⟨[], []⟩, []⟩)).Dim).Const) (((x1.getD y193.toNat (⟨0, [], ⟨0, []⟩, ⟨[], []⟩, []⟩)).Dim).Terms)) ((x0.Terms.getD i122 ⟨[], 0⟩).C) s121.1 s121.2).bind fun y238 =>
            some (.brk (false, y238.1, y238.2))
          ) else (
            some (.ret (.ret ((Linear.mk 0 []), 1)))
          )
        )
      ) : Option (Out (Bool × Int × (List (Str × Int))) (Stp (Int × (List (Str × Int))) (Int × (List (Str × Int))) (Linear × Int)))).bind (aft fun u223 =>
        some (.go (u223.2.1, u223.2.2))
      )
    ) (fun i122 s121 => (s121.1, s121.2)) (x0.Terms.length - 0) 0 (x0.Const, [])).bind <| aft fun u255 =>
    (sumT u255.1 u255.2).bind fun y258 =>
    some (y258.1, y258.2)
  ) else (
    some ((Linear.mk 0 []), 1)
  )
theorem linear_Subst_tw : linear_Subst = linear_SubstT := by
  funext x0 x1; unfold linear_Subst linear_SubstT
  simp only [sum_T, sum_T2, clone_T]
noncomputable def shape_clonesT (x0 : (List Linear)) : Option (List Linear) :=
  (cnt (σ := (List Linear)) (ε := (List Linear)) (ρ := Empty) (fun i77 s76 =>
    (cloneT ((x0.getD i77 ⟨0, []⟩).Terms)).bind fun y104 =>
    grd ((s76.length + 1) * 32 ≤ 140737488355328) <|
    some (.go (s76 ++ [(Linear.mk ((x0.getD i77 ⟨0, []⟩).Const) y104)]))
  ) (fun i77 s76 => s76) (x0.length - 0) 0 []).bind <| aftE fun u114 =>
  some u114
theorem shape_clones_tw : shape_clones = shape_clonesT := by
  funext x0; unfold shape_clones shape_clonesT
  simp only [sum_T, sum_T2, clone_T, linear_Subst_tw]
noncomputable def shape_madeT (x0 : Str) (x1 : (List Linear)) : Option (Shape × Int) :=
  bif decide (((x1.length : Nat) : Int) > 6) then (
    some ((Shape.mk [] []), 3)
  ) else (
    (shape_clonesT x1).bind fun y6 =>
    some ((Shape.mk x0 y6), 0)
  )
theorem shape_made_tw : shape_made = shape_madeT := by
  funext x0 x1; unfold shape_made shape_madeT
  simp only [sum_T, sum_T2, clone_T, linear_Subst_tw, shape_clones_tw]
noncomputable def shape_SubstT (x0 : Shape) (x1 : (List Bind)) : Option (Shape × Int) :=
  (shape_Valid x0).bind fun y1 =>
  bif y1 then (
    (shape_ValidBinds x1).bind fun y15 =>
    bif y15 then (
      (shape_find x1 2 x0.Row).bind fun y22 =>
      ((
        bif (x0.Row == []) then (
          some false
        ) else (
          some (decide (y22 ≥ 0))
        )
      ) : Option Bool).bind fun v25 =>
      ((
        bif v25 then (
          grd (0 ≤ y22 ∧ y22 < (x1.length : Int)) <|
          (shape_clonesT (((x1.getD y22.toNat (⟨0, [], ⟨0, []⟩, ⟨[], []⟩, []⟩)).Row).Dims)).bind fun y53 =>
          some ((((x1.getD y22.toNat (⟨0, [], ⟨0, []⟩, ⟨[], []⟩, []⟩)).Row).Row), y53)
        ) else (
          some (x0.Row, [])
        )
      ) : Option (Str × (List Linear))).bind fun v44 =>
      (cnt (σ := (List Linear)) (ε := (List Linear)) (ρ := (Shape × Int)) (fun i91 s90 =>
        (linear_SubstT (Linear.mk ((x0.Dims.getD i91 ⟨0, []⟩).Const) ((x0.Dims.getD i91 ⟨0, []⟩).Terms)) x1).bind fun y122 =>
        bif (y122.2 == 0) then (
          grd ((s90.length + 1) * 32 ≤ 140737488355328) <|
          some (.go (s90 ++ [y122.1]))
        ) else (
          some (.ret ((Shape.mk [] []), y122.2))
        )
      ) (fun i91 s90 => s90) (x0.Dims.length - 0) 0 v44.2).bind <| aft fun u140 =>
      (shape_madeT v44.1 u140).bind fun y143 =>
      some (y143.1, y143.2)
    ) else (
      some ((Shape.mk [] []), 1)
    )
  ) else (
    some ((Shape.mk [] []), 1)
  )
theorem shape_Subst_tw : shape_Subst = shape_SubstT := by
  funext x0 x1; unfold shape_Subst shape_SubstT
  simp only [sum_T, sum_T2, clone_T, linear_Subst_tw, shape_clones_tw, shape_made_tw]
noncomputable def linear_ParseT (x0 : Str) : Option (Linear × Int) :=
  (linear_reader_spaces x0 0 []).bind fun y1 =>
  (linear_reader_sign y1 0 []).bind fun y4 =>
  (whl (σ := (Int × Str × Int × (List (Str × Int)))) (ε := (Linear × Int)) (ρ := (Linear × Int)) (fun s71 =>
    (linear_reader_spaces s71.2.1 s71.2.2.1 s71.2.2.2).bind fun y79 =>
    (linear_reader_item s71.1 y79 s71.2.2.1 s71.2.2.2).bind fun y82 =>
    bif y82.1 then (
      (linear_reader_spaces y82.2.1 y82.2.2.1 y82.2.2.2).bind fun y89 =>
      bif (y89 == []) then (
        (sumT2 y89 y82.2.2.1 y82.2.2.2).bind fun y99 =>
        some (.ret (y99.1, y99.2))
      ) else (
        (linear_reader_sign y89 y82.2.2.1 y82.2.2.2).bind fun y106 =>
        bif y106.1.2 then (
          some (.go (y106.1.1, y106.2, y82.2.2.1, y82.2.2.2))
        ) else (
          some (.ret ((Linear.mk 0 []), 6))
        )
      )
    ) else (
      some (.ret ((Linear.mk 0 []), 6))
    )
  ) 4294967296 (y4.1.1, y4.2, 0, [])).bind <| aft some
theorem linear_Parse_tw : linear_Parse = linear_ParseT := by
  funext x0; unfold linear_Parse linear_ParseT
  simp only [sum_T, sum_T2, clone_T, linear_Subst_tw, shape_clones_tw, shape_made_tw, shape_Subst_tw]
noncomputable def shape_ParseT (x0 : Str) : Option (Shape × Int) :=
  (strings_CutPrefix x0 [91]).bind fun y1 =>
  (strings_CutSuffix y1.1 [93]).bind fun y4 =>
  bif y1.2 then (
    bif y4.2 then (
      (lib_Split y4.1 [44, 32]).bind fun y19 =>
      (cnt (σ := (Str × (List Linear))) (ε := (Str × (List Linear))) (ρ := (Shape × Int)) (fun i241 s240 =>
        (strings_CutSuffix (y19.getD i241 []) [46, 46]).bind fun y395 =>
        ((
          ((
            bif y395.2 then (
              bif (((i241 : Nat) : Int) == 0) then (
                some (.ret (.brk (true, true, y395.1, s240.2)))
              ) else (
                some (.brk true)
              )
            ) else (
              some (.brk false)
            )
          ) : Option (Out Bool (Out (Bool × Bool × Str × (List Linear)) (Stp (Str × (List Linear)) (Str × (List Linear)) (Shape × Int))))).bind (aft fun u483 =>
            (linear_ParseT (y19.getD i241 [])).bind fun y498 =>
            ((
              bif (y498.2 == 0) then (
                some (.brk ())
              ) else (
                bif (y4.1 == []) then (
                  some (.brk ())
                ) else (
                  some (.ret (.ret (.ret ((Shape.mk [] []), 6))))
                )
              )
            ) : Option (Out Unit (Out (Bool × Bool × Str × (List Linear)) (Stp (Str × (List Linear)) (Str × (List Linear)) (Shape × Int))))).bind (aft fun u512 =>
              bif (y4.1 == []) then (
                some (.brk (u483, false, s240.1, s240.2))
              ) else (
                grd ((s240.2.length + 1) * 32 ≤ 140737488355328) <|
                some (.brk (u483, false, s240.1, (s240.2 ++ [y498.1])))
              )
            )
          )
        ) : Option (Out (Bool × Bool × Str × (List Linear)) (Stp (Str × (List Linear)) (Str × (List Linear)) (Shape × Int)))).bind (aft fun u471 =>
          some (.go (u471.2.2.1, u471.2.2.2))
        )
      ) (fun i241 s240 => (s240.1, s240.2)) (y19.length - 0) 0 ([], [])).bind <| aft fun u549 =>
      (shape_Valid (Shape.mk u549.1 u549.2)).bind fun y552 =>
      bif y552 then (
        (shape_text (Shape.mk u549.1 u549.2)).bind fun y566 =>
        bif (y566 == x0) then (
          some ((Shape.mk u549.1 u549.2), 0)
        ) else (
          some ((Shape.mk [] []), 6)
        )
      ) else (
        some ((Shape.mk [] []), 6)
      )
    ) else (
      some ((Shape.mk [] []), 6)
    )
  ) else (
    some ((Shape.mk [] []), 6)
  )
theorem shape_Parse_tw : shape_Parse = shape_ParseT := by
  funext x0; unfold shape_Parse shape_ParseT
  simp only [sum_T, sum_T2, clone_T, linear_Subst_tw, shape_clones_tw, shape_made_tw, shape_Subst_tw, linear_Parse_tw]
noncomputable def law11_awakeT  : Option Bool :=
  (law11_dim 1 [110] 1).bind fun y1 =>
  (law11_dim 0 [] 3).bind fun y4 =>
  (shape_Print (Shape.mk [114] [y1, y4])).bind fun y7 =>
  (law11_dim 1 [109] 0).bind fun y10 =>
  (law11_dim 2 [107] 0).bind fun y13 =>
  (shape_SubstT (Shape.mk [114] [y1, y4]) [(Bind.mk 2 [114] (Linear.mk 0 []) (Shape.mk [] [y10]) []), (Bind.mk 1 [110] y13 (Shape.mk [] []) [])]).bind fun y16 =>
  (shape_Print y16.1).bind fun y19 =>
  (shape_ParseT y19.1).bind fun y22 =>
  (shape_Eval y16.1 [(Value.mk [107] 2), (Value.mk [109] 7)]).bind fun y25 =>
  bif (y7.2 == 0) then (
    bif (y16.2 == 0) then (
      bif (y19.2 == 0) then (
        bif (y22.2 == 0) then (
          bif (y25.2 == 0) then (
            bif (y7.1 == [91, 114, 46, 46, 44, 32, 110, 43, 49, 44, 32, 51, 93]) then (
              bif (y19.1 == [91, 109, 44, 32, 50, 107, 43, 49, 44, 32, 51, 93]) then (
                (shape_Equal y16.1 y22.1).bind fun y259 =>
                bif y259 then (
                  (ref11_SameInts y25.1 [7, 5, 3]).bind fun y276 =>
                  bif y276 then (
                    (shape_Valid (Shape.mk [114] [y1, y4])).bind fun y286 =>
                    some y286
                  ) else (
                    some false
                  )
                ) else (
                  some false
                )
              ) else (
                some false
              )
            ) else (
              some false
            )
          ) else (
            some false
          )
        ) else (
          some false
        )
      ) else (
        some false
      )
    ) else (
      some false
    )
  ) else (
    some false
  )
theorem law11_awake_tw : law11_awake = law11_awakeT := by
  unfold law11_awake law11_awakeT
  simp only [sum_T, sum_T2, clone_T, linear_Subst_tw, shape_clones_tw, shape_made_tw, shape_Subst_tw, linear_Parse_tw, shape_Parse_tw]
theorem law11_awake_true : law11_awake = some true := by
  rw [law11_awake_tw]
  kernel_rfl
theorem forms_law (x0 x1 : Shape) (x2 : Framewiselaw11_Forms) : law11_ShapeForms x0 x1 x2 = some true := forms_of_awake law11_awake_true x0 x1 x2
end Go.Proofs.YtopejmjihbkieaaGreatDoor
