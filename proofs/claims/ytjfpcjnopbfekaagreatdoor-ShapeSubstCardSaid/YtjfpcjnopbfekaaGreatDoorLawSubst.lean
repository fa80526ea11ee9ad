/- The statement ShapeSubst: at whatever arguments the law framewiselaw11.ShapeSubst returns true: what the program substitutes in shapes is what the reference substitutes, and substituting goes with joining. It holds with no further condition. By an AI agent. -/
import Derived.Test.YtjfpcjnopbfekaaGreatDoorWalkcSubst
import Derived.Test.YtjfpcjnopbfekaaGreatDoorPlainSubst
import Derived.Test.YtjfpcjnopbfekaaGreatDoorLawB
import Derived.Test.YtjfpcjnopbfekaaGreatDoorFactsSubst
set_option linter.unusedSimpArgs false
set_option linter.unusedVariables false
namespace Go.Proofs.YtjfpcjnopbfekaaGreatDoor
open Go.RowKit Go.Ab Go.Sh Go.ChangeShapes Go.WideShapes Go.ChangeAt
theorem rdc9 : Tryz.prog.cellsOf 9 = 1 := by kernel_rfl
theorem rdc3 : Tryz.prog.cellsOf 3 = 1 := by kernel_rfl
theorem rdc44 : Tryz.prog.cellsOf 44 = 2 := by kernel_rfl
theorem rd_Coef : Rd Tryz.prog 44 cCoef := by
  intro H enc w base sp held fuel cs x h
  obtain ⟨hl, n, hf⟩ := rd_struct Tryz.underlying44 h
  rw [rdc44] at hl
  obtain ⟨z0, h0⟩ := hf 0 _ rfl
  obtain ⟨y0, k0⟩ := (rd_str Tryz.underlying9) enc w base sp held n _ _ h0
  obtain ⟨z1, h1⟩ := hf 1 _ rfl
  obtain ⟨y1, k1⟩ := (rd_int (k := .i64) Tryz.underlying3) enc w base sp held n _ _ h1
  refine ⟨⟨y0, y1⟩, ?_⟩
  exact DL.cons (o := 0) (s := Tryz.prog.cellsOf 9) k0 rdc9.symm (by rw [rdc9]; exact DL.cons (o := 1) (s := Tryz.prog.cellsOf 3) k1 rdc3.symm (by rw [rdc3]; exact DL.done hl))
theorem rdc37 : Tryz.prog.cellsOf 37 = 1 := by kernel_rfl
theorem rdc39 : Tryz.prog.cellsOf 39 = 2 := by kernel_rfl
theorem rd_Linear : Rd Tryz.prog 39 cLinear := by
  intro H enc w base sp held fuel cs x h
  obtain ⟨hl, n, hf⟩ := rd_struct Tryz.underlying39 h
  rw [rdc39] at hl
  obtain ⟨z0, h0⟩ := hf 0 _ rfl
  obtain ⟨y0, k0⟩ := (rd_int (k := .i64) Tryz.underlying3) enc w base sp held n _ _ h0
  obtain ⟨z1, h1⟩ := hf 1 _ rfl
  obtain ⟨y1, k1⟩ := (rd_slice ⟨[], 0⟩ Tryz.underlying37 rdc44 (by decide) (fun _ => rfl) rd_Coef) enc w base sp held n _ _ h1
  refine ⟨⟨y0, y1⟩, ?_⟩
  exact DL.cons (o := 0) (s := Tryz.prog.cellsOf 3) k0 rdc3.symm (by rw [rdc3]; exact DL.cons (o := 1) (s := Tryz.prog.cellsOf 37) k1 rdc37.symm (by rw [rdc37]; exact DL.done hl))
theorem rdc22 : Tryz.prog.cellsOf 22 = 1 := by kernel_rfl
theorem rdc24 : Tryz.prog.cellsOf 24 = 2 := by kernel_rfl
theorem rd_Shape : Rd Tryz.prog 24 cShape := by
  intro H enc w base sp held fuel cs x h
  obtain ⟨hl, n, hf⟩ := rd_struct Tryz.underlying24 h
  rw [rdc24] at hl
  obtain ⟨z0, h0⟩ := hf 0 _ rfl
  obtain ⟨y0, k0⟩ := (rd_str Tryz.underlying9) enc w base sp held n _ _ h0
  obtain ⟨z1, h1⟩ := hf 1 _ rfl
  obtain ⟨y1, k1⟩ := (rd_slice ⟨0, []⟩ Tryz.underlying22 rdc39 (by decide) (fun _ => rfl) rd_Linear) enc w base sp held n _ _ h1
  refine ⟨⟨y0, y1⟩, ?_⟩
  exact DL.cons (o := 0) (s := Tryz.prog.cellsOf 9) k0 rdc9.symm (by rw [rdc9]; exact DL.cons (o := 1) (s := Tryz.prog.cellsOf 22) k1 rdc22.symm (by rw [rdc22]; exact DL.done hl))
theorem rdc41 : Tryz.prog.cellsOf 41 = 7 := by kernel_rfl
theorem rd_Bind : Rd Tryz.prog 41 cBind := by
  intro H enc w base sp held fuel cs x h
  obtain ⟨hl, n, hf⟩ := rd_struct Tryz.underlying41 h
  rw [rdc41] at hl
  obtain ⟨z0, h0⟩ := hf 0 _ rfl
  obtain ⟨y0, k0⟩ := (rd_int (k := .i64) Tryz.underlying3) enc w base sp held n _ _ h0
  obtain ⟨z1, h1⟩ := hf 1 _ rfl
  obtain ⟨y1, k1⟩ := (rd_str Tryz.underlying9) enc w base sp held n _ _ h1
  obtain ⟨z2, h2⟩ := hf 2 _ rfl
  obtain ⟨y2, k2⟩ := rd_Linear enc w base sp held n _ _ h2
  obtain ⟨z3, h3⟩ := hf 3 _ rfl
  obtain ⟨y3, k3⟩ := rd_Shape enc w base sp held n _ _ h3
  obtain ⟨z4, h4⟩ := hf 4 _ rfl
  obtain ⟨y4, k4⟩ := (rd_str Tryz.underlying9) enc w base sp held n _ _ h4
  refine ⟨⟨y0, y1, y2, y3, y4⟩, ?_⟩
  exact DL.cons (o := 0) (s := Tryz.prog.cellsOf 3) k0 rdc3.symm (by rw [rdc3]; exact DL.cons (o := 1) (s := Tryz.prog.cellsOf 9) k1 rdc9.symm (by rw [rdc9]; exact DL.cons (o := 2) (s := Tryz.prog.cellsOf 39) k2 rdc39.symm (by rw [rdc39]; exact DL.cons (o := 4) (s := Tryz.prog.cellsOf 24) k3 rdc24.symm (by rw [rdc24]; exact DL.cons (o := 6) (s := Tryz.prog.cellsOf 9) k4 rdc9.symm (by rw [rdc9]; exact DL.done hl)))))
set_option maxRecDepth 100000 in
theorem subst_contract (H : Type) (enc : TypeId × Go.Value → H) (W : World) (base : Nat) (args : Array Go.Value) (ds gs : List (DataW H)) (before : List MemPlace)
    (hval : ∀ (j : Nat) t v, Tryz.f6.params[j]? = some t → args[j]? = some v → Value.okWide Tryz.prog W .any base t v)
    (hW : DataW.Whole enc Tryz.prog Tryz.f6.params.toList Rows.shapeSubstSpec.vars false W args.toList ds gs before) (hg : GP Tryz.prog W) :
    Calls Tryz.prog 6 args W fun e W' => ∃ v, e = .returned v ∧ Rows.shapeSubstSpec.post enc Tryz.prog Tryz.f6 false true false false W args v W' := by
  have hW' := hW
  obtain ⟨p, q, hA0, hV, rfl, hfz, hnd⟩ := hW
  have hA : DataW.TrodAll enc Tryz.prog W 0 (fun _ => true) true Tryz.f6.params.toList args.toList ds p := hA0
  rw [Tryz.params6] at hA hval
  obtain ⟨v0, vs0, d0, ds0, p0, q0, hargs, rfl, rfl, h0, r0⟩ := trodAll_cons hA
  obtain ⟨v1, vs1, d1, ds1, p1, q1, rfl, rfl, rfl, h1, r1⟩ := trodAll_cons r0
  obtain ⟨v2, vs2, d2, ds2, p2, q2, rfl, rfl, rfl, h2, r2⟩ := trodAll_cons r1
  obtain ⟨rfl, rfl, rfl⟩ := trodAll_nil r2
  obtain rfl : args = #[v0, v1, v2] := by cases args; simp_all
  obtain ⟨rfl, rfl⟩ := trodVars_none hV
  obtain ⟨x0, k0⟩ := rd_arg_struct Tryz.underlying24 rd_Shape (hval 0 24 v0 rfl rfl) h0
  obtain ⟨x1, k1⟩ := rd_arg_struct Tryz.underlying24 rd_Shape (hval 1 24 v1 rfl rfl) h1
  obtain ⟨_, _, _, e2⟩ := okWide_slice Tryz.underlying25 (hval 2 25 v2 rfl rfl)
  obtain ⟨x2, k2⟩ := rd_arg_one (rd_slice (⟨0, [], ⟨0, []⟩, ⟨[], []⟩, []⟩) Tryz.underlying25 rdc41 (by decide) (fun _ => rfl) rd_Bind) (by rw [e2]; rfl) h2
  have hwalk := afn_calls (law11_ShapeSubst_c x0 x1 x2 true (subst_law x0 x1 x2)) (W := W) (vs := [v0, v1, v2]) rfl (fun i hi => by
    match i, hi with
    | 0, _ => exact k0
    | 1, _ => exact k1
    | 2, _ => exact k2
    ) (fun w hk => gp_keep hk hg)
  refine hwalk.mono fun e W' ⟨e1, hb⟩ => ⟨_, e1, ?_⟩
  exact post_law hW' hb laidOut (by rw [Tryz.params6]; intro t ht; simp only [List.mem_cons, List.mem_nil_iff, or_false] at ht; rcases ht with rfl | rfl | rfl <;> exact ⟨by kernel_rfl, of_decide_eq_true (by kernel_rfl)⟩) (tb := 4) (by kernel_rfl) Tryz.underlying4 rfl rfl
theorem subst_reads (os : Os) {H : Type} (enc : TypeId × Go.Value → H) : ∃ places, DataW.whole enc Tryz.prog ((laidWorld os).forCall (fun _ _ => 0) ⟨#[], #[(.agg #[.string ByteArray.empty, .slice none 0 0]), (.agg #[.string ByteArray.empty, .slice none 0 0]), (.slice none 0 0)], []⟩).memory Tryz.f6.params.toList Rows.shapeSubstSpec.vars false (#[(.agg #[.string ByteArray.empty, .slice none 0 0]), (.agg #[.string ByteArray.empty, .slice none 0 0]), (.slice none 0 0)] : Array Go.Value).toList 8 = some ([.agg [.lit (.string []), .nil], .agg [.lit (.string []), .nil], .nil], [], places) :=
  ⟨[], by kernel_rfl⟩
set_option maxRecDepth 100000 in
theorem subst_lifted (os : Os) (started : os.Started) (H : Type) (enc : TypeId × Go.Value → H) (F : Stop.Interp) :
    ReturnsInHanded {} Tryz.checked os 6 .any ((OpenSpec.ofChange Rows.shapeSubstSpec).preRow enc Tryz.prog Tryz.f6 Rows.shapeSubstRow.domain false Rows.shapeSubstRow.laid) (((OpenSpec.ofChange Rows.shapeSubstSpec).at F).post enc Tryz.prog Tryz.f6 false true false false) := by
  obtain ⟨places, hx⟩ := subst_reads os enc
  refine returnsInHanded_of_row (C := Tryz.checked) (s := OpenSpec.ofChange Rows.shapeSubstSpec) ownOff started (by kernel_rfl) Tryz.func6
    (witness_row_at (enc := enc) (C := Tryz.checked) false (laidWorld os) #[(.agg #[.string ByteArray.empty, .slice none 0 0]), (.agg #[.string ByteArray.empty, .slice none 0 0]), (.slice none 0 0)] rfl (by kernel_rfl) (by kernel_rfl) (by kernel_rfl)
      (OpenSpec.preRow_of_cond 8 hx (by kernel_rfl) (fun k hk => by cases hk) (by kernel_rfl) (laid_any os _))) ?_
  intro W base args ds gs before hval hW _ _ _ hL hsh _
  exact subst_contract H enc W base args ds gs before hval hW (gp_laid hL (by kernel_rfl) hsh)
theorem subst_said : Rows.ShapeSubstSaid :=
  OpenClaim.holds_of_cond 6 Tryz.f6 rfl rfl rfl rfl rfl rfl rfl ⟨rfl, rfl, rfl, rfl, rfl⟩ rfl rfl rfl rfl rfl (by kernel_rfl) Tryz.func6 subst_facts
    (of_decide_eq_true (by kernel_rfl)) subst_wrap
    (fun os started H enc _ F => by rw [OpenClaim.pre_eq_preRow]; exact subst_lifted os started H enc F)
set_option maxRecDepth 100000 in
theorem subst_plain (f : FuncId) (fn : Func) (hf : Tryz.pinned.checked.prog.funcNamed "framewise/framewiselaw11.ShapeSubst" = some f) (hfn : Tryz.pinned.checked.prog.funcs[f]? = some fn) :
    true = Tryz.pinned.checked.prog.looks [] ∧ ∀ (j : Nat) t, fn.params[j]? = some t → Tryz.pinned.checked.prog.wantsStandIn t = false := by
  obtain rfl : f = 6 := Option.some.inj ((show Tryz.prog.funcNamed "framewise/framewiselaw11.ShapeSubst" = some 6 by kernel_rfl).symm.trans hf) |>.symm
  obtain rfl : fn = Tryz.f6 := (Option.some.inj (Tryz.func6.symm.trans hfn)).symm
  refine ⟨by kernel_rfl, fun j t ht => ?_⟩
  rw [Tryz.params6] at ht
  have hm := Array.mem_of_getElem? ht
  simp only [List.mem_toArray, List.mem_cons, List.mem_nil_iff, or_false] at hm
  rcases hm with rfl | rfl | rfl <;> exact (by kernel_rfl : Tryz.prog.wantsStandIn _ = false)
/-- THE CARD. -/
theorem subst_card : Rows.ShapeSubstCardSaid :=
  Claim7.holds_tied_plain_at .later [] _ _ _ _ subst_said (fun _ h => by cases h) subst_wf (fun _ h => by cases h) shapeSubst_row_tie rfl ⟨rfl, rfl⟩ (by kernel_rfl) rfl subst_plain subst_goes
end Go.Proofs.YtjfpcjnopbfekaaGreatDoor
