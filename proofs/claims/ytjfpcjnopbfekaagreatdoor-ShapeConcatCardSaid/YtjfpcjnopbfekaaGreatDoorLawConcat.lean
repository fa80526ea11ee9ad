/- The statement ShapeConcat: at whatever arguments the law framewiselaw11.ShapeConcat returns true: what the program joins and splits of shapes is what the reference joins and splits, joining is associative, and splitting inverts it. It holds with no further condition. By an AI agent. -/
import Derived.Test.YtjfpcjnopbfekaaGreatDoorWalkcConcat
import Derived.Test.YtjfpcjnopbfekaaGreatDoorPlainConcat
import Derived.Test.YtjfpcjnopbfekaaGreatDoorLawB
import Derived.Test.YtjfpcjnopbfekaaGreatDoorFactsConcat
set_option linter.unusedSimpArgs false
set_option linter.unusedVariables false
namespace Go.Proofs.YtjfpcjnopbfekaaGreatDoor
open Go.RowKit Go.Ab Go.Sh Go.ChangeShapes Go.WideShapes Go.ChangeAt
theorem rdc9 : Tryz.prog.cellsOf 9 = 1 := by kernel_rfl
theorem rdc3 : Tryz.prog.cellsOf 3 = 1 := by kernel_rfl
theorem rdc44 : Tryz.prog.cellsOf 44 = 2 := by kernel_rfl
theorem rd_Coef : Rd Tryz.prog 44 cCoef := by
  intro H enc w base sp held fuel cs x h
  obtain ⟨hl, n, hf⟩ := rd_struct Tryz.underlying44 h
  rw [rdc44] at hl
  obtain ⟨z0, h0⟩ := hf 0 _ rfl
  obtain ⟨y0, k0⟩ := (rd_str Tryz.underlying9) enc w base sp held n _ _ h0
  obtain ⟨z1, h1⟩ := hf 1 _ rfl
  obtain ⟨y1, k1⟩ := (rd_int (k := .i64) Tryz.underlying3) enc w base sp held n _ _ h1
  refine ⟨⟨y0, y1⟩, ?_⟩
  exact DL.cons (o := 0) (s := Tryz.prog.cellsOf 9) k0 rdc9.symm (by rw [rdc9]; exact DL.cons (o := 1) (s := Tryz.prog.cellsOf 3) k1 rdc3.symm (by rw [rdc3]; exact DL.done hl))
theorem rdc37 : Tryz.prog.cellsOf 37 = 1 := by kernel_rfl
theorem rdc39 : Tryz.prog.cellsOf 39 = 2 := by kernel_rfl
theorem rd_Linear : Rd Tryz.prog 39 cLinear := by
  intro H enc w base sp held fuel cs x h
  obtain ⟨hl, n, hf⟩ := rd_struct Tryz.underlying39 h
  rw [rdc39] at hl
  obtain ⟨z0, h0⟩ := hf 0 _ rfl
  obtain ⟨y0, k0⟩ := (rd_int (k := .i64) Tryz.underlying3) enc w base sp held n _ _ h0
  obtain ⟨z1, h1⟩ := hf 1 _ rfl
  obtain ⟨y1, k1⟩ := (rd_slice ⟨[], 0⟩ Tryz.underlying37 rdc44 (by decide) (fun _ => rfl) rd_Coef) enc w base sp held n _ _ h1
  refine ⟨⟨y0, y1⟩, ?_⟩
  exact DL.cons (o := 0) (s := Tryz.prog.cellsOf 3) k0 rdc3.symm (by rw [rdc3]; exact DL.cons (o := 1) (s := Tryz.prog.cellsOf 37) k1 rdc37.symm (by rw [rdc37]; exact DL.done hl))
theorem rdc22 : Tryz.prog.cellsOf 22 = 1 := by kernel_rfl
theorem rdc24 : Tryz.prog.cellsOf 24 = 2 := by kernel_rfl
theorem rd_Shape : Rd Tryz.prog 24 cShape := by
  intro H enc w base sp held fuel cs x h
  obtain ⟨hl, n, hf⟩ := rd_struct Tryz.underlying24 h
  rw [rdc24] at hl
  obtain ⟨z0, h0⟩ := hf 0 _ rfl
  obtain ⟨y0, k0⟩ := (rd_str Tryz.underlying9) enc w base sp held n _ _ h0
  obtain ⟨z1, h1⟩ := hf 1 _ rfl
  obtain ⟨y1, k1⟩ := (rd_slice ⟨0, []⟩ Tryz.underlying22 rdc39 (by decide) (fun _ => rfl) rd_Linear) enc w base sp held n _ _ h1
  refine ⟨⟨y0, y1⟩, ?_⟩
  exact DL.cons (o := 0) (s := Tryz.prog.cellsOf 9) k0 rdc9.symm (by rw [rdc9]; exact DL.cons (o := 1) (s := Tryz.prog.cellsOf 22) k1 rdc22.symm (by rw [rdc22]; exact DL.done hl))
theorem rdc65 : Tryz.prog.cellsOf 65 = 6 := by kernel_rfl
def rdE65 (x : (Shape × Shape × Shape)) : List AV := [.str x.1.Row, .dslice (x.1.Dims.map cLinear), .str x.2.1.Row, .dslice (x.2.1.Dims.map cLinear), .str x.2.2.Row, .dslice (x.2.2.Dims.map cLinear)]
theorem rdA3_24 : Rd Tryz.prog 65 rdE65 := by
  intro H enc w base sp held fuel cs x h
  obtain ⟨hl, n, hf⟩ := rd_arrS Tryz.underlying65 rdc24 h
  rw [rdc65] at hl
  obtain ⟨z0, h0⟩ := hf 0 (by decide)
  obtain ⟨y0, k0⟩ := rd_Shape enc w base sp held n _ _ h0
  obtain ⟨z1, h1⟩ := hf 1 (by decide)
  obtain ⟨y1, k1⟩ := rd_Shape enc w base sp held n _ _ h1
  obtain ⟨z2, h2⟩ := hf 2 (by decide)
  obtain ⟨y2, k2⟩ := rd_Shape enc w base sp held n _ _ h2
  refine ⟨(y0, y1, y2), ?_⟩
  exact DL.cons (o := 0) (s := 2) k0 rfl (DL.cons (o := 2) (s := 2) k1 rfl (DL.cons (o := 4) (s := 2) k2 rfl (DL.done hl)))
set_option maxRecDepth 100000 in
theorem concat_contract (H : Type) (enc : TypeId × Go.Value → H) (W : World) (base : Nat) (args : Array Go.Value) (ds gs : List (DataW H)) (before : List MemPlace)
    (hval : ∀ (j : Nat) t v, Tryz.f7.params[j]? = some t → args[j]? = some v → Value.okWide Tryz.prog W .any base t v)
    (hW : DataW.Whole enc Tryz.prog Tryz.f7.params.toList Rows.shapeConcatSpec.vars false W args.toList ds gs before) (hg : GP Tryz.prog W) :
    Calls Tryz.prog 7 args W fun e W' => ∃ v, e = .returned v ∧ Rows.shapeConcatSpec.post enc Tryz.prog Tryz.f7 false true false false W args v W' := by
  have hW' := hW
  obtain ⟨p, q, hA0, hV, rfl, hfz, hnd⟩ := hW
  have hA : DataW.TrodAll enc Tryz.prog W 0 (fun _ => true) true Tryz.f7.params.toList args.toList ds p := hA0
  rw [Tryz.params7] at hA hval
  obtain ⟨v0, vs0, d0, ds0, p0, q0, hargs, rfl, rfl, h0, r0⟩ := trodAll_cons hA
  obtain ⟨v1, vs1, d1, ds1, p1, q1, rfl, rfl, rfl, h1, r1⟩ := trodAll_cons r0
  obtain ⟨rfl, rfl, rfl⟩ := trodAll_nil r1
  obtain rfl : args = #[v0, v1] := by cases args; simp_all
  obtain ⟨rfl, rfl⟩ := trodVars_none hV
  obtain ⟨x0, k0⟩ := rd_arg_arr Tryz.underlying65 rdA3_24 (hval 0 65 v0 rfl rfl) h0
  obtain ⟨_, e1⟩ := okWide_int Tryz.underlying3 (hval 1 3 v1 rfl rfl)
  obtain ⟨x1, k1⟩ := rd_arg_one (rd_int (k := .i64) Tryz.underlying3) (by rw [e1]; rfl) h1
  have hwalk := afn_calls (law11_ShapeConcat_c x0 x1 true (concat_law x0 x1)) (W := W) (vs := [v0, v1]) rfl (fun i hi => by
    match i, hi with
    | 0, _ => exact k0
    | 1, _ => exact k1
    ) (fun w hk => gp_keep hk hg)
  refine hwalk.mono fun e W' ⟨e1, hb⟩ => ⟨_, e1, ?_⟩
  exact post_law hW' hb laidOut (by rw [Tryz.params7]; intro t ht; simp only [List.mem_cons, List.mem_nil_iff, or_false] at ht; rcases ht with rfl | rfl <;> exact ⟨by kernel_rfl, of_decide_eq_true (by kernel_rfl)⟩) (tb := 4) (by kernel_rfl) Tryz.underlying4 rfl rfl
theorem concat_reads (os : Os) {H : Type} (enc : TypeId × Go.Value → H) : ∃ places, DataW.whole enc Tryz.prog ((laidWorld os).forCall (fun _ _ => 0) ⟨#[], #[(.agg #[.string ByteArray.empty, .slice none 0 0, .string ByteArray.empty, .slice none 0 0, .string ByteArray.empty, .slice none 0 0]), (.int .i64 0)], []⟩).memory Tryz.f7.params.toList Rows.shapeConcatSpec.vars false (#[(.agg #[.string ByteArray.empty, .slice none 0 0, .string ByteArray.empty, .slice none 0 0, .string ByteArray.empty, .slice none 0 0]), (.int .i64 0)] : Array Go.Value).toList 8 = some ([.agg [.agg [.lit (.string []), .nil], .agg [.lit (.string []), .nil], .agg [.lit (.string []), .nil]], .lit (.int .i64 0)], [], places) :=
  ⟨[], by kernel_rfl⟩
set_option maxRecDepth 100000 in
theorem concat_lifted (os : Os) (started : os.Started) (H : Type) (enc : TypeId × Go.Value → H) (F : Stop.Interp) :
    ReturnsInHanded {} Tryz.checked os 7 .any ((OpenSpec.ofChange Rows.shapeConcatSpec).preRow enc Tryz.prog Tryz.f7 Rows.shapeConcatRow.domain false Rows.shapeConcatRow.laid) (((OpenSpec.ofChange Rows.shapeConcatSpec).at F).post enc Tryz.prog Tryz.f7 false true false false) := by
  obtain ⟨places, hx⟩ := concat_reads os enc
  refine returnsInHanded_of_row (C := Tryz.checked) (s := OpenSpec.ofChange Rows.shapeConcatSpec) ownOff started (by kernel_rfl) Tryz.func7
    (witness_row_at (enc := enc) (C := Tryz.checked) false (laidWorld os) #[(.agg #[.string ByteArray.empty, .slice none 0 0, .string ByteArray.empty, .slice none 0 0, .string ByteArray.empty, .slice none 0 0]), (.int .i64 0)] rfl (by kernel_rfl) (by kernel_rfl) (by kernel_rfl)
      (OpenSpec.preRow_of_cond 8 hx (by kernel_rfl) (fun k hk => by cases hk) (by kernel_rfl) (laid_any os _))) ?_
  intro W base args ds gs before hval hW _ _ _ hL hsh _
  exact concat_contract H enc W base args ds gs before hval hW (gp_laid hL (by kernel_rfl) hsh)
theorem concat_said : Rows.ShapeConcatSaid :=
  OpenClaim.holds_of_cond 7 Tryz.f7 rfl rfl rfl rfl rfl rfl rfl ⟨rfl, rfl, rfl, rfl, rfl⟩ rfl rfl rfl rfl rfl (by kernel_rfl) Tryz.func7 concat_facts
    (of_decide_eq_true (by kernel_rfl)) concat_wrap
    (fun os started H enc _ F => by rw [OpenClaim.pre_eq_preRow]; exact concat_lifted os started H enc F)
set_option maxRecDepth 100000 in
theorem concat_plain (f : FuncId) (fn : Func) (hf : Tryz.pinned.checked.prog.funcNamed "framewise/framewiselaw11.ShapeConcat" = some f) (hfn : Tryz.pinned.checked.prog.funcs[f]? = some fn) :
    true = Tryz.pinned.checked.prog.looks [] ∧ ∀ (j : Nat) t, fn.params[j]? = some t → Tryz.pinned.checked.prog.wantsStandIn t = false := by
  obtain rfl : f = 7 := Option.some.inj ((show Tryz.prog.funcNamed "framewise/framewiselaw11.ShapeConcat" = some 7 by kernel_rfl).symm.trans hf) |>.symm
  obtain rfl : fn = Tryz.f7 := (Option.some.inj (Tryz.func7.symm.trans hfn)).symm
  refine ⟨by kernel_rfl, fun j t ht => ?_⟩
  rw [Tryz.params7] at ht
  have hm := Array.mem_of_getElem? ht
  simp only [List.mem_toArray, List.mem_cons, List.mem_nil_iff, or_false] at hm
  rcases hm with rfl | rfl <;> exact (by kernel_rfl : Tryz.prog.wantsStandIn _ = false)
/-- THE CARD. -/
theorem concat_card : Rows.ShapeConcatCardSaid :=
  Claim7.holds_tied_plain_at .later [] _ _ _ _ concat_said (fun _ h => by cases h) concat_wf (fun _ h => by cases h) shapeConcat_row_tie rfl ⟨rfl, rfl⟩ (by kernel_rfl) rfl concat_plain concat_goes
end Go.Proofs.YtjfpcjnopbfekaaGreatDoor
