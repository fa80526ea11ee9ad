/- The statement PolyRing: at whatever arguments the law framewiselaw05.PolyRing returns true: addition and multiplication of the program's polynomials are commutative and associative, multiplication distributes over addition, and the numbers 0 and 1 are neutral, as far as there is no error. It holds with no further condition. By an AI agent. -/
import Derived.Test.YtjfpcjnopbfekaaGreatDoorBsPolyRing
import Derived.Test.YtjfpcjnopbfekaaGreatDoorFactsPolyRing
set_option linter.unusedSimpArgs false
set_option linter.unusedVariables false
namespace Go.Proofs.YtjfpcjnopbfekaaGreatDoor
open Go.RowKit Go.Ab Go.Sh Go.ChangeShapes Go.WideShapes Go.ChangeAt
theorem rdc3 : Tryz.prog.cellsOf 3 = 1 := by kernel_rfl
theorem rdc9 : Tryz.prog.cellsOf 9 = 1 := by kernel_rfl
theorem rdc90 : Tryz.prog.cellsOf 90 = 1 := by kernel_rfl
theorem rdc118 : Tryz.prog.cellsOf 118 = 2 := by kernel_rfl
theorem rd_Monomial : Rd Tryz.prog 118 cMonomial := by
  intro H enc w base sp held fuel cs x h
  obtain ⟨hl, n, hf⟩ := rd_struct Tryz.underlying118 h
  rw [rdc118] at hl
  obtain ⟨z0, h0⟩ := hf 0 _ rfl
  obtain ⟨y0, k0⟩ := (rd_int (k := .i64) Tryz.underlying3) enc w base sp held n _ _ h0
  obtain ⟨z1, h1⟩ := hf 1 _ rfl
  obtain ⟨y1, k1⟩ := (rd_slice [] Tryz.underlying90 rdc9 (by decide) (fun _ => rfl) (rd_str Tryz.underlying9)) enc w base sp held n _ _ h1
  refine ⟨⟨y0, y1⟩, ?_⟩
  exact DL.cons (o := 0) (s := Tryz.prog.cellsOf 3) k0 rdc3.symm (by rw [rdc3]; exact DL.cons (o := 1) (s := Tryz.prog.cellsOf 90) k1 rdc90.symm (by rw [rdc90]; exact DL.done hl))
theorem rdc70 : Tryz.prog.cellsOf 70 = 1 := by kernel_rfl
theorem rdc84 : Tryz.prog.cellsOf 84 = 3 := by kernel_rfl
def rdE84 (x : ((List Monomial) × (List Monomial) × (List Monomial))) : List AV := [.dslice (x.1.map cMonomial), .dslice (x.2.1.map cMonomial), .dslice (x.2.2.map cMonomial)]
theorem rdA3_70 : Rd Tryz.prog 84 rdE84 := by
  intro H enc w base sp held fuel cs x h
  obtain ⟨hl, n, hf⟩ := rd_arrS Tryz.underlying84 rdc70 h
  rw [rdc84] at hl
  obtain ⟨z0, h0⟩ := hf 0 (by decide)
  obtain ⟨y0, k0⟩ := (rd_slice ⟨0, []⟩ Tryz.underlying70 rdc118 (by decide) (fun _ => rfl) rd_Monomial) enc w base sp held n _ _ h0
  obtain ⟨z1, h1⟩ := hf 1 (by decide)
  obtain ⟨y1, k1⟩ := (rd_slice ⟨0, []⟩ Tryz.underlying70 rdc118 (by decide) (fun _ => rfl) rd_Monomial) enc w base sp held n _ _ h1
  obtain ⟨z2, h2⟩ := hf 2 (by decide)
  obtain ⟨y2, k2⟩ := (rd_slice ⟨0, []⟩ Tryz.underlying70 rdc118 (by decide) (fun _ => rfl) rd_Monomial) enc w base sp held n _ _ h2
  refine ⟨(y0, y1, y2), ?_⟩
  exact DL.cons (o := 0) (s := 1) k0 rfl (DL.cons (o := 1) (s := 1) k1 rfl (DL.cons (o := 2) (s := 1) k2 rfl (DL.done hl)))
set_option maxRecDepth 100000 in
theorem polyRing_contract (H : Type) (enc : TypeId × Go.Value → H) (W : World) (base : Nat) (args : Array Go.Value) (ds gs : List (DataW H)) (before : List MemPlace)
    (hval : ∀ (j : Nat) t v, Tryz.f12.params[j]? = some t → args[j]? = some v → Value.okWide Tryz.prog W .any base t v)
    (hW : DataW.Whole enc Tryz.prog Tryz.f12.params.toList Rows.polyRingSpec.vars false W args.toList ds gs before) (hg : GP Tryz.prog W) :
    Calls Tryz.prog 12 args W fun e W' => ∃ v, e = .returned v ∧ Rows.polyRingSpec.post enc Tryz.prog Tryz.f12 false true false false W args v W' := by
  have hW' := hW
  obtain ⟨p, q, hA0, hV, rfl, hfz, hnd⟩ := hW
  have hA : DataW.TrodAll enc Tryz.prog W 0 (fun _ => true) true Tryz.f12.params.toList args.toList ds p := hA0
  rw [Tryz.params12] at hA hval
  obtain ⟨v0, vs0, d0, ds0, p0, q0, hargs, rfl, rfl, h0, r0⟩ := trodAll_cons hA
  obtain ⟨rfl, rfl, rfl⟩ := trodAll_nil r0
  obtain rfl : args = #[v0] := by cases args; simp_all
  obtain ⟨rfl, rfl⟩ := trodVars_none hV
  obtain ⟨x0, k0⟩ := rd_arg_arr Tryz.underlying84 rdA3_70 (hval 0 84 v0 rfl rfl) h0
  have hwalk := afn_calls (law05_PolyRing_c x0 true (polyRing_law x0)) (W := W) (vs := [v0]) rfl (fun i hi => by
    match i, hi with
    | 0, _ => exact k0
    ) (fun w hk => gp_keep hk hg)
  refine hwalk.mono fun e W' ⟨e1, hb⟩ => ⟨_, e1, ?_⟩
  exact post_law hW' hb laidOut (by rw [Tryz.params12]; intro t ht; simp only [List.mem_cons, List.mem_nil_iff, or_false] at ht; rcases ht with rfl <;> exact ⟨by kernel_rfl, of_decide_eq_true (by kernel_rfl)⟩) (tb := 4) (by kernel_rfl) Tryz.underlying4 rfl rfl
theorem polyRing_reads (os : Os) {H : Type} (enc : TypeId × Go.Value → H) : ∃ places, DataW.whole enc Tryz.prog ((laidWorld os).forCall (fun _ _ => 0) ⟨#[], #[(.agg #[.slice none 0 0, .slice none 0 0, .slice none 0 0])], []⟩).memory Tryz.f12.params.toList Rows.polyRingSpec.vars false (#[(.agg #[.slice none 0 0, .slice none 0 0, .slice none 0 0])] : Array Go.Value).toList 8 = some ([.agg [.nil, .nil, .nil]], [], places) :=
  ⟨[], by kernel_rfl⟩
set_option maxRecDepth 100000 in
theorem polyRing_lifted (os : Os) (started : os.Started) (H : Type) (enc : TypeId × Go.Value → H) (F : Stop.Interp) :
    ReturnsInHanded {} Tryz.checked os 12 .any ((OpenSpec.ofChange Rows.polyRingSpec).preRow enc Tryz.prog Tryz.f12 Rows.polyRingRow.domain false Rows.polyRingRow.laid) (((OpenSpec.ofChange Rows.polyRingSpec).at F).post enc Tryz.prog Tryz.f12 false true false false) := by
  obtain ⟨places, hx⟩ := polyRing_reads os enc
  refine returnsInHanded_of_row (C := Tryz.checked) (s := OpenSpec.ofChange Rows.polyRingSpec) ownOff started (by kernel_rfl) Tryz.func12
    (witness_row_at (enc := enc) (C := Tryz.checked) false (laidWorld os) #[(.agg #[.slice none 0 0, .slice none 0 0, .slice none 0 0])] rfl (by kernel_rfl) (by kernel_rfl) (by kernel_rfl)
      (OpenSpec.preRow_of_cond 8 hx (by kernel_rfl) (fun k hk => by cases hk) (by kernel_rfl) (laid_any os _))) ?_
  intro W base args ds gs before hval hW _ _ _ hL hsh _
  exact polyRing_contract H enc W base args ds gs before hval hW (gp_laid hL (by kernel_rfl) hsh)
theorem polyRing_said : Rows.PolyRingSaid :=
  OpenClaim.holds_of_cond 12 Tryz.f12 rfl rfl rfl rfl rfl rfl rfl ⟨rfl, rfl, rfl, rfl, rfl⟩ rfl rfl rfl rfl rfl (by kernel_rfl) Tryz.func12 polyRing_facts
    (of_decide_eq_true (by kernel_rfl)) polyRing_wrap
    (fun os started H enc _ F => by rw [OpenClaim.pre_eq_preRow]; exact polyRing_lifted os started H enc F)
set_option maxRecDepth 100000 in
theorem polyRing_plain (f : FuncId) (fn : Func) (hf : Tryz.pinned.checked.prog.funcNamed "framewise/framewiselaw05.PolyRing" = some f) (hfn : Tryz.pinned.checked.prog.funcs[f]? = some fn) :
    true = Tryz.pinned.checked.prog.looks [] ∧ ∀ (j : Nat) t, fn.params[j]? = some t → Tryz.pinned.checked.prog.wantsStandIn t = false := by
  obtain rfl : f = 12 := Option.some.inj ((show Tryz.prog.funcNamed "framewise/framewiselaw05.PolyRing" = some 12 by kernel_rfl).symm.trans hf) |>.symm
  obtain rfl : fn = Tryz.f12 := (Option.some.inj (Tryz.func12.symm.trans hfn)).symm
  refine ⟨by kernel_rfl, fun j t ht => ?_⟩
  rw [Tryz.params12] at ht
  have hm := Array.mem_of_getElem? ht
  simp only [List.mem_toArray, List.mem_cons, List.mem_nil_iff, or_false] at hm
  rcases hm with rfl <;> exact (by kernel_rfl : Tryz.prog.wantsStandIn _ = false)
/-- THE CARD. -/
theorem polyRing_card : Rows.PolyRingCardSaid :=
  Claim7.holds_tied_plain_at .later [] _ _ _ _ polyRing_said (fun _ h => by cases h) polyRing_wf (fun _ h => by cases h) polyRing_row_tie rfl ⟨rfl, rfl⟩ (by kernel_rfl) rfl polyRing_plain polyRing_goes
end Go.Proofs.YtjfpcjnopbfekaaGreatDoor
