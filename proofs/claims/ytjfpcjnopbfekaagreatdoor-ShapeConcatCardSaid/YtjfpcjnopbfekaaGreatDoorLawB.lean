/- A part of the frame for walks, or a plain law. -/
import Derived.Test.YtjfpcjnopbfekaaGreatDoorAbF
import Derived.Test.YtjfpcjnopbfekaaGreatDoorRows
import Derived.Test.YtjfpcjnopbfekaaGreatDoorCards
import Derived.Test.YtjfpcjnopbfekaaGreatDoorTie
set_option linter.unusedSimpArgs false
set_option linter.unusedVariables false
set_option linter.unusedSimpArgs false
set_option linter.unusedVariables false
namespace Go.Proofs.YtjfpcjnopbfekaaGreatDoor
open Go.RowKit Go.Ab Go.Sh Go.ChangeShapes Go.WideShapes Go.ChangeAt
theorem ownOff : ownKnob Tryz.prog.godebug = none := by kernel_rfl
theorem laidOut : laidOutB Tryz.prog = true := by kernel_rfl
set_option maxRecDepth 100000 in
/-- What the listed variables give. -/
theorem gp_laid {l : List (String × DataW Unit)} {W : World} (hL : laidMetH Tryz.prog l W) (hl : l = Rows.shapeFormsRow.laid) (hsh : W.ShapedOpen Tryz.prog) : GP Tryz.prog W := by
  subst hl
  obtain ⟨ps, hV⟩ := laidH hL (by kernel_rfl)
  refine ⟨fun _ => ?_, fun _ => ?_, fun _ => ?_, fun g hg => ?_⟩
  · obtain ⟨g, t, cs, fuel, p, h1, h2, h3, h4⟩ := laid_at hV (n := "internal/strconv.uint64pow10") (d := Rows.laid_internal_strconv_uint64pow10) (by simp [Rows.shapeFormsRow])
    obtain rfl := Option.some.inj ((show Tryz.prog.globalNamed "internal/strconv.uint64pow10" = some 5 by kernel_rfl).symm.trans h1)
    obtain rfl := Option.some.inj ((show (Tryz.prog.globals[5]?).map (·.type) = some 316 by kernel_rfl).symm.trans h2)
    unfold Lib.TabIs
    rw [h3, ← Lib.cells_of_tab (zs := [1, 10, 100, 1000, 10000, 100000, 1000000, 10000000, 100000000, 1000000000, 10000000000, 100000000000, 1000000000000, 10000000000000, 100000000000000, 1000000000000000, 10000000000000000, 100000000000000000, 1000000000000000000, 10000000000000000000]) Tryz.underlying316 Tryz.underlying199 (by kernel_rfl) (by kernel_rfl) h4]
  · exact laid_iface hV (n := "strconv.ErrSyntax") (nm := "*errors.errorString") (d := .ptr (.agg [.lit (.string [105, 110, 118, 97, 108, 105, 100, 32, 115, 121, 110, 116, 97, 120])])) (by simp [Rows.shapeFormsRow, Rows.laid_strconv_ErrSyntax]) (g := 1) (t := 178) (by kernel_rfl) (by kernel_rfl) Tryz.underlying178
  · exact laid_iface hV (n := "strconv.ErrRange") (nm := "*errors.errorString") (d := .ptr (.agg [.lit (.string [118, 97, 108, 117, 101, 32, 111, 117, 116, 32, 111, 102, 32, 114, 97, 110, 103, 101])])) (by simp [Rows.shapeFormsRow, Rows.laid_strconv_ErrRange]) (g := 2) (t := 178) (by kernel_rfl) (by kernel_rfl) Tryz.underlying178
  · obtain rfl := Option.some.inj ((show Tryz.prog.globalNamed "internal/bytealg.MaxLen" = some 0 by kernel_rfl).symm.trans hg)
    exact cell_of_shapedOpen_int (P := Tryz.prog) (g := 0) (t := 3) (zero := #[.int .i64 0]) hsh (of_decide_eq_true (by kernel_rfl)) (by kernel_rfl) rfl (by kernel_rfl) (by kernel_rfl) Tryz.underlying3
/-- One start that fits. -/
def litsOf : DataW Unit → List Go.Value
  | .agg ds => ds.flatMap fun
    | .lit (.int k n) => [.int k n]
    | .agg es => es.flatMap fun
      | .lit (.int k n) => [.int k n]
      | _ => []
    | _ => []
  | _ => []
noncomputable def lowB : Nat := (World.holding Tryz.prog default ⟨#[], #[], []⟩).heap.size
def layC (cs : List Go.Value) : Obj → Obj
  | .cells _ t frozen => .cells cs.toArray t frozen
  | o => o
noncomputable def laidWorld (os : Os) : World :=
  let w0 := World.holding Tryz.prog os ⟨#[.cells #[.string ⟨#[105, 110, 118, 97, 108, 105, 100, 32, 115, 121, 110, 116, 97, 120]⟩] 314, .cells #[.string ⟨#[118, 97, 108, 117, 101, 32, 111, 117, 116, 32, 111, 102, 32, 114, 97, 110, 103, 101]⟩] 314], #[], []⟩
  { w0 with heap := ((((((w0.heap.modify 1 (layC [.iface 312 (.pointer (some ⟨lowB, 0, none⟩))])).modify 2 (layC [.iface 312 (.pointer (some ⟨lowB + 1, 0, none⟩))])).modify 3 (layC (litsOf Rows.laid_unicode_utf8_first))).modify 4 (layC (litsOf Rows.laid_unicode_utf8_acceptRanges))).modify 5 (layC (litsOf Rows.laid_internal_strconv_uint64pow10))).modify 6 (layC (litsOf Rows.laid_math_bits_deBruijn32tab))).modify 7 (layC (litsOf Rows.laid_math_bits_deBruijn64tab)) }
theorem laid_any (os : Os) (args : Array Go.Value) : laidMet Tryz.prog Rows.shapeFormsRow.laid ((laidWorld os).forCall (fun _ _ => 0) ⟨#[], args, []⟩).memory := laidMet_of_run' 8 (by kernel_rfl) (by kernel_rfl)
end Go.Proofs.YtjfpcjnopbfekaaGreatDoor
