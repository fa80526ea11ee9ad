/- Facts of the program and of the row, each reckoned by itself. -/
import Derived.KernelRfl
import Derived.JoinedOf
import Derived.SevenTiedAt
import Derived.Test.YtopejmjihbkieaaGreatDoorRows
set_option linter.unusedSimpArgs false
set_option linter.unusedVariables false
namespace Go.Proofs.YtopejmjihbkieaaGreatDoor
open Go.ChangeShapes Go.WideShapes
theorem and_t {a b : Bool} (ha : a = true) (hb : b = true) : (a && b) = true := by rw [ha, hb]; rfl
theorem values_laid : laidOutB Tryz.pinned.checked.prog = true := by kernel_rfl
theorem values_rowed : mapsRowed Tryz.pinned.checked.prog = true := by kernel_rfl
theorem values_inPlace : (Rows.shapeValuesRow.inPlace == Tryz.pinned.checked.prog.inPlace 6) = true := by kernel_rfl
theorem values_unfol : (Rows.shapeValuesRow.unfollowed == Tryz.pinned.checked.prog.unfollowed 6) = true := by kernel_rfl
theorem values_rec : (Rows.shapeValuesRow.recurses == Tryz.pinned.checked.prog.recurses 6) = true := by kernel_rfl
theorem values_named : (Rows.shapeValuesRow.named == Tryz.pinned.checked.prog.varsNamed 6) = true := by kernel_rfl
theorem values_heard : Tryz.pinned.checked.prog.stopsHeard = true := by kernel_rfl
theorem values_enter : Tryz.pinned.checked.prog.mayEnter = true := by kernel_rfl
theorem values_lifts : (Rows.shapeValuesRow.lifted == Tryz.pinned.checked.prog.liftsFinal) = true := by kernel_rfl
theorem values_goes : false = Rows.shapeValuesRow.goesBy Tryz.pinned.checked.prog := by kernel_rfl
theorem values_wf : Rows.shapeValuesRow.wfByText (OpenSpec.ofChange Rows.shapeValuesSpec) = true := by kernel_rfl
theorem values_wrap : Func.isWrapper Tryz.pinned.checked.prog Tryz.f6 Rows.shapeValuesRow.wrapper Rows.shapeValuesRow.mainSum := by unfold Func.isWrapper; first | (rw [if_pos (by decide +kernel)]; kernel_rfl) | (rw [if_neg (by decide +kernel)]; exact ⟨rfl, rfl⟩)
theorem values_facts : joinedFacts Tryz.pinned.checked.prog 6 Tryz.f6 (OpenSpec.ofChange Rows.shapeValuesSpec).bare Rows.shapeValuesRow = true := by
  unfold joinedFacts
  exact (and_t (and_t (and_t (and_t (and_t (and_t (and_t (and_t (and_t (and_t (and_t (and_t (and_t (and_t (and_t (and_t (and_t (and_t (and_t (and_t (and_t (and_t (and_t (and_t (and_t (and_t (and_t (and_t (and_t (and_t (and_t (by kernel_rfl) values_laid) values_rowed) (by kernel_rfl)) (by kernel_rfl)) (by kernel_rfl)) (by kernel_rfl)) (by kernel_rfl)) (by kernel_rfl)) values_inPlace) values_unfol) values_rec) values_named) (by kernel_rfl)) (by kernel_rfl)) (by kernel_rfl)) (by kernel_rfl)) (by kernel_rfl)) (by kernel_rfl)) (by kernel_rfl)) (by kernel_rfl)) (by kernel_rfl)) (by kernel_rfl)) (by kernel_rfl)) values_heard) values_enter) values_lifts) (by kernel_rfl)) (by kernel_rfl)) (by kernel_rfl)) (by kernel_rfl)) (by kernel_rfl))
end Go.Proofs.YtopejmjihbkieaaGreatDoor
