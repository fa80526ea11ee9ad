/- Facts of the program and of the row, each reckoned by itself. -/
import Derived.KernelRfl
import Derived.JoinedOf
import Derived.SevenTiedAt
import Derived.Test.YtopejmjihbkieaaGreatDoorRows
set_option linter.unusedSimpArgs false
set_option linter.unusedVariables false
namespace Go.Proofs.YtopejmjihbkieaaGreatDoor
open Go.ChangeShapes Go.WideShapes
theorem and_t {a b : Bool} (ha : a = true) (hb : b = true) : (a && b) = true := by rw [ha, hb]; rfl
theorem forms_laid : laidOutB Tryz.pinned.checked.prog = true := by kernel_rfl
theorem forms_rowed : mapsRowed Tryz.pinned.checked.prog = true := by kernel_rfl
theorem forms_inPlace : (Rows.shapeFormsRow.inPlace == Tryz.pinned.checked.prog.inPlace 4) = true := by kernel_rfl
theorem forms_unfol : (Rows.shapeFormsRow.unfollowed == Tryz.pinned.checked.prog.unfollowed 4) = true := by kernel_rfl
theorem forms_rec : (Rows.shapeFormsRow.recurses == Tryz.pinned.checked.prog.recurses 4) = true := by kernel_rfl
theorem forms_named : (Rows.shapeFormsRow.named == Tryz.pinned.checked.prog.varsNamed 4) = true := by kernel_rfl
theorem forms_heard : Tryz.pinned.checked.prog.stopsHeard = true := by kernel_rfl
theorem forms_enter : Tryz.pinned.checked.prog.mayEnter = true := by kernel_rfl
theorem forms_lifts : (Rows.shapeFormsRow.lifted == Tryz.pinned.checked.prog.liftsFinal) = true := by kernel_rfl
theorem forms_goes : false = Rows.shapeFormsRow.goesBy Tryz.pinned.checked.prog := by kernel_rfl
theorem forms_wf : Rows.shapeFormsRow.wfByText (OpenSpec.ofChange Rows.shapeFormsSpec) = true := by kernel_rfl
theorem forms_wrap : Func.isWrapper Tryz.pinned.checked.prog Tryz.f4 Rows.shapeFormsRow.wrapper Rows.shapeFormsRow.mainSum := by unfold Func.isWrapper; first | (rw [if_pos (by decide +kernel)]; kernel_rfl) | (rw [if_neg (by decide +kernel)]; exact ⟨rfl, rfl⟩)
theorem forms_facts : joinedFacts Tryz.pinned.checked.prog 4 Tryz.f4 (OpenSpec.ofChange Rows.shapeFormsSpec).bare Rows.shapeFormsRow = true := by
  unfold joinedFacts
  exact (and_t (and_t (and_t (and_t (and_t (and_t (and_t (and_t (and_t (and_t (and_t (and_t (and_t (and_t (and_t (and_t (and_t (and_t (and_t (and_t (and_t (and_t (and_t (and_t (and_t (and_t (and_t (and_t (and_t (and_t (and_t (by kernel_rfl) forms_laid) forms_rowed) (by kernel_rfl)) (by kernel_rfl)) (by kernel_rfl)) (by kernel_rfl)) (by kernel_rfl)) (by kernel_rfl)) forms_inPlace) forms_unfol) forms_rec) forms_named) (by kernel_rfl)) (by kernel_rfl)) (by kernel_rfl)) (by kernel_rfl)) (by kernel_rfl)) (by kernel_rfl)) (by kernel_rfl)) (by kernel_rfl)) (by kernel_rfl)) (by kernel_rfl)) (by kernel_rfl)) forms_heard) forms_enter) forms_lifts) (by kernel_rfl)) (by kernel_rfl)) (by kernel_rfl)) (by kernel_rfl)) (by kernel_rfl))
end Go.Proofs.YtopejmjihbkieaaGreatDoor
