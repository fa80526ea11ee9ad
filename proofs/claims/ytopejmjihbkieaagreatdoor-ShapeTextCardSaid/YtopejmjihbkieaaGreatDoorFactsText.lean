/- Facts of the program and of the row, each reckoned by itself. -/
import Derived.KernelRfl
import Derived.JoinedOf
import Derived.SevenTiedAt
import Derived.Test.YtopejmjihbkieaaGreatDoorRows
set_option linter.unusedSimpArgs false
set_option linter.unusedVariables false
namespace Go.Proofs.YtopejmjihbkieaaGreatDoor
open Go.ChangeShapes Go.WideShapes
theorem and_t {a b : Bool} (ha : a = true) (hb : b = true) : (a && b) = true := by rw [ha, hb]; rfl
theorem text_laid : laidOutB Tryz.pinned.checked.prog = true := by kernel_rfl
theorem text_rowed : mapsRowed Tryz.pinned.checked.prog = true := by kernel_rfl
theorem text_inPlace : (Rows.shapeTextRow.inPlace == Tryz.pinned.checked.prog.inPlace 7) = true := by kernel_rfl
theorem text_unfol : (Rows.shapeTextRow.unfollowed == Tryz.pinned.checked.prog.unfollowed 7) = true := by kernel_rfl
theorem text_rec : (Rows.shapeTextRow.recurses == Tryz.pinned.checked.prog.recurses 7) = true := by kernel_rfl
theorem text_named : (Rows.shapeTextRow.named == Tryz.pinned.checked.prog.varsNamed 7) = true := by kernel_rfl
theorem text_heard : Tryz.pinned.checked.prog.stopsHeard = true := by kernel_rfl
theorem text_enter : Tryz.pinned.checked.prog.mayEnter = true := by kernel_rfl
theorem text_lifts : (Rows.shapeTextRow.lifted == Tryz.pinned.checked.prog.liftsFinal) = true := by kernel_rfl
theorem text_goes : false = Rows.shapeTextRow.goesBy Tryz.pinned.checked.prog := by kernel_rfl
theorem text_wf : Rows.shapeTextRow.wfByText (OpenSpec.ofChange Rows.shapeTextSpec) = true := by kernel_rfl
theorem text_wrap : Func.isWrapper Tryz.pinned.checked.prog Tryz.f7 Rows.shapeTextRow.wrapper Rows.shapeTextRow.mainSum := by unfold Func.isWrapper; first | (rw [if_pos (by decide +kernel)]; kernel_rfl) | (rw [if_neg (by decide +kernel)]; exact ⟨rfl, rfl⟩)
theorem text_facts : joinedFacts Tryz.pinned.checked.prog 7 Tryz.f7 (OpenSpec.ofChange Rows.shapeTextSpec).bare Rows.shapeTextRow = true := by
  unfold joinedFacts
  exact (and_t (and_t (and_t (and_t (and_t (and_t (and_t (and_t (and_t (and_t (and_t (and_t (and_t (and_t (and_t (and_t (and_t (and_t (and_t (and_t (and_t (and_t (and_t (and_t (and_t (and_t (and_t (and_t (and_t (and_t (and_t (by kernel_rfl) text_laid) text_rowed) (by kernel_rfl)) (by kernel_rfl)) (by kernel_rfl)) (by kernel_rfl)) (by kernel_rfl)) (by kernel_rfl)) text_inPlace) text_unfol) text_rec) text_named) (by kernel_rfl)) (by kernel_rfl)) (by kernel_rfl)) (by kernel_rfl)) (by kernel_rfl)) (by kernel_rfl)) (by kernel_rfl)) (by kernel_rfl)) (by kernel_rfl)) (by kernel_rfl)) (by kernel_rfl)) text_heard) text_enter) text_lifts) (by kernel_rfl)) (by kernel_rfl)) (by kernel_rfl)) (by kernel_rfl)) (by kernel_rfl))
end Go.Proofs.YtopejmjihbkieaaGreatDoor
