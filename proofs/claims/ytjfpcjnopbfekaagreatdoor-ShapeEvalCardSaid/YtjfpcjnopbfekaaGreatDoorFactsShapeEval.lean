/- Facts of the program and of the row, each reckoned by itself. -/
import Derived.KernelRfl
import Derived.JoinedOf
import Derived.SevenTiedAt
import Derived.Test.YtjfpcjnopbfekaaGreatDoorRows
namespace Go.Proofs.YtjfpcjnopbfekaaGreatDoor
open Go.ChangeShapes Go.WideShapes
theorem and_t {a b : Bool} (ha : a = true) (hb : b = true) : (a && b) = true := by rw [ha, hb]; rfl
theorem shapeEval_laid : laidOutB Tryz.pinned.checked.prog = true := by kernel_rfl
theorem shapeEval_rowed : mapsRowed Tryz.pinned.checked.prog = true := by kernel_rfl
theorem shapeEval_inPlace : (Rows.shapeEvalRow.inPlace == Tryz.pinned.checked.prog.inPlace 14) = true := by kernel_rfl
theorem shapeEval_unfol : (Rows.shapeEvalRow.unfollowed == Tryz.pinned.checked.prog.unfollowed 14) = true := by kernel_rfl
theorem shapeEval_rec : (Rows.shapeEvalRow.recurses == Tryz.pinned.checked.prog.recurses 14) = true := by kernel_rfl
theorem shapeEval_named : (Rows.shapeEvalRow.named == Tryz.pinned.checked.prog.varsNamed 14) = true := by kernel_rfl
theorem shapeEval_heard : Tryz.pinned.checked.prog.stopsHeard = true := by kernel_rfl
theorem shapeEval_enter : Tryz.pinned.checked.prog.mayEnter = true := by kernel_rfl
theorem shapeEval_lifts : (Rows.shapeEvalRow.lifted == Tryz.pinned.checked.prog.liftsFinal) = true := by kernel_rfl
theorem shapeEval_goes : false = Rows.shapeEvalRow.goesBy Tryz.pinned.checked.prog := by kernel_rfl
theorem shapeEval_wf : Rows.shapeEvalRow.wfByText (OpenSpec.ofChange Rows.shapeEvalSpec) = true := by kernel_rfl
theorem shapeEval_wrap : Func.isWrapper Tryz.pinned.checked.prog Tryz.f14 Rows.shapeEvalRow.wrapper Rows.shapeEvalRow.mainSum := by unfold Func.isWrapper; first | (rw [if_pos (by decide +kernel)]; kernel_rfl) | (rw [if_neg (by decide +kernel)]; exact ⟨rfl, rfl⟩)
theorem shapeEval_facts : joinedFacts Tryz.pinned.checked.prog 14 Tryz.f14 (OpenSpec.ofChange Rows.shapeEvalSpec).bare Rows.shapeEvalRow = true := by
  unfold joinedFacts
  exact (and_t (and_t (and_t (and_t (and_t (and_t (and_t (and_t (and_t (and_t (and_t (and_t (and_t (and_t (and_t (and_t (and_t (and_t (and_t (and_t (and_t (and_t (and_t (and_t (and_t (and_t (and_t (and_t (and_t (and_t (and_t (by kernel_rfl) shapeEval_laid) shapeEval_rowed) (by kernel_rfl)) (by kernel_rfl)) (by kernel_rfl)) (by kernel_rfl)) (by kernel_rfl)) (by kernel_rfl)) shapeEval_inPlace) shapeEval_unfol) shapeEval_rec) shapeEval_named) (by kernel_rfl)) (by kernel_rfl)) (by kernel_rfl)) (by kernel_rfl)) (by kernel_rfl)) (by kernel_rfl)) (by kernel_rfl)) (by kernel_rfl)) (by kernel_rfl)) (by kernel_rfl)) (by kernel_rfl)) shapeEval_heard) shapeEval_enter) shapeEval_lifts) (by kernel_rfl)) (by kernel_rfl)) (by kernel_rfl)) (by kernel_rfl)) (by kernel_rfl))
end Go.Proofs.YtjfpcjnopbfekaaGreatDoor
