/- Facts of the program and of the row, each reckoned by itself. -/
import Derived.KernelRfl
import Derived.JoinedOf
import Derived.SevenTiedAt
import Derived.Test.YtjfpcjnopbfekaaGreatDoorRows
namespace Go.Proofs.YtjfpcjnopbfekaaGreatDoor
open Go.ChangeShapes Go.WideShapes
theorem and_t {a b : Bool} (ha : a = true) (hb : b = true) : (a && b) = true := by rw [ha, hb]; rfl
theorem polyEval_laid : laidOutB Tryz.pinned.checked.prog = true := by kernel_rfl
theorem polyEval_rowed : mapsRowed Tryz.pinned.checked.prog = true := by kernel_rfl
theorem polyEval_inPlace : (Rows.polyEvalRow.inPlace == Tryz.pinned.checked.prog.inPlace 8) = true := by kernel_rfl
theorem polyEval_unfol : (Rows.polyEvalRow.unfollowed == Tryz.pinned.checked.prog.unfollowed 8) = true := by kernel_rfl
theorem polyEval_rec : (Rows.polyEvalRow.recurses == Tryz.pinned.checked.prog.recurses 8) = true := by kernel_rfl
theorem polyEval_named : (Rows.polyEvalRow.named == Tryz.pinned.checked.prog.varsNamed 8) = true := by kernel_rfl
theorem polyEval_heard : Tryz.pinned.checked.prog.stopsHeard = true := by kernel_rfl
theorem polyEval_enter : Tryz.pinned.checked.prog.mayEnter = true := by kernel_rfl
theorem polyEval_lifts : (Rows.polyEvalRow.lifted == Tryz.pinned.checked.prog.liftsFinal) = true := by kernel_rfl
theorem polyEval_goes : false = Rows.polyEvalRow.goesBy Tryz.pinned.checked.prog := by kernel_rfl
theorem polyEval_wf : Rows.polyEvalRow.wfByText (OpenSpec.ofChange Rows.polyEvalSpec) = true := by kernel_rfl
theorem polyEval_wrap : Func.isWrapper Tryz.pinned.checked.prog Tryz.f8 Rows.polyEvalRow.wrapper Rows.polyEvalRow.mainSum := by unfold Func.isWrapper; first | (rw [if_pos (by decide +kernel)]; kernel_rfl) | (rw [if_neg (by decide +kernel)]; exact ⟨rfl, rfl⟩)
theorem polyEval_facts : joinedFacts Tryz.pinned.checked.prog 8 Tryz.f8 (OpenSpec.ofChange Rows.polyEvalSpec).bare Rows.polyEvalRow = true := by
  unfold joinedFacts
  exact (and_t (and_t (and_t (and_t (and_t (and_t (and_t (and_t (and_t (and_t (and_t (and_t (and_t (and_t (and_t (and_t (and_t (and_t (and_t (and_t (and_t (and_t (and_t (and_t (and_t (and_t (and_t (and_t (and_t (and_t (and_t (by kernel_rfl) polyEval_laid) polyEval_rowed) (by kernel_rfl)) (by kernel_rfl)) (by kernel_rfl)) (by kernel_rfl)) (by kernel_rfl)) (by kernel_rfl)) polyEval_inPlace) polyEval_unfol) polyEval_rec) polyEval_named) (by kernel_rfl)) (by kernel_rfl)) (by kernel_rfl)) (by kernel_rfl)) (by kernel_rfl)) (by kernel_rfl)) (by kernel_rfl)) (by kernel_rfl)) (by kernel_rfl)) (by kernel_rfl)) (by kernel_rfl)) polyEval_heard) polyEval_enter) polyEval_lifts) (by kernel_rfl)) (by kernel_rfl)) (by kernel_rfl)) (by kernel_rfl)) (by kernel_rfl))
end Go.Proofs.YtjfpcjnopbfekaaGreatDoor
