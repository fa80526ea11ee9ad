/- Facts of the program and of the row, each reckoned by itself. -/
import Derived.KernelRfl
import Derived.JoinedOf
import Derived.SevenTiedAt
import Derived.Test.YtjfpcjnopbfekaaGreatDoorRows
set_option linter.unusedSimpArgs false
set_option linter.unusedVariables false
namespace Go.Proofs.YtjfpcjnopbfekaaGreatDoor
open Go.ChangeShapes Go.WideShapes
theorem and_t {a b : Bool} (ha : a = true) (hb : b = true) : (a && b) = true := by rw [ha, hb]; rfl
theorem subst_laid : laidOutB Tryz.pinned.checked.prog = true := by kernel_rfl
theorem subst_rowed : mapsRowed Tryz.pinned.checked.prog = true := by kernel_rfl
theorem subst_inPlace : (Rows.shapeSubstRow.inPlace == Tryz.pinned.checked.prog.inPlace 6) = true := by kernel_rfl
theorem subst_unfol : (Rows.shapeSubstRow.unfollowed == Tryz.pinned.checked.prog.unfollowed 6) = true := by kernel_rfl
theorem subst_rec : (Rows.shapeSubstRow.recurses == Tryz.pinned.checked.prog.recurses 6) = true := by kernel_rfl
theorem subst_named : (Rows.shapeSubstRow.named == Tryz.pinned.checked.prog.varsNamed 6) = true := by kernel_rfl
theorem subst_heard : Tryz.pinned.checked.prog.stopsHeard = true := by kernel_rfl
theorem subst_enter : Tryz.pinned.checked.prog.mayEnter = true := by kernel_rfl
theorem subst_lifts : (Rows.shapeSubstRow.lifted == Tryz.pinned.checked.prog.liftsFinal) = true := by kernel_rfl
theorem subst_goes : false = Rows.shapeSubstRow.goesBy Tryz.pinned.checked.prog := by kernel_rfl
theorem subst_wf : Rows.shapeSubstRow.wfByText (OpenSpec.ofChange Rows.shapeSubstSpec) = true := by kernel_rfl
theorem subst_wrap : Func.isWrapper Tryz.pinned.checked.prog Tryz.f6 Rows.shapeSubstRow.wrapper Rows.shapeSubstRow.mainSum := by unfold Func.isWrapper; first | (rw [if_pos (by decide +kernel)]; kernel_rfl) | (rw [if_neg (by decide +kernel)]; exact ⟨rfl, rfl⟩)
theorem subst_facts : joinedFacts Tryz.pinned.checked.prog 6 Tryz.f6 (OpenSpec.ofChange Rows.shapeSubstSpec).bare Rows.shapeSubstRow = true := by
  unfold joinedFacts
  exact (and_t (and_t (and_t (and_t (and_t (and_t (and_t (and_t (and_t (and_t (and_t (and_t (and_t (and_t (and_t (and_t (and_t (and_t (and_t (and_t (and_t (and_t (and_t (and_t (and_t (and_t (and_t (and_t (and_t (and_t (and_t (by kernel_rfl) subst_laid) subst_rowed) (by kernel_rfl)) (by kernel_rfl)) (by kernel_rfl)) (by kernel_rfl)) (by kernel_rfl)) (by kernel_rfl)) subst_inPlace) subst_unfol) subst_rec) subst_named) (by kernel_rfl)) (by kernel_rfl)) (by kernel_rfl)) (by kernel_rfl)) (by kernel_rfl)) (by kernel_rfl)) (by kernel_rfl)) (by kernel_rfl)) (by kernel_rfl)) (by kernel_rfl)) (by kernel_rfl)) subst_heard) subst_enter) subst_lifts) (by kernel_rfl)) (by kernel_rfl)) (by kernel_rfl)) (by kernel_rfl)) (by kernel_rfl))
end Go.Proofs.YtjfpcjnopbfekaaGreatDoor
