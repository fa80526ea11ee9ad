/- Facts of the program and of the row, each reckoned by itself. -/
import Derived.KernelRfl
import Derived.JoinedOf
import Derived.SevenTiedAt
import Derived.Test.YtoebmibmmlcfiaaGreatDoorRows
namespace Go.Proofs.YtoebmibmmlcfiaaGreatDoor
open Go.ChangeShapes Go.WideShapes
theorem and_t {a b : Bool} (ha : a = true) (hb : b = true) : (a && b) = true := by rw [ha, hb]; rfl
theorem unifyApply_laid : laidOutB Tryz.pinned.checked.prog = true := by kernel_rfl
theorem unifyApply_rowed : mapsRowed Tryz.pinned.checked.prog = true := by kernel_rfl
theorem unifyApply_inPlace : (Rows.unifyApplyRow.inPlace == Tryz.pinned.checked.prog.inPlace 4) = true := by kernel_rfl
theorem unifyApply_unfol : (Rows.unifyApplyRow.unfollowed == Tryz.pinned.checked.prog.unfollowed 4) = true := by kernel_rfl
theorem unifyApply_rec : (Rows.unifyApplyRow.recurses == Tryz.pinned.checked.prog.recurses 4) = true := by kernel_rfl
theorem unifyApply_named : (Rows.unifyApplyRow.named == Tryz.pinned.checked.prog.varsNamed 4) = true := by kernel_rfl
theorem unifyApply_heard : Tryz.pinned.checked.prog.stopsHeard = true := by kernel_rfl
theorem unifyApply_enter : Tryz.pinned.checked.prog.mayEnter = true := by kernel_rfl
theorem unifyApply_lifts : (Rows.unifyApplyRow.lifted == Tryz.pinned.checked.prog.liftsFinal) = true := by kernel_rfl
theorem unifyApply_goes : false = Rows.unifyApplyRow.goesBy Tryz.pinned.checked.prog := by kernel_rfl
theorem unifyApply_wf : Rows.unifyApplyRow.wfByText (OpenSpec.ofChange Rows.unifyApplySpec) = true := by kernel_rfl
theorem unifyApply_wrap : Func.isWrapper Tryz.pinned.checked.prog Tryz.f4 Rows.unifyApplyRow.wrapper Rows.unifyApplyRow.mainSum := by unfold Func.isWrapper; first | (rw [if_pos (by decide +kernel)]; kernel_rfl) | (rw [if_neg (by decide +kernel)]; exact ⟨rfl, rfl⟩)
theorem unifyApply_facts : joinedFacts Tryz.pinned.checked.prog 4 Tryz.f4 (OpenSpec.ofChange Rows.unifyApplySpec).bare Rows.unifyApplyRow = true := by
  unfold joinedFacts
  exact (and_t (and_t (and_t (and_t (and_t (and_t (and_t (and_t (and_t (and_t (and_t (and_t (and_t (and_t (and_t (and_t (and_t (and_t (and_t (and_t (and_t (and_t (and_t (and_t (and_t (and_t (and_t (and_t (and_t (and_t (and_t (by kernel_rfl) unifyApply_laid) unifyApply_rowed) (by kernel_rfl)) (by kernel_rfl)) (by kernel_rfl)) (by kernel_rfl)) (by kernel_rfl)) (by kernel_rfl)) unifyApply_inPlace) unifyApply_unfol) unifyApply_rec) unifyApply_named) (by kernel_rfl)) (by kernel_rfl)) (by kernel_rfl)) (by kernel_rfl)) (by kernel_rfl)) (by kernel_rfl)) (by kernel_rfl)) (by kernel_rfl)) (by kernel_rfl)) (by kernel_rfl)) (by kernel_rfl)) unifyApply_heard) unifyApply_enter) unifyApply_lifts) (by kernel_rfl)) (by kernel_rfl)) (by kernel_rfl)) (by kernel_rfl)) (by kernel_rfl))
end Go.Proofs.YtoebmibmmlcfiaaGreatDoor
