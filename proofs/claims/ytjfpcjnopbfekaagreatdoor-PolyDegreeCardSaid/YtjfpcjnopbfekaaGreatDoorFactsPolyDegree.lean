/- Facts of the program and of the row, each reckoned by itself. -/
import Derived.KernelRfl
import Derived.JoinedOf
import Derived.SevenTiedAt
import Derived.Test.YtjfpcjnopbfekaaGreatDoorRows
namespace Go.Proofs.YtjfpcjnopbfekaaGreatDoor
open Go.ChangeShapes Go.WideShapes
theorem and_t {a b : Bool} (ha : a = true) (hb : b = true) : (a && b) = true := by rw [ha, hb]; rfl
theorem polyDegree_laid : laidOutB Tryz.pinned.checked.prog = true := by kernel_rfl
theorem polyDegree_rowed : mapsRowed Tryz.pinned.checked.prog = true := by kernel_rfl
theorem polyDegree_inPlace : (Rows.polyDegreeRow.inPlace == Tryz.pinned.checked.prog.inPlace 10) = true := by kernel_rfl
theorem polyDegree_unfol : (Rows.polyDegreeRow.unfollowed == Tryz.pinned.checked.prog.unfollowed 10) = true := by kernel_rfl
theorem polyDegree_rec : (Rows.polyDegreeRow.recurses == Tryz.pinned.checked.prog.recurses 10) = true := by kernel_rfl
theorem polyDegree_named : (Rows.polyDegreeRow.named == Tryz.pinned.checked.prog.varsNamed 10) = true := by kernel_rfl
theorem polyDegree_heard : Tryz.pinned.checked.prog.stopsHeard = true := by kernel_rfl
theorem polyDegree_enter : Tryz.pinned.checked.prog.mayEnter = true := by kernel_rfl
theorem polyDegree_lifts : (Rows.polyDegreeRow.lifted == Tryz.pinned.checked.prog.liftsFinal) = true := by kernel_rfl
theorem polyDegree_goes : false = Rows.polyDegreeRow.goesBy Tryz.pinned.checked.prog := by kernel_rfl
theorem polyDegree_wf : Rows.polyDegreeRow.wfByText (OpenSpec.ofChange Rows.polyDegreeSpec) = true := by kernel_rfl
theorem polyDegree_wrap : Func.isWrapper Tryz.pinned.checked.prog Tryz.f10 Rows.polyDegreeRow.wrapper Rows.polyDegreeRow.mainSum := by unfold Func.isWrapper; first | (rw [if_pos (by decide +kernel)]; kernel_rfl) | (rw [if_neg (by decide +kernel)]; exact ⟨rfl, rfl⟩)
theorem polyDegree_facts : joinedFacts Tryz.pinned.checked.prog 10 Tryz.f10 (OpenSpec.ofChange Rows.polyDegreeSpec).bare Rows.polyDegreeRow = true := by
  unfold joinedFacts
  exact (and_t (and_t (and_t (and_t (and_t (and_t (and_t (and_t (and_t (and_t (and_t (and_t (and_t (and_t (and_t (and_t (and_t (and_t (and_t (and_t (and_t (and_t (and_t (and_t (and_t (and_t (and_t (and_t (and_t (and_t (and_t (by kernel_rfl) polyDegree_laid) polyDegree_rowed) (by kernel_rfl)) (by kernel_rfl)) (by kernel_rfl)) (by kernel_rfl)) (by kernel_rfl)) (by kernel_rfl)) polyDegree_inPlace) polyDegree_unfol) polyDegree_rec) polyDegree_named) (by kernel_rfl)) (by kernel_rfl)) (by kernel_rfl)) (by kernel_rfl)) (by kernel_rfl)) (by kernel_rfl)) (by kernel_rfl)) (by kernel_rfl)) (by kernel_rfl)) (by kernel_rfl)) (by kernel_rfl)) polyDegree_heard) polyDegree_enter) polyDegree_lifts) (by kernel_rfl)) (by kernel_rfl)) (by kernel_rfl)) (by kernel_rfl)) (by kernel_rfl))
end Go.Proofs.YtjfpcjnopbfekaaGreatDoor
