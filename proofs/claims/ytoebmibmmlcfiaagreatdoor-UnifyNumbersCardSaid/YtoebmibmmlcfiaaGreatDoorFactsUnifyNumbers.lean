/- Facts of the program and of the row, each reckoned by itself. -/
import Derived.KernelRfl
import Derived.JoinedOf
import Derived.SevenTiedAt
import Derived.Test.YtoebmibmmlcfiaaGreatDoorRows
namespace Go.Proofs.YtoebmibmmlcfiaaGreatDoor
open Go.ChangeShapes Go.WideShapes
theorem and_t {a b : Bool} (ha : a = true) (hb : b = true) : (a && b) = true := by rw [ha, hb]; rfl
theorem unifyNumbers_laid : laidOutB Tryz.pinned.checked.prog = true := by kernel_rfl
theorem unifyNumbers_rowed : mapsRowed Tryz.pinned.checked.prog = true := by kernel_rfl
theorem unifyNumbers_inPlace : (Rows.unifyNumbersRow.inPlace == Tryz.pinned.checked.prog.inPlace 3) = true := by kernel_rfl
theorem unifyNumbers_unfol : (Rows.unifyNumbersRow.unfollowed == Tryz.pinned.checked.prog.unfollowed 3) = true := by kernel_rfl
theorem unifyNumbers_rec : (Rows.unifyNumbersRow.recurses == Tryz.pinned.checked.prog.recurses 3) = true := by kernel_rfl
theorem unifyNumbers_named : (Rows.unifyNumbersRow.named == Tryz.pinned.checked.prog.varsNamed 3) = true := by kernel_rfl
theorem unifyNumbers_heard : Tryz.pinned.checked.prog.stopsHeard = true := by kernel_rfl
theorem unifyNumbers_enter : Tryz.pinned.checked.prog.mayEnter = true := by kernel_rfl
theorem unifyNumbers_lifts : (Rows.unifyNumbersRow.lifted == Tryz.pinned.checked.prog.liftsFinal) = true := by kernel_rfl
theorem unifyNumbers_goes : false = Rows.unifyNumbersRow.goesBy Tryz.pinned.checked.prog := by kernel_rfl
theorem unifyNumbers_wf : Rows.unifyNumbersRow.wfByText (OpenSpec.ofChange Rows.unifyNumbersSpec) = true := by kernel_rfl
theorem unifyNumbers_wrap : Func.isWrapper Tryz.pinned.checked.prog Tryz.f3 Rows.unifyNumbersRow.wrapper Rows.unifyNumbersRow.mainSum := by unfold Func.isWrapper; first | (rw [if_pos (by decide +kernel)]; kernel_rfl) | (rw [if_neg (by decide +kernel)]; exact ⟨rfl, rfl⟩)
theorem unifyNumbers_facts : joinedFacts Tryz.pinned.checked.prog 3 Tryz.f3 (OpenSpec.ofChange Rows.unifyNumbersSpec).bare Rows.unifyNumbersRow = true := by
  unfold joinedFacts
  exact (and_t (and_t (and_t (and_t (and_t (and_t (and_t (and_t (and_t (and_t (and_t (and_t (and_t (and_t (and_t (and_t (and_t (and_t (and_t (and_t (and_t (and_t (and_t (and_t (and_t (and_t (and_t (and_t (and_t (and_t (and_t (by kernel_rfl) unifyNumbers_laid) unifyNumbers_rowed) (by kernel_rfl)) (by kernel_rfl)) (by kernel_rfl)) (by kernel_rfl)) (by kernel_rfl)) (by kernel_rfl)) unifyNumbers_inPlace) unifyNumbers_unfol) unifyNumbers_rec) unifyNumbers_named) (by kernel_rfl)) (by kernel_rfl)) (by kernel_rfl)) (by kernel_rfl)) (by kernel_rfl)) (by kernel_rfl)) (by kernel_rfl)) (by kernel_rfl)) (by kernel_rfl)) (by kernel_rfl)) (by kernel_rfl)) unifyNumbers_heard) unifyNumbers_enter) unifyNumbers_lifts) (by kernel_rfl)) (by kernel_rfl)) (by kernel_rfl)) (by kernel_rfl)) (by kernel_rfl))
end Go.Proofs.YtoebmibmmlcfiaaGreatDoor
