/- Facts of the program and of the row, each reckoned by itself. -/
import Derived.KernelRfl
import Derived.JoinedOf
import Derived.SevenTiedAt
import Derived.Test.YtjfpcjnopbfekaaGreatDoorRows
set_option linter.unusedSimpArgs false
set_option linter.unusedVariables false
namespace Go.Proofs.YtjfpcjnopbfekaaGreatDoor
open Go.ChangeShapes Go.WideShapes
theorem and_t {a b : Bool} (ha : a = true) (hb : b = true) : (a && b) = true := by rw [ha, hb]; rfl
theorem concat_laid : laidOutB Tryz.pinned.checked.prog = true := by kernel_rfl
theorem concat_rowed : mapsRowed Tryz.pinned.checked.prog = true := by kernel_rfl
theorem concat_inPlace : (Rows.shapeConcatRow.inPlace == Tryz.pinned.checked.prog.inPlace 7) = true := by kernel_rfl
theorem concat_unfol : (Rows.shapeConcatRow.unfollowed == Tryz.pinned.checked.prog.unfollowed 7) = true := by kernel_rfl
theorem concat_rec : (Rows.shapeConcatRow.recurses == Tryz.pinned.checked.prog.recurses 7) = true := by kernel_rfl
theorem concat_named : (Rows.shapeConcatRow.named == Tryz.pinned.checked.prog.varsNamed 7) = true := by kernel_rfl
theorem concat_heard : Tryz.pinned.checked.prog.stopsHeard = true := by kernel_rfl
theorem concat_enter : Tryz.pinned.checked.prog.mayEnter = true := by kernel_rfl
theorem concat_lifts : (Rows.shapeConcatRow.lifted == Tryz.pinned.checked.prog.liftsFinal) = true := by kernel_rfl
theorem concat_goes : false = Rows.shapeConcatRow.goesBy Tryz.pinned.checked.prog := by kernel_rfl
theorem concat_wf : Rows.shapeConcatRow.wfByText (OpenSpec.ofChange Rows.shapeConcatSpec) = true := by kernel_rfl
theorem concat_wrap : Func.isWrapper Tryz.pinned.checked.prog Tryz.f7 Rows.shapeConcatRow.wrapper Rows.shapeConcatRow.mainSum := by unfold Func.isWrapper; first | (rw [if_pos (by decide +kernel)]; kernel_rfl) | (rw [if_neg (by decide +kernel)]; exact ⟨rfl, rfl⟩)
theorem concat_facts : joinedFacts Tryz.pinned.checked.prog 7 Tryz.f7 (OpenSpec.ofChange Rows.shapeConcatSpec).bare Rows.shapeConcatRow = true := by
  unfold joinedFacts
  exact (and_t (and_t (and_t (and_t (and_t (and_t (and_t (and_t (and_t (and_t (and_t (and_t (and_t (and_t (and_t (and_t (and_t (and_t (and_t (and_t (and_t (and_t (and_t (and_t (and_t (and_t (and_t (and_t (and_t (and_t (and_t (by kernel_rfl) concat_laid) concat_rowed) (by kernel_rfl)) (by kernel_rfl)) (by kernel_rfl)) (by kernel_rfl)) (by kernel_rfl)) (by kernel_rfl)) concat_inPlace) concat_unfol) concat_rec) concat_named) (by kernel_rfl)) (by kernel_rfl)) (by kernel_rfl)) (by kernel_rfl)) (by kernel_rfl)) (by kernel_rfl)) (by kernel_rfl)) (by kernel_rfl)) (by kernel_rfl)) (by kernel_rfl)) (by kernel_rfl)) concat_heard) concat_enter) concat_lifts) (by kernel_rfl)) (by kernel_rfl)) (by kernel_rfl)) (by kernel_rfl)) (by kernel_rfl))
end Go.Proofs.YtjfpcjnopbfekaaGreatDoor
