/- Facts of the program and of the row, each reckoned by itself. -/
import Derived.KernelRfl
import Derived.JoinedOf
import Derived.SevenTiedAt
import Derived.Test.YtlhcekghjfjajaaGreatDoorRows
namespace Go.Proofs.YtlhcekghjfjajaaGreatDoor
open Go.ChangeShapes Go.WideShapes
theorem and_t {a b : Bool} (ha : a = true) (hb : b = true) : (a && b) = true := by rw [ha, hb]; rfl
theorem equationsSame_laid : laidOutB Tryz.pinned.checked.prog = true := by kernel_rfl
theorem equationsSame_rowed : mapsRowed Tryz.pinned.checked.prog = true := by kernel_rfl
theorem equationsSame_inPlace : (Rows.equationsSameRow.inPlace == Tryz.pinned.checked.prog.inPlace 6) = true := by kernel_rfl
theorem equationsSame_unfol : (Rows.equationsSameRow.unfollowed == Tryz.pinned.checked.prog.unfollowed 6) = true := by kernel_rfl
theorem equationsSame_rec : (Rows.equationsSameRow.recurses == Tryz.pinned.checked.prog.recurses 6) = true := by kernel_rfl
theorem equationsSame_named : (Rows.equationsSameRow.named == Tryz.pinned.checked.prog.varsNamed 6) = true := by kernel_rfl
theorem equationsSame_heard : Tryz.pinned.checked.prog.stopsHeard = true := by kernel_rfl
theorem equationsSame_enter : Tryz.pinned.checked.prog.mayEnter = true := by kernel_rfl
theorem equationsSame_lifts : (Rows.equationsSameRow.lifted == Tryz.pinned.checked.prog.liftsFinal) = true := by kernel_rfl
theorem equationsSame_goes : false = Rows.equationsSameRow.goesBy Tryz.pinned.checked.prog := by kernel_rfl
theorem equationsSame_wf : Rows.equationsSameRow.wfByText (OpenSpec.ofChange Rows.equationsSameSpec) = true := by kernel_rfl
theorem equationsSame_wrap : Func.isWrapper Tryz.pinned.checked.prog Tryz.f6 Rows.equationsSameRow.wrapper Rows.equationsSameRow.mainSum := by unfold Func.isWrapper; first | (rw [if_pos (by decide +kernel)]; kernel_rfl) | (rw [if_neg (by decide +kernel)]; exact ⟨rfl, rfl⟩)
theorem equationsSame_facts : joinedFacts Tryz.pinned.checked.prog 6 Tryz.f6 (OpenSpec.ofChange Rows.equationsSameSpec).bare Rows.equationsSameRow = true := by
  unfold joinedFacts
  exact (and_t (and_t (and_t (and_t (and_t (and_t (and_t (and_t (and_t (and_t (and_t (and_t (and_t (and_t (and_t (and_t (and_t (and_t (and_t (and_t (and_t (and_t (and_t (and_t (and_t (and_t (and_t (and_t (and_t (and_t (and_t (by kernel_rfl) equationsSame_laid) equationsSame_rowed) (by kernel_rfl)) (by kernel_rfl)) (by kernel_rfl)) (by kernel_rfl)) (by kernel_rfl)) (by kernel_rfl)) equationsSame_inPlace) equationsSame_unfol) equationsSame_rec) equationsSame_named) (by kernel_rfl)) (by kernel_rfl)) (by kernel_rfl)) (by kernel_rfl)) (by kernel_rfl)) (by kernel_rfl)) (by kernel_rfl)) (by kernel_rfl)) (by kernel_rfl)) (by kernel_rfl)) (by kernel_rfl)) equationsSame_heard) equationsSame_enter) equationsSame_lifts) (by kernel_rfl)) (by kernel_rfl)) (by kernel_rfl)) (by kernel_rfl)) (by kernel_rfl))
end Go.Proofs.YtlhcekghjfjajaaGreatDoor
