/- Facts of the program and of the row, each reckoned by itself. -/
import Derived.KernelRfl
import Derived.JoinedOf
import Derived.SevenTiedAt
import Derived.Test.YtlhcekghjfjajaaGreatDoorRows
namespace Go.Proofs.YtlhcekghjfjajaaGreatDoor
open Go.ChangeShapes Go.WideShapes
theorem and_t {a b : Bool} (ha : a = true) (hb : b = true) : (a && b) = true := by rw [ha, hb]; rfl
theorem equationsComplete_laid : laidOutB Tryz.pinned.checked.prog = true := by kernel_rfl
theorem equationsComplete_rowed : mapsRowed Tryz.pinned.checked.prog = true := by kernel_rfl
theorem equationsComplete_inPlace : (Rows.equationsCompleteRow.inPlace == Tryz.pinned.checked.prog.inPlace 4) = true := by kernel_rfl
theorem equationsComplete_unfol : (Rows.equationsCompleteRow.unfollowed == Tryz.pinned.checked.prog.unfollowed 4) = true := by kernel_rfl
theorem equationsComplete_rec : (Rows.equationsCompleteRow.recurses == Tryz.pinned.checked.prog.recurses 4) = true := by kernel_rfl
theorem equationsComplete_named : (Rows.equationsCompleteRow.named == Tryz.pinned.checked.prog.varsNamed 4) = true := by kernel_rfl
theorem equationsComplete_heard : Tryz.pinned.checked.prog.stopsHeard = true := by kernel_rfl
theorem equationsComplete_enter : Tryz.pinned.checked.prog.mayEnter = true := by kernel_rfl
theorem equationsComplete_lifts : (Rows.equationsCompleteRow.lifted == Tryz.pinned.checked.prog.liftsFinal) = true := by kernel_rfl
theorem equationsComplete_goes : false = Rows.equationsCompleteRow.goesBy Tryz.pinned.checked.prog := by kernel_rfl
theorem equationsComplete_wf : Rows.equationsCompleteRow.wfByText (OpenSpec.ofChange Rows.equationsCompleteSpec) = true := by kernel_rfl
theorem equationsComplete_wrap : Func.isWrapper Tryz.pinned.checked.prog Tryz.f4 Rows.equationsCompleteRow.wrapper Rows.equationsCompleteRow.mainSum := by unfold Func.isWrapper; first | (rw [if_pos (by decide +kernel)]; kernel_rfl) | (rw [if_neg (by decide +kernel)]; exact ⟨rfl, rfl⟩)
theorem equationsComplete_facts : joinedFacts Tryz.pinned.checked.prog 4 Tryz.f4 (OpenSpec.ofChange Rows.equationsCompleteSpec).bare Rows.equationsCompleteRow = true := by
  unfold joinedFacts
  exact (and_t (and_t (and_t (and_t (and_t (and_t (and_t (and_t (and_t (and_t (and_t (and_t (and_t (and_t (and_t (and_t (and_t (and_t (and_t (and_t (and_t (and_t (and_t (and_t (and_t (and_t (and_t (and_t (and_t (and_t (and_t (by kernel_rfl) equationsComplete_laid) equationsComplete_rowed) (by kernel_rfl)) (by kernel_rfl)) (by kernel_rfl)) (by kernel_rfl)) (by kernel_rfl)) (by kernel_rfl)) equationsComplete_inPlace) equationsComplete_unfol) equationsComplete_rec) equationsComplete_named) (by kernel_rfl)) (by kernel_rfl)) (by kernel_rfl)) (by kernel_rfl)) (by kernel_rfl)) (by kernel_rfl)) (by kernel_rfl)) (by kernel_rfl)) (by kernel_rfl)) (by kernel_rfl)) (by kernel_rfl)) equationsComplete_heard) equationsComplete_enter) equationsComplete_lifts) (by kernel_rfl)) (by kernel_rfl)) (by kernel_rfl)) (by kernel_rfl)) (by kernel_rfl))
end Go.Proofs.YtlhcekghjfjajaaGreatDoor
