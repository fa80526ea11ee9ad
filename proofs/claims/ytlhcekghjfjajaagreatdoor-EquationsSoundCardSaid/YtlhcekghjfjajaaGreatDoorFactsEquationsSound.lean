/- Facts of the program and of the row, each reckoned by itself. -/
import Derived.KernelRfl
import Derived.JoinedOf
import Derived.SevenTiedAt
import Derived.Test.YtlhcekghjfjajaaGreatDoorRows
namespace Go.Proofs.YtlhcekghjfjajaaGreatDoor
open Go.ChangeShapes Go.WideShapes
theorem and_t {a b : Bool} (ha : a = true) (hb : b = true) : (a && b) = true := by rw [ha, hb]; rfl
theorem equationsSound_laid : laidOutB Tryz.pinned.checked.prog = true := by kernel_rfl
theorem equationsSound_rowed : mapsRowed Tryz.pinned.checked.prog = true := by kernel_rfl
theorem equationsSound_inPlace : (Rows.equationsSoundRow.inPlace == Tryz.pinned.checked.prog.inPlace 3) = true := by kernel_rfl
theorem equationsSound_unfol : (Rows.equationsSoundRow.unfollowed == Tryz.pinned.checked.prog.unfollowed 3) = true := by kernel_rfl
theorem equationsSound_rec : (Rows.equationsSoundRow.recurses == Tryz.pinned.checked.prog.recurses 3) = true := by kernel_rfl
theorem equationsSound_named : (Rows.equationsSoundRow.named == Tryz.pinned.checked.prog.varsNamed 3) = true := by kernel_rfl
theorem equationsSound_heard : Tryz.pinned.checked.prog.stopsHeard = true := by kernel_rfl
theorem equationsSound_enter : Tryz.pinned.checked.prog.mayEnter = true := by kernel_rfl
theorem equationsSound_lifts : (Rows.equationsSoundRow.lifted == Tryz.pinned.checked.prog.liftsFinal) = true := by kernel_rfl
theorem equationsSound_goes : false = Rows.equationsSoundRow.goesBy Tryz.pinned.checked.prog := by kernel_rfl
theorem equationsSound_wf : Rows.equationsSoundRow.wfByText (OpenSpec.ofChange Rows.equationsSoundSpec) = true := by kernel_rfl
theorem equationsSound_wrap : Func.isWrapper Tryz.pinned.checked.prog Tryz.f3 Rows.equationsSoundRow.wrapper Rows.equationsSoundRow.mainSum := by unfold Func.isWrapper; first | (rw [if_pos (by decide +kernel)]; kernel_rfl) | (rw [if_neg (by decide +kernel)]; exact ⟨rfl, rfl⟩)
theorem equationsSound_facts : joinedFacts Tryz.pinned.checked.prog 3 Tryz.f3 (OpenSpec.ofChange Rows.equationsSoundSpec).bare Rows.equationsSoundRow = true := by
  unfold joinedFacts
  exact (and_t (and_t (and_t (and_t (and_t (and_t (and_t (and_t (and_t (and_t (and_t (and_t (and_t (and_t (and_t (and_t (and_t (and_t (and_t (and_t (and_t (and_t (and_t (and_t (and_t (and_t (and_t (and_t (and_t (and_t (and_t (by kernel_rfl) equationsSound_laid) equationsSound_rowed) (by kernel_rfl)) (by kernel_rfl)) (by kernel_rfl)) (by kernel_rfl)) (by kernel_rfl)) (by kernel_rfl)) equationsSound_inPlace) equationsSound_unfol) equationsSound_rec) equationsSound_named) (by kernel_rfl)) (by kernel_rfl)) (by kernel_rfl)) (by kernel_rfl)) (by kernel_rfl)) (by kernel_rfl)) (by kernel_rfl)) (by kernel_rfl)) (by kernel_rfl)) (by kernel_rfl)) (by kernel_rfl)) equationsSound_heard) equationsSound_enter) equationsSound_lifts) (by kernel_rfl)) (by kernel_rfl)) (by kernel_rfl)) (by kernel_rfl)) (by kernel_rfl))
end Go.Proofs.YtlhcekghjfjajaaGreatDoor
