/- Facts of the program and of the row, each reckoned by itself. -/
import Derived.KernelRfl
import Derived.JoinedOf
import Derived.SevenTiedAt
import Derived.Test.YtjfpcjnopbfekaaGreatDoorRows
namespace Go.Proofs.YtjfpcjnopbfekaaGreatDoor
open Go.ChangeShapes Go.WideShapes
theorem and_t {a b : Bool} (ha : a = true) (hb : b = true) : (a && b) = true := by rw [ha, hb]; rfl
theorem polyRing_laid : laidOutB Tryz.pinned.checked.prog = true := by kernel_rfl
theorem polyRing_rowed : mapsRowed Tryz.pinned.checked.prog = true := by kernel_rfl
theorem polyRing_inPlace : (Rows.polyRingRow.inPlace == Tryz.pinned.checked.prog.inPlace 12) = true := by kernel_rfl
theorem polyRing_unfol : (Rows.polyRingRow.unfollowed == Tryz.pinned.checked.prog.unfollowed 12) = true := by kernel_rfl
theorem polyRing_rec : (Rows.polyRingRow.recurses == Tryz.pinned.checked.prog.recurses 12) = true := by kernel_rfl
theorem polyRing_named : (Rows.polyRingRow.named == Tryz.pinned.checked.prog.varsNamed 12) = true := by kernel_rfl
theorem polyRing_heard : Tryz.pinned.checked.prog.stopsHeard = true := by kernel_rfl
theorem polyRing_enter : Tryz.pinned.checked.prog.mayEnter = true := by kernel_rfl
theorem polyRing_lifts : (Rows.polyRingRow.lifted == Tryz.pinned.checked.prog.liftsFinal) = true := by kernel_rfl
theorem polyRing_goes : false = Rows.polyRingRow.goesBy Tryz.pinned.checked.prog := by kernel_rfl
theorem polyRing_wf : Rows.polyRingRow.wfByText (OpenSpec.ofChange Rows.polyRingSpec) = true := by kernel_rfl
theorem polyRing_wrap : Func.isWrapper Tryz.pinned.checked.prog Tryz.f12 Rows.polyRingRow.wrapper Rows.polyRingRow.mainSum := by unfold Func.isWrapper; first | (rw [if_pos (by decide +kernel)]; kernel_rfl) | (rw [if_neg (by decide +kernel)]; exact ⟨rfl, rfl⟩)
theorem polyRing_facts : joinedFacts Tryz.pinned.checked.prog 12 Tryz.f12 (OpenSpec.ofChange Rows.polyRingSpec).bare Rows.polyRingRow = true := by
  unfold joinedFacts
  exact (and_t (and_t (and_t (and_t (and_t (and_t (and_t (and_t (and_t (and_t (and_t (and_t (and_t (and_t (and_t (and_t (and_t (and_t (and_t (and_t (and_t (and_t (and_t (and_t (and_t (and_t (and_t (and_t (and_t (and_t (and_t (by kernel_rfl) polyRing_laid) polyRing_rowed) (by kernel_rfl)) (by kernel_rfl)) (by kernel_rfl)) (by kernel_rfl)) (by kernel_rfl)) (by kernel_rfl)) polyRing_inPlace) polyRing_unfol) polyRing_rec) polyRing_named) (by kernel_rfl)) (by kernel_rfl)) (by kernel_rfl)) (by kernel_rfl)) (by kernel_rfl)) (by kernel_rfl)) (by kernel_rfl)) (by kernel_rfl)) (by kernel_rfl)) (by kernel_rfl)) (by kernel_rfl)) polyRing_heard) polyRing_enter) polyRing_lifts) (by kernel_rfl)) (by kernel_rfl)) (by kernel_rfl)) (by kernel_rfl)) (by kernel_rfl))
end Go.Proofs.YtjfpcjnopbfekaaGreatDoor
