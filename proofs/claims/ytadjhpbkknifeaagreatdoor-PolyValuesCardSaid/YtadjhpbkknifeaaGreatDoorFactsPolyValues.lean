/- Facts of the program and of the row, each reckoned by itself. -/
import Derived.KernelRfl
import Derived.JoinedOf
import Derived.SevenTiedAt
import Derived.Test.YtadjhpbkknifeaaGreatDoorRows
namespace Go.Proofs.YtadjhpbkknifeaaGreatDoor
open Go.ChangeShapes Go.WideShapes
theorem and_t {a b : Bool} (ha : a = true) (hb : b = true) : (a && b) = true := by rw [ha, hb]; rfl
theorem polyValues_laid : laidOutB Tryz.pinned.checked.prog = true := by kernel_rfl
theorem polyValues_rowed : mapsRowed Tryz.pinned.checked.prog = true := by kernel_rfl
theorem polyValues_inPlace : (Rows.polyValuesRow.inPlace == Tryz.pinned.checked.prog.inPlace 4) = true := by kernel_rfl
theorem polyValues_unfol : (Rows.polyValuesRow.unfollowed == Tryz.pinned.checked.prog.unfollowed 4) = true := by kernel_rfl
theorem polyValues_rec : (Rows.polyValuesRow.recurses == Tryz.pinned.checked.prog.recurses 4) = true := by kernel_rfl
theorem polyValues_named : (Rows.polyValuesRow.named == Tryz.pinned.checked.prog.varsNamed 4) = true := by kernel_rfl
theorem polyValues_heard : Tryz.pinned.checked.prog.stopsHeard = true := by kernel_rfl
theorem polyValues_enter : Tryz.pinned.checked.prog.mayEnter = true := by kernel_rfl
theorem polyValues_lifts : (Rows.polyValuesRow.lifted == Tryz.pinned.checked.prog.liftsFinal) = true := by kernel_rfl
theorem polyValues_goes : false = Rows.polyValuesRow.goesBy Tryz.pinned.checked.prog := by kernel_rfl
theorem polyValues_wf : Rows.polyValuesRow.wfByText (OpenSpec.ofChange Rows.polyValuesSpec) = true := by kernel_rfl
theorem polyValues_wrap : Func.isWrapper Tryz.pinned.checked.prog Tryz.f4 Rows.polyValuesRow.wrapper Rows.polyValuesRow.mainSum := by unfold Func.isWrapper; first | (rw [if_pos (by decide +kernel)]; kernel_rfl) | (rw [if_neg (by decide +kernel)]; exact ⟨rfl, rfl⟩)
theorem polyValues_facts : joinedFacts Tryz.pinned.checked.prog 4 Tryz.f4 (OpenSpec.ofChange Rows.polyValuesSpec).bare Rows.polyValuesRow = true := by
  unfold joinedFacts
  exact (and_t (and_t (and_t (and_t (and_t (and_t (and_t (and_t (and_t (and_t (and_t (and_t (and_t (and_t (and_t (and_t (and_t (and_t (and_t (and_t (and_t (and_t (and_t (and_t (and_t (and_t (and_t (and_t (and_t (and_t (and_t (by kernel_rfl) polyValues_laid) polyValues_rowed) (by kernel_rfl)) (by kernel_rfl)) (by kernel_rfl)) (by kernel_rfl)) (by kernel_rfl)) (by kernel_rfl)) polyValues_inPlace) polyValues_unfol) polyValues_rec) polyValues_named) (by kernel_rfl)) (by kernel_rfl)) (by kernel_rfl)) (by kernel_rfl)) (by kernel_rfl)) (by kernel_rfl)) (by kernel_rfl)) (by kernel_rfl)) (by kernel_rfl)) (by kernel_rfl)) (by kernel_rfl)) polyValues_heard) polyValues_enter) polyValues_lifts) (by kernel_rfl)) (by kernel_rfl)) (by kernel_rfl)) (by kernel_rfl)) (by kernel_rfl))
end Go.Proofs.YtadjhpbkknifeaaGreatDoor
