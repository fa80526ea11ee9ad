/- Facts of the program and of the row, each reckoned by itself. -/
import Derived.KernelRfl
import Derived.JoinedOf
import Derived.SevenTiedAt
import Derived.Test.YtadjhpbkknifeaaGreatDoorRows
namespace Go.Proofs.YtadjhpbkknifeaaGreatDoor
open Go.ChangeShapes Go.WideShapes
theorem and_t {a b : Bool} (ha : a = true) (hb : b = true) : (a && b) = true := by rw [ha, hb]; rfl
theorem polyProduct_laid : laidOutB Tryz.pinned.checked.prog = true := by kernel_rfl
theorem polyProduct_rowed : mapsRowed Tryz.pinned.checked.prog = true := by kernel_rfl
theorem polyProduct_inPlace : (Rows.polyProductRow.inPlace == Tryz.pinned.checked.prog.inPlace 3) = true := by kernel_rfl
theorem polyProduct_unfol : (Rows.polyProductRow.unfollowed == Tryz.pinned.checked.prog.unfollowed 3) = true := by kernel_rfl
theorem polyProduct_rec : (Rows.polyProductRow.recurses == Tryz.pinned.checked.prog.recurses 3) = true := by kernel_rfl
theorem polyProduct_named : (Rows.polyProductRow.named == Tryz.pinned.checked.prog.varsNamed 3) = true := by kernel_rfl
theorem polyProduct_heard : Tryz.pinned.checked.prog.stopsHeard = true := by kernel_rfl
theorem polyProduct_enter : Tryz.pinned.checked.prog.mayEnter = true := by kernel_rfl
theorem polyProduct_lifts : (Rows.polyProductRow.lifted == Tryz.pinned.checked.prog.liftsFinal) = true := by kernel_rfl
theorem polyProduct_goes : false = Rows.polyProductRow.goesBy Tryz.pinned.checked.prog := by kernel_rfl
theorem polyProduct_wf : Rows.polyProductRow.wfByText (OpenSpec.ofChange Rows.polyProductSpec) = true := by kernel_rfl
theorem polyProduct_wrap : Func.isWrapper Tryz.pinned.checked.prog Tryz.f3 Rows.polyProductRow.wrapper Rows.polyProductRow.mainSum := by unfold Func.isWrapper; first | (rw [if_pos (by decide +kernel)]; kernel_rfl) | (rw [if_neg (by decide +kernel)]; exact ⟨rfl, rfl⟩)
theorem polyProduct_facts : joinedFacts Tryz.pinned.checked.prog 3 Tryz.f3 (OpenSpec.ofChange Rows.polyProductSpec).bare Rows.polyProductRow = true := by
  unfold joinedFacts
  exact (and_t (and_t (and_t (and_t (and_t (and_t (and_t (and_t (and_t (and_t (and_t (and_t (and_t (and_t (and_t (and_t (and_t (and_t (and_t (and_t (and_t (and_t (and_t (and_t (and_t (and_t (and_t (and_t (and_t (and_t (and_t (by kernel_rfl) polyProduct_laid) polyProduct_rowed) (by kernel_rfl)) (by kernel_rfl)) (by kernel_rfl)) (by kernel_rfl)) (by kernel_rfl)) (by kernel_rfl)) polyProduct_inPlace) polyProduct_unfol) polyProduct_rec) polyProduct_named) (by kernel_rfl)) (by kernel_rfl)) (by kernel_rfl)) (by kernel_rfl)) (by kernel_rfl)) (by kernel_rfl)) (by kernel_rfl)) (by kernel_rfl)) (by kernel_rfl)) (by kernel_rfl)) (by kernel_rfl)) polyProduct_heard) polyProduct_enter) polyProduct_lifts) (by kernel_rfl)) (by kernel_rfl)) (by kernel_rfl)) (by kernel_rfl)) (by kernel_rfl))
end Go.Proofs.YtadjhpbkknifeaaGreatDoor
