/- Facts of the program and of the row, each reckoned by itself. -/
import Derived.KernelRfl
import Derived.JoinedOf
import Derived.SevenTiedAt
import Derived.Test.YtjfpcjnopbfekaaGreatDoorRows
namespace Go.Proofs.YtjfpcjnopbfekaaGreatDoor
open Go.ChangeShapes Go.WideShapes
theorem and_t {a b : Bool} (ha : a = true) (hb : b = true) : (a && b) = true := by rw [ha, hb]; rfl
theorem polyBasic_laid : laidOutB Tryz.pinned.checked.prog = true := by kernel_rfl
theorem polyBasic_rowed : mapsRowed Tryz.pinned.checked.prog = true := by kernel_rfl
theorem polyBasic_inPlace : (Rows.polyBasicRow.inPlace == Tryz.pinned.checked.prog.inPlace 13) = true := by kernel_rfl
theorem polyBasic_unfol : (Rows.polyBasicRow.unfollowed == Tryz.pinned.checked.prog.unfollowed 13) = true := by kernel_rfl
theorem polyBasic_rec : (Rows.polyBasicRow.recurses == Tryz.pinned.checked.prog.recurses 13) = true := by kernel_rfl
theorem polyBasic_named : (Rows.polyBasicRow.named == Tryz.pinned.checked.prog.varsNamed 13) = true := by kernel_rfl
theorem polyBasic_heard : Tryz.pinned.checked.prog.stopsHeard = true := by kernel_rfl
theorem polyBasic_enter : Tryz.pinned.checked.prog.mayEnter = true := by kernel_rfl
theorem polyBasic_lifts : (Rows.polyBasicRow.lifted == Tryz.pinned.checked.prog.liftsFinal) = true := by kernel_rfl
theorem polyBasic_goes : false = Rows.polyBasicRow.goesBy Tryz.pinned.checked.prog := by kernel_rfl
theorem polyBasic_wf : Rows.polyBasicRow.wfByText (OpenSpec.ofChange Rows.polyBasicSpec) = true := by kernel_rfl
theorem polyBasic_wrap : Func.isWrapper Tryz.pinned.checked.prog Tryz.f13 Rows.polyBasicRow.wrapper Rows.polyBasicRow.mainSum := by unfold Func.isWrapper; first | (rw [if_pos (by decide +kernel)]; kernel_rfl) | (rw [if_neg (by decide +kernel)]; exact ⟨rfl, rfl⟩)
theorem polyBasic_facts : joinedFacts Tryz.pinned.checked.prog 13 Tryz.f13 (OpenSpec.ofChange Rows.polyBasicSpec).bare Rows.polyBasicRow = true := by
  unfold joinedFacts
  exact (and_t (and_t (and_t (and_t (and_t (and_t (and_t (and_t (and_t (and_t (and_t (and_t (and_t (and_t (and_t (and_t (and_t (and_t (and_t (and_t (and_t (and_t (and_t (and_t (and_t (and_t (and_t (and_t (and_t (and_t (and_t (by kernel_rfl) polyBasic_laid) polyBasic_rowed) (by kernel_rfl)) (by kernel_rfl)) (by kernel_rfl)) (by kernel_rfl)) (by kernel_rfl)) (by kernel_rfl)) polyBasic_inPlace) polyBasic_unfol) polyBasic_rec) polyBasic_named) (by kernel_rfl)) (by kernel_rfl)) (by kernel_rfl)) (by kernel_rfl)) (by kernel_rfl)) (by kernel_rfl)) (by kernel_rfl)) (by kernel_rfl)) (by kernel_rfl)) (by kernel_rfl)) (by kernel_rfl)) polyBasic_heard) polyBasic_enter) polyBasic_lifts) (by kernel_rfl)) (by kernel_rfl)) (by kernel_rfl)) (by kernel_rfl)) (by kernel_rfl))
end Go.Proofs.YtjfpcjnopbfekaaGreatDoor
