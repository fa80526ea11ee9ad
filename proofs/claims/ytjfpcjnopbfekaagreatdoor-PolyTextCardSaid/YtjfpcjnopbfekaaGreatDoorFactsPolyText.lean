/- Facts of the program and of the row, each reckoned by itself. -/
import Derived.KernelRfl
import Derived.JoinedOf
import Derived.SevenTiedAt
import Derived.Test.YtjfpcjnopbfekaaGreatDoorRows
namespace Go.Proofs.YtjfpcjnopbfekaaGreatDoor
open Go.ChangeShapes Go.WideShapes
theorem and_t {a b : Bool} (ha : a = true) (hb : b = true) : (a && b) = true := by rw [ha, hb]; rfl
theorem polyText_laid : laidOutB Tryz.pinned.checked.prog = true := by kernel_rfl
theorem polyText_rowed : mapsRowed Tryz.pinned.checked.prog = true := by kernel_rfl
theorem polyText_inPlace : (Rows.polyTextRow.inPlace == Tryz.pinned.checked.prog.inPlace 9) = true := by kernel_rfl
theorem polyText_unfol : (Rows.polyTextRow.unfollowed == Tryz.pinned.checked.prog.unfollowed 9) = true := by kernel_rfl
theorem polyText_rec : (Rows.polyTextRow.recurses == Tryz.pinned.checked.prog.recurses 9) = true := by kernel_rfl
theorem polyText_named : (Rows.polyTextRow.named == Tryz.pinned.checked.prog.varsNamed 9) = true := by kernel_rfl
theorem polyText_heard : Tryz.pinned.checked.prog.stopsHeard = true := by kernel_rfl
theorem polyText_enter : Tryz.pinned.checked.prog.mayEnter = true := by kernel_rfl
theorem polyText_lifts : (Rows.polyTextRow.lifted == Tryz.pinned.checked.prog.liftsFinal) = true := by kernel_rfl
theorem polyText_goes : false = Rows.polyTextRow.goesBy Tryz.pinned.checked.prog := by kernel_rfl
theorem polyText_wf : Rows.polyTextRow.wfByText (OpenSpec.ofChange Rows.polyTextSpec) = true := by kernel_rfl
theorem polyText_wrap : Func.isWrapper Tryz.pinned.checked.prog Tryz.f9 Rows.polyTextRow.wrapper Rows.polyTextRow.mainSum := by unfold Func.isWrapper; first | (rw [if_pos (by decide +kernel)]; kernel_rfl) | (rw [if_neg (by decide +kernel)]; exact ⟨rfl, rfl⟩)
theorem polyText_facts : joinedFacts Tryz.pinned.checked.prog 9 Tryz.f9 (OpenSpec.ofChange Rows.polyTextSpec).bare Rows.polyTextRow = true := by
  unfold joinedFacts
  exact (and_t (and_t (and_t (and_t (and_t (and_t (and_t (and_t (and_t (and_t (and_t (and_t (and_t (and_t (and_t (and_t (and_t (and_t (and_t (and_t (and_t (and_t (and_t (and_t (and_t (and_t (and_t (and_t (and_t (and_t (and_t (by kernel_rfl) polyText_laid) polyText_rowed) (by kernel_rfl)) (by kernel_rfl)) (by kernel_rfl)) (by kernel_rfl)) (by kernel_rfl)) (by kernel_rfl)) polyText_inPlace) polyText_unfol) polyText_rec) polyText_named) (by kernel_rfl)) (by kernel_rfl)) (by kernel_rfl)) (by kernel_rfl)) (by kernel_rfl)) (by kernel_rfl)) (by kernel_rfl)) (by kernel_rfl)) (by kernel_rfl)) (by kernel_rfl)) (by kernel_rfl)) polyText_heard) polyText_enter) polyText_lifts) (by kernel_rfl)) (by kernel_rfl)) (by kernel_rfl)) (by kernel_rfl)) (by kernel_rfl))
end Go.Proofs.YtjfpcjnopbfekaaGreatDoor
