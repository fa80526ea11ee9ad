/- Facts of the program and of the row, each reckoned by itself. -/
import Derived.KernelRfl
import Derived.JoinedOf
import Derived.SevenTiedAt
import Derived.Test.YtjfpcjnopbfekaaGreatDoorRows
namespace Go.Proofs.YtjfpcjnopbfekaaGreatDoor
open Go.ChangeShapes Go.WideShapes
theorem and_t {a b : Bool} (ha : a = true) (hb : b = true) : (a && b) = true := by rw [ha, hb]; rfl
theorem polySums_laid : laidOutB Tryz.pinned.checked.prog = true := by kernel_rfl
theorem polySums_rowed : mapsRowed Tryz.pinned.checked.prog = true := by kernel_rfl
theorem polySums_inPlace : (Rows.polySumsRow.inPlace == Tryz.pinned.checked.prog.inPlace 11) = true := by kernel_rfl
theorem polySums_unfol : (Rows.polySumsRow.unfollowed == Tryz.pinned.checked.prog.unfollowed 11) = true := by kernel_rfl
theorem polySums_rec : (Rows.polySumsRow.recurses == Tryz.pinned.checked.prog.recurses 11) = true := by kernel_rfl
theorem polySums_named : (Rows.polySumsRow.named == Tryz.pinned.checked.prog.varsNamed 11) = true := by kernel_rfl
theorem polySums_heard : Tryz.pinned.checked.prog.stopsHeard = true := by kernel_rfl
theorem polySums_enter : Tryz.pinned.checked.prog.mayEnter = true := by kernel_rfl
theorem polySums_lifts : (Rows.polySumsRow.lifted == Tryz.pinned.checked.prog.liftsFinal) = true := by kernel_rfl
theorem polySums_goes : false = Rows.polySumsRow.goesBy Tryz.pinned.checked.prog := by kernel_rfl
theorem polySums_wf : Rows.polySumsRow.wfByText (OpenSpec.ofChange Rows.polySumsSpec) = true := by kernel_rfl
theorem polySums_wrap : Func.isWrapper Tryz.pinned.checked.prog Tryz.f11 Rows.polySumsRow.wrapper Rows.polySumsRow.mainSum := by unfold Func.isWrapper; first | (rw [if_pos (by decide +kernel)]; kernel_rfl) | (rw [if_neg (by decide +kernel)]; exact ⟨rfl, rfl⟩)
theorem polySums_facts : joinedFacts Tryz.pinned.checked.prog 11 Tryz.f11 (OpenSpec.ofChange Rows.polySumsSpec).bare Rows.polySumsRow = true := by
  unfold joinedFacts
  exact (and_t (and_t (and_t (and_t (and_t (and_t (and_t (and_t (and_t (and_t (and_t (and_t (and_t (and_t (and_t (and_t (and_t (and_t (and_t (and_t (and_t (and_t (and_t (and_t (and_t (and_t (and_t (and_t (and_t (and_t (and_t (by kernel_rfl) polySums_laid) polySums_rowed) (by kernel_rfl)) (by kernel_rfl)) (by kernel_rfl)) (by kernel_rfl)) (by kernel_rfl)) (by kernel_rfl)) polySums_inPlace) polySums_unfol) polySums_rec) polySums_named) (by kernel_rfl)) (by kernel_rfl)) (by kernel_rfl)) (by kernel_rfl)) (by kernel_rfl)) (by kernel_rfl)) (by kernel_rfl)) (by kernel_rfl)) (by kernel_rfl)) (by kernel_rfl)) (by kernel_rfl)) polySums_heard) polySums_enter) polySums_lifts) (by kernel_rfl)) (by kernel_rfl)) (by kernel_rfl)) (by kernel_rfl)) (by kernel_rfl))
end Go.Proofs.YtjfpcjnopbfekaaGreatDoor
