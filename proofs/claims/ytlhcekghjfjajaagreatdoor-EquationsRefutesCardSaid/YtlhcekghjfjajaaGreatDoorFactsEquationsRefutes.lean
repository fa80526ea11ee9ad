/- Facts of the program and of the row, each reckoned by itself. -/
import Derived.KernelRfl
import Derived.JoinedOf
import Derived.SevenTiedAt
import Derived.Test.YtlhcekghjfjajaaGreatDoorRows
namespace Go.Proofs.YtlhcekghjfjajaaGreatDoor
open Go.ChangeShapes Go.WideShapes
theorem and_t {a b : Bool} (ha : a = true) (hb : b = true) : (a && b) = true := by rw [ha, hb]; rfl
theorem equationsRefutes_laid : laidOutB Tryz.pinned.checked.prog = true := by kernel_rfl
theorem equationsRefutes_rowed : mapsRowed Tryz.pinned.checked.prog = true := by kernel_rfl
theorem equationsRefutes_inPlace : (Rows.equationsRefutesRow.inPlace == Tryz.pinned.checked.prog.inPlace 5) = true := by kernel_rfl
theorem equationsRefutes_unfol : (Rows.equationsRefutesRow.unfollowed == Tryz.pinned.checked.prog.unfollowed 5) = true := by kernel_rfl
theorem equationsRefutes_rec : (Rows.equationsRefutesRow.recurses == Tryz.pinned.checked.prog.recurses 5) = true := by kernel_rfl
theorem equationsRefutes_named : (Rows.equationsRefutesRow.named == Tryz.pinned.checked.prog.varsNamed 5) = true := by kernel_rfl
theorem equationsRefutes_heard : Tryz.pinned.checked.prog.stopsHeard = true := by kernel_rfl
theorem equationsRefutes_enter : Tryz.pinned.checked.prog.mayEnter = true := by kernel_rfl
theorem equationsRefutes_lifts : (Rows.equationsRefutesRow.lifted == Tryz.pinned.checked.prog.liftsFinal) = true := by kernel_rfl
theorem equationsRefutes_goes : false = Rows.equationsRefutesRow.goesBy Tryz.pinned.checked.prog := by kernel_rfl
theorem equationsRefutes_wf : Rows.equationsRefutesRow.wfByText (OpenSpec.ofChange Rows.equationsRefutesSpec) = true := by kernel_rfl
theorem equationsRefutes_wrap : Func.isWrapper Tryz.pinned.checked.prog Tryz.f5 Rows.equationsRefutesRow.wrapper Rows.equationsRefutesRow.mainSum := by unfold Func.isWrapper; first | (rw [if_pos (by decide +kernel)]; kernel_rfl) | (rw [if_neg (by decide +kernel)]; exact ⟨rfl, rfl⟩)
theorem equationsRefutes_facts : joinedFacts Tryz.pinned.checked.prog 5 Tryz.f5 (OpenSpec.ofChange Rows.equationsRefutesSpec).bare Rows.equationsRefutesRow = true := by
  unfold joinedFacts
  exact (and_t (and_t (and_t (and_t (and_t (and_t (and_t (and_t (and_t (and_t (and_t (and_t (and_t (and_t (and_t (and_t (and_t (and_t (and_t (and_t (and_t (and_t (and_t (and_t (and_t (and_t (and_t (and_t (and_t (and_t (and_t (by kernel_rfl) equationsRefutes_laid) equationsRefutes_rowed) (by kernel_rfl)) (by kernel_rfl)) (by kernel_rfl)) (by kernel_rfl)) (by kernel_rfl)) (by kernel_rfl)) equationsRefutes_inPlace) equationsRefutes_unfol) equationsRefutes_rec) equationsRefutes_named) (by kernel_rfl)) (by kernel_rfl)) (by kernel_rfl)) (by kernel_rfl)) (by kernel_rfl)) (by kernel_rfl)) (by kernel_rfl)) (by kernel_rfl)) (by kernel_rfl)) (by kernel_rfl)) (by kernel_rfl)) equationsRefutes_heard) equationsRefutes_enter) equationsRefutes_lifts) (by kernel_rfl)) (by kernel_rfl)) (by kernel_rfl)) (by kernel_rfl)) (by kernel_rfl))
end Go.Proofs.YtlhcekghjfjajaaGreatDoor
