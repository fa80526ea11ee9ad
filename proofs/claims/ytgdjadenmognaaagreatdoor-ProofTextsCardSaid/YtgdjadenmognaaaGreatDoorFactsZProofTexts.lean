/- Facts, reckoned singly. -/
import Derived.KernelRfl
import Derived.JoinedOf
import Derived.SevenTiedAt
import Derived.Test.YtgdjadenmognaaaGreatDoorRows
import Derived.Test.YtgdjadenmognaaaGreatDoorFactsAProofTexts
import Derived.Test.YtgdjadenmognaaaGreatDoorFactsBProofTexts
import Derived.Test.YtgdjadenmognaaaGreatDoorFactsCProofTexts
import Derived.Test.YtgdjadenmognaaaGreatDoorFactsDProofTexts
import Derived.Test.YtgdjadenmognaaaGreatDoorFactsEProofTexts
import Derived.Test.YtgdjadenmognaaaGreatDoorFactsFProofTexts
import Derived.Test.YtgdjadenmognaaaGreatDoorFactsGProofTexts
namespace Go.Proofs.YtgdjadenmognaaaGreatDoor
open Go.ChangeShapes Go.WideShapes
theorem and_t {a b : Bool} (ha : a = true) (hb : b = true) : (a && b) = true := by rw [ha, hb]; rfl
theorem proofTexts_facts : joinedFacts Tryz.pinned.checked.prog 3 Tryz.f3 (OpenSpec.ofChange Rows.proofTextsSpec).bare Rows.proofTextsRow = true := by
  unfold joinedFacts
  exact (and_t (and_t (and_t (and_t (and_t (and_t (and_t (and_t (and_t (and_t (and_t (and_t (and_t (and_t (and_t (and_t (and_t (and_t (and_t (and_t (and_t (and_t (and_t (and_t (and_t (and_t (and_t (and_t (and_t (and_t (and_t (by kernel_rfl) proofTexts_laid) proofTexts_rowed) (by kernel_rfl)) (by kernel_rfl)) (by kernel_rfl)) (by kernel_rfl)) (by kernel_rfl)) (by kernel_rfl)) proofTexts_inPlace) proofTexts_unfol) proofTexts_rec) proofTexts_named) (by kernel_rfl)) (by kernel_rfl)) (by kernel_rfl)) (by kernel_rfl)) (by kernel_rfl)) (by kernel_rfl)) (by kernel_rfl)) (by kernel_rfl)) (by kernel_rfl)) (by kernel_rfl)) (by kernel_rfl)) proofTexts_heard) proofTexts_enter) proofTexts_lifts) (by kernel_rfl)) (by kernel_rfl)) (by kernel_rfl)) (by kernel_rfl)) (by kernel_rfl))
end Go.Proofs.YtgdjadenmognaaaGreatDoor
