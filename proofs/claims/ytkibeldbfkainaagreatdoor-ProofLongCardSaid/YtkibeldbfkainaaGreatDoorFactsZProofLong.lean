/- Facts, reckoned singly. -/
import Derived.KernelRfl
import Derived.JoinedOf
import Derived.SevenTiedAt
import Derived.Test.YtkibeldbfkainaaGreatDoorRows
import Derived.Test.YtkibeldbfkainaaGreatDoorFactsAProofLong
import Derived.Test.YtkibeldbfkainaaGreatDoorFactsBProofLong
import Derived.Test.YtkibeldbfkainaaGreatDoorFactsCProofLong
import Derived.Test.YtkibeldbfkainaaGreatDoorFactsDProofLong
import Derived.Test.YtkibeldbfkainaaGreatDoorFactsEProofLong
import Derived.Test.YtkibeldbfkainaaGreatDoorFactsFProofLong
import Derived.Test.YtkibeldbfkainaaGreatDoorFactsGProofLong
namespace Go.Proofs.YtkibeldbfkainaaGreatDoor
open Go.ChangeShapes Go.WideShapes
theorem and_t {a b : Bool} (ha : a = true) (hb : b = true) : (a && b) = true := by rw [ha, hb]; rfl
theorem proofLong_facts : joinedFacts Tryz.pinned.checked.prog 3 Tryz.f3 (OpenSpec.ofChange Rows.proofLongSpec).bare Rows.proofLongRow = true := by
  unfold joinedFacts
  exact (and_t (and_t (and_t (and_t (and_t (and_t (and_t (and_t (and_t (and_t (and_t (and_t (and_t (and_t (and_t (and_t (and_t (and_t (and_t (and_t (and_t (and_t (and_t (and_t (and_t (and_t (and_t (and_t (and_t (and_t (and_t (by kernel_rfl) proofLong_laid) proofLong_rowed) (by kernel_rfl)) (by kernel_rfl)) (by kernel_rfl)) (by kernel_rfl)) (by kernel_rfl)) (by kernel_rfl)) proofLong_inPlace) proofLong_unfol) proofLong_rec) proofLong_named) (by kernel_rfl)) (by kernel_rfl)) (by kernel_rfl)) (by kernel_rfl)) (by kernel_rfl)) (by kernel_rfl)) (by kernel_rfl)) (by kernel_rfl)) (by kernel_rfl)) (by kernel_rfl)) (by kernel_rfl)) proofLong_heard) proofLong_enter) proofLong_lifts) (by kernel_rfl)) (by kernel_rfl)) (by kernel_rfl)) (by kernel_rfl)) (by kernel_rfl))
end Go.Proofs.YtkibeldbfkainaaGreatDoor
