/- Facts, reckoned singly. -/
import Derived.KernelRfl
import Derived.JoinedOf
import Derived.SevenTiedAt
import Derived.Test.YtpfoahpiaanlaaaGreatDoorRows
import Derived.Test.YtpfoahpiaanlaaaGreatDoorFactsAFlatInferUpto
import Derived.Test.YtpfoahpiaanlaaaGreatDoorFactsBFlatInferUpto
import Derived.Test.YtpfoahpiaanlaaaGreatDoorFactsCFlatInferUpto
import Derived.Test.YtpfoahpiaanlaaaGreatDoorFactsDFlatInferUpto
import Derived.Test.YtpfoahpiaanlaaaGreatDoorFactsEFlatInferUpto
import Derived.Test.YtpfoahpiaanlaaaGreatDoorFactsFFlatInferUpto
import Derived.Test.YtpfoahpiaanlaaaGreatDoorFactsGFlatInferUpto
namespace Go.Proofs.YtpfoahpiaanlaaaGreatDoor
open Go.ChangeShapes Go.WideShapes
theorem and_t {a b : Bool} (ha : a = true) (hb : b = true) : (a && b) = true := by rw [ha, hb]; rfl
theorem flatInfer_facts : joinedFacts Tryz.pinned.checked.prog 3 Tryz.f3 (Rows.OpenSpec.upto Rows.flatInferSpec).bare Rows.flatInferUptoRow = true := by
  unfold joinedFacts
  exact (and_t (and_t (and_t (and_t (and_t (and_t (and_t (and_t (and_t (and_t (and_t (and_t (and_t (and_t (and_t (and_t (and_t (and_t (and_t (and_t (and_t (and_t (and_t (and_t (and_t (and_t (and_t (and_t (and_t (and_t (and_t (by kernel_rfl) flatInfer_laid) flatInfer_rowed) (by kernel_rfl)) (by kernel_rfl)) (by kernel_rfl)) (by kernel_rfl)) (by kernel_rfl)) (by kernel_rfl)) flatInfer_inPlace) flatInfer_unfol) flatInfer_rec) flatInfer_named) (by kernel_rfl)) (by kernel_rfl)) (by kernel_rfl)) (by kernel_rfl)) (by kernel_rfl)) (by kernel_rfl)) (by kernel_rfl)) (by kernel_rfl)) (by kernel_rfl)) (by kernel_rfl)) (by kernel_rfl)) flatInfer_heard) flatInfer_enter) flatInfer_lifts) (by kernel_rfl)) (by kernel_rfl)) (by kernel_rfl)) (by kernel_rfl)) (by kernel_rfl))
end Go.Proofs.YtpfoahpiaanlaaaGreatDoor
