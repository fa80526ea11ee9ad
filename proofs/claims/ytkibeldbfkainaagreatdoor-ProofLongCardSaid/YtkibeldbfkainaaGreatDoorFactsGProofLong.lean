/- Facts, reckoned singly. -/
import Derived.KernelRfl
import Derived.JoinedOf
import Derived.SevenTiedAt
import Derived.Test.YtkibeldbfkainaaGreatDoorRows
namespace Go.Proofs.YtkibeldbfkainaaGreatDoor
open Go.ChangeShapes Go.WideShapes
theorem goes0 : Tryz.pinned.checked.prog.funcs.any Func.goes = false := by kernel_rfl
theorem goes1 (f : FuncId) : Tryz.pinned.checked.prog.goes f = false := by
  have h : ∀ g : Nat, (Tryz.pinned.checked.prog.funcs[g]?).any Func.goes = false := fun g => by
    cases hg : Tryz.pinned.checked.prog.funcs[g]? with
    | none => rfl
    | some fn =>
      have h0 := goes0
      rw [Array.any_eq_false] at h0
      obtain ⟨hi, rfl⟩ := Array.getElem?_eq_some_iff.1 hg
      exact Bool.eq_false_iff.2 (h0 g hi)
  unfold Program.goes
  rw [goes0, Bool.and_false, Bool.or_false]
  exact List.any_eq_false.2 fun g _ hh => by rw [h g] at hh; cases hh
theorem goes2 (P : Program) (h : ∀ f, P.goes f = false) (st : Start) (n : String) : false = P.goesAt st n := by
  unfold Program.goesAt Program.goesFrom
  have h1 : (P.funcNamed n).any P.goes = false := by
    cases P.funcNamed n with
    | none => rfl
    | some f => exact h f
  have h2 : P.inits.toList.any P.goes = false := List.any_eq_false.2 fun f _ hh => by rw [h f] at hh; cases hh
  rw [h1]
  cases st <;> first | rfl | (exact h2.symm)
theorem proofLong_goes : false = Rows.proofLongRow.goesBy Tryz.pinned.checked.prog := goes2 _ goes1 _ _
theorem proofLong_lifts : (Rows.proofLongRow.lifted == Tryz.pinned.checked.prog.liftsFinal) = true := by kernel_rfl
theorem proofLong_wf : Rows.proofLongRow.wfByText (OpenSpec.ofChange Rows.proofLongSpec) = true := by kernel_rfl
theorem proofLong_wrap : Func.isWrapper Tryz.pinned.checked.prog Tryz.f3 Rows.proofLongRow.wrapper Rows.proofLongRow.mainSum := by unfold Func.isWrapper; first | (rw [if_pos (by decide +kernel)]; kernel_rfl) | (rw [if_neg (by decide +kernel)]; exact ⟨rfl, rfl⟩)
end Go.Proofs.YtkibeldbfkainaaGreatDoor
