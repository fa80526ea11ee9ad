/- PLAIN LAWS: validity. -/
import Derived.Test.YtopejmjihbkieaaGreatDoorPl2
set_option linter.unusedSimpArgs false
set_option linter.unusedVariables false
namespace Go.Proofs.YtopejmjihbkieaaGreatDoor
open Go.Ab Go.Sh
def inS (n : Int) : Bool := decide (-1000000 ≤ n) && decide (n ≤ 1000000)
theorem linear_in_eq (n : Int) : linear_in n = some (inS n) := by
  unfold linear_in inS
  by_cases h : n ≥ -1000000
  · rw [decide_eq_true h]; rfl
  · rw [decide_eq_false h]; rfl
theorem ref04_small_eq (n : Int) : ref04_small n = some (inS n) := by
  unfold ref04_small inS
  by_cases h : n ≥ -1000000
  · rw [decide_eq_true h]; rfl
  · rw [decide_eq_false h]; rfl
def tAt (l : Linear) (j : Nat) : Coef := l.Terms.getD j ⟨[], 0⟩
def validP (l : Linear) (j : Nat) : Bool := nameS (tAt l j).Var && (!((tAt l j).C == 0) && (inS (tAt l j).C && (!decide (((j : Nat) : Int) > 0) || Op.bytesLess (tAt l (j - 1)).Var (tAt l j).Var)))
def validL (l : Linear) : Bool := (List.range' 0 (l.Terms.length - 0)).all (validP l) && (inS l.Const && decide (l.Terms.length ≤ 12))
theorem w64_pred {j : Nat} (h : 0 < j) (h2 : j ≤ 9223372036854775807) : w64 (((j : Nat) : Int) - 1) = ((j - 1 : Nat) : Int) := by
  rw [w64_id (by unfold I64; omega)]; omega
theorem getD_le {l : List Coef} {n : Nat} (h : ∀ t ∈ l, t.Var.length ≤ n) (j : Nat) : (l.getD j ⟨[], 0⟩).Var.length ≤ n := by
  rw [List.getD_eq_getElem?_getD]
  cases h1 : l[j]? with
  | none => simp
  | some x => exact h x (List.mem_of_getElem? h1)
theorem linear_Valid_eq (l : Linear) (h1 : l.Terms.length ≤ 1000000) (h2 : ∀ t ∈ l.Terms, t.Var.length ≤ 1000000) : linear_Valid l = some (validL l) := by
  unfold linear_Valid
  rw [cnt_all (validP l) _ _ () (fun j u _ hj => by
    rw [linear_Name_eq _ (getD_le h2 j), linear_in_eq]
    simp only [validP, tAt, Option.bind_some]
    cases nameS (l.Terms.getD j ⟨[], 0⟩).Var
    · rfl
    · cases (l.Terms.getD j ⟨[], 0⟩).C == 0
      · cases inS (l.Terms.getD j ⟨[], 0⟩).C
        · rfl
        · by_cases hp : 0 < j
          · rw [decide_eq_true (show ((j : Nat) : Int) > 0 by omega), w64_pred hp (by omega)]
            rw [grd_pos (by omega)]
            simp only [Int.toNat_natCast, cond_true, cond_false, Bool.not_true, Bool.false_or, Bool.true_and, Bool.not_false]
            cases Op.bytesLess (l.Terms.getD (j - 1) ⟨[], 0⟩).Var (l.Terms.getD j ⟨[], 0⟩).Var <;> rfl
          · rw [decide_eq_false (show ¬ ((j : Nat) : Int) > 0 by omega)]; rfl
      · rfl), aft_bif, linear_in_eq]
  unfold validL
  cases (List.range' 0 (l.Terms.length - 0)).all (validP l)
  · rfl
  · cases inS l.Const
    · rfl
    · simp only [cond_true, Option.bind_some, Bool.true_and, Option.some.injEq]
      rw [decide_eq_decide]; omega
theorem ref04_Valid_eq (l : Linear) : ref04_Valid l = some (validL l) := by
  unfold ref04_Valid
  rw [ref04_small_eq]
  unfold validL
  by_cases h12 : l.Terms.length ≤ 12
  · rw [decide_eq_false (show ¬ ((l.Terms.length : Nat) : Int) > 12 by omega), decide_eq_true h12]
    rw [cnt_all (validP l) _ _ () (fun j u _ hj => by
      rw [ref04_Name_eq, ref04_small_eq]
      simp only [validP, tAt, Option.bind_some]
      cases nameS (l.Terms.getD j ⟨[], 0⟩).Var
      · rfl
      · cases (l.Terms.getD j ⟨[], 0⟩).C == 0
        · cases inS (l.Terms.getD j ⟨[], 0⟩).C
          · rfl
          · by_cases hp : 0 < j
            · rw [decide_eq_true (show ((j : Nat) : Int) > 0 by omega), w64_pred hp (by omega)]
              rw [grd_pos (by omega)]
              simp only [Int.toNat_natCast, cond_true, cond_false, Bool.not_true, Bool.false_or, Bool.true_and, Bool.not_false]
              cases Op.bytesLess (l.Terms.getD (j - 1) ⟨[], 0⟩).Var (l.Terms.getD j ⟨[], 0⟩).Var <;> rfl
            · rw [decide_eq_false (show ¬ ((j : Nat) : Int) > 0 by omega)]; rfl
        · rfl), aft_bif]
    cases (List.range' 0 (l.Terms.length - 0)).all (validP l) <;> cases inS l.Const <;> rfl
  · rw [decide_eq_true (show ((l.Terms.length : Nat) : Int) > 12 by omega), decide_eq_false h12]
    cases (List.range' 0 (l.Terms.length - 0)).all (validP l) <;> cases inS l.Const <;> rfl

/-! ### what is small -/
def fewT (l : Linear) : Bool := l.Terms.all (fun t => decide (t.Var.length ≤ 35)) && decide (l.Terms.length ≤ 14)
theorem dec_gt {a b : Nat} : decide (((a : Nat) : Int) > (b : Int)) = !decide (a ≤ b) := by
  by_cases h : a ≤ b
  · rw [decide_eq_true h, decide_eq_false (by omega)]; rfl
  · rw [decide_eq_false h, decide_eq_true (by omega)]; rfl
theorem dec_le {a b : Nat} : decide (((a : Nat) : Int) ≤ (b : Int)) = decide (a ≤ b) := by rw [decide_eq_decide]; omega
theorem ref11_fewLinear_eq (l : Linear) : ref11_fewLinear l = some (fewT l) := by
  unfold ref11_fewLinear
  rw [cnt_all (fun j => (fun (t : Coef) => decide (t.Var.length ≤ 35)) (l.Terms.getD j ⟨[], 0⟩)) _ _ () (fun j u _ _ => by
    rw [show (35 : Int) = ((35 : Nat) : Int) from rfl, dec_gt]
    simp only
    cases decide ((l.Terms.getD j ⟨[], 0⟩).Var.length ≤ 35) <;> rfl), aft_bif, all0 (fun (t : Coef) => decide (t.Var.length ≤ 35))]
  unfold fewT
  rw [show (14 : Int) = ((14 : Nat) : Int) from rfl, dec_le]
  cases l.Terms.all (fun t => decide (t.Var.length ≤ 35)) <;> rfl
def fewS (s : Shape) : Bool := s.Dims.all fewT && (decide (s.Dims.length ≤ 8) && decide (s.Row.length ≤ 35))
theorem eta_L (l : Linear) : Linear.mk l.Const l.Terms = l := rfl
theorem eta_S (s : Shape) : Shape.mk s.Row s.Dims = s := rfl
theorem ref11_Few_eq (s : Shape) : ref11_Few s = some (fewS s) := by
  unfold ref11_Few
  rw [cnt_all (fun j => fewT (s.Dims.getD j ⟨0, []⟩)) _ _ () (fun j u _ _ => by
    rw [eta_L, ref11_fewLinear_eq]
    simp only [Option.bind_some]
    cases fewT (s.Dims.getD j ⟨0, []⟩) <;> rfl), aft_bif, all0 fewT]
  unfold fewS
  rw [show (8 : Int) = ((8 : Nat) : Int) from rfl, dec_le, show (35 : Int) = ((35 : Nat) : Int) from rfl, dec_le]
  cases s.Dims.all fewT
  · rfl
  · cases decide (s.Dims.length ≤ 8) <;> rfl
def fewB (b : Bind) : Bool := decide (b.Var.length ≤ 35) && (decide (b.Elem.length ≤ 35) && (fewT b.Dim && fewS b.Row))
def fewBs (l : List Bind) : Bool := l.all fewB && decide (l.length ≤ 10)
theorem ref11_FewBinds_eq (l : List Bind) : ref11_FewBinds l = some (fewBs l) := by
  unfold ref11_FewBinds
  rw [cnt_all (fun j => fewB (l.getD j (⟨0, [], ⟨0, []⟩, ⟨[], []⟩, []⟩))) _ _ () (fun j u _ _ => by
    rw [eta_L, eta_S, ref11_fewLinear_eq, ref11_Few_eq]
    simp only [Option.bind_some, fewB]
    rw [show (35 : Int) = ((35 : Nat) : Int) from rfl, dec_gt, dec_gt]
    generalize l.getD j (⟨0, [], ⟨0, []⟩, ⟨[], []⟩, []⟩) = x
    cases decide (x.Var.length ≤ 35)
    · rfl
    · cases decide (x.Elem.length ≤ 35)
      · rfl
      · cases fewT x.Dim
        · rfl
        · cases fewS x.Row <;> rfl), aft_bif, all0 fewB]
  unfold fewBs
  rw [show (10 : Int) = ((10 : Nat) : Int) from rfl, dec_le]
  cases l.all fewB <;> rfl

/-! ### shapes -/
def validS (s : Shape) : Bool := s.Dims.all validL && (decide (s.Dims.length ≤ 6) && (s.Row.isEmpty || nameS s.Row))
theorem nil_beq (s : Str) : (s == []) = s.isEmpty := by cases s <;> rfl
theorem ref11_Valid_eq (s : Shape) : ref11_Valid s = some (validS s) := by
  unfold ref11_Valid
  rw [cnt_all (fun j => validL (s.Dims.getD j ⟨0, []⟩)) _ _ () (fun j u _ _ => by
    rw [eta_L, ref04_Valid_eq]
    simp only [Option.bind_some]
    cases validL (s.Dims.getD j ⟨0, []⟩) <;> rfl), aft_bif, all0 validL]
  unfold validS
  rw [show (6 : Int) = ((6 : Nat) : Int) from rfl, dec_le, nil_beq, ref04_Name_eq]
  cases s.Dims.all validL
  · rfl
  · cases decide (s.Dims.length ≤ 6)
    · rfl
    · cases s.Row.isEmpty <;> rfl
/-- What the program's functions ask for: no name too long. -/
def okL (l : Linear) : Prop := l.Terms.length ≤ 1000000 ∧ ∀ t ∈ l.Terms, t.Var.length ≤ 1000000
def okS (s : Shape) : Prop := s.Row.length ≤ 1000000 ∧ ∀ l ∈ s.Dims, okL l
theorem okL_few {l : Linear} (h : fewT l = true) : okL l := by
  simp only [fewT, Bool.and_eq_true, List.all_eq_true, decide_eq_true_eq] at h
  exact ⟨by omega, fun t ht => by have := h.1 t ht; omega⟩
theorem okS_few {s : Shape} (h : fewS s = true) : okS s := by
  simp only [fewS, Bool.and_eq_true, List.all_eq_true, decide_eq_true_eq] at h
  exact ⟨by omega, fun l hl => okL_few (h.1 l hl)⟩
theorem okL_getD {ls : List Linear} (h : ∀ l ∈ ls, okL l) (j : Nat) : okL (ls.getD j ⟨0, []⟩) := by
  rw [List.getD_eq_getElem?_getD]
  cases h1 : ls[j]? with
  | none => exact ⟨by simp, fun t ht => by simp at ht⟩
  | some x => exact h x (List.mem_of_getElem? h1)
theorem contains_bad (ls : List Linear) (h : ∀ l ∈ ls, okL l) : slices_ContainsFunc_api_Linear ls = some (!ls.all validL) := by
  unfold slices_ContainsFunc_api_Linear slices_IndexFunc_api_Linear
  rw [cnt_find (f := fun j => ((j : Nat) : Int)) (fun j => (fun l => !validL l) (ls.getD j ⟨0, []⟩)) _ _ () (fun j u _ _ => by
    rw [eta_L]
    unfold shape_Valid_1
    rw [linear_Valid_eq _ (okL_getD h j).1 (okL_getD h j).2]
    simp only [Option.bind_some]
    cases validL (ls.getD j ⟨0, []⟩) <;> rfl)]
  have hf := find_idx0 (fun l => !validL l) ⟨0, []⟩ ls
  have hn := idxOf_neg (fun l => !validL l) ls
  have e : ls.any (fun l => !validL l) = !ls.all validL := by simp [List.any_eq_not_all_not]
  rw [e] at hn
  generalize (List.range' 0 (ls.length - 0)).find? (fun j => (fun l => !validL l) (ls.getD j ⟨0, []⟩)) = x at hf
  cases x with
  | none =>
    simp only at hf
    have h1 : (!ls.all validL) = false := hn.1 (by omega)
    rw [h1]; rfl
  | some j =>
    simp only at hf
    have h1 : (!ls.all validL) = true := by
      cases hb : !ls.all validL
      · have := hn.2 hb; omega
      · rfl
    rw [h1]
    simp only [Option.bind_some, Sh.aft]
    rw [decide_eq_true (by omega : ((j : Nat) : Int) ≥ 0)]
theorem shape_Valid_eq (s : Shape) (h : okS s) : shape_Valid s = some (validS s) := by
  unfold shape_Valid validS
  rw [nil_beq, contains_bad _ h.2, linear_Name_eq _ h.1, show (6 : Int) = ((6 : Nat) : Int) from rfl, dec_le]
  cases s.Row.isEmpty <;> cases nameS s.Row <;> cases decide (s.Dims.length ≤ 6) <;> cases s.Dims.all validL <;> rfl
theorem shape_Rank_eq (s : Shape) (h : okS s) : shape_Rank s = ref11_Rank s := by
  unfold shape_Rank ref11_Rank
  rw [shape_Valid_eq s h, ref11_Valid_eq]
end Go.Proofs.YtopejmjihbkieaaGreatDoor
