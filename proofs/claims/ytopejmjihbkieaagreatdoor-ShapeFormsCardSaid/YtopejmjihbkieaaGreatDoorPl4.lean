/- PLAIN LAWS: equality, element variables, binds. -/
import Derived.Test.YtopejmjihbkieaaGreatDoorPl3
import Derived.Lib.SlTrimSet
set_option linter.unusedSimpArgs false
set_option linter.unusedVariables false
namespace Go.Proofs.YtopejmjihbkieaaGreatDoor
open Go.Ab Go.Sh
theorem cnt_three {body : Nat → Unit → Option (Stp Unit Unit Int)} {fin : Nat → Unit → Unit} (m : Nat) (E : Nat → Prop) : ∀ (k i : Nat) (u : Unit), (∀ j u, i ≤ j → j < i + k → (j < m ∧ E j ∧ body j u = some (.go ())) ∨ (j < m ∧ ¬ E j ∧ ∃ x, x ≠ 0 ∧ body j u = some (.ret x)) ∨ (m ≤ j ∧ body j u = some (.brk ()))) →
    (cnt body fin k i u = some (.brk ()) ∧ ∀ j, i ≤ j → j < i + k → j < m → E j) ∨ (∃ x, x ≠ 0 ∧ cnt body fin k i u = some (.ret x) ∧ ∃ j, i ≤ j ∧ j < i + k ∧ j < m ∧ ¬ E j)
  | 0, i, u, h => .inl ⟨rfl, fun j h1 h2 => by omega⟩
  | k + 1, i, u, h => by
    rcases h i u (Nat.le_refl _) (by omega) with ⟨h1, h2, h3⟩ | ⟨h1, h2, x, h3, h4⟩ | ⟨h1, h2⟩
    · rcases cnt_three m E k (i + 1) () (fun j u h1 h2 => h j u (by omega) (by omega)) with ⟨e, ha⟩ | ⟨x, hx, e, j, j1, j2, j3, j4⟩
      · refine .inl ⟨by simp only [cnt, h3, Option.bind_some, stp]; exact e, fun j j1 j2 j3 => ?_⟩
        by_cases hj : j = i
        · subst hj; exact h2
        · exact ha j (by omega) (by omega) j3
      · exact .inr ⟨x, hx, by simp only [cnt, h3, Option.bind_some, stp]; exact e, j, by omega, by omega, j3, j4⟩
    · exact .inr ⟨x, h3, by simp only [cnt, h4, Option.bind_some, stp], i, Nat.le_refl _, by omega, h1, h2⟩
    · exact .inl ⟨by simp only [cnt, h2, Option.bind_some, stp], fun j j1 j2 j3 => by omega⟩
theorem ext_getD {α : Type} (d : α) {x y : List α} (hl : x.length = y.length) (h : ∀ j, j < x.length → x.getD j d = y.getD j d) : x = y := by
  refine List.ext_getElem hl fun j h1 h2 => ?_
  have := h j h1
  simpa [List.getD_eq_getElem?_getD, List.getElem?_eq_getElem h1, List.getElem?_eq_getElem h2] using this
theorem all_eq {α : Type} [DecidableEq α] (d : α) {x y : List α} (hl : x.length = y.length) : (List.range' 0 (x.length - 0)).all (fun j => decide (x.getD j d = y.getD j d)) = decide (x = y) := by
  rw [Bool.eq_iff_iff]
  simp only [List.all_eq_true, decide_eq_true_eq, List.mem_range'_1]
  exact ⟨fun h => ext_getD d hl fun j hj => h j ⟨by omega, by omega⟩, fun h j _ => by rw [h]⟩
theorem len_eq {a b : Nat} : (((a : Nat) : Int) == ((b : Nat) : Int)) = decide (a = b) := by
  rw [Bool.eq_iff_iff]; simp only [beq_iff_eq, decide_eq_true_eq]; omega
theorem coef_beq (x y : Coef) : ((x.Var == y.Var) && ((x.C == y.C) && true)) = decide (x = y) := by
  cases x; cases y
  rw [Bool.eq_iff_iff]; simp
theorem slices_Equal_eq (x y : List Coef) : slices_Equal_api_Coef x y = some (decide (x = y)) := by
  unfold slices_Equal_api_Coef
  rw [len_eq]
  by_cases h : x.length = y.length
  · rw [decide_eq_true h]
    simp only [cond_true]
    rw [cnt_all (fun j => decide (x.getD j ⟨[], 0⟩ = y.getD j ⟨[], 0⟩)) _ _ () (fun j u _ hj => by
      rw [grd_pos (by omega), coef_beq]
      cases decide (x.getD j ⟨[], 0⟩ = y.getD j ⟨[], 0⟩) <;> rfl), aft_bif, all_eq ⟨[], 0⟩ h]
    cases decide (x = y) <;> rfl
  · rw [decide_eq_false h, decide_eq_false (fun e => h (by rw [e]))]; rfl
theorem shape_same_eq (x y : Linear) : shape_same x y = some (decide (x = y)) := by
  unfold shape_same
  rw [slices_Equal_eq]
  cases x with | mk a s => cases y with | mk b t =>
  by_cases h : a = b
  · subst h
    simp
  · have : (a == b) = false := by simpa using h
    simp only
    rw [this, decide_eq_false (p := Linear.mk a s = Linear.mk b t) (fun e => h (by simp only [Linear.mk.injEq] at e; exact e.1))]; rfl
theorem shape_EqualF (x y : List Linear) : slices_EqualFunc_api_Linear x y = some (decide (x = y)) := by
  unfold slices_EqualFunc_api_Linear
  rw [len_eq]
  by_cases h : x.length = y.length
  · rw [decide_eq_true h]
    simp only [cond_true]
    rw [cnt_all (fun j => decide (x.getD j ⟨0, []⟩ = y.getD j ⟨0, []⟩)) _ _ () (fun j u _ hj => by
      rw [grd_pos (by omega), eta_L, eta_L, shape_same_eq]
      simp only [Option.bind_some]
      cases decide (x.getD j ⟨0, []⟩ = y.getD j ⟨0, []⟩) <;> rfl), aft_bif, all_eq ⟨0, []⟩ h]
    cases decide (x = y) <;> rfl
  · rw [decide_eq_false h, decide_eq_false (fun e => h (by rw [e]))]; rfl
theorem shape_Equal_eq (x y : Shape) : shape_Equal x y = some (decide (x = y)) := by
  unfold shape_Equal
  rw [shape_EqualF]
  cases x with | mk a s => cases y with | mk b t =>
  by_cases h : a = b
  · subst h
    simp
  · have : (a == b) = false := by simpa using h
    simp only
    rw [this, decide_eq_false (p := Shape.mk a s = Shape.mk b t) (fun e => h (by simp only [Shape.mk.injEq] at e; exact e.1))]; rfl
theorem ref04_Equal_eq (x y : Linear) : ref04_Equal x y = some (decide (x = y)) := by
  unfold ref04_Equal ref04_Compare
  have key := cnt_three (fin := fun _ _ => ()) (body := fun i147 s146 =>
    bif decide (((i147 : Nat) : Int) < ((y.Terms.length : Nat) : Int)) then (
      ((
        bif (Op.bytesLess ((x.Terms.getD i147 ⟨[], 0⟩).Var) ((y.Terms.getD i147 ⟨[], 0⟩).Var)) then (
          some (.ret (.ret (-1)))
        ) else (
          bif (((x.Terms.getD i147 ⟨[], 0⟩).Var) == ((y.Terms.getD i147 ⟨[], 0⟩).Var)) then (
            bif decide (((x.Terms.getD i147 ⟨[], 0⟩).C) < ((y.Terms.getD i147 ⟨[], 0⟩).C)) then (
              some (.ret (.ret (-1)))
            ) else (
              bif ((((x.Terms.getD i147 ⟨[], 0⟩).Var) == ((y.Terms.getD i147 ⟨[], 0⟩).Var)) && ((((x.Terms.getD i147 ⟨[], 0⟩).C) == ((y.Terms.getD i147 ⟨[], 0⟩).C)) && true)) then (
                some (.brk ())
              ) else (
                some (.ret (.ret 1))
              )
            )
          ) else (
            bif ((((x.Terms.getD i147 ⟨[], 0⟩).Var) == ((y.Terms.getD i147 ⟨[], 0⟩).Var)) && ((((x.Terms.getD i147 ⟨[], 0⟩).C) == ((y.Terms.getD i147 ⟨[], 0⟩).C)) && true)) then (
              some (.brk ())
            ) else (
              some (.ret (.ret 1))
            )
          )
        )
      ) : Option (Out Unit (Stp Unit Unit Int))).bind (Sh.aft fun u274 =>
        some (.go ())
      )
    ) else (
      some (.brk ())
    )) y.Terms.length (fun j => x.Terms.getD j ⟨[], 0⟩ = y.Terms.getD j ⟨[], 0⟩) (x.Terms.length - 0) 0 () (fun j u _ _ => by
      by_cases hj : j < y.Terms.length
      · rw [decide_eq_true (show ((j : Nat) : Int) < ((y.Terms.length : Nat) : Int) by omega), coef_beq]
        generalize x.Terms.getD j ⟨[], 0⟩ = a
        generalize y.Terms.getD j ⟨[], 0⟩ = b
        by_cases hab : a = b
        · subst hab
          refine .inl ⟨hj, rfl, ?_⟩
          have h1 : Op.bytesLess a.Var a.Var = false := by
            have : ∀ l : Str, Op.bytesLess l l = false := by
              intro l
              induction l with
              | nil => rfl
              | cons x l ih => simp [Op.bytesLess, ih]
            exact this _
          rw [h1]
          simp [Sh.aft]
        · refine .inr (.inl ⟨hj, hab, ?_⟩)
          rw [decide_eq_false hab]
          cases Op.bytesLess a.Var b.Var with
          | true => exact ⟨-1, by decide, rfl⟩
          | false =>
            cases hv : a.Var == b.Var with
            | true =>
              cases decide (a.C < b.C) with
              | true => exact ⟨-1, by decide, rfl⟩
              | false => exact ⟨1, by decide, rfl⟩
            | false => exact ⟨1, by decide, rfl⟩
      · rw [decide_eq_false (show ¬ ((j : Nat) : Int) < ((y.Terms.length : Nat) : Int) by omega)]
        exact .inr (.inr ⟨by omega, rfl⟩))
  rcases key with ⟨e, ha⟩ | ⟨r, hr, e, j, _, j2, j3, j4⟩
  · rw [e]
    simp only [Option.bind_some, Sh.aft]
    rw [len_eq]
    cases x with | mk a s => cases y with | mk b t =>
    simp only at ha ⊢
    by_cases hl : s.length = t.length
    · have hst : s = t := ext_getD ⟨[], 0⟩ hl fun j hj => ha j (by omega) (by omega) (by omega)
      subst hst
      rw [decide_eq_false (show ¬ ((s.length : Nat) : Int) < ((s.length : Nat) : Int) by omega), decide_eq_true (rfl : s.length = s.length)]
      simp only [cond_true, cond_false]
      by_cases h1 : a < b
      · rw [decide_eq_true h1]
        have : ¬ a = b := by omega
        simp [this]
      · rw [decide_eq_false h1]
        by_cases h2 : a > b
        · rw [decide_eq_true h2]
          have : ¬ a = b := by omega
          simp [this]
        · rw [decide_eq_false h2]
          have : a = b := by omega
          simp [this]
    · rw [decide_eq_false hl]
      have hne : ¬ (Linear.mk a s = Linear.mk b t) := fun e => hl (by simp at e; rw [e.2])
      rw [decide_eq_false hne]
      by_cases h1 : s.length < t.length
      · rw [decide_eq_true (show ((s.length : Nat) : Int) < ((t.length : Nat) : Int) by omega)]; rfl
      · rw [decide_eq_false (show ¬ ((s.length : Nat) : Int) < ((t.length : Nat) : Int) by omega), decide_eq_true (show ((s.length : Nat) : Int) > ((t.length : Nat) : Int) by omega)]; rfl
  · rw [e]
    simp only [Option.bind_some, Sh.aft]
    have hne : ¬ (x = y) := fun e => j4 (by rw [e])
    rw [decide_eq_false hne]
    simpa using hr
theorem ref11_Equal_eq (x y : Shape) : ref11_Equal x y = some (decide (x = y)) := by
  unfold ref11_Equal
  cases x with | mk a s => cases y with | mk b t =>
  simp only
  rw [len_eq]
  by_cases h : a = b
  · subst h
    simp only [beq_self_eq_true, cond_true]
    by_cases hl : s.length = t.length
    · rw [decide_eq_true hl]
      simp only [cond_true]
      rw [cnt_all (fun j => decide (s.getD j ⟨0, []⟩ = t.getD j ⟨0, []⟩)) _ _ () (fun j u _ hj => by
        rw [grd_pos (by omega), eta_L, eta_L, ref04_Equal_eq]
        simp only [Option.bind_some]
        cases decide (s.getD j ⟨0, []⟩ = t.getD j ⟨0, []⟩) <;> rfl), aft_bif, all_eq ⟨0, []⟩ hl]
      have : decide (Shape.mk a s = Shape.mk a t) = decide (s = t) := by rw [decide_eq_decide]; simp
      rw [this]
      cases decide (s = t) <;> rfl
    · rw [decide_eq_false hl, decide_eq_false (p := Shape.mk a s = Shape.mk a t) (fun e => hl (by simp only [Shape.mk.injEq] at e; rw [e.2]))]; rfl
  · have : (a == b) = false := by simpa using h
    rw [this, decide_eq_false (p := Shape.mk a s = Shape.mk b t) (fun e => h (by simp only [Shape.mk.injEq] at e; exact e.1))]; rfl

/-! ### element variables -/
def elemS : Str → Bool
  | [] => false
  | c :: r => decide (r.length ≤ 29) && ((decide (65 ≤ c.toNat) && decide (c.toNat ≤ 90)) && r.all isDig)
theorem ref11_ElemVar_eq (s : Str) : ref11_ElemVar s = some (elemS s) := by
  unfold ref11_ElemVar
  rw [cnt_all (fun j => isDig (s.getD j 0)) _ _ () (fun j u _ _ => by
    simp only [isDig]
    generalize s.getD j 0 = x
    by_cases h2 : (x.toNat : Int) < 48
    · rw [decide_eq_true h2, decide_eq_false (show ¬ 48 ≤ x.toNat by omega)]; rfl
    · rw [decide_eq_false h2, decide_eq_true (show 48 ≤ x.toNat by omega)]
      by_cases h3 : (x.toNat : Int) > 57
      · rw [decide_eq_true h3, decide_eq_false (show ¬ x.toNat ≤ 57 by omega)]; rfl
      · rw [decide_eq_false h3, decide_eq_true (show x.toNat ≤ 57 by omega)]; rfl), aft_bif, all_getD isDig 0 s 1]
  cases s with
  | nil => rfl
  | cons c r =>
    simp only [List.drop_succ_cons, List.drop_zero, elemS]
    rw [decide_eq_true (by simp; omega : (((c :: r).length : Nat) : Int) ≥ 1)]
    simp only [cond_true]
    by_cases h29 : r.length ≤ 29
    · rw [decide_eq_true (by simp; omega : (((c :: r).length : Nat) : Int) ≤ 30), decide_eq_true h29, grd_pos (by simp)]
      simp only [cond_true, Bool.true_and, List.getD_cons_zero]
      by_cases h65 : 65 ≤ c.toNat
      · rw [decide_eq_true (show (c.toNat : Int) ≥ 65 by omega), decide_eq_true h65]
        have : decide ((c.toNat : Int) ≤ 90) = decide (c.toNat ≤ 90) := by rw [decide_eq_decide]; omega
        rw [this]
        cases r.all isDig <;> cases decide (c.toNat ≤ 90) <;> rfl
      · rw [decide_eq_false (show ¬ (c.toNat : Int) ≥ 65 by omega), decide_eq_false h65]
        cases r.all isDig <;> rfl
    · rw [decide_eq_false (by simp; omega : ¬ (((c :: r).length : Nat) : Int) ≤ 30), decide_eq_false h29]
      cases r.all isDig <;> rfl
theorem dropWhile_nil {α : Type} (p : α → Bool) : ∀ l : List α, (l.dropWhile p = []) ↔ l.all p = true
  | [] => by simp
  | x :: l => by
    simp only [List.dropWhile_cons, List.all_cons, Bool.and_eq_true]
    cases hp : p x
    · simp
    · simp [dropWhile_nil p l]
theorem dropWhile_head {α : Type} (p : α → Bool) : ∀ (l : List α) {x : α} {r : List α}, l.dropWhile p = x :: r → p x = false
  | [], x, r, h => by simp at h
  | y :: l, x, r, h => by
    simp only [List.dropWhile_cons] at h
    cases hp : p y
    · rw [hp] at h; simp at h; rw [← h.1]; exact hp
    · rw [hp] at h; simp at h; exact dropWhile_head p l h
theorem trim_nil (l cs : Str) : (Lib.trimS l cs = []) ↔ l.all cs.contains = true := by
  unfold Lib.trimS Lib.trimLeftS Lib.trimRightS
  rw [dropWhile_nil]
  constructor
  · intro h
    cases hd : l.reverse.dropWhile (cs.contains ·) with
    | nil =>
      have := (dropWhile_nil (cs.contains ·) l.reverse).1 hd
      simpa using this
    | cons x r =>
      have h1 := dropWhile_head _ _ hd
      rw [hd] at h
      simp only [List.all_reverse, List.all_cons, Bool.and_eq_true] at h
      have h2 := h.1
      rw [h2] at h1; cases h1
  · intro h
    have : l.reverse.dropWhile (cs.contains ·) = [] := (dropWhile_nil (cs.contains ·) l.reverse).2 (by simpa using h)
    rw [this]; rfl
theorem digits_contains (b : UInt8) : ([48, 49, 50, 51, 52, 53, 54, 55, 56, 57] : Str).contains b = isDig b := by
  rw [Bool.eq_iff_iff]
  simp only [List.contains_iff_mem, List.mem_cons, List.mem_nil_iff, or_false, isDig, Bool.and_eq_true, decide_eq_true_eq, ← UInt8.toNat_inj]
  have : (48 : UInt8).toNat = 48 ∧ (49 : UInt8).toNat = 49 ∧ (50 : UInt8).toNat = 50 ∧ (51 : UInt8).toNat = 51 ∧ (52 : UInt8).toNat = 52 ∧ (53 : UInt8).toNat = 53 ∧ (54 : UInt8).toNat = 54 ∧ (55 : UInt8).toNat = 55 ∧ (56 : UInt8).toNat = 56 ∧ (57 : UInt8).toNat = 57 := by decide
  omega
theorem shape_ElemVar_eq (s : Str) : shape_ElemVar s = some (elemS s) := by
  unfold shape_ElemVar
  cases s with
  | nil => rfl
  | cons c r =>
    rw [decide_eq_false (by simp; omega : ¬ (((c :: r).length : Nat) : Int) < 1)]
    simp only [cond_false, elemS]
    by_cases h29 : r.length ≤ 29
    · rw [decide_eq_false (by simp; omega : ¬ (((c :: r).length : Nat) : Int) > 30), decide_eq_true h29, grd_pos (by simp)]
      simp only [cond_false, Bool.true_and, List.getD_cons_zero]
      by_cases h65 : 65 ≤ c.toNat
      · rw [decide_eq_false (show ¬ (c.toNat : Int) < 65 by omega), decide_eq_true h65]
        by_cases h90 : c.toNat ≤ 90
        · rw [decide_eq_false (show ¬ (c.toNat : Int) > 90 by omega), decide_eq_true h90, grd_pos (by simp)]
          simp only [cond_false, Bool.true_and, List.drop_succ_cons, List.drop_zero, lib_Trim]
          rw [grd_pos (by decide)]
          simp only [Option.bind_some, Option.some.injEq]
          have hc : (([48, 49, 50, 51, 52, 53, 54, 55, 56, 57] : Str).contains) = isDig := funext digits_contains
          rw [Bool.eq_iff_iff, beq_iff_eq, trim_nil, hc]
        · rw [decide_eq_true (show (c.toNat : Int) > 90 by omega), decide_eq_false h90]; rfl
      · rw [decide_eq_true (show (c.toNat : Int) < 65 by omega), decide_eq_false h65]; rfl
    · rw [decide_eq_true (by simp; omega : (((c :: r).length : Nat) : Int) > 30), decide_eq_false h29]; rfl
end Go.Proofs.YtopejmjihbkieaaGreatDoor
