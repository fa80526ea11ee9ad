/- PLAIN LAWS of layers 4 and 11: names, linear expressions, shapes. -/
import Derived.Test.YtopejmjihbkieaaGreatDoorWalkcForms
import Derived.Test.YtopejmjihbkieaaGreatDoorPl1
import Derived.Lib.AtoiAllCases
import Derived.Lib.ItoaLen
set_option linter.unusedSimpArgs false
set_option linter.unusedVariables false
namespace Go.Proofs.YtopejmjihbkieaaGreatDoor
open Go.Ab Go.Sh
theorem grd_pos {α : Type} {p : Prop} [Decidable p] {x : Option α} (h : p) : grd p x = x := if_pos h
theorem aft_bif {ε β : Type} {b : Bool} {e : ε} {r : β} {f : ε → Option β} : (some (bif b then Out.brk e else Out.ret r : Out ε β)).bind (aft f) = bif b then f e else some r := by cases b <;> rfl
theorem all_congr {p q : Nat → Bool} : ∀ (k i : Nat), (∀ j, i ≤ j → j < i + k → p j = q j) → (List.range' i k).all p = (List.range' i k).all q
  | 0, i, _ => rfl
  | k + 1, i, h => by
    rw [List.range'_succ, List.all_cons, List.all_cons, h i (Nat.le_refl _) (by omega), all_congr k (i + 1) (fun j h1 h2 => h j (by omega) (by omega))]
theorem u8_beq (c k : UInt8) (n : Int) (hk : (k.toNat : Int) = n) : ((c.toNat : Int) == n) = (c == k) := by
  rw [Bool.eq_iff_iff]
  simp only [beq_iff_eq, ← UInt8.toNat_inj]
  omega
theorem len_beq0 {α : Type} (l : List α) : (((l.length : Nat) : Int) == 0) = l.isEmpty := by
  cases l with
  | nil => rfl
  | cons x l => simp; omega
def isLet (b : UInt8) : Bool := decide (97 ≤ b.toNat) && decide (b.toNat ≤ 122)
theorem ref04_digit_eq (x : UInt8) : ref04_digit x = some (isDig x) := by
  unfold ref04_digit isDig
  by_cases h : 48 ≤ x.toNat
  · rw [decide_eq_true (show (x.toNat : Int) ≥ 48 by omega), decide_eq_true h]
    simp only [cond_true, Bool.true_and, Option.some.injEq]
    rw [decide_eq_decide]; omega
  · rw [decide_eq_false (show ¬ (x.toNat : Int) ≥ 48 by omega), decide_eq_false h]; rfl
theorem ref04_letter_eq (x : UInt8) : ref04_letter x = some (isLet x) := by
  unfold ref04_letter isLet
  by_cases h : 97 ≤ x.toNat
  · rw [decide_eq_true (show (x.toNat : Int) ≥ 97 by omega), decide_eq_true h]
    simp only [cond_true, Bool.true_and, Option.some.injEq]
    rw [decide_eq_decide]; omega
  · rw [decide_eq_false (show ¬ (x.toNat : Int) ≥ 97 by omega), decide_eq_false h]; rfl
/-- Is it a variable? -/
def nameS : Str → Bool
  | [] => false
  | c :: r => bif c == 95 then (decide (1 ≤ r.length) && (decide (r.length ≤ 9) && (!(r.getD 0 0 == 48) && r.all isDig))) else (decide (r.length ≤ 29) && (isLet c && r.all (fun b => isLet b || isDig b)))
theorem ref04_Name_eq (s : Str) : ref04_Name s = some (nameS s) := by
  cases s with
  | nil => rfl
  | cons c r =>
    unfold ref04_Name
    have e1 : ((((c :: r).length : Nat) : Int) == 0) = false := by simp; omega
    rw [e1]
    simp only [cond_false]
    have e95 : ((((c :: r).getD 0 0).toNat : Int) == 95) = (c == 95) := by rw [List.getD_cons_zero]; exact u8_beq c 95 95 rfl
    by_cases h30 : r.length ≤ 29
    · rw [decide_eq_false (show ¬ (((c :: r).length : Nat) : Int) > 30 by simp; omega)]
      simp only [cond_false]
      rw [grd_pos (by simp), e95]
      simp only [nameS]
      cases hc : c == 95 with
      | true =>
        simp only [cond_true]
        by_cases h1 : 1 ≤ r.length
        · rw [decide_eq_false (show ¬ (((c :: r).length : Nat) : Int) < 2 by simp; omega), decide_eq_true h1]
          simp only [cond_false, Bool.true_and]
          by_cases h9 : r.length ≤ 9
          · rw [decide_eq_false (show ¬ (((c :: r).length : Nat) : Int) > 10 by simp; omega), decide_eq_true h9]
            simp only [cond_false, Bool.true_and]
            rw [grd_pos (by simp; omega)]
            have e48 : ((((c :: r).getD 1 0).toNat : Int) == 48) = (r.getD 0 0 == 48) := by rw [List.getD_cons_succ]; exact u8_beq _ 48 48 rfl
            rw [e48]
            cases hd : r.getD 0 0 == 48 with
            | true => simp
            | false =>
              simp only [cond_false, Bool.not_false, Bool.true_and]
              rw [cnt_all (fun j => isDig ((c :: r).getD j 0)) _ _ () (fun j u _ _ => by rw [ref04_digit_eq]; cases isDig ((c :: r).getD j 0) <;> rfl), aft_bif, all_getD isDig 0 (c :: r) 1]
              simp only [List.drop_succ_cons, List.drop_zero]
              cases r.all isDig <;> rfl
          · rw [decide_eq_true (show (((c :: r).length : Nat) : Int) > 10 by simp; omega), decide_eq_false h9]; simp
        · rw [decide_eq_true (show (((c :: r).length : Nat) : Int) < 2 by simp; omega), decide_eq_false h1]; simp
      | false =>
        simp only [cond_false]
        rw [decide_eq_true h30]
        rw [cnt_all (fun j => isLet ((c :: r).getD j 0) || (!(((j : Nat) : Int) == 0) && isDig ((c :: r).getD j 0))) _ _ () (fun j u _ _ => by
          rw [ref04_letter_eq, ref04_digit_eq]
          cases isLet ((c :: r).getD j 0) <;> cases isDig ((c :: r).getD j 0) <;> cases ((j : Nat) : Int) == 0 <;> rfl), aft_bif]
        have e : (List.range' 0 ((c :: r).length - 0)).all (fun j => isLet ((c :: r).getD j 0) || (!(((j : Nat) : Int) == 0) && isDig ((c :: r).getD j 0))) = (isLet c && r.all (fun b => isLet b || isDig b)) := by
          rw [show (c :: r).length - 0 = r.length + 1 by simp, List.range'_succ, List.all_cons]
          have e0 : (isLet ((c :: r).getD 0 0) || (!(((0 : Nat) : Int) == 0) && isDig ((c :: r).getD 0 0))) = isLet c := by simp
          rw [e0]
          congr 1
          rw [all_congr (q := fun j => (fun b => isLet b || isDig b) ((c :: r).getD j 0)) _ _ (fun j h1 _ => by
            have : (((j : Nat) : Int) == 0) = false := by simp; omega
            simp only [this, Bool.not_false, Bool.true_and])]
          have := all_getD (fun b => isLet b || isDig b) 0 (c :: r) 1
          simpa using this
        rw [e]
        simp only [Bool.true_and]
        cases isLet c && r.all (fun b => isLet b || isDig b) <;> rfl
    · rw [decide_eq_true (show (((c :: r).length : Nat) : Int) > 30 by simp; omega)]
      simp only [cond_true, nameS]
      rw [decide_eq_false h30]
      have : ¬ r.length ≤ 9 := by omega
      rw [decide_eq_false this]
      cases c == 95 <;> simp
theorem strings_HasPrefix1 (s : Str) (c : UInt8) : strings_HasPrefix s [c] = some (match s with | [] => false | x :: _ => x == c) := by
  unfold strings_HasPrefix internal_stringslite_HasPrefix
  cases s with
  | nil => rfl
  | cons x l =>
    rw [decide_eq_true (by simp; omega)]
    simp only [cond_true]
    rw [grd_pos (by simp)]
    simp
theorem atoi_dig {r : Str} (h0 : r ≠ []) (h : r.all isDig = true) (hl : r.length ≤ 9) : Lib.atoiAll r = .ok (valD 0 r : Int) ∧ valD 0 r < 10000000000 := by
  cases r with
  | nil => exact absurd rfl h0
  | cons c r =>
    have hc : isDig c = true := by simp only [List.all_cons, Bool.and_eq_true] at h; exact h.1
    have hc2 := hc
    simp only [isDig, Bool.and_eq_true, decide_eq_true_eq] at hc2
    have hp : (10 : Nat) ^ (c :: r).length ≤ 10 ^ 9 := Nat.pow_le_pow_right (by decide) hl
    have hv := parse_val (c :: r) 0 h (by
      rw [Nat.zero_add, Nat.one_mul]
      exact Nat.le_trans hp (by decide))
    have hb : ∀ (l : Str) (a : Nat), l.all isDig = true → valD a l + 1 ≤ (a + 1) * 10 ^ l.length := by
      intro l
      induction l with
      | nil => intro a _; simp [valD]
      | cons x l ih =>
        intro a hx
        simp only [List.all_cons, Bool.and_eq_true, isDig, decide_eq_true_eq] at hx
        have := ih (a * 10 + (x.toNat - 48)) (by simpa [isDig] using hx.2)
        have e : valD a (x :: l) = valD (a * 10 + (x.toNat - 48)) l := rfl
        rw [e]
        refine Nat.le_trans this ?_
        rw [List.length_cons, Nat.pow_succ, Nat.mul_comm (10 ^ l.length) 10, ← Nat.mul_assoc]
        exact Nat.mul_le_mul_right _ (by omega)
    have hlt := hb (c :: r) 0 h
    rw [Nat.zero_add, Nat.one_mul] at hlt
    have h9 : (10 : Nat) ^ 9 = 1000000000 := by decide
    rw [h9] at hp
    refine ⟨?_, by omega⟩
    rw [Lib.atoiAll_plain c r (by omega) (by omega)]
    have : Lib.parseMag (c :: r) = .ok (valD 0 (c :: r)) := by unfold Lib.parseMag; rw [if_neg (by simp)]; exact hv
    rw [this]
    simp only [Lib.signless]
    rw [if_neg (by omega)]
theorem linear_Name_eq (s : Str) (hs : s.length ≤ 1000000) : linear_Name s = some (nameS s) := by
  unfold linear_Name
  rw [strings_HasPrefix1]
  cases s with
  | nil => rfl
  | cons c r =>
    simp only [Option.bind_some, nameS]
    have hr : r.length ≤ 1000000 := by simp at hs; omega
    cases hc : c == 95 with
    | true =>
      simp only [cond_true]
      rw [grd_pos (by simp)]
      simp only [List.drop_succ_cons, List.drop_zero, lib_Atoi]
      rw [grd_pos (by omega)]
      simp only [Option.bind_some]
      by_cases h9 : r.length ≤ 9
      · by_cases h1 : 1 ≤ r.length
        · rw [decide_eq_true h1, decide_eq_true h9]
          simp only [Bool.true_and]
          have hne : r ≠ [] := by intro e; subst e; simp at h1
          have hhd : (r.getD 0 0 == 48) = decide (r.head? = some 48) := by
            cases r with
            | nil => exact absurd rfl hne
            | cons x l => simp; rw [Bool.eq_iff_iff]; simp
          -- the answer of the program: is it its numeral?
          have key : ∀ v : Int, 0 < v → v ≤ 9223372036854775807 → lib_Itoa v = some (Lib.decDigits v.toNat) ∨ True := fun _ _ _ => .inr trivial
          by_cases hall : r.all isDig = true
          · obtain ⟨a1, a2⟩ := atoi_dig hne hall h9
            simp only [atoiR, a1, cond_true]
            by_cases h48 : r.head? = some 48
            · -- a leading zero: another numeral
              rw [hhd, decide_eq_true h48]
              simp only [Bool.not_true, Bool.false_and]
              by_cases hz : valD 0 r = 0
              · rw [hz]; rfl
              · rw [decide_eq_true (by omega : (valD 0 r : Int) > 0), decide_eq_true (by simp; omega : (((c :: r).length : Nat) : Int) ≤ 10)]
                simp only [cond_true, lib_Itoa]
                have hlen : (Lib.itoa (valD 0 r : Int)).length ≤ 21 := Lib.itoa_length_le _ (by omega) (by omega)
                rw [grd_pos ⟨by omega, by omega, by omega⟩]
                simp only [Option.bind_some, Option.some.injEq]
                rw [Lib.itoa_nonneg, beq_eq_false_iff_ne]
                intro e
                exact (dec_dig (valD 0 r)).2.1 (by omega) (by rw [e]; exact h48)
            · obtain ⟨d1, d2⟩ := dec_val r hall hne h48
              rw [hhd, decide_eq_false h48, hall]
              simp only [Bool.not_false, Bool.true_and]
              rw [decide_eq_true (by omega : (valD 0 r : Int) > 0), decide_eq_true (by simp; omega : (((c :: r).length : Nat) : Int) ≤ 10)]
              simp only [cond_true, lib_Itoa]
              have hlen : (Lib.itoa (valD 0 r : Int)).length ≤ 21 := Lib.itoa_length_le _ (by omega) (by omega)
              rw [grd_pos ⟨by omega, by omega, by omega⟩]
              simp only [Option.bind_some, Option.some.injEq]
              rw [Lib.itoa_nonneg, d2]; simp
          · have hall : r.all isDig = false := by simpa using hall
            rw [hall]
            simp only [Bool.and_false]
            cases ha : Lib.atoiAll r with
            | ok v =>
              simp only [atoiR, ha, cond_true]
              by_cases hv : v > 0
              · rw [decide_eq_true hv, decide_eq_true (by simp; omega : (((c :: r).length : Nat) : Int) ≤ 10)]
                simp only [cond_true, lib_Itoa]
                have hvb : v ≤ 9223372036854775807 := by
                  cases r with
                  | nil => exact absurd rfl hne
                  | cons x l =>
                    unfold Lib.atoiAll at ha
                    simp only at ha
                    split at ha
                    · cases ha
                    · cases ha
                    · split at ha
                      · cases ha
                      · split at ha
                        · cases ha
                        · rename_i h1 h2
                          simp only [Lib.NumEnd.ok.injEq] at ha
                          rw [← ha]
                          split
                          · omega
                          · rename_i h3
                            have := h1
                            simp only [h3, not_false_eq_true, true_and] at this
                            omega
                have hlen : (Lib.itoa v).length ≤ 21 := Lib.itoa_length_le _ (by omega) hvb
                rw [grd_pos ⟨by omega, hvb, by omega⟩]
                simp only [Option.bind_some, Option.some.injEq]
                rw [beq_eq_false_iff_ne]
                intro e
                have : (Lib.itoa v).all isDig = true := by
                  unfold Lib.itoa
                  rw [if_neg (by omega)]; exact (dec_dig _).1
                rw [e, hall] at this; cases this
              · rw [decide_eq_false hv]; rfl
            | range => simp [atoiR, ha]
            | _ => simp [atoiR, ha]
        · have : r = [] := List.eq_nil_of_length_eq_zero (by omega)
          subst this
          rfl
      · rw [decide_eq_false h9, decide_eq_false (by simp; omega : ¬ (((c :: r).length : Nat) : Int) ≤ 10)]
        simp only [cond_false, Bool.false_and, Bool.and_false]
        cases (atoiR r).2 <;> cases decide ((atoiR r).1 > 0) <;> rfl
    | false =>
      simp only [cond_false]
      rw [cnt_all (fun j => isLet ((c :: r).getD j 0) || (!(((j : Nat) : Int) == 0) && isDig ((c :: r).getD j 0))) _ _ () (fun j u _ _ => by
        simp only [isLet, isDig]
        generalize (c :: r).getD j 0 = x
        by_cases h1 : (x.toNat : Int) < 97
        · rw [decide_eq_true h1, decide_eq_false (show ¬ 97 ≤ x.toNat by omega)]
          simp only [cond_true, Bool.false_and, Bool.false_or]
          cases ((j : Nat) : Int) == 0
          · simp only [cond_false, Bool.not_false, Bool.true_and]
            by_cases h2 : (x.toNat : Int) < 48
            · rw [decide_eq_true h2, decide_eq_false (show ¬ 48 ≤ x.toNat by omega)]; rfl
            · rw [decide_eq_false h2, decide_eq_true (show 48 ≤ x.toNat by omega)]
              by_cases h3 : (x.toNat : Int) > 57
              · rw [decide_eq_true h3, decide_eq_false (show ¬ x.toNat ≤ 57 by omega)]; rfl
              · rw [decide_eq_false h3, decide_eq_true (show x.toNat ≤ 57 by omega)]; rfl
          · rfl
        · rw [decide_eq_false h1, decide_eq_true (show 97 ≤ x.toNat by omega)]
          simp only [cond_false, Bool.true_and]
          by_cases h2 : (x.toNat : Int) > 122
          · rw [decide_eq_true h2, decide_eq_false (show ¬ x.toNat ≤ 122 by omega), decide_eq_false (show ¬ x.toNat ≤ 57 by omega), decide_eq_false (show ¬ (x.toNat : Int) < 48 by omega), decide_eq_true (show (x.toNat : Int) > 57 by omega)]
            cases ((j : Nat) : Int) == 0 <;> simp [Sh.aft]
          · rw [decide_eq_false h2, decide_eq_true (show x.toNat ≤ 122 by omega)]; simp [Sh.aft]), aft_bif]
      have e : (List.range' 0 ((c :: r).length - 0)).all (fun j => isLet ((c :: r).getD j 0) || (!(((j : Nat) : Int) == 0) && isDig ((c :: r).getD j 0))) = (isLet c && r.all (fun b => isLet b || isDig b)) := by
        rw [show (c :: r).length - 0 = r.length + 1 by simp, List.range'_succ, List.all_cons]
        have e0 : (isLet ((c :: r).getD 0 0) || (!(((0 : Nat) : Int) == 0) && isDig ((c :: r).getD 0 0))) = isLet c := by simp
        rw [e0]
        congr 1
        rw [all_congr (q := fun j => (fun b => isLet b || isDig b) ((c :: r).getD j 0)) _ _ (fun j h1 _ => by
          have : (((j : Nat) : Int) == 0) = false := by simp; omega
          simp only [this, Bool.not_false, Bool.true_and])]
        have := all_getD (fun b => isLet b || isDig b) 0 (c :: r) 1
        simpa using this
      rw [e]
      have e2 : ((c :: r) == []) = false := rfl
      rw [e2]
      simp only [cond_false]
      by_cases h30 : r.length ≤ 29
      · rw [decide_eq_true h30, decide_eq_true (by simp; omega : (((c :: r).length : Nat) : Int) ≤ 30)]
        cases isLet c && r.all (fun b => isLet b || isDig b) <;> rfl
      · rw [decide_eq_false h30, decide_eq_false (by simp; omega : ¬ (((c :: r).length : Nat) : Int) ≤ 30)]
        cases isLet c && r.all (fun b => isLet b || isDig b) <;> rfl
end Go.Proofs.YtopejmjihbkieaaGreatDoor
