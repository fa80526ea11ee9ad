/- Plain laws: what the walked functions compute answers as the statement says. -/
import Derived.Test.YtjfpcjnopbfekaaGreatDoorWkbPolyEval
import Derived.Lib.ItoaNum
import Derived.Lib.ItoaMem
import Derived.Lib.AtoiAll
import Derived.Lib.AtoiAllCases
import Derived.Lib.ItoaLen
import Derived.KernelRfl
set_option linter.unusedSimpArgs false
set_option linter.unusedVariables false

/- PLAIN LAWS, of no program: loops as searches through lists; numerals. -/
namespace Go.Sh
open Go.Ab
section
variable {α σ ε ρ : Type}
theorem cnt_all {body : Nat → Unit → Option (Stp Unit ε ρ)} {fin : Nat → Unit → ε} {r : ρ} (p : Nat → Bool) : ∀ (k i : Nat) (u : Unit), (∀ j u, i ≤ j → j < i + k → body j u = some (bif p j then .go () else .ret r)) →
    cnt body fin k i u = some (bif (List.range' i k).all p then .brk (fin (i + k) ()) else .ret r)
  | 0, i, u, h => by simp [cnt]
  | k + 1, i, u, h => by
    simp only [cnt, h i u (Nat.le_refl _) (by omega), List.range'_succ, List.all_cons]
    cases hp : p i with
    | true =>
      simp only [cond_true, Option.bind_some, stp, Bool.true_and]
      rw [cnt_all p k (i + 1) () (fun j u h1 h2 => h j u (by omega) (by omega))]
      rw [show i + 1 + k = i + (k + 1) by omega]
    | false => simp [stp]
theorem cnt_find {body : Nat → Unit → Option (Stp Unit ε ρ)} {fin : Nat → Unit → ε} {f : Nat → ρ} (p : Nat → Bool) : ∀ (k i : Nat) (u : Unit), (∀ j u, i ≤ j → j < i + k → body j u = some (bif p j then .ret (f j) else .go ())) →
    cnt body fin k i u = some (match (List.range' i k).find? p with | some j => .ret (f j) | none => .brk (fin (i + k) ()))
  | 0, i, u, h => by simp [cnt]
  | k + 1, i, u, h => by
    simp only [cnt, h i u (Nat.le_refl _) (by omega), List.range'_succ, List.find?_cons]
    cases hp : p i with
    | false =>
      simp only [cond_false, Option.bind_some, stp]
      rw [cnt_find p k (i + 1) () (fun j u h1 h2 => h j u (by omega) (by omega))]
      rw [show i + 1 + k = i + (k + 1) by omega]
    | true => simp [stp]
theorem all_getD (q : α → Bool) (d : α) (l : List α) : ∀ (i : Nat), (List.range' i (l.length - i)).all (fun j => q (l.getD j d)) = (l.drop i).all q := by
  intro i
  by_cases h : i < l.length
  · obtain ⟨k, hk⟩ : ∃ k, l.length - i = k + 1 := ⟨l.length - i - 1, by omega⟩
    have ih := all_getD q d l (i + 1)
    rw [hk, List.range'_succ, List.all_cons, List.drop_eq_getElem_cons h, List.all_cons]
    rw [show l.length - (i + 1) = k by omega] at ih
    rw [ih]
    simp [List.getD_eq_getElem?_getD, List.getElem?_eq_getElem h]
  · rw [show l.length - i = 0 by omega, List.drop_eq_nil_of_le (by omega)]; rfl
  termination_by i => l.length - i
theorem all0 (q : α → Bool) (d : α) (l : List α) : (List.range' 0 (l.length - 0)).all (fun j => q (l.getD j d)) = l.all q := by
  have := all_getD q d l 0
  simpa using this
def idxOf (p : α → Bool) : List α → Int
  | [] => -1
  | x :: l => bif p x then 0 else (let r := idxOf p l; bif r == -1 then -1 else r + 1)
theorem idxOf_ge (p : α → Bool) : ∀ l : List α, -1 ≤ idxOf p l
  | [] => by simp [idxOf]
  | x :: l => by
    have := idxOf_ge p l
    simp only [idxOf]
    cases p x
    · cases h : idxOf p l == -1
      · simp; omega
      · simp
    · simp
theorem idxOf_neg (p : α → Bool) : ∀ l : List α, (idxOf p l < 0) ↔ l.any p = false
  | [] => by simp [idxOf]
  | x :: l => by
    have h1 := idxOf_ge p l
    have h2 := idxOf_neg p l
    simp only [idxOf, List.any_cons]
    cases hp : p x
    · cases h : idxOf p l == -1
      · have : idxOf p l ≠ -1 := by simpa using h
        simp only [cond_false, Bool.false_or]
        rw [← h2]; omega
      · have : idxOf p l = -1 := by simpa using h
        simp only [cond_false, cond_true, Bool.false_or]
        rw [← h2]; omega
    · simp
theorem find_idx (p : α → Bool) (d : α) (l : List α) : ∀ (i : Nat), (match (List.range' i (l.length - i)).find? (fun j => p (l.getD j d)) with | some j => ((j : Nat) : Int) | none => -1) = (bif idxOf p (l.drop i) == -1 then -1 else idxOf p (l.drop i) + i) := by
  intro i
  by_cases h : i < l.length
  · obtain ⟨k, hk⟩ : ∃ k, l.length - i = k + 1 := ⟨l.length - i - 1, by omega⟩
    have ih := find_idx p d l (i + 1)
    rw [hk, List.range'_succ, List.find?_cons, List.drop_eq_getElem_cons h]
    rw [show l.length - (i + 1) = k by omega] at ih
    have e : l.getD i d = l[i] := by simp [List.getD_eq_getElem?_getD, List.getElem?_eq_getElem h]
    rw [e]
    simp only [idxOf]
    cases hp : p l[i]
    · simp only [cond_false]
      rw [ih]
      cases hq : idxOf p (l.drop (i + 1)) == -1
      · have h3 : idxOf p (l.drop (i + 1)) ≠ -1 := by simpa using hq
        have h4 := idxOf_ge p (l.drop (i + 1))
        simp only [cond_false]
        have : ((idxOf p (l.drop (i + 1)) + 1) == -1) = false := by simp; omega
        rw [this]; simp only [cond_false]
        omega
      · simp
    · simp
  · rw [show l.length - i = 0 by omega, List.drop_eq_nil_of_le (by omega)]; rfl
  termination_by i => l.length - i
theorem find_idx0 (p : α → Bool) (d : α) (l : List α) : (match (List.range' 0 (l.length - 0)).find? (fun j => p (l.getD j d)) with | some j => ((j : Nat) : Int) | none => -1) = idxOf p l := by
  rw [find_idx p d l 0]
  simp only [List.drop_zero]
  cases h : idxOf p l == -1
  · simp
  · have : idxOf p l = -1 := by simpa using h
    simp [this]
end
/-! ### numerals -/
def isDig (b : UInt8) : Bool := decide (48 ≤ b.toNat) && decide (b.toNat ≤ 57)
def valD (acc : Nat) (l : Str) : Nat := l.foldl (fun a c => a * 10 + (c.toNat - 48)) acc
theorem valD_snoc (acc : Nat) (l : Str) (c : UInt8) : valD acc (l ++ [c]) = valD acc l * 10 + (c.toNat - 48) := by simp [valD]
theorem parse_val : ∀ (l : Str) (acc : Nat), l.all isDig = true → (acc + 1) * 10 ^ l.length ≤ 10 ^ 18 → Lib.parseUint10 acc l = .ok (valD acc l)
  | [], acc, _, _ => rfl
  | c :: l, acc, h, hb => by
    simp only [List.all_cons, Bool.and_eq_true, isDig, decide_eq_true_eq] at h
    obtain ⟨⟨h1, h2⟩, h3⟩ := h
    have hp : 1 ≤ 10 ^ l.length := Nat.one_le_pow _ _ (by decide)
    have hb2 : (acc * 10 + 10) * 10 ^ l.length ≤ 10 ^ 18 := by
      have : (acc + 1) * 10 ^ (l.length + 1) = (acc * 10 + 10) * 10 ^ l.length := by rw [Nat.pow_succ]; rw [show (acc * 10 + 10) = (acc + 1) * 10 by omega, Nat.mul_assoc, Nat.mul_comm 10]
      rw [← this]; simpa using hb
    have hb3 : acc * 10 + 10 ≤ 10 ^ 18 := Nat.le_trans (Nat.le_mul_of_pos_right _ hp) hb2
    have e18 : (10 : Nat) ^ 18 = 1000000000000000000 := by decide
    rw [e18] at hb3
    simp only [Lib.parseUint10]
    rw [if_pos ⟨h1, h2⟩, if_neg (by omega), if_neg (by omega)]
    rw [parse_val l _ (by simpa [isDig] using h3) (Nat.le_trans (Nat.mul_le_mul_right _ (by omega)) hb2)]
    rfl
theorem dig_back {c : UInt8} (h : isDig c = true) : UInt8.ofNat (48 + (c.toNat - 48)) = c := by
  simp only [isDig, Bool.and_eq_true, decide_eq_true_eq] at h
  rw [show 48 + (c.toNat - 48) = c.toNat by omega]
  exact UInt8.ofNat_toNat
theorem snoc_rec {α : Type} {P : List α → Prop} (h0 : P []) (h1 : ∀ l c, P l → P (l ++ [c])) (l : List α) : P l := by
  have : ∀ m : List α, P m.reverse := by
    intro m
    induction m with
    | nil => exact h0
    | cons c m ih => simpa using h1 _ c ih
  simpa using this l.reverse
theorem dec_val (l : Str) : l.all isDig = true → l ≠ [] → l.head? ≠ some 48 → 1 ≤ valD 0 l ∧ Lib.decDigits (valD 0 l) = l := by
  refine snoc_rec (P := fun l => l.all isDig = true → l ≠ [] → l.head? ≠ some 48 → 1 ≤ valD 0 l ∧ Lib.decDigits (valD 0 l) = l) ?_ ?_ l
  · intro _ h; exact absurd rfl h
  · intro l c ih h _ hh
    rw [List.all_append, Bool.and_eq_true] at h
    have hc : isDig c = true := by simpa using h.2
    have hc' := hc
    simp only [isDig, Bool.and_eq_true, decide_eq_true_eq] at hc'
    rw [valD_snoc]
    by_cases hl : l = []
    · subst hl
      have hne : c ≠ 48 := by simpa using hh
      have : c.toNat ≠ 48 := fun e => hne (by rw [← UInt8.toNat_inj]; simpa using e)
      simp only [valD, List.foldl_nil, Nat.zero_mul, Nat.zero_add, List.nil_append]
      refine ⟨by omega, ?_⟩
      rw [Lib.decDigits_one (by omega), dig_back hc]
    · have hh2 : l.head? ≠ some 48 := by
        cases l with
        | nil => exact absurd rfl hl
        | cons x l => simpa using hh
      obtain ⟨i1, i2⟩ := ih h.1 hl hh2
      refine ⟨by omega, ?_⟩
      rw [Lib.decDigits, dif_neg (by omega), show (valD 0 l * 10 + (c.toNat - 48)) / 10 = valD 0 l by omega, i2, show (valD 0 l * 10 + (c.toNat - 48)) % 10 = c.toNat - 48 by omega, dig_back hc]
theorem dec_dig (u : Nat) : (Lib.decDigits u).all isDig = true ∧ (1 ≤ u → (Lib.decDigits u).head? ≠ some 48) ∧ Lib.decDigits u ≠ [] := by
  have key : ∀ i, i < 10 → isDig (UInt8.ofNat (48 + i)) = true := by decide
  have key2 : ∀ i, i < 10 → 1 ≤ i → UInt8.ofNat (48 + i) ≠ 48 := by decide
  by_cases h : u < 10
  · rw [Lib.decDigits_one h]
    exact ⟨by simp only [List.all_cons, List.all_nil, Bool.and_true]; exact key u h, fun h1 => by simpa using key2 u h h1, by simp⟩
  · have ih := dec_dig (u / 10)
    rw [Lib.decDigits, dif_neg h]
    refine ⟨by rw [List.all_append, ih.1]; simp only [List.all_cons, List.all_nil, Bool.and_true, Bool.true_and]; exact key (u % 10) (by omega), fun _ => ?_, by simp⟩
    have := ih.2.1 (by omega)
    cases hd : Lib.decDigits (u / 10) with
    | nil => exact absurd hd ih.2.2
    | cons x l => rw [hd] at this; simpa using this
  termination_by u
  decreasing_by omega
end Go.Sh



/- PLAIN LAWS of layer 5: names. -/
namespace Go.Proofs.YtjfpcjnopbfekaaGreatDoor
open Go.Ab Go.Sh
theorem grd_pos {α : Type} {p : Prop} [Decidable p] {x : Option α} (h : p) : grd p x = x := if_pos h
theorem aft_bif {ε β : Type} {b : Bool} {e : ε} {r : β} {f : ε → Option β} : (some (bif b then Out.brk e else Out.ret r : Out ε β)).bind (aft f) = bif b then f e else some r := by cases b <;> rfl
theorem all_congr {p q : Nat → Bool} : ∀ (k i : Nat), (∀ j, i ≤ j → j < i + k → p j = q j) → (List.range' i k).all p = (List.range' i k).all q
  | 0, i, _ => rfl
  | k + 1, i, h => by
    rw [List.range'_succ, List.all_cons, List.all_cons, h i (Nat.le_refl _) (by omega), all_congr k (i + 1) (fun j h1 h2 => h j (by omega) (by omega))]
theorem u8_beq (c k : UInt8) (n : Int) (hk : (k.toNat : Int) = n) : ((c.toNat : Int) == n) = (c == k) := by
  rw [Bool.eq_iff_iff]
  simp only [beq_iff_eq, ← UInt8.toNat_inj]
  omega
def isLet (b : UInt8) : Bool := decide (97 ≤ b.toNat) && decide (b.toNat ≤ 122)
theorem ref04_digit_eq (x : UInt8) : ref04_digit x = some (isDig x) := by
  unfold ref04_digit isDig
  by_cases h : 48 ≤ x.toNat
  · rw [decide_eq_true (show (x.toNat : Int) ≥ 48 by omega), decide_eq_true h]
    simp only [cond_true, Bool.true_and, Option.some.injEq]
    rw [decide_eq_decide]; omega
  · rw [decide_eq_false (show ¬ (x.toNat : Int) ≥ 48 by omega), decide_eq_false h]; rfl
theorem ref04_letter_eq (x : UInt8) : ref04_letter x = some (isLet x) := by
  unfold ref04_letter isLet
  by_cases h : 97 ≤ x.toNat
  · rw [decide_eq_true (show (x.toNat : Int) ≥ 97 by omega), decide_eq_true h]
    simp only [cond_true, Bool.true_and, Option.some.injEq]
    rw [decide_eq_decide]; omega
  · rw [decide_eq_false (show ¬ (x.toNat : Int) ≥ 97 by omega), decide_eq_false h]; rfl
def nameS : Str → Bool
  | [] => false
  | c :: r => bif c == 95 then (decide (1 ≤ r.length) && (decide (r.length ≤ 9) && (!(r.getD 0 0 == 48) && r.all isDig))) else (decide (r.length ≤ 29) && (isLet c && r.all (fun b => isLet b || isDig b)))
theorem ref04_Name_eq (s : Str) : ref04_Name s = some (nameS s) := by
  cases s with
  | nil => rfl
  | cons c r =>
    unfold ref04_Name
    have e1 : ((((c :: r).length : Nat) : Int) == 0) = false := by simp; omega
    rw [e1]
    simp only [cond_false]
    have e95 : ((((c :: r).getD 0 0).toNat : Int) == 95) = (c == 95) := by rw [List.getD_cons_zero]; exact u8_beq c 95 95 rfl
    by_cases h30 : r.length ≤ 29
    · rw [decide_eq_false (show ¬ (((c :: r).length : Nat) : Int) > 30 by simp; omega)]
      simp only [cond_false]
      rw [grd_pos (by simp), e95]
      simp only [nameS]
      cases hc : c == 95 with
      | true =>
        simp only [cond_true]
        by_cases h1 : 1 ≤ r.length
        · rw [decide_eq_false (show ¬ (((c :: r).length : Nat) : Int) < 2 by simp; omega), decide_eq_true h1]
          simp only [cond_false, Bool.true_and]
          by_cases h9 : r.length ≤ 9
          · rw [decide_eq_false (show ¬ (((c :: r).length : Nat) : Int) > 10 by simp; omega), decide_eq_true h9]
            simp only [cond_false, Bool.true_and]
            rw [grd_pos (by simp; omega)]
            have e48 : ((((c :: r).getD 1 0).toNat : Int) == 48) = (r.getD 0 0 == 48) := by rw [List.getD_cons_succ]; exact u8_beq _ 48 48 rfl
            rw [e48]
            cases hd : r.getD 0 0 == 48 with
            | true => simp
            | false =>
              simp only [cond_false, Bool.not_false, Bool.true_and]
              rw [cnt_all (fun j => isDig ((c :: r).getD j 0)) _ _ () (fun j u _ _ => by rw [ref04_digit_eq]; cases isDig ((c :: r).getD j 0) <;> rfl), aft_bif, all_getD isDig 0 (c :: r) 1]
              simp only [List.drop_succ_cons, List.drop_zero]
              cases r.all isDig <;> rfl
          · rw [decide_eq_true (show (((c :: r).length : Nat) : Int) > 10 by simp; omega), decide_eq_false h9]; simp
        · rw [decide_eq_true (show (((c :: r).length : Nat) : Int) < 2 by simp; omega), decide_eq_false h1]; simp
      | false =>
        simp only [cond_false]
        rw [decide_eq_true h30]
        rw [cnt_all (fun j => isLet ((c :: r).getD j 0) || (!(((j : Nat) : Int) == 0) && isDig ((c :: r).getD j 0))) _ _ () (fun j u _ _ => by
          rw [ref04_letter_eq, ref04_digit_eq]
          cases isLet ((c :: r).getD j 0) <;> cases isDig ((c :: r).getD j 0) <;> cases ((j : Nat) : Int) == 0 <;> rfl), aft_bif]
        have e : (List.range' 0 ((c :: r).length - 0)).all (fun j => isLet ((c :: r).getD j 0) || (!(((j : Nat) : Int) == 0) && isDig ((c :: r).getD j 0))) = (isLet c && r.all (fun b => isLet b || isDig b)) := by
          rw [show (c :: r).length - 0 = r.length + 1 by simp, List.range'_succ, List.all_cons]
          have e0 : (isLet ((c :: r).getD 0 0) || (!(((0 : Nat) : Int) == 0) && isDig ((c :: r).getD 0 0))) = isLet c := by simp
          rw [e0]
          congr 1
          rw [all_congr (q := fun j => (fun b => isLet b || isDig b) ((c :: r).getD j 0)) _ _ (fun j h1 _ => by
            have : (((j : Nat) : Int) == 0) = false := by simp; omega
            simp only [this, Bool.not_false, Bool.true_and])]
          have := all_getD (fun b => isLet b || isDig b) 0 (c :: r) 1
          simpa using this
        rw [e]
        simp only [Bool.true_and]
        cases isLet c && r.all (fun b => isLet b || isDig b) <;> rfl
    · rw [decide_eq_true (show (((c :: r).length : Nat) : Int) > 30 by simp; omega)]
      simp only [cond_true, nameS]
      rw [decide_eq_false h30]
      have : ¬ r.length ≤ 9 := by omega
      rw [decide_eq_false this]
      cases c == 95 <;> simp
theorem strings_HasPrefix1 (s : Str) (c : UInt8) : strings_HasPrefix s [c] = some (match s with | [] => false | x :: _ => x == c) := by
  unfold strings_HasPrefix internal_stringslite_HasPrefix
  cases s with
  | nil => rfl
  | cons x l =>
    rw [decide_eq_true (by simp; omega)]
    simp only [cond_true]
    rw [grd_pos (by simp)]
    simp
theorem atoi_dig {r : Str} (h0 : r ≠ []) (h : r.all isDig = true) (hl : r.length ≤ 9) : Lib.atoiAll r = .ok (valD 0 r : Int) ∧ valD 0 r < 10000000000 := by
  cases r with
  | nil => exact absurd rfl h0
  | cons c r =>
    have hc : isDig c = true := by simp only [List.all_cons, Bool.and_eq_true] at h; exact h.1
    have hc2 := hc
    simp only [isDig, Bool.and_eq_true, decide_eq_true_eq] at hc2
    have hp : (10 : Nat) ^ (c :: r).length ≤ 10 ^ 9 := Nat.pow_le_pow_right (by decide) hl
    have hv := parse_val (c :: r) 0 h (by
      rw [Nat.zero_add, Nat.one_mul]
      exact Nat.le_trans hp (by decide))
    have hb : ∀ (l : Str) (a : Nat), l.all isDig = true → valD a l + 1 ≤ (a + 1) * 10 ^ l.length := by
      intro l
      induction l with
      | nil => intro a _; simp [valD]
      | cons x l ih =>
        intro a hx
        simp only [List.all_cons, Bool.and_eq_true, isDig, decide_eq_true_eq] at hx
        have := ih (a * 10 + (x.toNat - 48)) (by simpa [isDig] using hx.2)
        have e : valD a (x :: l) = valD (a * 10 + (x.toNat - 48)) l := rfl
        rw [e]
        refine Nat.le_trans this ?_
        rw [List.length_cons, Nat.pow_succ, Nat.mul_comm (10 ^ l.length) 10, ← Nat.mul_assoc]
        exact Nat.mul_le_mul_right _ (by omega)
    have hlt := hb (c :: r) 0 h
    rw [Nat.zero_add, Nat.one_mul] at hlt
    have h9 : (10 : Nat) ^ 9 = 1000000000 := by decide
    rw [h9] at hp
    refine ⟨?_, by omega⟩
    rw [Lib.atoiAll_plain c r (by omega) (by omega)]
    have : Lib.parseMag (c :: r) = .ok (valD 0 (c :: r)) := by unfold Lib.parseMag; rw [if_neg (by simp)]; exact hv
    rw [this]
    simp only [Lib.signless]
    rw [if_neg (by omega)]
theorem linear_Name_eq (s : Str) (hs : s.length ≤ 1000000) : linear_Name s = some (nameS s) := by
  unfold linear_Name
  rw [strings_HasPrefix1]
  cases s with
  | nil => rfl
  | cons c r =>
    simp only [Option.bind_some, nameS]
    have hr : r.length ≤ 1000000 := by simp at hs; omega
    cases hc : c == 95 with
    | true =>
      simp only [cond_true]
      rw [grd_pos (by simp)]
      simp only [List.drop_succ_cons, List.drop_zero, lib_Atoi]
      rw [grd_pos (by omega)]
      simp only [Option.bind_some]
      by_cases h9 : r.length ≤ 9
      · by_cases h1 : 1 ≤ r.length
        · rw [decide_eq_true h1, decide_eq_true h9]
          simp only [Bool.true_and]
          have hne : r ≠ [] := by intro e; subst e; simp at h1
          have hhd : (r.getD 0 0 == 48) = decide (r.head? = some 48) := by
            cases r with
            | nil => exact absurd rfl hne
            | cons x l => simp; rw [Bool.eq_iff_iff]; simp
          -- the answer of the program: is it its numeral?
          have key : ∀ v : Int, 0 < v → v ≤ 9223372036854775807 → lib_Itoa v = some (Lib.decDigits v.toNat) ∨ True := fun _ _ _ => .inr trivial
          by_cases hall : r.all isDig = true
          · obtain ⟨a1, a2⟩ := atoi_dig hne hall h9
            simp only [atoiR, a1, cond_true]
            by_cases h48 : r.head? = some 48
            · -- a leading zero: another numeral
              rw [hhd, decide_eq_true h48]
              simp only [Bool.not_true, Bool.false_and]
              by_cases hz : valD 0 r = 0
              · rw [hz]; rfl
              · rw [decide_eq_true (by omega : (valD 0 r : Int) > 0), decide_eq_true (by simp; omega : (((c :: r).length : Nat) : Int) ≤ 10)]
                simp only [cond_true, lib_Itoa]
                have hlen : (Lib.itoa (valD 0 r : Int)).length ≤ 21 := Lib.itoa_length_le _ (by omega) (by omega)
                rw [grd_pos ⟨by omega, by omega, by omega⟩]
                simp only [Option.bind_some, Option.some.injEq]
                rw [Lib.itoa_nonneg, beq_eq_false_iff_ne]
                intro e
                exact (dec_dig (valD 0 r)).2.1 (by omega) (by rw [e]; exact h48)
            · obtain ⟨d1, d2⟩ := dec_val r hall hne h48
              rw [hhd, decide_eq_false h48, hall]
              simp only [Bool.not_false, Bool.true_and]
              rw [decide_eq_true (by omega : (valD 0 r : Int) > 0), decide_eq_true (by simp; omega : (((c :: r).length : Nat) : Int) ≤ 10)]
              simp only [cond_true, lib_Itoa]
              have hlen : (Lib.itoa (valD 0 r : Int)).length ≤ 21 := Lib.itoa_length_le _ (by omega) (by omega)
              rw [grd_pos ⟨by omega, by omega, by omega⟩]
              simp only [Option.bind_some, Option.some.injEq]
              rw [Lib.itoa_nonneg, d2]; simp
          · have hall : r.all isDig = false := by simpa using hall
            rw [hall]
            simp only [Bool.and_false]
            cases ha : Lib.atoiAll r with
            | ok v =>
              simp only [atoiR, ha, cond_true]
              by_cases hv : v > 0
              · rw [decide_eq_true hv, decide_eq_true (by simp; omega : (((c :: r).length : Nat) : Int) ≤ 10)]
                simp only [cond_true, lib_Itoa]
                have hvb : v ≤ 9223372036854775807 := by
                  cases r with
                  | nil => exact absurd rfl hne
                  | cons x l =>
                    unfold Lib.atoiAll at ha
                    simp only at ha
                    split at ha
                    · cases ha
                    · cases ha
                    · split at ha
                      · cases ha
                      · split at ha
                        · cases ha
                        · rename_i h1 h2
                          simp only [Lib.NumEnd.ok.injEq] at ha
                          rw [← ha]
                          split
                          · omega
                          · rename_i h3
                            have := h1
                            simp only [h3, not_false_eq_true, true_and] at this
                            omega
                have hlen : (Lib.itoa v).length ≤ 21 := Lib.itoa_length_le _ (by omega) hvb
                rw [grd_pos ⟨by omega, hvb, by omega⟩]
                simp only [Option.bind_some, Option.some.injEq]
                rw [beq_eq_false_iff_ne]
                intro e
                have : (Lib.itoa v).all isDig = true := by
                  unfold Lib.itoa
                  rw [if_neg (by omega)]; exact (dec_dig _).1
                rw [e, hall] at this; cases this
              · rw [decide_eq_false hv]; rfl
            | range => simp [atoiR, ha]
            | _ => simp [atoiR, ha]
        · have : r = [] := List.eq_nil_of_length_eq_zero (by omega)
          subst this
          rfl
      · rw [decide_eq_false h9, decide_eq_false (by simp; omega : ¬ (((c :: r).length : Nat) : Int) ≤ 10)]
        simp only [cond_false, Bool.false_and, Bool.and_false]
        cases (atoiR r).2 <;> cases decide ((atoiR r).1 > 0) <;> rfl
    | false =>
      simp only [cond_false]
      rw [cnt_all (fun j => isLet ((c :: r).getD j 0) || (!(((j : Nat) : Int) == 0) && isDig ((c :: r).getD j 0))) _ _ () (fun j u _ _ => by
        simp only [isLet, isDig]
        generalize (c :: r).getD j 0 = x
        by_cases h1 : (x.toNat : Int) < 97
        · rw [decide_eq_true h1, decide_eq_false (show ¬ 97 ≤ x.toNat by omega)]
          simp only [cond_true, Bool.false_and, Bool.false_or]
          cases ((j : Nat) : Int) == 0
          · simp only [cond_false, Bool.not_false, Bool.true_and]
            by_cases h2 : (x.toNat : Int) < 48
            · rw [decide_eq_true h2, decide_eq_false (show ¬ 48 ≤ x.toNat by omega)]; rfl
            · rw [decide_eq_false h2, decide_eq_true (show 48 ≤ x.toNat by omega)]
              by_cases h3 : (x.toNat : Int) > 57
              · rw [decide_eq_true h3, decide_eq_false (show ¬ x.toNat ≤ 57 by omega)]; rfl
              · rw [decide_eq_false h3, decide_eq_true (show x.toNat ≤ 57 by omega)]; rfl
          · rfl
        · rw [decide_eq_false h1, decide_eq_true (show 97 ≤ x.toNat by omega)]
          simp only [cond_false, Bool.true_and]
          by_cases h2 : (x.toNat : Int) > 122
          · rw [decide_eq_true h2, decide_eq_false (show ¬ x.toNat ≤ 122 by omega), decide_eq_false (show ¬ x.toNat ≤ 57 by omega), decide_eq_false (show ¬ (x.toNat : Int) < 48 by omega), decide_eq_true (show (x.toNat : Int) > 57 by omega)]
            cases ((j : Nat) : Int) == 0 <;> simp [Sh.aft]
          · rw [decide_eq_false h2, decide_eq_true (show x.toNat ≤ 122 by omega)]; simp [Sh.aft]), aft_bif]
      have e : (List.range' 0 ((c :: r).length - 0)).all (fun j => isLet ((c :: r).getD j 0) || (!(((j : Nat) : Int) == 0) && isDig ((c :: r).getD j 0))) = (isLet c && r.all (fun b => isLet b || isDig b)) := by
        rw [show (c :: r).length - 0 = r.length + 1 by simp, List.range'_succ, List.all_cons]
        have e0 : (isLet ((c :: r).getD 0 0) || (!(((0 : Nat) : Int) == 0) && isDig ((c :: r).getD 0 0))) = isLet c := by simp
        rw [e0]
        congr 1
        rw [all_congr (q := fun j => (fun b => isLet b || isDig b) ((c :: r).getD j 0)) _ _ (fun j h1 _ => by
          have : (((j : Nat) : Int) == 0) = false := by simp; omega
          simp only [this, Bool.not_false, Bool.true_and])]
        have := all_getD (fun b => isLet b || isDig b) 0 (c :: r) 1
        simpa using this
      rw [e]
      have e2 : ((c :: r) == []) = false := rfl
      rw [e2]
      simp only [cond_false]
      by_cases h30 : r.length ≤ 29
      · rw [decide_eq_true h30, decide_eq_true (by simp; omega : (((c :: r).length : Nat) : Int) ≤ 30)]
        cases isLet c && r.all (fun b => isLet b || isDig b) <;> rfl
      · rw [decide_eq_false h30, decide_eq_false (by simp; omega : ¬ (((c :: r).length : Nat) : Int) ≤ 30)]
        cases isLet c && r.all (fun b => isLet b || isDig b) <;> rfl
end Go.Proofs.YtjfpcjnopbfekaaGreatDoor



/- PLAIN LAWS, of no program: maps in any order; loops over lists. -/
namespace Go.Sh
theorem nodup_le {α : Type} [DecidableEq α] : ∀ (l l' : List α), l.Nodup → (∀ x ∈ l, x ∈ l') → l.length ≤ l'.length
  | [], l', _, _ => by simp
  | a :: l, l', h, hs => by
    rw [List.nodup_cons] at h
    have ha : a ∈ l' := hs a (by simp)
    have ih := nodup_le l (l'.erase a) h.2 (fun x hx => by
      have hne : x ≠ a := fun e => h.1 (e ▸ hx)
      exact (List.mem_erase_of_ne hne).2 (hs x (by simp [hx])))
    rw [List.length_erase_of_mem ha] at ih
    have : 0 < l'.length := List.length_pos_of_mem ha
    simp only [List.length_cons]; omega
theorem mr_go {V σ ε β : Type} {m : List (Str × V)} {body : Str × V → σ → Option (Stp σ ε β)} {K : σ → Prop} {J : β → Prop} (I : List Nat → σ → Prop) (g : σ → Str × V → σ)
    (hstep : ∀ seen s i (h : i < m.length), seen.Nodup → i ∉ seen → (∀ j ∈ seen, j < m.length) → I seen s → body m[i] s = some (.go (g s m[i])) ∧ I (seen ++ [i]) (g s m[i]))
    (hend : ∀ seen s, seen.Nodup → (∀ i, i < m.length → i ∈ seen) → (∀ i ∈ seen, i < m.length) → I seen s → K s) :
    ∀ (n : Nat) (seen : List Nat) (s : σ), seen.Nodup → (∀ i ∈ seen, i < m.length) → n + seen.length = m.length → I seen s → MR m body K J n seen s
  | 0, seen, s, h1, h2, h3, hI => by
    have hall : ∀ i, i < m.length → i ∈ seen := by
      intro i hi
      refine Classical.byContradiction fun hn => ?_
      have := nodup_le (i :: seen) (List.range m.length) (List.nodup_cons.2 ⟨hn, h1⟩) (fun x hx => by
        rcases List.mem_cons.1 hx with rfl | hx
        · simpa using hi
        · simpa using h2 x hx)
      simp at this; omega
    exact ⟨hall, hend seen s h1 hall h2 hI⟩
  | n + 1, seen, s, h1, h2, h3, hI => by
    refine ⟨?_, fun i hi hn => ?_⟩
    · refine Classical.byContradiction fun hn => ?_
      have := nodup_le (List.range m.length) seen List.nodup_range (fun x hx => Classical.byContradiction fun hx2 => hn ⟨x, by simpa using hx, hx2⟩)
      simp at this; omega
    · obtain ⟨e1, e2⟩ := hstep seen s i hi h1 hn h2 hI
      refine ⟨_, e1, ?_⟩
      have hnd : (seen ++ [i]).Nodup := by
        rw [List.nodup_append]
        exact ⟨h1, by simp, fun a ha b hb => by
          have : b = i := by simpa using hb
          subst this; intro e; subst e; exact hn ha⟩
      exact mr_go I g hstep hend n (seen ++ [i]) _ hnd (fun j hj => by
        rcases List.mem_append.1 hj with hj | hj
        · exact h2 j hj
        · have : j = i := by simpa using hj
          subst this; exact hi) (by simp; omega) e2
def leS (x y : Str) : Bool := decide (x ≤ y)
theorem leS_trans (a b c : Str) (h1 : leS a b = true) (h2 : leS b c = true) : leS a c = true := by
  simp only [leS, decide_eq_true_eq] at *; exact List.le_trans h1 h2
theorem leS_total (a b : Str) : (leS a b || leS b a) = true := by
  simp only [leS, Bool.or_eq_true, decide_eq_true_eq]; exact List.le_total a b
theorem leS_anti (a b : Str) (h1 : leS a b = true) (h2 : leS b a = true) : a = b := by
  simp only [leS, decide_eq_true_eq] at *; exact List.le_antisymm h1 h2
theorem sort_sorted (l : List Str) : (Go.Ab.sortS l).Pairwise (fun a b => leS a b = true) := List.pairwise_mergeSort leS_trans leS_total l
theorem sort_perm (l : List Str) : (Go.Ab.sortS l).Perm l := List.mergeSort_perm l _
theorem sort_eq {l r : List Str} (hs : r.Pairwise (fun a b => leS a b = true)) (hp : r.Perm l) : Go.Ab.sortS l = r :=
  List.Perm.eq_of_pairwise (fun a b _ _ => leS_anti a b) (sort_sorted l) hs ((sort_perm l).trans hp.symm)
def insS (x : Str) : List Str → List Str
  | [] => [x]
  | y :: l => bif leS x y then x :: y :: l else y :: insS x l
def sortI : List Str → List Str
  | [] => []
  | x :: l => insS x (sortI l)
theorem insS_perm (x : Str) : ∀ l, (insS x l).Perm (x :: l)
  | [] => .refl _
  | y :: l => by
    simp only [insS]
    cases leS x y
    · exact ((insS_perm x l).cons y).trans (.swap _ _ _)
    · exact .refl _
theorem insS_sorted (x : Str) : ∀ {l : List Str}, l.Pairwise (fun a b => leS a b = true) → (insS x l).Pairwise (fun a b => leS a b = true)
  | [], _ => by simp [insS]
  | y :: l, h => by
    rw [List.pairwise_cons] at h
    simp only [insS]
    cases hxy : leS x y
    · simp only [cond_false, List.pairwise_cons]
      have hyx : leS y x = true := by
        have := leS_total x y
        rw [hxy] at this; simpa using this
      refine ⟨fun a ha => ?_, insS_sorted x h.2⟩
      rcases List.mem_cons.1 ((insS_perm x l).mem_iff.1 ha) with rfl | ha
      · exact hyx
      · exact h.1 a ha
    · simp only [cond_true, List.pairwise_cons]
      refine ⟨fun a ha => ?_, h⟩
      rcases List.mem_cons.1 ha with rfl | ha
      · exact hxy
      · exact leS_trans _ _ _ hxy (h.1 a ha)
theorem sortI_perm : ∀ l, (sortI l).Perm l
  | [] => .refl _
  | x :: l => (insS_perm x _).trans ((sortI_perm l).cons x)
theorem sortI_sorted : ∀ l, (sortI l).Pairwise (fun a b => leS a b = true)
  | [] => List.Pairwise.nil
  | x :: l => insS_sorted x (sortI_sorted l)
theorem sortS_eq (l : List Str) : Go.Ab.sortS l = sortI l := sort_eq (sortI_sorted l) (sortI_perm l)
end Go.Sh
namespace Go.Sh
section
variable {α σ ε ρ : Type}
def loopL (g : α → σ → Stp σ ε ρ) (fin : σ → ε) : List α → σ → Out ε ρ
  | [], s => .brk (fin s)
  | x :: l, s => match g x s with | .go s' => loopL g fin l s' | .brk e => .brk e | .ret r => .ret r
theorem cnt_list {body : Nat → σ → Option (Stp σ ε ρ)} {fin : Nat → σ → ε} {f : σ → ε} (d : α) (l : List α) (g : α → σ → Stp σ ε ρ) (I : Nat → σ → Prop) (hf : ∀ i s, fin i s = f s) :
    ∀ (i : Nat) (s : σ), I i s → (∀ j s, i ≤ j → j < l.length → I j s → body j s = some (g (l.getD j d) s) ∧ ∀ s', g (l.getD j d) s = .go s' → I (j + 1) s') →
    cnt body fin (l.length - i) i s = some (loopL g f (l.drop i) s) := by
  intro i s hI h
  by_cases hi : i < l.length
  · obtain ⟨k, hk⟩ : ∃ k, l.length - i = k + 1 := ⟨l.length - i - 1, by omega⟩
    obtain ⟨h1, h2⟩ := h i s (Nat.le_refl _) hi hI
    have hx : l.getD i d = l[i] := by simp [List.getD_eq_getElem?_getD, List.getElem?_eq_getElem hi]
    rw [hx] at h1 h2
    rw [hk, List.drop_eq_getElem_cons hi]
    simp only [cnt, h1, Option.bind_some, loopL]
    cases hg : g l[i] s with
    | go s' =>
      have ih := cnt_list d l g I hf (i + 1) s' (h2 s' hg) (fun j s h1 h2 => h j s (by omega) h2)
      rw [show l.length - (i + 1) = k by omega] at ih
      exact ih
    | brk e => rfl
    | ret r => rfl
  · rw [show l.length - i = 0 by omega, List.drop_eq_nil_of_le (by omega)]
    simp [cnt, loopL, hf]
  termination_by i => l.length - i
theorem cnt_list0 {body : Nat → σ → Option (Stp σ ε ρ)} {fin : Nat → σ → ε} {f : σ → ε} (d : α) (l : List α) (g : α → σ → Stp σ ε ρ) (I : Nat → σ → Prop) (hf : ∀ i s, fin i s = f s) (s : σ) (hI : I 0 s)
    (h : ∀ j s, j < l.length → I j s → body j s = some (g (l.getD j d) s) ∧ ∀ s', g (l.getD j d) s = .go s' → I (j + 1) s') :
    cnt body fin (l.length - 0) 0 s = some (loopL g f l s) := by
  have := cnt_list d l g I hf 0 s hI (fun j s _ h1 h2 => h j s h1 h2)
  simpa using this
theorem cnt_place {body : Nat → Unit → Option (Stp Unit Nat ρ)} (p : Nat → Bool) : ∀ (k i : Nat) (u : Unit), (∀ j u, i ≤ j → j < i + k → body j u = some (bif p j then .brk j else .go ())) →
    cnt body (fun i _ => i) k i u = some (.brk (match (List.range' i k).find? p with | some j => j | none => i + k))
  | 0, i, u, h => by simp [cnt]
  | k + 1, i, u, h => by
    simp only [cnt, h i u (Nat.le_refl _) (by omega), List.range'_succ, List.find?_cons]
    cases hp : p i with
    | false =>
      simp only [cond_false, Option.bind_some, stp]
      rw [cnt_place p k (i + 1) () (fun j u h1 h2 => h j u (by omega) (by omega))]
      rw [show i + 1 + k = i + (k + 1) by omega]
    | true => simp [stp]
theorem idxOf_pos (p : α → Bool) (d : α) : ∀ l : List α, 0 ≤ idxOf p l → (idxOf p l).toNat < l.length ∧ p (l.getD (idxOf p l).toNat d) = true
  | [], h => by simp [idxOf] at h
  | x :: l, h => by
    cases hp : p x with
    | true => simp [idxOf, hp]
    | false =>
      have hge := idxOf_ge p l
      simp only [idxOf, hp, cond_false] at h ⊢
      by_cases hm : idxOf p l = -1
      · rw [hm] at h; simp at h
      · have e : (idxOf p l == -1) = false := by simpa using hm
        rw [e, cond_false]
        obtain ⟨h1, h2⟩ := idxOf_pos p d l (by omega)
        have e2 : (idxOf p l + 1).toNat = (idxOf p l).toNat + 1 := by omega
        rw [e2]
        exact ⟨by simp; omega, by simpa using h2⟩
theorem idxOf_lt (p : α → Bool) (d : α) (l : List α) : idxOf p l < (l.length : Int) := by
  by_cases h : 0 ≤ idxOf p l
  · have := (idxOf_pos p d l h).1; omega
  · omega
theorem place_idx (p : α → Bool) (d : α) (l : List α) : ((match (List.range' 0 (l.length - 0)).find? (fun j => p (l.getD j d)) with | some j => j | none => 0 + (l.length - 0)) : Nat) = (bif decide (idxOf p l < 0) then l.length else (idxOf p l).toNat) := by
  have h := find_idx0 p d l
  have hge := idxOf_ge p l
  cases hf : (List.range' 0 (l.length - 0)).find? (fun j => p (l.getD j d)) with
  | none =>
    rw [hf] at h
    have h : (-1 : Int) = idxOf p l := h
    rw [← h]; simp
  | some j =>
    rw [hf] at h
    have h : ((j : Nat) : Int) = idxOf p l := h
    rw [← h, decide_eq_false (by omega)]; simp
end
end Go.Sh



/- PLAIN LAWS of layer 5: what a valid polynomial is. -/
namespace Go.Proofs.YtjfpcjnopbfekaaGreatDoor
open Go.Ab Go.Sh
theorem w64_same {n : Int} (h1 : -9223372036854775808 ≤ n) (h2 : n ≤ 9223372036854775807) : w64 n = n := by unfold w64 IntKind.wrap IntKind.bits IntKind.signed; simp; omega
theorem isNaN_f (x : Str) : cmp_isNaN_string x = some false := by simp [cmp_isNaN_string]
theorem less_eq (x y : Str) : cmp_Less_string x y = some (Op.bytesLess x y) := by simp [cmp_Less_string, isNaN_f]
theorem compare1_eq (x y : Str) : cmp_Compare_string x y = some (cmpS x y) := by
  simp only [cmp_Compare_string, isNaN_f, Option.bind_some, cond_false]
  cases h : Op.bytesLess x y with
  | true => simp [cmpS, h]
  | false =>
    rcases cb_tri x y with h1 | h1 | h1
    · rw [h] at h1; cases h1
    · subst h1; simp [cmpS, h]
    · have hne : (x == y) = false := by
        rw [beq_eq_false_iff_ne]; intro e; subst e; rw [h] at h1; cases h1
      simp [cmpS, h, h1, hne]
theorem compare_eq (a b : List Str) : slices_Compare_string a b = some (cmpL a b) := by
  unfold slices_Compare_string
  generalize hb : (fun (i37 : Nat) (s36 : Unit) => _ : Nat → Unit → Option (Stp Unit Unit Int)) = body
  have key : ∀ k i u, i + k = a.length → i ≤ b.length → (∀ j, j < i → a.getD j [] = b.getD j []) → (cnt body (fun _ _ => ()) k i u).bind (aft fun _ => bif decide (((a.length : Nat) : Int) < ((b.length : Nat) : Int)) then some (-1) else some 0) = some (cmpL a b) := by
    intro k
    induction k with
    | zero =>
      intro i u h1 h2 hA
      simp only [cnt, Option.bind_some, Sh.aft]
      by_cases h : a.length < b.length
      · rw [decide_eq_true (by omega), cmpL_lt hA (by omega) (by omega)]; rfl
      · rw [decide_eq_false (by omega), cmpL_eq hA (by omega) (by omega)]; rfl
    | succ k ih =>
      intro i u h1 h2 hA
      have e0 : body i u = bif decide (((i : Nat) : Int) ≥ ((b.length : Nat) : Int)) then some (.ret 1) else (cmp_Compare_string (a.getD i []) (b.getD i [])).bind fun y => bif (y == 0) then some (.go ()) else some (.ret y) := by rw [← hb]
      simp only [cnt]
      rw [e0]
      by_cases hl : b.length ≤ i
      · rw [decide_eq_true (by omega), cmpL_gt hA (by omega) (by omega)]; rfl
      · rw [decide_eq_false (by omega)]
        simp only [cond_false, compare1_eq, Option.bind_some]
        by_cases hz : cmpS (a.getD i []) (b.getD i []) = 0
        · rw [hz]
          simp only [beq_self_eq_true, cond_true, Option.bind_some, stp]
          exact ih (i + 1) () (by omega) (by omega) fun j hj => by
            by_cases e : j = i
            · subst e; exact cmpS_zero.1 hz
            · exact hA j (by omega)
        · rw [beq_eq_false_iff_ne.2 hz, cmpL_at hA (by omega) (by omega) hz]
          simp [stp, Sh.aft]
  exact key (a.length - 0) 0 () (by omega) (Nat.zero_le _) (fun j hj => absurd hj (Nat.not_lt_zero _))
theorem order_eq (a b : List Str) (ha : a.length ≤ 1000000) (hb2 : b.length ≤ 1000000) : ∃ r, ref05_order a b = some r ∧ (0 ≤ r ↔ 0 ≤ cmpL a b) ∧ (r = 0 ↔ cmpL a b = 0) := by
  unfold ref05_order
  generalize hb : (fun (i47 : Nat) (s46 : Unit) => _ : Nat → Unit → Option (Stp Unit Unit Int)) = body
  have hend : w64 (((a.length : Nat) : Int) - ((b.length : Nat) : Int)) = ((a.length : Nat) : Int) - ((b.length : Nat) : Int) := w64_same (by omega) (by omega)
  have key : ∀ k i u, i + k = a.length → i ≤ b.length → (∀ j, j < i → a.getD j [] = b.getD j []) → ∃ r, (cnt body (fun _ _ => ()) k i u).bind (aft fun _ => some (w64 (((a.length : Nat) : Int) - ((b.length : Nat) : Int)))) = some r ∧ (0 ≤ r ↔ 0 ≤ cmpL a b) ∧ (r = 0 ↔ cmpL a b = 0) := by
    intro k
    induction k with
    | zero =>
      intro i u h1 h2 hA
      refine ⟨_, rfl, ?_⟩
      rw [hend]
      by_cases h : a.length < b.length
      · rw [cmpL_lt hA (by omega) (by omega)]; omega
      · rw [cmpL_eq hA (by omega) (by omega)]; omega
    | succ k ih =>
      intro i u h1 h2 hA
      have e0 : body i u = bif decide (((i : Nat) : Int) < ((b.length : Nat) : Int)) then (bif (Op.bytesLess (a.getD i []) (b.getD i [])) then some (.ret (-1)) else (bif (Op.bytesLess (a.getD i []) (b.getD i []) || (a.getD i []) == (b.getD i [])) then some (.go ()) else some (.ret 1))) else some (.brk ()) := by rw [← hb]
      simp only [cnt]
      rw [e0]
      by_cases hl : b.length ≤ i
      · rw [decide_eq_false (by omega)]
        refine ⟨_, rfl, ?_⟩
        rw [hend, cmpL_gt hA (by omega) (by omega)]; omega
      · rw [decide_eq_true (by omega)]
        simp only [cond_true]
        rcases cb_tri (a.getD i []) (b.getD i []) with h3 | h3 | h3
        · rw [h3, cmpL_at hA (by omega) (by omega) (by have := cmpS_neg.2 h3; omega)]
          refine ⟨_, rfl, ?_⟩
          have := cmpS_neg.2 h3; omega
        · rw [h3, cb_irrefl]
          simp only [cond_false, Bool.false_or, beq_self_eq_true, cond_true, Option.bind_some, stp]
          exact ih (i + 1) () (by omega) (by omega) fun j hj => by
            by_cases e : j = i
            · subst e; exact h3
            · exact hA j (by omega)
        · have hne : (a.getD i [] == b.getD i []) = false := by
            rw [beq_eq_false_iff_ne]; intro e; rw [e, cb_irrefl] at h3; cases h3
          rw [cb_asymm h3, hne, cmpL_at hA (by omega) (by omega) (by have := cmpS_pos.2 h3; omega)]
          refine ⟨_, rfl, ?_⟩
          have := cmpS_pos.2 h3; omega
  exact key (a.length - 0) 0 () (by omega) (Nat.zero_le _) (fun j hj => absurd hj (Nat.not_lt_zero _))
def srtB (x : List Str) : Bool := (List.range' 1 (x.length - 1)).all fun j => !(Op.bytesLess (x.getD j []) (x.getD (j - 1) []))
theorem range'_last (n : Nat) : List.range' 1 (n + 1) = List.range' 1 n ++ [n + 1] := by
  rw [List.range'_concat]; simp [Nat.add_comm]
theorem isSorted_eq (x : List Str) (hx : x.length ≤ 1000000) : slices_IsSorted_string x = some (srtB x) := by
  unfold slices_IsSorted_string
  generalize hb : (fun (s32 : Int) => _ : Int → Option (Stp Int Unit Bool)) = body
  have key : ∀ k fuel, k < x.length ∨ k = 0 → k < fuel → (whl body fuel ((k : Nat) : Int)).bind (aft fun _ => some true) = some ((List.range' 1 k).all fun j => !(Op.bytesLess (x.getD j []) (x.getD (j - 1) []))) := by
    intro k
    induction k with
    | zero =>
      intro fuel _ hf
      obtain ⟨f, rfl⟩ : ∃ f, fuel = f + 1 := ⟨fuel - 1, by omega⟩
      have e0 : body ((0 : Nat) : Int) = some (.brk ()) := by rw [← hb]; rfl
      simp only [whl, e0, Option.bind_some, stp, Sh.aft]; rfl
    | succ k ih =>
      intro fuel hk hf
      obtain ⟨f, rfl⟩ : ∃ f, fuel = f + 1 := ⟨fuel - 1, by omega⟩
      have ew : w64 (((k + 1 : Nat) : Int) - 1) = ((k : Nat) : Int) := by rw [w64_same (by omega) (by omega)]; omega
      have e0 : body ((k + 1 : Nat) : Int) = bif (Op.bytesLess (x.getD (k + 1) []) (x.getD k [])) then some (.ret false) else some (.go ((k : Nat) : Int)) := by
        rw [← hb]
        simp only [ew]
        rw [decide_eq_true (by omega)]
        simp only [cond_true]
        rw [grd_pos (by omega), grd_pos (by omega), less_eq]
        simp
      simp only [whl, e0]
      rw [range'_last, List.all_append]
      cases h : Op.bytesLess (x.getD (k + 1) []) (x.getD k []) with
      | true => simp only [cond_true, Option.bind_some, stp, Sh.aft, List.all_cons, List.all_nil, Bool.and_true, Nat.add_sub_cancel, h, Bool.not_true, Bool.and_false]
      | false =>
        simp only [cond_false, Option.bind_some, stp]
        rw [ih f (by omega) (by omega)]
        simp only [List.all_cons, List.all_nil, Bool.and_true, Nat.add_sub_cancel, h, Bool.not_false]
  by_cases h0 : x.length = 0
  · have ex : x = [] := List.eq_nil_of_length_eq_zero h0
    subst ex
    have e0 : body (w64 (-1)) = some (.brk ()) := by rw [← hb]; rfl
    have e1 : w64 ((([] : List Str).length : Nat) - 1 : Int) = w64 (-1) := rfl
    have e2 : ∀ fuel, (whl body (fuel + 1) (w64 (-1))).bind (Sh.aft fun _ => some true) = some true := fun fuel => by simp only [whl, e0, Option.bind_some, stp, Sh.aft]
    exact e2 4294967295
  · have ew : w64 (((x.length : Nat) : Int) - 1) = ((x.length - 1 : Nat) : Int) := by rw [w64_same (by omega) (by omega)]; omega
    rw [ew]
    exact key (x.length - 1) _ (by omega) (by omega)
theorem contains_eq (x : List Str) (hN : ∀ v ∈ x, v.length ≤ 1000000) : slices_ContainsFunc_string x = some (!(x.all nameS)) := by
  have h1 : ∀ v ∈ x, poly_Valid_1 v = some (!(nameS v)) := fun v hv => by unfold poly_Valid_1; rw [linear_Name_eq v (hN v hv)]; rfl
  unfold slices_ContainsFunc_string slices_IndexFunc_string
  rw [cnt_find (f := fun j => ((j : Nat) : Int)) (fun j => !(nameS (x.getD j []))) _ _ () (fun j u _ hj => by
    rw [h1 (x.getD j []) (by rw [List.getD_eq_getElem?_getD, List.getElem?_eq_getElem (by omega)]; exact List.getElem_mem _)]
    cases nameS (x.getD j []) <;> rfl)]
  have h2 := find_idx0 (fun v => !(nameS v)) [] x
  have h3 := idxOf_neg (fun v => !(nameS v)) x
  have h4 : x.any (fun v => !(nameS v)) = !(x.all nameS) := by
    rw [List.not_all_eq_any_not]
  generalize (List.range' 0 (x.length - 0)).find? (fun j => !(nameS (x.getD j []))) = o at h2 ⊢
  cases o with
  | none =>
    simp only [Option.bind_some, Sh.aft]
    rw [← h2] at h3
    rw [← h4, h3.1 (by decide)]; rfl
  | some j =>
    simp only [Option.bind_some, Sh.aft]
    rw [← h2] at h3
    have : x.any (fun v => !(nameS v)) = true := by
      cases h5 : x.any (fun v => !(nameS v)) with
      | true => rfl
      | false => have h6 := h3.2 h5; simp only at h6; omega
    rw [← h4, this]
    simp
def okM (m : Monomial) : Bool := !(m.Coef == 0) && (decide (-1099511627776 ≤ m.Coef) && (decide (m.Coef ≤ 1099511627776) && (decide (m.Vars.length ≤ 8) && (srtB m.Vars && m.Vars.all nameS))))
def monoAt (p : List Monomial) (j : Nat) : Monomial := p.getD j ⟨0, []⟩
def stepOk (p : List Monomial) (j : Nat) : Bool := okM (monoAt p j) && (((j : Nat) : Int) == 0 || decide (cmpL (monoAt p (j - 1)).Vars (monoAt p j).Vars < 0))
def validP (p : List Monomial) : Bool := (List.range' 0 (p.length - 0)).all (stepOk p) && decide (p.length ≤ 60)
def Bd (p : List Monomial) : Prop := p.length ≤ 1000000 ∧ ∀ m ∈ p, m.Vars.length ≤ 1000000 ∧ ∀ v ∈ m.Vars, v.length ≤ 1000000
theorem monoAt_mem {p : List Monomial} {j : Nat} (h : j < p.length) : monoAt p j ∈ p := by
  unfold monoAt; rw [List.getD_eq_getElem?_getD, List.getElem?_eq_getElem h]; exact List.getElem_mem _
theorem poly_Valid_eq (p : List Monomial) (hB : Bd p) : poly_Valid p = some (validP p) := by
  unfold poly_Valid
  rw [cnt_all (stepOk p) _ _ () (fun j u _ hj => by
    have hm := hB.2 _ (monoAt_mem (p := p) (j := j) (by omega))
    have hw : ∀ (h : 0 < j), w64 (((j : Nat) : Int) - 1) = ((j - 1 : Nat) : Int) := fun h => by rw [w64_same (by have := hB.1; omega) (by have := hB.1; omega)]; omega
    show _ = _
    unfold stepOk okM
    simp only [show p.getD j ⟨0, []⟩ = monoAt p j from rfl, isSorted_eq _ hm.1, contains_eq _ hm.2, Option.bind_some]
    by_cases hj0 : 0 < j
    · have hjz : (((j : Nat) : Int) == 0) = false := by simp; omega
      rw [hw hj0, grd_pos (by omega), hjz, decide_eq_true (show ((j : Nat) : Int) > 0 by omega)]
      simp only [Int.toNat_natCast, show p.getD (j - 1) ⟨0, []⟩ = monoAt p (j - 1) from rfl, compare_eq, Option.bind_some, Bool.false_or, cond_true]
      generalize cmpL (monoAt p (j - 1)).Vars (monoAt p j).Vars = r
      generalize monoAt p j = m
      have e1 : decide (m.Coef < -1099511627776) = !(decide (-1099511627776 ≤ m.Coef)) := by rw [Bool.eq_iff_iff]; simp
      have e2 : decide (m.Coef > 1099511627776) = !(decide (m.Coef ≤ 1099511627776)) := by rw [Bool.eq_iff_iff]; simp
      have e3 : decide (((m.Vars.length : Nat) : Int) > 8) = !(decide (m.Vars.length ≤ 8)) := by rw [Bool.eq_iff_iff]; simp; omega
      have e4 : decide (r ≥ 0) = !(decide (r < 0)) := by rw [Bool.eq_iff_iff]; simp
      rw [e1, e2, e3, e4]
      cases m.Coef == 0 <;> cases decide (-1099511627776 ≤ m.Coef) <;> cases decide (m.Coef ≤ 1099511627776) <;> cases decide (m.Vars.length ≤ 8) <;> cases srtB m.Vars <;> cases m.Vars.all nameS <;> cases decide (r < 0) <;> rfl
    · have : j = 0 := by omega
      subst this
      generalize monoAt p 0 = m
      have e1 : decide (m.Coef < -1099511627776) = !(decide (-1099511627776 ≤ m.Coef)) := by rw [Bool.eq_iff_iff]; simp
      have e2 : decide (m.Coef > 1099511627776) = !(decide (m.Coef ≤ 1099511627776)) := by rw [Bool.eq_iff_iff]; simp
      have e3 : decide (((m.Vars.length : Nat) : Int) > 8) = !(decide (m.Vars.length ≤ 8)) := by rw [Bool.eq_iff_iff]; simp; omega
      rw [e1, e2, e3]
      cases m.Coef == 0 <;> cases decide (-1099511627776 ≤ m.Coef) <;> cases decide (m.Coef ≤ 1099511627776) <;> cases decide (m.Vars.length ≤ 8) <;> cases srtB m.Vars <;> cases m.Vars.all nameS <;> rfl), aft_bif]
  unfold validP
  cases (List.range' 0 (p.length - 0)).all (stepOk p) with
  | false => rfl
  | true =>
    simp only [cond_true, Bool.true_and, Option.some.injEq]
    rw [decide_eq_decide]; omega
end Go.Proofs.YtjfpcjnopbfekaaGreatDoor



/- PLAIN LAWS of layer 5: the specification says just as much of a valid polynomial. -/
namespace Go.Proofs.YtjfpcjnopbfekaaGreatDoor
open Go.Ab Go.Sh
theorem le_flip (x y : Str) : (Op.bytesLess x y || x == y) = !(Op.bytesLess y x) := by
  rcases cb_tri x y with h | h | h
  · simp [h, cb_asymm h]
  · subst h; simp [cb_irrefl]
  · have hne : (x == y) = false := by rw [beq_eq_false_iff_ne]; intro e; subst e; rw [cb_irrefl] at h; cases h
    simp [h, hne, cb_asymm h]
def nm (x : List Str) (k : Nat) : Bool := nameS (x.getD k []) && (((k : Nat) : Int) == 0 || !(Op.bytesLess (x.getD k []) (x.getD (k - 1) [])))
theorem nm_all (x : List Str) : (List.range' 0 (x.length - 0)).all (nm x) = (srtB x && x.all nameS) := by
  have h1 := all0 nameS [] x
  rw [← h1]
  unfold srtB
  rw [Bool.eq_iff_iff]
  simp only [Bool.and_eq_true, List.all_eq_true, List.mem_range'_1, nm, Bool.or_eq_true, beq_iff_eq]
  constructor
  · intro h
    refine ⟨fun j hj => ?_, fun j hj => (h j hj).1⟩
    rcases (h j (by omega)).2 with h2 | h2
    · omega
    · exact h2
  · rintro ⟨h2, h3⟩ j hj
    refine ⟨h3 j hj, ?_⟩
    by_cases h0 : j = 0
    · exact .inl (by omega)
    · exact .inr (h2 j (by omega))
theorem ref05_Valid_eq (p : List Monomial) (hB : Bd p) : ref05_Valid p = some (validP p) := by
  unfold ref05_Valid
  unfold validP
  by_cases h60 : p.length ≤ 60
  · rw [decide_eq_false (by omega), decide_eq_true h60]
    simp only [cond_false, Bool.and_true]
    rw [cnt_all (stepOk p) _ _ () (fun j u _ hj => by
      have hm := hB.2 _ (monoAt_mem (p := p) (j := j) (by omega))
      have hw : ∀ {j : Nat} (h : 0 < j), j ≤ 1000000 → w64 (((j : Nat) : Int) - 1) = ((j - 1 : Nat) : Int) := fun h h2 => by rw [w64_same (by omega) (by omega)]; omega
      show _ = _
      simp only [show p.getD j ⟨0, []⟩ = monoAt p j from rfl]
      rw [cnt_all (nm (monoAt p j).Vars) _ _ () (fun k u _ hk => by
        unfold nm
        rw [ref04_Name_eq]
        simp only [Option.bind_some]
        cases nameS ((monoAt p j).Vars.getD k []) with
        | false => rfl
        | true =>
          simp only [cond_true, Bool.true_and]
          by_cases hk0 : 0 < k
          · have hkz : (((k : Nat) : Int) == 0) = false := by simp; omega
            rw [hw hk0 (by omega), grd_pos (by omega), hkz, decide_eq_true (show ((k : Nat) : Int) > 0 by omega)]
            simp only [Int.toNat_natCast, le_flip, Bool.false_or, cond_true]
            cases Op.bytesLess ((monoAt p j).Vars.getD k []) ((monoAt p j).Vars.getD (k - 1) []) <;> rfl
          · have : k = 0 := by omega
            subst this
            rfl), nm_all]
      unfold stepOk okM
      by_cases hj0 : 0 < j
      · have hm' := hB.2 _ (monoAt_mem (p := p) (j := j - 1) (by omega))
        have hjz : (((j : Nat) : Int) == 0) = false := by simp; omega
        obtain ⟨r, hr, hr1, hr2⟩ := order_eq (monoAt p (j - 1)).Vars (monoAt p j).Vars hm'.1 hm.1
        rw [hw hj0 (by omega), grd_pos (by omega), hjz, decide_eq_true (show ((j : Nat) : Int) > 0 by omega)]
        simp only [Int.toNat_natCast, show p.getD (j - 1) ⟨0, []⟩ = monoAt p (j - 1) from rfl, hr, Option.bind_some, Bool.false_or, cond_true]
        have e4 : decide (r ≥ 0) = !(decide (cmpL (monoAt p (j - 1)).Vars (monoAt p j).Vars < 0)) := by rw [Bool.eq_iff_iff]; simp; omega
        rw [e4]
        generalize cmpL (monoAt p (j - 1)).Vars (monoAt p j).Vars = r
        generalize monoAt p j = m
        have e1 : decide (m.Coef < -1099511627776) = !(decide (-1099511627776 ≤ m.Coef)) := by rw [Bool.eq_iff_iff]; simp
        have e2 : decide (m.Coef > 1099511627776) = !(decide (m.Coef ≤ 1099511627776)) := by rw [Bool.eq_iff_iff]; simp
        have e3 : decide (((m.Vars.length : Nat) : Int) > 8) = !(decide (m.Vars.length ≤ 8)) := by rw [Bool.eq_iff_iff]; simp; omega
        rw [e1, e2, e3]
        cases m.Coef == 0 <;> cases decide (-1099511627776 ≤ m.Coef) <;> cases decide (m.Coef ≤ 1099511627776) <;> cases decide (m.Vars.length ≤ 8) <;> cases srtB m.Vars <;> cases m.Vars.all nameS <;> cases decide (r < 0) <;> rfl
      · have : j = 0 := by omega
        subst this
        generalize monoAt p 0 = m
        have e1 : decide (m.Coef < -1099511627776) = !(decide (-1099511627776 ≤ m.Coef)) := by rw [Bool.eq_iff_iff]; simp
        have e2 : decide (m.Coef > 1099511627776) = !(decide (m.Coef ≤ 1099511627776)) := by rw [Bool.eq_iff_iff]; simp
        have e3 : decide (((m.Vars.length : Nat) : Int) > 8) = !(decide (m.Vars.length ≤ 8)) := by rw [Bool.eq_iff_iff]; simp; omega
        rw [e1, e2, e3]
        cases m.Coef == 0 <;> cases decide (-1099511627776 ≤ m.Coef) <;> cases decide (m.Coef ≤ 1099511627776) <;> cases decide (m.Vars.length ≤ 8) <;> cases srtB m.Vars <;> cases m.Vars.all nameS <;> rfl), aft_bif]
    cases (List.range' 0 (p.length - 0)).all (stepOk p) <;> rfl
  · rw [decide_eq_true (by omega), decide_eq_false h60]
    simp
end Go.Proofs.YtjfpcjnopbfekaaGreatDoor



/- PLAIN LAWS of layer 3: products and sums are exact, or there is an error. -/
namespace Go.Proofs.YtjfpcjnopbfekaaGreatDoor
open Go.Ab Go.Sh
theorem cnt_inv {σ ε ρ : Type} {body : Nat → σ → Option (Stp σ ε ρ)} {fin : Nat → σ → ε} (I : Nat → σ → Prop) : ∀ (k i : Nat) (s : σ), I i s → (∀ j s, i ≤ j → j < i + k → I j s → ∃ s', body j s = some (.go s') ∧ I (j + 1) s') →
    ∃ s', cnt body fin k i s = some (.brk (fin (i + k) s')) ∧ I (i + k) s'
  | 0, i, s, hI, h => ⟨s, by simp [cnt], hI⟩
  | k + 1, i, s, hI, h => by
    obtain ⟨s1, h1, h2⟩ := h i s (Nat.le_refl _) (by omega) hI
    obtain ⟨s', e1, e3⟩ := cnt_inv I k (i + 1) s1 h2 (fun j s h1 h2 => h j s (by omega) (by omega))
    refine ⟨s', ?_, by rw [show i + (k + 1) = i + 1 + k by omega]; exact e3⟩
    simp only [cnt, h1, Option.bind_some, stp]
    rw [e1, show i + 1 + k = i + (k + 1) by omega]
def inB (n : Int) : Bool := decide (-4611686018427387904 ≤ n) && decide (n ≤ 4611686018427387904)
theorem inB_iff {n : Int} : inB n = true ↔ -4611686018427387904 ≤ n ∧ n ≤ 4611686018427387904 := by simp [inB]
theorem ref03_In_eq (n : Int) : ref03_In n = some (inB n) := by
  unfold ref03_In inB
  by_cases h : -4611686018427387904 ≤ n
  · rw [decide_eq_true (show n ≥ -4611686018427387904 from h)]; rfl
  · rw [decide_eq_false (show ¬ n ≥ -4611686018427387904 from h)]; rfl
theorem intmath_in_eq (l : List Int) : intmath_in l = some (l.all inB) := by
  unfold intmath_in
  rw [cnt_all (fun j => inB (l.getD j 0)) _ _ () (fun j u _ _ => by
    generalize l.getD j 0 = n
    unfold inB
    have e1 : decide (n < -4611686018427387904) = !(decide (-4611686018427387904 ≤ n)) := by rw [Bool.eq_iff_iff]; simp
    have e2 : decide (n > 4611686018427387904) = !(decide (n ≤ 4611686018427387904)) := by rw [Bool.eq_iff_iff]; simp
    rw [e1, e2]
    cases decide (-4611686018427387904 ≤ n) <;> cases decide (n ≤ 4611686018427387904) <;> rfl), aft_bif, all0 inB 0 l]
  cases l.all inB <;> rfl
theorem abs_nat {a : Int} (h : inB a = true) : intmath_abs a = some (a.natAbs : Int) ∧ ref03_abs a = some (a.natAbs : Int) ∧ a.natAbs ≤ 4611686018427387904 := by
  rw [inB_iff] at h
  unfold intmath_abs ref03_abs
  by_cases h0 : a < 0
  · rw [decide_eq_true h0]
    simp only [cond_true, Option.some.injEq]
    rw [w64_same (by omega) (by omega)]; omega
  · rw [decide_eq_false h0]
    simp only [cond_false, Option.some.injEq]; omega
theorem wrap_u64 {n : Int} (h0 : 0 ≤ n) (h : n < 18446744073709551616) : IntKind.wrap .u64 n = n := by
  unfold IntKind.wrap IntKind.bits IntKind.signed; simp; omega
theorem wrap_i64 {n : Int} (h0 : 0 ≤ n) (h : n ≤ 9223372036854775807) : IntKind.wrap .i64 n = n := w64_same (by omega) h
def mulR (a b : Int) : Int × Int := bif inB a && (inB b && inB (a * b)) then (a * b, 0) else (0, 2)
theorem prod_sign (a b : Int) : ((decide (a < 0) == decide (b < 0)) = true → a * b = ((a.natAbs * b.natAbs : Nat) : Int)) ∧ ((decide (a < 0) == decide (b < 0)) = false → a * b = -((a.natAbs * b.natAbs : Nat) : Int)) := by
  rcases Int.natAbs_eq a with ha | ha <;> rcases Int.natAbs_eq b with hb | hb
  all_goals
    generalize a.natAbs = x at ha ⊢
    generalize b.natAbs = y at hb ⊢
    subst ha; subst hb
  · refine ⟨fun _ => by push_cast; rfl, fun h => ?_⟩
    rw [decide_eq_false (by omega), decide_eq_false (by omega)] at h; cases h
  · constructor
    · intro h
      by_cases hy : y = 0
      · subst hy; simp
      · rw [decide_eq_false (by omega), decide_eq_true (by omega)] at h; cases h
    · intro _; rw [Int.mul_neg]; push_cast; rfl
  · constructor
    · intro h
      by_cases hx : x = 0
      · subst hx; simp
      · rw [decide_eq_true (by omega), decide_eq_false (by omega)] at h; cases h
    · intro _; rw [Int.neg_mul]; push_cast; rfl
  · constructor
    · intro _; rw [Int.neg_mul_neg]; push_cast; rfl
    · intro h
      by_cases hx : x = 0
      · subst hx; simp
      · by_cases hy : y = 0
        · subst hy; simp
        · rw [decide_eq_true (by omega), decide_eq_true (by omega)] at h; cases h
theorem bnd_some {α β : Type} (x : α) (f : α → Option β) : (some x).bind f = f x := Eq.trans (Option.bind_some x f) rfl
theorem mul64_eq {x y : Int} (hx : 0 ≤ x ∧ x < 18446744073709551616) (hy : 0 ≤ y ∧ y < 18446744073709551616) : lib_Mul64 x y = some (x * y / 18446744073709551616, x * y % 18446744073709551616) := if_pos ⟨hx, hy⟩
theorem intmath_Mul_eq (a b : Int) : intmath_Mul a b = some (mulR a b) := by
  unfold intmath_Mul mulR
  rw [intmath_in_eq]
  simp only [List.all_cons, List.all_nil, Bool.and_true, bnd_some]
  cases ha : inB a with
  | false => rfl
  | true =>
    cases hb : inB b with
    | false => rfl
    | true =>
      obtain ⟨a1, _, a2⟩ := abs_nat ha
      obtain ⟨b1, _, b2⟩ := abs_nat hb
      simp only [Bool.true_and, cond_true]
      rw [a1, b1]
      simp only [bnd_some]
      rw [wrap_u64 (by omega) (by omega), wrap_u64 (by omega) (by omega), mul64_eq ⟨by omega, by omega⟩ ⟨by omega, by omega⟩]
      obtain ⟨s1, s2⟩ := prod_sign a b
      have hP : ((a.natAbs : Int) * (b.natAbs : Int)) = ((a.natAbs * b.natAbs : Nat) : Int) := by push_cast; rfl
      rw [hP]
      generalize a.natAbs * b.natAbs = P at s1 s2 ⊢
      generalize hhi : (P : Int) / 18446744073709551616 = hi
      generalize hlo : (P : Int) % 18446744073709551616 = lo
      simp only [bnd_some]
      by_cases hbig : P ≤ 4611686018427387904
      · rw [decide_eq_false (show ¬ (hi > 0) by omega), decide_eq_false (show ¬ (lo > 4611686018427387904) by omega)]
        simp only [cond_false]
        have em : lo = P := by omega
        rw [em, wrap_i64 (by omega) (by omega)]
        cases hs : (decide (a < 0) == decide (b < 0)) with
        | true =>
          rw [s1 hs]
          have : inB (P : Int) = true := inB_iff.2 ⟨by omega, by omega⟩
          rw [this]; rfl
        | false =>
          rw [s2 hs]
          have : inB (-(P : Int)) = true := inB_iff.2 ⟨by omega, by omega⟩
          rw [this, w64_same (by omega) (by omega), Int.zero_sub]; rfl
      · have hab : inB (a * b) = false := by
          have : ¬ (inB (a * b) = true) := by
            rw [inB_iff]
            cases hs : (decide (a < 0) == decide (b < 0)) with
            | true => rw [s1 hs]; omega
            | false => rw [s2 hs]; omega
          simpa using this
        rw [hab]
        by_cases hq : hi > 0
        · rw [decide_eq_true hq]; rfl
        · rw [decide_eq_false hq, decide_eq_true (show lo > 4611686018427387904 by omega)]; rfl
theorem ref03_Mul_eq (a b : Int) : ref03_Mul a b = some (mulR a b) := by
  unfold ref03_Mul mulR
  simp only [ref03_In_eq, Option.bind_some]
  cases ha : inB a with
  | false => simp
  | true =>
    cases hb : inB b with
    | false => simp
    | true =>
      simp only [Bool.true_and, cond_true]
      by_cases ha0 : a = 0
      · subst ha0; simp [inB]
      · by_cases hb0 : b = 0
        · subst hb0
          have : (a == 0) = false := by simpa using ha0
          rw [this]; simp [inB]
        · obtain ⟨_, a1, a2⟩ := abs_nat ha
          obtain ⟨_, b1, b2⟩ := abs_nat hb
          rw [beq_eq_false_iff_ne.2 ha0, beq_eq_false_iff_ne.2 hb0]
          simp only [cond_false, a1, b1, Option.bind_some]
          rw [grd_pos (by omega)]
          obtain ⟨s1, s2⟩ := prod_sign a b
          have hbn : 0 < b.natAbs := by omega
          have e1 : (4611686018427387904 : Int).tdiv (b.natAbs : Int) = ((4611686018427387904 / b.natAbs : Nat) : Int) := by
            rw [Int.tdiv_eq_ediv_of_nonneg (by decide)]; rfl
          have hq : 4611686018427387904 / b.natAbs ≤ 4611686018427387904 := Nat.div_le_self _ _
          have hd : (a.natAbs ≤ 4611686018427387904 / b.natAbs) ↔ a.natAbs * b.natAbs ≤ 4611686018427387904 := Nat.le_div_iff_mul_le hbn
          rw [e1]
          generalize 4611686018427387904 / b.natAbs = q at hq hd ⊢
          rw [w64_same (by omega) (by omega)]
          by_cases hle : a.natAbs * b.natAbs ≤ 4611686018427387904
          · rw [decide_eq_false (by have := hd.2 hle; omega)]
            have : inB (a * b) = true := by
              rw [inB_iff]
              cases hs : (decide (a < 0) == decide (b < 0)) with
              | true => rw [s1 hs]; omega
              | false => rw [s2 hs]; omega
            have h2 := inB_iff.1 this
            rw [this, w64_same (by omega) (by omega)]; rfl
          · rw [decide_eq_true (by have : ¬ a.natAbs ≤ q := fun h => hle (hd.1 h); omega)]
            have : inB (a * b) = false := by
              have : ¬ (inB (a * b) = true) := by
                rw [inB_iff]
                cases hs : (decide (a < 0) == decide (b < 0)) with
                | true => rw [s1 hs]; omega
                | false => rw [s2 hs]; omega
              simpa using this
            rw [this]; rfl
end Go.Proofs.YtjfpcjnopbfekaaGreatDoor



/- PLAIN LAWS of layer 3: the long sums of the program are exact. -/
namespace Go.Proofs.YtjfpcjnopbfekaaGreatDoor
open Go.Ab Go.Sh
def v3 (a b c : Int) : Int := a + b * 18446744073709551616 + c * 340282366920938463463374607431768211456
def lm (x : Int) : Prop := 0 ≤ x ∧ x < 18446744073709551616
theorem add64_eq {x y c : Int} (hx : lm x) (hy : lm y) (hc : 0 ≤ c ∧ c ≤ 1) : lib_Add64 x y c = some ((x + y + c) % 18446744073709551616, (x + y + c) / 18446744073709551616) := if_pos ⟨hx, hy, hc⟩
theorem add64_ex {x y c : Int} (hx : lm x) (hy : lm y) (hc : 0 ≤ c ∧ c ≤ 1) : ∃ r d, lib_Add64 x y c = some (r, d) ∧ lm r ∧ (0 ≤ d ∧ d ≤ 1) ∧ r + d * 18446744073709551616 = x + y + c := by
  refine ⟨_, _, add64_eq hx hy hc, ?_⟩
  unfold lm at *
  generalize hs : x + y + c = s
  omega
theorem mul64_ex {x y : Int} (hx : lm x) (hy : lm y) : ∃ hi lo, lib_Mul64 x y = some (hi, lo) ∧ lm lo ∧ lo + hi * 18446744073709551616 = x * y ∧ 0 ≤ hi := by
  refine ⟨_, _, mul64_eq hx hy, ?_⟩
  have h0 : 0 ≤ x * y := Int.mul_nonneg hx.1 hy.1
  unfold lm
  generalize x * y = s at h0
  omega
theorem add3_ex {x0 x1 x2 hi lo : Int} (h0 : lm x0) (h1 : lm x1) (h2 : lm x2) (hh : lm hi) (hl : lm lo) (hs : v3 x0 x1 x2 + lo + hi * 18446744073709551616 < 6277101735386680763835789423207666416102355444464034512896) :
    ∃ r0 r1 r2 c0 c1 c2, lib_Add64 x0 lo 0 = some (r0, c0) ∧ lib_Add64 x1 hi c0 = some (r1, c1) ∧ lib_Add64 x2 0 c1 = some (r2, c2) ∧ lm r0 ∧ lm r1 ∧ lm r2 ∧ v3 r0 r1 r2 = v3 x0 x1 x2 + lo + hi * 18446744073709551616 := by
  obtain ⟨r0, c0, e0, l0, d0, s0⟩ := add64_ex h0 hl (c := 0) (by omega)
  obtain ⟨r1, c1, e1, l1, d1, s1⟩ := add64_ex h1 hh d0
  obtain ⟨r2, c2, e2, l2, d2, s2⟩ := add64_ex h2 (y := 0) (by unfold lm; omega) d1
  refine ⟨r0, r1, r2, c0, c1, c2, e0, e1, e2, l0, l1, l2, ?_⟩
  unfold lm v3 at *
  omega
theorem total_add_eq {a b p0 p1 p2 n0 n1 n2 K : Int} (ha : inB a = true) (hb : inB b = true) (h0 : lm p0) (h1 : lm p1) (h2 : lm p2) (g0 : lm n0) (g1 : lm n1) (g2 : lm n2) (hK : v3 p0 p1 p2 + v3 n0 n1 n2 ≤ K) (hK2 : K ≤ 6277101735386680763835789423207666416102355444464034512896 - 21267647932558653966460912964485513216 - 1) :
    ∃ q0 q1 q2 m0 m1 m2, intmath_total_add a b p0 p1 p2 n0 n1 n2 = some (q0, q1, q2, m0, m1, m2) ∧ lm q0 ∧ lm q1 ∧ lm q2 ∧ lm m0 ∧ lm m1 ∧ lm m2 ∧ v3 q0 q1 q2 - v3 m0 m1 m2 = v3 p0 p1 p2 - v3 n0 n1 n2 + a * b ∧ v3 q0 q1 q2 + v3 m0 m1 m2 ≤ K + 21267647932558653966460912964485513216 := by
  obtain ⟨a1, _, a2⟩ := abs_nat ha
  obtain ⟨b1, _, b2⟩ := abs_nat hb
  obtain ⟨s1, s2⟩ := prod_sign a b
  obtain ⟨hi, lo, em, hlo, hsum, hhi⟩ := mul64_ex (x := (a.natAbs : Int)) (y := (b.natAbs : Int)) (by unfold lm; omega) (by unfold lm; omega)
  have hP : ((a.natAbs : Int) * (b.natAbs : Int)) = ((a.natAbs * b.natAbs : Nat) : Int) := by push_cast; rfl
  have hPb : a.natAbs * b.natAbs ≤ 21267647932558653966460912964485513216 := by
    have := Nat.mul_le_mul a2 b2
    exact this
  rw [hP] at hsum
  have wa := wrap_u64 (n := (a.natAbs : Int)) (by omega) (by omega)
  have wb := wrap_u64 (n := (b.natAbs : Int)) (by omega) (by omega)
  have v0 : 0 ≤ v3 p0 p1 p2 := by unfold lm v3 at *; omega
  have v1 : 0 ≤ v3 n0 n1 n2 := by unfold lm v3 at *; omega
  generalize a.natAbs * b.natAbs = Pn at s1 s2 hsum hPb
  have hhi2 : lm hi := by unfold lm at *; omega
  unfold intmath_total_add
  cases hs : (decide (a < 0) == decide (b < 0)) with
  | true =>
    obtain ⟨r0, r1, r2, c0, c1, c2, e0, e1, e2, l0, l1, l2, hv⟩ := add3_ex h0 h1 h2 hhi2 hlo (by omega)
    refine ⟨r0, r1, r2, n0, n1, n2, ?_, l0, l1, l2, g0, g1, g2, ?_, ?_⟩
    · simp only [cond_true]
      rw [a1, b1]
      simp only [bnd_some]
      rw [wa, wb, em]
      simp only [bnd_some]
      rw [e0]
      simp only [bnd_some]
      rw [e1]
      simp only [bnd_some]
      rw [e2]
      simp only [bnd_some]
    · rw [hv, s1 hs]; omega
    · rw [hv]; omega
  | false =>
    obtain ⟨r0, r1, r2, c0, c1, c2, e0, e1, e2, l0, l1, l2, hv⟩ := add3_ex g0 g1 g2 hhi2 hlo (by omega)
    refine ⟨p0, p1, p2, r0, r1, r2, ?_, h0, h1, h2, l0, l1, l2, ?_, ?_⟩
    · simp only [cond_false]
      rw [a1, b1]
      simp only [bnd_some]
      rw [wa, wb, em]
      simp only [bnd_some]
      rw [e0]
      simp only [bnd_some]
      rw [e1]
      simp only [bnd_some]
      rw [e2]
      simp only [bnd_some]
    · rw [hv, s2 hs]; omega
    · rw [hv]; omega
theorem sub64_ex {x y c : Int} (hx : lm x) (hy : lm y) (hc : 0 ≤ c ∧ c ≤ 1) : ∃ r d, lib_Sub64 x y c = some (r, d) ∧ lm r ∧ (0 ≤ d ∧ d ≤ 1) ∧ r = x - y - c + d * 18446744073709551616 := by
  have e : lib_Sub64 x y c = some ((x - y - c) % 18446744073709551616, if x < y + c then 1 else 0) := if_pos ⟨hx, hy, hc⟩
  refine ⟨_, _, e, ?_⟩
  unfold lm at *
  generalize hs : x - y - c = s
  split <;> omega
theorem value_1_eq {a0 a1 a2 b0 b1 b2 : Int} (h0 : lm a0) (h1 : lm a1) (h2 : lm a2) (g0 : lm b0) (g1 : lm b1) (g2 : lm b2) :
    ∃ r0 r1 r2 k, intmath_total_value_1 (a0, a1, a2) (b0, b1, b2) = some ((r0, r1, r2), k) ∧ (v3 b0 b1 b2 ≤ v3 a0 a1 a2 → k = true ∧ lm r0 ∧ lm r1 ∧ lm r2 ∧ v3 r0 r1 r2 = v3 a0 a1 a2 - v3 b0 b1 b2) ∧ (v3 a0 a1 a2 < v3 b0 b1 b2 → k = false) := by
  obtain ⟨r0, c0, e0, l0, d0, s0⟩ := sub64_ex h0 g0 (c := 0) (by omega)
  obtain ⟨r1, c1, e1, l1, d1, s1⟩ := sub64_ex h1 g1 d0
  obtain ⟨r2, c2, e2, l2, d2, s2⟩ := sub64_ex h2 g2 d1
  refine ⟨r0, r1, r2, c2 == 0, ?_, fun h => ?_, fun h => ?_⟩
  · unfold intmath_total_value_1
    rw [e0]
    simp only [bnd_some]
    rw [e1]
    simp only [bnd_some]
    rw [e2]
    simp only [bnd_some]
  · unfold lm v3 at *
    refine ⟨?_, l0, l1, l2, by omega⟩
    have : c2 = 0 := by omega
    rw [this]; rfl
  · unfold lm v3 at *
    have : c2 = 1 := by omega
    rw [this]; rfl
theorem checked_eq (n : Int) (h : inB n = true) : intmath_checked n = some (n, 0) := by
  unfold intmath_checked
  rw [intmath_in_eq]
  simp only [List.all_cons, List.all_nil, h, Bool.and_true, bnd_some, cond_true]
def sumE (S : Int) : Int × Int := bif inB S then (S, 0) else (0, 2)
theorem sumE_out {S : Int} (h : S < -4611686018427387904 ∨ 4611686018427387904 < S) : sumE S = (0, 2) := by
  have : inB S = false := by
    have : ¬ inB S = true := by rw [inB_iff]; omega
    simpa using this
  unfold sumE; rw [this]; rfl
theorem sumE_in {S : Int} (h : inB S = true) : sumE S = (S, 0) := by unfold sumE; rw [h]; rfl
theorem total_value_eq {a0 a1 a2 b0 b1 b2 : Int} (h0 : lm a0) (h1 : lm a1) (h2 : lm a2) (g0 : lm b0) (g1 : lm b1) (g2 : lm b2) : intmath_total_value a0 a1 a2 b0 b1 b2 = some (sumE (v3 a0 a1 a2 - v3 b0 b1 b2)) := by
  obtain ⟨r0, r1, r2, k, e1, k1, k2⟩ := value_1_eq h0 h1 h2 g0 g1 g2
  obtain ⟨t0, t1, t2, j, e2, j1, j2⟩ := value_1_eq g0 g1 g2 h0 h1 h2
  unfold intmath_total_value
  rw [e1]
  simp only [bnd_some]
  by_cases hge : v3 b0 b1 b2 ≤ v3 a0 a1 a2
  · obtain ⟨hk, l0, l1, l2, hv⟩ := k1 hge
    rw [hk]
    simp only [cond_true]
    by_cases q1 : r1 > 0
    · rw [decide_eq_true q1, sumE_out (by unfold lm v3 at *; omega)]; rfl
    · rw [decide_eq_false q1]
      simp only [cond_false]
      by_cases q2 : r2 > 0
      · rw [decide_eq_true q2, sumE_out (by unfold lm v3 at *; omega)]; rfl
      · rw [decide_eq_false q2]
        simp only [cond_false]
        by_cases q0 : r0 > 4611686018427387904
        · rw [decide_eq_true q0, sumE_out (by unfold lm v3 at *; omega)]; rfl
        · rw [decide_eq_false q0]
          simp only [cond_false]
          have e : r0 = v3 a0 a1 a2 - v3 b0 b1 b2 := by unfold lm v3 at *; omega
          have hin : inB r0 = true := inB_iff.2 (by unfold lm at *; omega)
          rw [wrap_i64 l0.1 (by omega), Int.one_mul, w64_same (by unfold lm at *; omega) (by omega), checked_eq r0 hin, ← e, sumE_in hin]
          simp only [bnd_some]
  · rw [k2 (by omega)]
    simp only [cond_false]
    rw [e2]
    simp only [bnd_some]
    obtain ⟨hj, l0, l1, l2, hv⟩ := j1 (by omega)
    rw [hj]
    simp only [cond_true]
    by_cases q1 : t1 > 0
    · rw [decide_eq_true q1, sumE_out (by unfold lm v3 at *; omega)]; rfl
    · rw [decide_eq_false q1]
      simp only [cond_false]
      by_cases q2 : t2 > 0
      · rw [decide_eq_true q2, sumE_out (by unfold lm v3 at *; omega)]; rfl
      · rw [decide_eq_false q2]
        simp only [cond_false]
        by_cases q0 : t0 > 4611686018427387904
        · rw [decide_eq_true q0, sumE_out (by unfold lm v3 at *; omega)]; rfl
        · rw [decide_eq_false q0]
          simp only [cond_false]
          have e : -t0 = v3 a0 a1 a2 - v3 b0 b1 b2 := by unfold lm v3 at *; omega
          have hin : inB (-t0) = true := inB_iff.2 (by unfold lm at *; omega)
          rw [wrap_i64 l0.1 (by omega), show (-1) * t0 = -t0 by omega, w64_same (by omega) (by unfold lm at *; omega), checked_eq (-t0) hin, ← e, sumE_in hin]
          simp only [bnd_some]
end Go.Proofs.YtjfpcjnopbfekaaGreatDoor



/- PLAIN LAWS of layer 3: Sum and Dot. -/
namespace Go.Proofs.YtjfpcjnopbfekaaGreatDoor
open Go.Ab Go.Sh
def sumF (f : Nat → Int) : Nat → Int
  | 0 => 0
  | j + 1 => sumF f j + f j
def dotF (a b : List Int) (i : Nat) : Int := a.getD i 0 * b.getD i 0
def dotR (a b : List Int) : Int × Int := bif decide (a.length = b.length) then (bif decide (a.length ≤ 10000) then (bif a.all inB && b.all inB then sumE (sumF (dotF a b) a.length) else (0, 2)) else (0, 3)) else (0, 1)
def limbs (s : Int × Int × Int × Int × Int × Int) : Prop := lm s.1 ∧ lm s.2.1 ∧ lm s.2.2.1 ∧ lm s.2.2.2.1 ∧ lm s.2.2.2.2.1 ∧ lm s.2.2.2.2.2
def dif (s : Int × Int × Int × Int × Int × Int) : Int := v3 s.1 s.2.1 s.2.2.1 - v3 s.2.2.2.1 s.2.2.2.2.1 s.2.2.2.2.2
def tot (s : Int × Int × Int × Int × Int × Int) : Int := v3 s.1 s.2.1 s.2.2.1 + v3 s.2.2.2.1 s.2.2.2.2.1 s.2.2.2.2.2
theorem add_state {a b : Int} (ha : inB a = true) (hb : inB b = true) (s : Int × Int × Int × Int × Int × Int) (hl : limbs s) (j : Nat) (hj : j < 10000) (ht : tot s ≤ (j : Int) * 21267647932558653966460912964485513216) :
    ∃ s', intmath_total_add a b s.1 s.2.1 s.2.2.1 s.2.2.2.1 s.2.2.2.2.1 s.2.2.2.2.2 = some s' ∧ limbs s' ∧ dif s' = dif s + a * b ∧ tot s' ≤ ((j + 1 : Nat) : Int) * 21267647932558653966460912964485513216 := by
  obtain ⟨q0, q1, q2, m0, m1, m2, e, l0, l1, l2, l3, l4, l5, hd, hs⟩ := total_add_eq (K := (j : Int) * 21267647932558653966460912964485513216) ha hb hl.1 hl.2.1 hl.2.2.1 hl.2.2.2.1 hl.2.2.2.2.1 hl.2.2.2.2.2 ht (by omega)
  refine ⟨(q0, q1, q2, m0, m1, m2), e, ⟨l0, l1, l2, l3, l4, l5⟩, hd, ?_⟩
  show v3 q0 q1 q2 + v3 m0 m1 m2 ≤ _
  omega
theorem value_state (s : Int × Int × Int × Int × Int × Int) (hl : limbs s) : intmath_total_value s.1 s.2.1 s.2.2.1 s.2.2.2.1 s.2.2.2.2.1 s.2.2.2.2.2 = some (sumE (dif s)) :=
  total_value_eq hl.1 hl.2.1 hl.2.2.1 hl.2.2.2.1 hl.2.2.2.2.1 hl.2.2.2.2.2
theorem all_at {l : List Int} (h : l.all inB = true) {j : Nat} (hj : j < l.length) : inB (l.getD j 0) = true := by
  rw [List.getD_eq_getElem?_getD, List.getElem?_eq_getElem hj]
  exact List.all_eq_true.1 h _ (List.getElem_mem hj)
theorem limbs0 : limbs (0, 0, 0, 0, 0, 0) := by unfold limbs lm; simp
def ones (n : Nat) : List Int := List.replicate n 1
theorem ones_at {n j : Nat} (h : j < n) : (ones n).getD j 0 = 1 := by simp [ones, List.getD_eq_getElem?_getD, h]
theorem ones_all (n : Nat) : (ones n).all inB = true := by
  rw [List.all_eq_true]
  intro x hx
  rw [List.eq_of_mem_replicate hx]; rfl
theorem intmath_Dot_eq (a b : List Int) : intmath_Dot a b = some (dotR a b) := by
  unfold intmath_Dot dotR
  by_cases hlen : a.length = b.length
  · rw [decide_eq_true hlen, show ((((a.length : Nat) : Int) == ((b.length : Nat) : Int))) = true by simp [hlen]]
    simp only [cond_true]
    by_cases h1 : a.length ≤ 10000
    · rw [decide_eq_true h1, decide_eq_false (by omega)]
      simp only [cond_true, cond_false]
      rw [intmath_in_eq, intmath_in_eq]
      simp only [bnd_some]
      cases ha : a.all inB with
      | false => rfl
      | true =>
        cases hb : b.all inB with
        | false => rfl
        | true =>
          simp only [cond_true, Bool.and_true]
          obtain ⟨s', e1, hI⟩ := cnt_inv (ρ := Empty) (body := fun i93 (s92 : Int × Int × Int × Int × Int × Int) => grd (i93 < b.length) <| (intmath_total_add (a.getD i93 0) (b.getD i93 0) s92.1 s92.2.1 s92.2.2.1 s92.2.2.2.1 s92.2.2.2.2.1 s92.2.2.2.2.2).bind fun y122 => some (.go (y122.1, y122.2.1, y122.2.2.1, y122.2.2.2.1, y122.2.2.2.2.1, y122.2.2.2.2.2)))
            (fin := fun i93 s92 => (s92.1, s92.2.1, s92.2.2.1, s92.2.2.2.1, s92.2.2.2.2.1, s92.2.2.2.2.2))
            (fun j s => limbs s ∧ dif s = sumF (dotF a b) j ∧ tot s ≤ (j : Int) * 21267647932558653966460912964485513216) (a.length - 0) 0 (0, 0, 0, 0, 0, 0) ⟨limbs0, rfl, by decide⟩ (fun j s _ hj ⟨i1, i2, i3⟩ => by
              obtain ⟨s', e, l, d, t⟩ := add_state (all_at ha (j := j) (by omega)) (all_at hb (j := j) (by omega)) s i1 j (by omega) i3
              refine ⟨s', ?_, l, by rw [d, i2]; rfl, t⟩
              rw [grd_pos (by omega), e]; rfl)
          rw [e1]
          show (intmath_total_value s'.1 s'.2.1 s'.2.2.1 s'.2.2.2.1 s'.2.2.2.2.1 s'.2.2.2.2.2).bind _ = _
          rw [value_state s' hI.1, hI.2.1, Nat.zero_add, Nat.sub_zero]; rfl
    · rw [decide_eq_false h1, decide_eq_true (by omega)]; rfl
  · rw [decide_eq_false hlen, show ((((a.length : Nat) : Int) == ((b.length : Nat) : Int))) = false by rw [beq_eq_false_iff_ne]; omega]; rfl
theorem intmath_Sum_eq (l : List Int) : intmath_Sum l = some (dotR l (ones l.length)) := by
  unfold intmath_Sum dotR
  have hlen : l.length = (ones l.length).length := by simp [ones]
  rw [decide_eq_true hlen]
  simp only [cond_true]
  by_cases h1 : l.length ≤ 10000
  · rw [decide_eq_true h1, decide_eq_false (by omega)]
    simp only [cond_true, cond_false]
    rw [intmath_in_eq, ones_all]
    simp only [bnd_some, Bool.and_true]
    cases ha : l.all inB with
    | false => rfl
    | true =>
      simp only [cond_true]
      obtain ⟨s', e1, hI⟩ := cnt_inv (ρ := Empty) (body := fun i39 (s38 : Int × Int × Int × Int × Int × Int) => (intmath_total_add (l.getD i39 0) 1 s38.1 s38.2.1 s38.2.2.1 s38.2.2.2.1 s38.2.2.2.2.1 s38.2.2.2.2.2).bind fun y64 => some (.go (y64.1, y64.2.1, y64.2.2.1, y64.2.2.2.1, y64.2.2.2.2.1, y64.2.2.2.2.2)))
        (fin := fun i38 s38 => (s38.1, s38.2.1, s38.2.2.1, s38.2.2.2.1, s38.2.2.2.2.1, s38.2.2.2.2.2))
        (fun j s => limbs s ∧ dif s = sumF (dotF l (ones l.length)) j ∧ tot s ≤ (j : Int) * 21267647932558653966460912964485513216) (l.length - 0) 0 (0, 0, 0, 0, 0, 0) ⟨limbs0, rfl, by decide⟩ (fun j s _ hj ⟨i1, i2, i3⟩ => by
          obtain ⟨s', e, l2, d, t⟩ := add_state (b := 1) (all_at ha (j := j) (by omega)) rfl s i1 j (by omega) i3
          refine ⟨s', ?_, l2, ?_, t⟩
          · rw [e]; rfl
          · rw [d, i2]
            show _ = sumF (dotF l (ones l.length)) j + l.getD j 0 * (ones l.length).getD j 0
            rw [ones_at (by omega)])
      rw [e1]
      show (intmath_total_value s'.1 s'.2.1 s'.2.2.1 s'.2.2.2.1 s'.2.2.2.2.1 s'.2.2.2.2.2).bind _ = _
      rw [value_state s' hI.1, hI.2.1, Nat.zero_add, Nat.sub_zero]; rfl
  · rw [decide_eq_false h1, decide_eq_true (by omega)]; rfl
end Go.Proofs.YtjfpcjnopbfekaaGreatDoor



/- PLAIN LAWS of layer 3: the specification's sums of products are exact too. -/
namespace Go.Proofs.YtjfpcjnopbfekaaGreatDoor
open Go.Ab Go.Sh
theorem tdiv_pos {n : Int} (h : 0 ≤ n) : n.tdiv 2097152 = n / 2097152 := Int.tdiv_eq_ediv_of_nonneg h
theorem tdiv_neg {n : Int} (h : n ≤ 0) : n.tdiv 2097152 = -((-n) / 2097152) := by
  have h1 : (-(-n)).tdiv 2097152 = -((-n).tdiv 2097152) := Int.neg_tdiv ..
  rw [Int.neg_neg] at h1
  rw [h1, tdiv_pos (by omega)]
theorem tmod_eq (n : Int) : n.tmod 2097152 = n - 2097152 * n.tdiv 2097152 := Int.tmod_def ..
theorem digits_ex {n : Int} (h : inB n = true) : ∃ x0 x1 x2, ref03_digits n = some (x0, x1, x2) ∧ n = x0 + x1 * 2097152 + x2 * 4398046511104 ∧ (-2097152 ≤ x0 ∧ x0 ≤ 2097152) ∧ (-2097152 ≤ x1 ∧ x1 ≤ 2097152) ∧ (-2097152 ≤ x2 ∧ x2 ≤ 2097152) := by
  have hb := inB_iff.1 h
  have e : ref03_digits n = some (n.tmod 2097152, (n.tdiv 2097152).tmod 2097152, (n.tdiv 2097152).tdiv 2097152) := by
    have h1 : -2199023255552 ≤ n.tdiv 2097152 ∧ n.tdiv 2097152 ≤ 2199023255552 := by
      by_cases h0 : 0 ≤ n
      · rw [tdiv_pos h0]; omega
      · rw [tdiv_neg (by omega)]; omega
    have h2 : -1048576 ≤ (n.tdiv 2097152).tdiv 2097152 ∧ (n.tdiv 2097152).tdiv 2097152 ≤ 1048576 := by
      generalize n.tdiv 2097152 = m at h1
      by_cases h0 : 0 ≤ m
      · rw [tdiv_pos h0]; omega
      · rw [tdiv_neg (by omega)]; omega
    unfold ref03_digits
    rw [w64_same (by omega) (by omega), w64_same (by omega) (by omega)]
  refine ⟨_, _, _, e, ?_⟩
  rw [tmod_eq n, tmod_eq (n.tdiv 2097152)]
  by_cases h0 : 0 ≤ n
  · rw [tdiv_pos h0, tdiv_pos (n := n / 2097152) (by omega)]; omega
  · rw [tdiv_neg (n := n) (by omega), tdiv_neg (n := -((-n) / 2097152)) (by omega)]; omega
theorem Div_ex {c : Int} (h : inB c = true) : ∃ q, ref03_Div c 2097152 = some (q, 0) ∧ q * 2097152 ≤ c ∧ c < q * 2097152 + 2097152 := by
  have hb := inB_iff.1 h
  refine ⟨c / 2097152, ?_, by omega, by omega⟩
  unfold ref03_Div
  rw [ref03_In_eq, ref03_In_eq, h]
  simp only [bnd_some, cond_true]
  rw [show inB 2097152 = true from rfl]
  simp only [cond_true]
  rw [show ((2097152 : Int) == 0) = false from rfl]
  simp only [cond_false]
  rw [grd_pos (by decide), show decide ((2097152 : Int) < 0) = false from rfl]
  by_cases h0 : 0 ≤ c
  · rw [tmod_eq, tdiv_pos h0, decide_eq_false (show ¬ c < 0 by omega)]
    by_cases hz : c - 2097152 * (c / 2097152) = 0
    · rw [hz]
      simp only [beq_self_eq_true, cond_true, bnd_some, cond_false]
      rw [w64_same (by omega) (by omega)]
    · rw [beq_eq_false_iff_ne.2 hz]
      simp only [cond_false, beq_self_eq_true, Bool.not_true, bnd_some]
      rw [w64_same (by omega) (by omega)]
  · rw [tmod_eq, tdiv_neg (by omega), decide_eq_true (show c < 0 by omega)]
    by_cases hz : c - 2097152 * -((-c) / 2097152) = 0
    · rw [hz]
      simp only [beq_self_eq_true, cond_true, bnd_some, cond_false]
      rw [w64_same (by omega) (by omega)]
      have : -((-c) / 2097152) = c / 2097152 := by omega
      rw [this]
    · rw [beq_eq_false_iff_ne.2 hz]
      have e1 : (!(true == false)) = true := rfl
      simp only [cond_false, e1, bnd_some, cond_true]
      rw [w64_same (n := -((-c) / 2097152)) (by omega) (by omega), w64_same (by omega) (by omega)]
      have : -((-c) / 2097152) - 1 = c / 2097152 := by omega
      rw [this]
theorem pb {x y : Int} (hx : -2097152 ≤ x ∧ x ≤ 2097152) (hy : -2097152 ≤ y ∧ y ≤ 2097152) : -4398046511104 ≤ x * y ∧ x * y ≤ 4398046511104 := by
  have h1 : x.natAbs ≤ 2097152 := by omega
  have h2 : y.natAbs ≤ 2097152 := by omega
  have h3 := Nat.mul_le_mul h1 h2
  rw [← Int.natAbs_mul] at h3
  omega
theorem mul33 (x0 x1 x2 y0 y1 y2 : Int) : (x0 + x1 * 2097152 + x2 * 4398046511104) * (y0 + y1 * 2097152 + y2 * 4398046511104) =
    x0 * y0 + (x0 * y1 + x1 * y0) * 2097152 + (x0 * y2 + x1 * y1 + x2 * y0) * 4398046511104 + (x1 * y2 + x2 * y1) * 9223372036854775808 + x2 * y2 * 19342813113834066795298816 := by
  simp only [Int.add_mul, Int.mul_add, Int.mul_assoc, Int.mul_comm, Int.mul_left_comm, Int.reduceMul]
  omega
abbrev C5 := Int × Int × Int × Int × Int
def sm (c : Int) (j : Nat) : Prop := -((j : Int) * 13194139533312) ≤ c ∧ c ≤ (j : Int) * 13194139533312
def v5 (s : C5) : Int := s.1 + s.2.1 * 2097152 + s.2.2.1 * 4398046511104 + s.2.2.2.1 * 9223372036854775808 + s.2.2.2.2 * 19342813113834066795298816
def okC (j : Nat) (s : C5) : Prop := sm s.1 j ∧ sm s.2.1 j ∧ sm s.2.2.1 j ∧ sm s.2.2.2.1 j ∧ sm s.2.2.2.2 j
theorem dig_step {a b : Int} (ha : inB a = true) (hb : inB b = true) (s : C5) (j : Nat) (hj : j < 10000) (hs : okC j s) :
    ∃ x y : Int × Int × Int, ref03_digits a = some x ∧ ref03_digits b = some y ∧ ∃ s' : C5, ((w64 (s.1 + (w64 (x.1 * y.1)))), (w64 ((w64 (s.2.1 + (w64 (x.1 * y.2.1)))) + (w64 (x.2.1 * y.1)))), (w64 ((w64 ((w64 (s.2.2.1 + (w64 (x.1 * y.2.2)))) + (w64 (x.2.1 * y.2.1)))) + (w64 (x.2.2 * y.1)))), (w64 ((w64 (s.2.2.2.1 + (w64 (x.2.1 * y.2.2)))) + (w64 (x.2.2 * y.2.1)))), (w64 (s.2.2.2.2 + (w64 (x.2.2 * y.2.2))))) = s' ∧ okC (j + 1) s' ∧ v5 s' = v5 s + a * b := by
  obtain ⟨x0, x1, x2, ex, hx, bx0, bx1, bx2⟩ := digits_ex ha
  obtain ⟨y0, y1, y2, ey, hy, by0, by1, by2⟩ := digits_ex hb
  refine ⟨(x0, x1, x2), (y0, y1, y2), ex, ey, (s.1 + x0 * y0, s.2.1 + x0 * y1 + x1 * y0, s.2.2.1 + x0 * y2 + x1 * y1 + x2 * y0, s.2.2.2.1 + x1 * y2 + x2 * y1, s.2.2.2.2 + x2 * y2), ?_⟩
  have hm := mul33 x0 x1 x2 y0 y1 y2
  rw [← hx, ← hy] at hm
  have p00 := pb bx0 by0; have p01 := pb bx0 by1; have p02 := pb bx0 by2
  have p10 := pb bx1 by0; have p11 := pb bx1 by1; have p12 := pb bx1 by2
  have p20 := pb bx2 by0; have p21 := pb bx2 by1; have p22 := pb bx2 by2
  rw [hm]
  show (w64 (s.1 + w64 (x0 * y0)), w64 (w64 (s.2.1 + w64 (x0 * y1)) + w64 (x1 * y0)), w64 (w64 (w64 (s.2.2.1 + w64 (x0 * y2)) + w64 (x1 * y1)) + w64 (x2 * y0)), w64 (w64 (s.2.2.2.1 + w64 (x1 * y2)) + w64 (x2 * y1)), w64 (s.2.2.2.2 + w64 (x2 * y2))) = _ ∧ _
  obtain ⟨s0, s1, s2, s3, s4⟩ := s
  generalize x0 * y0 = m00 at *; generalize x0 * y1 = m01 at *; generalize x0 * y2 = m02 at *
  generalize x1 * y0 = m10 at *; generalize x1 * y1 = m11 at *; generalize x1 * y2 = m12 at *
  generalize x2 * y0 = m20 at *; generalize x2 * y1 = m21 at *; generalize x2 * y2 = m22 at *
  unfold okC sm at *
  simp only at hs ⊢
  refine ⟨?_, by omega, by unfold v5; simp only; omega⟩
  rw [w64_same (n := m00) (by omega) (by omega), w64_same (n := m01) (by omega) (by omega), w64_same (n := m02) (by omega) (by omega), w64_same (n := m10) (by omega) (by omega), w64_same (n := m11) (by omega) (by omega), w64_same (n := m12) (by omega) (by omega), w64_same (n := m20) (by omega) (by omega), w64_same (n := m21) (by omega) (by omega), w64_same (n := m22) (by omega) (by omega)]
  rw [w64_same (n := s0 + m00) (by omega) (by omega), w64_same (n := s1 + m01) (by omega) (by omega), w64_same (n := s1 + m01 + m10) (by omega) (by omega), w64_same (n := s2 + m02) (by omega) (by omega), w64_same (n := s2 + m02 + m11) (by omega) (by omega), w64_same (n := s2 + m02 + m11 + m20) (by omega) (by omega), w64_same (n := s3 + m12) (by omega) (by omega), w64_same (n := s3 + m12 + m21) (by omega) (by omega), w64_same (n := s4 + m22) (by omega) (by omega)]
end Go.Proofs.YtjfpcjnopbfekaaGreatDoor



/- PLAIN LAWS of layer 3: the specification's Dot. -/
namespace Go.Proofs.YtjfpcjnopbfekaaGreatDoor
open Go.Ab Go.Sh
theorem all_two (a b : List Int) (h : a.length = b.length) : (List.range' 0 (a.length - 0)).all (fun j => inB (a.getD j 0) && inB (b.getD j 0)) = (a.all inB && b.all inB) := by
  have h1 := all0 inB 0 a
  have h2 := all0 inB 0 b
  rw [← h1, ← h2, ← h, Bool.eq_iff_iff]
  simp only [Bool.and_eq_true, List.all_eq_true]
  exact ⟨fun k => ⟨fun j hj => (k j hj).1, fun j hj => (k j hj).2⟩, fun k j hj => ⟨k.1 j hj, k.2 j hj⟩⟩
theorem wz {q : Int} (h : -9223372036854775808 ≤ q) (h2 : q ≤ 9223372036854775807) : w64 (0 + q) = q := by rw [Int.zero_add]; exact w64_same h h2
set_option maxHeartbeats 1000000 in
theorem ref03_Dot_eq (a b : List Int) : ref03_Dot a b = some (dotR a b) := by
  unfold dotR
  by_cases hlen : a.length = b.length
  · by_cases h1 : a.length ≤ 10000
    · rw [decide_eq_true hlen, decide_eq_true h1]
      simp only [cond_true]
      unfold ref03_Dot
      rw [show ((((a.length : Nat) : Int) == ((b.length : Nat) : Int))) = true by simp [hlen]]
      simp only [cond_true]
      rw [decide_eq_false (show ¬ ((a.length : Nat) : Int) > 10000 by omega)]
      simp only [cond_false]
      rw [cnt_all (fun j => inB (a.getD j 0) && inB (b.getD j 0)) _ _ () (fun j u _ hj => by
        rw [ref03_In_eq, ref03_In_eq, grd_pos (by omega)]
        simp only [bnd_some]
        cases inB (a.getD j 0) <;> cases inB (b.getD j 0) <;> rfl), aft_bif, all_two a b hlen]
      cases hin : a.all inB && b.all inB with
      | false => rfl
      | true =>
        rw [Bool.and_eq_true] at hin
        obtain ⟨ha, hb⟩ := hin
        simp only [cond_true]
        obtain ⟨s, e1, hI⟩ := cnt_inv (ρ := Empty) (body := fun i197 (s196 : C5) => (ref03_digits (a.getD i197 0)).bind fun y227 => grd (i197 < b.length) <| (ref03_digits (b.getD i197 0)).bind fun y232 =>
            some (.go ((w64 (s196.1 + (w64 (y227.1 * y232.1)))), (w64 ((w64 (s196.2.1 + (w64 (y227.1 * y232.2.1)))) + (w64 (y227.2.1 * y232.1)))), (w64 ((w64 ((w64 (s196.2.2.1 + (w64 (y227.1 * y232.2.2)))) + (w64 (y227.2.1 * y232.2.1)))) + (w64 (y227.2.2 * y232.1)))), (w64 ((w64 (s196.2.2.2.1 + (w64 (y227.2.1 * y232.2.2)))) + (w64 (y227.2.2 * y232.2.1)))), (w64 (s196.2.2.2.2 + (w64 (y227.2.2 * y232.2.2)))))))
          (fin := fun i197 s196 => (s196.1, s196.2.1, s196.2.2.1, s196.2.2.2.1, s196.2.2.2.2))
          (fun j s => okC j s ∧ v5 s = sumF (dotF a b) j) (a.length - 0) 0 (0, 0, 0, 0, 0) ⟨by unfold okC sm; simp, by unfold v5 sumF; simp⟩ (fun j s _ hj ⟨i1, i2⟩ => by
            obtain ⟨x, y, ex, ey, s', es, k1, k2⟩ := dig_step (all_at ha (j := j) (by omega)) (all_at hb (j := j) (by omega)) s j (by omega) i1
            refine ⟨s', ?_, k1, ?_⟩
            · rw [ex]
              simp only [bnd_some]
              rw [grd_pos (by omega), ey]
              simp only [bnd_some]
              rw [es]
            · rw [k2, i2]; rfl)
        rw [e1]
        rw [Nat.zero_add, Nat.sub_zero] at hI
        obtain ⟨hC, hv⟩ := hI
        have hlen2 : (a.length : Int) ≤ 10000 := by omega
        rw [← hv]
        clear hv e1
        obtain ⟨s0, s1, s2, s3, s4⟩ := s
        unfold okC sm at hC
        simp only at hC
        obtain ⟨⟨z0, z0'⟩, ⟨z1, z1'⟩, ⟨z2, z2'⟩, ⟨z3, z3'⟩, ⟨z4, z4'⟩⟩ := hC
        obtain ⟨S, hS⟩ : ∃ S, S = v5 (s0, s1, s2, s3, s4) := ⟨_, rfl⟩
        rw [← hS]
        have hS2 : S = s0 + s1 * 2097152 + s2 * 4398046511104 + s3 * 9223372036854775808 + s4 * 19342813113834066795298816 := hS
        clear hS
        have b0 : -131941395333120000 ≤ s0 ∧ s0 ≤ 131941395333120000 := by omega
        have b1 : -131941395333120000 ≤ s1 ∧ s1 ≤ 131941395333120000 := by omega
        have b2 : -131941395333120000 ≤ s2 ∧ s2 ≤ 131941395333120000 := by omega
        have b3 : -131941395333120000 ≤ s3 ∧ s3 ≤ 131941395333120000 := by omega
        have b4 : -131941395333120000 ≤ s4 ∧ s4 ≤ 131941395333120000 := by omega
        clear z0 z0' z1 z1' z2 z2' z3 z3' z4 z4'
        show ((ref03_Div s0 2097152).bind fun y243 => _) = _
        obtain ⟨q0, e0, f0, g0⟩ := Div_ex (c := s0) (inB_iff.2 (by omega))
        rw [e0]
        simp only [bnd_some]
        rw [w64_same (n := s1 + q0) (by omega) (by omega)]
        obtain ⟨c1, hc1⟩ : ∃ c, c = s1 + q0 := ⟨_, rfl⟩
        rw [← hc1]
        obtain ⟨q1, e1, f1, g1⟩ := Div_ex (c := c1) (inB_iff.2 (by omega))
        rw [e1]
        simp only [bnd_some]
        rw [w64_same (n := s2 + q1) (by omega) (by omega)]
        obtain ⟨c2, hc2⟩ : ∃ c, c = s2 + q1 := ⟨_, rfl⟩
        rw [← hc2]
        obtain ⟨q2, e2, f2, g2⟩ := Div_ex (c := c2) (inB_iff.2 (by omega))
        rw [e2]
        simp only [bnd_some]
        rw [w64_same (n := s3 + q2) (by omega) (by omega)]
        obtain ⟨c3, hc3⟩ : ∃ c, c = s3 + q2 := ⟨_, rfl⟩
        rw [← hc3]
        obtain ⟨q3, e3, f3, g3⟩ := Div_ex (c := c3) (inB_iff.2 (by omega))
        rw [e3]
        simp only [bnd_some]
        rw [w64_same (n := s4 + q3) (by omega) (by omega)]
        obtain ⟨c4, hc4⟩ : ∃ c, c = s4 + q3 := ⟨_, rfl⟩
        rw [← hc4]
        obtain ⟨q4, e4, f4, g4⟩ := Div_ex (c := c4) (inB_iff.2 (by omega))
        rw [e4]
        simp only [bnd_some]
        rw [wz (q := q4) (by omega) (by omega)]
        obtain ⟨q5, e5, f5, g5⟩ := Div_ex (c := q4) (inB_iff.2 (by omega))
        rw [e5]
        simp only [bnd_some]
        rw [wz (q := q5) (by omega) (by omega)]
        obtain ⟨q6, e6, f6, g6⟩ := Div_ex (c := q5) (inB_iff.2 (by omega))
        rw [e6]
        simp only [bnd_some]
        rw [wz (q := q6) (by omega) (by omega), wz (q := q6) (by omega) (by omega)]
        clear e0 e1 e2 e3 e4 e5 e6
        rw [w64_same (n := q6 * 2097152) (by omega) (by omega), w64_same (n := q5 - q6 * 2097152) (by omega) (by omega), show q6 * 2097152 + (q5 - q6 * 2097152) = q5 by omega, w64_same (n := q5) (by omega) (by omega)]
        rw [w64_same (n := q5 * 2097152) (by omega) (by omega), w64_same (n := q4 - q5 * 2097152) (by omega) (by omega), show q5 * 2097152 + (q4 - q5 * 2097152) = q4 by omega, w64_same (n := q4) (by omega) (by omega)]
        rw [w64_same (n := q4 * 2097152) (by omega) (by omega), w64_same (n := c4 - q4 * 2097152) (by omega) (by omega), show q4 * 2097152 + (c4 - q4 * 2097152) = c4 by omega, w64_same (n := c4) (by omega) (by omega)]
        rw [w64_same (n := q3 * 2097152) (by omega) (by omega), w64_same (n := c3 - q3 * 2097152) (by omega) (by omega), w64_same (n := q2 * 2097152) (by omega) (by omega), w64_same (n := c2 - q2 * 2097152) (by omega) (by omega), w64_same (n := q1 * 2097152) (by omega) (by omega), w64_same (n := c1 - q1 * 2097152) (by omega) (by omega), w64_same (n := q0 * 2097152) (by omega) (by omega), w64_same (n := s0 - q0 * 2097152) (by omega) (by omega)]
        obtain ⟨d3, hd3⟩ : ∃ d, d = c3 - q3 * 2097152 := ⟨_, rfl⟩
        obtain ⟨d2, hd2⟩ : ∃ d, d = c2 - q2 * 2097152 := ⟨_, rfl⟩
        obtain ⟨d1, hd1⟩ : ∃ d, d = c1 - q1 * 2097152 := ⟨_, rfl⟩
        obtain ⟨d0, hd0⟩ : ∃ d, d = s0 - q0 * 2097152 := ⟨_, rfl⟩
        rw [← hd3, ← hd2, ← hd1, ← hd0]
        have k3 : 0 ≤ d3 ∧ d3 < 2097152 := by omega
        have k2 : 0 ≤ d2 ∧ d2 < 2097152 := by omega
        have k1 : 0 ≤ d1 ∧ d1 < 2097152 := by omega
        have k0 : 0 ≤ d0 ∧ d0 < 2097152 := by omega
        have hSv : S = c4 * 19342813113834066795298816 + d3 * 9223372036854775808 + d2 * 4398046511104 + d1 * 2097152 + d0 := by omega
        rw [decide_eq_false (show ¬ q6 > 2199023255552 by omega), decide_eq_false (show ¬ q6 < -2199023255552 by omega), decide_eq_false (show ¬ q5 > 2199023255552 by omega), decide_eq_false (show ¬ q5 < -2199023255552 by omega), decide_eq_false (show ¬ q4 > 2199023255552 by omega), decide_eq_false (show ¬ q4 < -2199023255552 by omega)]
        simp only [cond_false]
        clear hc1 hc2 hc3 hc4 f0 f1 f2 f3 f4 f5 f6 g0 g1 g2 g3 g4 g5 g6 hd3 hd2 hd1 hd0 hS2 b0 b1 b2 b3
        by_cases t4 : c4 > 2199023255552
        · rw [decide_eq_true t4, sumE_out (by omega)]; rfl
        rw [decide_eq_false t4]
        by_cases u4 : c4 < -2199023255552
        · rw [decide_eq_true u4, sumE_out (by omega)]; rfl
        rw [decide_eq_false u4]
        simp only [cond_false]
        rw [w64_same (n := c4 * 2097152) (by omega) (by omega), w64_same (n := c4 * 2097152 + d3) (by omega) (by omega)]
        obtain ⟨n3, hn3⟩ : ∃ d, d = c4 * 2097152 + d3 := ⟨_, rfl⟩
        rw [← hn3]
        by_cases t3 : n3 > 2199023255552
        · rw [decide_eq_true t3, sumE_out (by omega)]; rfl
        rw [decide_eq_false t3]
        by_cases u3 : n3 < -2199023255552
        · rw [decide_eq_true u3, sumE_out (by omega)]; rfl
        rw [decide_eq_false u3]
        simp only [cond_false]
        rw [w64_same (n := n3 * 2097152) (by omega) (by omega), w64_same (n := n3 * 2097152 + d2) (by omega) (by omega)]
        obtain ⟨n2, hn2⟩ : ∃ d, d = n3 * 2097152 + d2 := ⟨_, rfl⟩
        rw [← hn2]
        by_cases t2 : n2 > 2199023255552
        · rw [decide_eq_true t2, sumE_out (by omega)]; rfl
        rw [decide_eq_false t2]
        by_cases u2 : n2 < -2199023255552
        · rw [decide_eq_true u2, sumE_out (by omega)]; rfl
        rw [decide_eq_false u2]
        simp only [cond_false]
        rw [w64_same (n := n2 * 2097152) (by omega) (by omega), w64_same (n := n2 * 2097152 + d1) (by omega) (by omega)]
        obtain ⟨n1, hn1⟩ : ∃ d, d = n2 * 2097152 + d1 := ⟨_, rfl⟩
        rw [← hn1]
        by_cases t1 : n1 > 2199023255552
        · rw [decide_eq_true t1, sumE_out (by omega)]; rfl
        rw [decide_eq_false t1]
        by_cases u1 : n1 < -2199023255552
        · rw [decide_eq_true u1, sumE_out (by omega)]; rfl
        rw [decide_eq_false u1]
        simp only [cond_false]
        rw [w64_same (n := n1 * 2097152) (by omega) (by omega), w64_same (n := n1 * 2097152 + d0) (by omega) (by omega), show n1 * 2097152 + d0 = S by omega, ref03_In_eq]
        simp only [bnd_some]
        unfold sumE
        cases inB S <;> rfl
    · rw [decide_eq_true hlen, decide_eq_false h1]
      unfold ref03_Dot
      rw [show ((((a.length : Nat) : Int) == ((b.length : Nat) : Int))) = true by simp [hlen]]
      simp only [cond_true, cond_false]
      rw [decide_eq_true (show ((a.length : Nat) : Int) > 10000 by omega)]
      simp only [cond_true]
  · rw [decide_eq_false hlen]
    unfold ref03_Dot
    rw [show ((((a.length : Nat) : Int) == ((b.length : Nat) : Int))) = false by rw [beq_eq_false_iff_ne]; omega]
    simp only [cond_false]
theorem ref03_Sum_eq (l : List Int) (hl : l.length ≤ 1000000) : ref03_Sum l = some (dotR l (ones l.length)) := by
  unfold ref03_Sum
  obtain ⟨s, e1, hI⟩ := cnt_inv (ρ := Empty) (body := fun (i18 : Nat) (s17 : List Int) => grd ((s17.length + 1) * 8 ≤ 140737488355328) <| some (.go (s17 ++ [1]))) (fin := fun i18 s17 => s17)
    (fun j s => s = ones j) (l.length - 0) 0 [] rfl (fun j s _ hj i1 => by
      refine ⟨ones (j + 1), ?_, rfl⟩
      subst i1
      have : (ones j).length = j := by simp [ones]
      rw [grd_pos (by rw [this]; omega)]
      unfold ones
      rw [List.replicate_succ'])
  rw [e1]
  rw [Nat.zero_add, Nat.sub_zero] at hI
  show ((ref03_Dot l s).bind fun y => some (y.1, y.2)) = _
  rw [hI, ref03_Dot_eq]; rfl
end Go.Proofs.YtjfpcjnopbfekaaGreatDoor



/- PLAIN LAWS of layer 5: the value of a polynomial. -/
namespace Go.Proofs.YtjfpcjnopbfekaaGreatDoor
open Go.Ab Go.Sh
def isV (v : Str) (x : Value) : Bool := x.Var == v
def look (vs : List Value) (v : Str) : Int := idxOf (isV v) vs
def num (vs : List Value) (v : Str) : Int := (vs.getD (look vs v).toNat ⟨[], 0⟩).N
def missV (vs : List Value) (v : Str) : Bool := decide (look vs v < 0)
def miss (vs : List Value) (m : Monomial) : Bool := m.Vars.any (missV vs)
def nums (vs : List Value) (m : Monomial) : List Int := m.Vars.map (num vs)
def outm (vs : List Value) (m : Monomial) : Bool := (nums vs m).any (fun n => !(inB n))
theorem value_find (vs : List Value) (v : Str) : slices_IndexFunc_api_Value vs v = some (look vs v) := by
  unfold slices_IndexFunc_api_Value look
  rw [cnt_find (f := fun j => ((j : Nat) : Int)) (fun j => isV v (vs.getD j ⟨[], 0⟩)) _ _ () (fun j u _ _ => by
    unfold poly_Eval_1 isV
    simp only [Option.bind_some]
    cases (vs.getD j ⟨[], 0⟩).Var == v <;> rfl), ← find_idx0 (isV v) ⟨[], 0⟩ vs]
  cases (List.range' 0 (vs.length - 0)).find? (fun j => isV v (vs.getD j ⟨[], 0⟩)) <;> rfl
theorem look_lt (vs : List Value) (v : Str) (h : missV vs v = false) : 0 ≤ look vs v ∧ look vs v < (vs.length : Int) := by
  have h1 : ¬ look vs v < 0 := by simpa [missV] using h
  have h2 := idxOf_lt (isV v) ⟨[], 0⟩ vs
  unfold look at *
  omega
abbrev E2 := Int × Int
abbrev S1 := List (List Int) × Bool
def gVar (vs : List Value) (v : Str) (s : Bool × List Int) : Stp (Bool × List Int) (Bool × List Int) (Stp S1 S1 E2) := bif missV vs v then .ret (.ret (0, 7)) else .go (s.1 || !(inB (num vs v)), s.2 ++ [num vs v])
theorem gVar_all (vs : List Value) : ∀ (l : List Str) (s : Bool × List Int), loopL (gVar vs) (fun s => (s.1, s.2)) l s = bif l.any (missV vs) then .ret (.ret (0, 7)) else .brk (s.1 || (l.map (num vs)).any (fun n => !(inB n)), s.2 ++ l.map (num vs))
  | [], s => by simp [loopL]
  | v :: l, s => by
    simp only [loopL, gVar, List.any_cons, List.map_cons]
    cases h : missV vs v with
    | true => rfl
    | false =>
      simp only [cond_false, Bool.false_or]
      rw [gVar_all vs l]
      simp only [Bool.or_assoc, List.append_assoc, List.singleton_append]
def gMon (vs : List Value) (m : Monomial) (s : S1) : Stp S1 S1 E2 := bif miss vs m then .ret (0, 7) else .go (s.1 ++ [m.Coef :: nums vs m], s.2 || outm vs m)
theorem gMon_all (vs : List Value) : ∀ (l : List Monomial) (s : S1), loopL (gMon vs) (fun s => (s.1, s.2)) l s = bif l.any (miss vs) then .ret (0, 7) else .brk (s.1 ++ l.map (fun m => m.Coef :: nums vs m), s.2 || l.any (outm vs))
  | [], s => by simp [loopL]
  | m :: l, s => by
    simp only [loopL, gMon, List.any_cons, List.map_cons]
    cases h : miss vs m with
    | true => rfl
    | false =>
      simp only [cond_false, Bool.false_or]
      rw [gMon_all vs l]
      simp only [Bool.or_assoc, List.append_assoc, List.singleton_append]
theorem bad_or (b : Bool) (n : Int) : ((bif b then some true else (bif decide (n < (-4611686018427387904)) then some true else some (decide (n > 4611686018427387904)))) : Option Bool) = some (b || !(inB n)) := by
  have e1 : decide (n < -4611686018427387904) = !(decide (-4611686018427387904 ≤ n)) := by rw [Bool.eq_iff_iff]; simp
  have e2 : decide (n > 4611686018427387904) = !(decide (n ≤ 4611686018427387904)) := by rw [Bool.eq_iff_iff]; simp
  rw [e1, e2]
  unfold inB
  cases b <;> cases decide (-4611686018427387904 ≤ n) <;> cases decide (n ≤ 4611686018427387904) <;> rfl
def pm : Int → List Int → Option Int
  | n, [] => some n
  | n, x :: l => bif inB n && (inB x && inB (n * x)) then pm (n * x) l else none
def gMul (x : Int) (s : Int) : Stp Int Int E2 := bif inB s && (inB x && inB (s * x)) then .go (s * x) else .ret (0, 2)
theorem gMul_all : ∀ (l : List Int) (s : Int), loopL gMul (fun s => s) l s = match pm s l with | some r => .brk r | none => .ret (0, 2)
  | [], s => rfl
  | x :: l, s => by
    simp only [loopL, gMul, pm]
    cases inB s && (inB x && inB (s * x)) with
    | true => simp only [cond_true]; exact gMul_all l (s * x)
    | false => rfl
theorem contains_int (l : List Int) : slices_Contains_int l 0 = some (l.any (fun n => n == 0)) := by
  unfold slices_Contains_int slices_Index_int
  rw [cnt_find (f := fun j => ((j : Nat) : Int)) (fun j => (fun n => n == 0) (l.getD j 0)) _ _ () (fun j u _ _ => by
    have : ((0 : Int) == l.getD j 0) = (l.getD j 0 == 0) := by rw [Bool.eq_iff_iff, beq_iff_eq, beq_iff_eq]; exact eq_comm
    rw [this]
    show _ = some (bif (l.getD j 0 == 0) then Stp.ret ((j : Nat) : Int) else Stp.go ())
    cases (l.getD j 0 == 0) <;> rfl)]
  have h2 := find_idx0 (fun n : Int => n == 0) 0 l
  have h3 := idxOf_neg (fun n : Int => n == 0) l
  generalize (List.range' 0 (l.length - 0)).find? (fun j => (fun n => n == 0) (l.getD j 0)) = o at h2 ⊢
  cases o with
  | none =>
    rw [← h2] at h3
    rw [h3.1 (by decide)]; rfl
  | some j =>
    rw [← h2] at h3
    have : l.any (fun n => n == 0) = true := by
      cases h5 : l.any (fun n => n == 0) with
      | true => rfl
      | false => have h6 := h3.2 h5; simp only at h6; omega
    rw [this]
    simp only [Option.bind_some, Sh.aft, Option.some.injEq, decide_eq_true_eq]; omega
def prodR (l : List Int) : E2 := bif l.any (fun n => n == 0) then (0, 0) else (match pm 1 l with | some r => (r, 0) | none => (0, 2))
theorem product_eq (l : List Int) : poly_product l = some (prodR l) := by
  unfold poly_product prodR
  rw [contains_int]
  simp only [Option.bind_some]
  cases l.any (fun n => n == 0) with
  | true => rfl
  | false =>
    simp only [cond_false]
    rw [cnt_list0 (f := fun s => s) 0 l gMul (fun _ _ => True) (fun _ _ => rfl) 1 trivial (fun j s hj _ => by
      refine ⟨?_, fun _ _ => trivial⟩
      rw [intmath_Mul_eq]
      unfold mulR gMul
      cases inB s && (inB (l.getD j 0) && inB (s * l.getD j 0)) <;> rfl), gMul_all]
    cases pm 1 l <;> rfl
def gPro (l : List Int) (s : List Int) : Stp (List Int) (List Int) E2 := bif (prodR l).2 == 0 then .go (s ++ [(prodR l).1]) else .ret (0, 2)
theorem gPro_all : ∀ (ls : List (List Int)) (s : List Int), loopL gPro (fun s => s) ls s = bif ls.any (fun l => !((prodR l).2 == 0)) then .ret (0, 2) else .brk (s ++ ls.map (fun l => (prodR l).1))
  | [], s => by simp [loopL]
  | l :: ls, s => by
    simp only [loopL, gPro, List.any_cons, List.map_cons]
    cases h : (prodR l).2 == 0 with
    | false => rfl
    | true =>
      simp only [cond_true, Bool.not_true, Bool.false_or]
      rw [gPro_all ls]
      simp only [List.append_assoc, List.singleton_append]
def evalR (p : List Monomial) (vs : List Value) : E2 :=
  bif validP p then (bif p.any (miss vs) then (0, 7) else bif p.any (outm vs) then (0, 2) else
    bif (p.map (fun m => m.Coef :: nums vs m)).any (fun l => !((prodR l).2 == 0)) then (0, 2) else dotR ((p.map (fun m => m.Coef :: nums vs m)).map (fun l => (prodR l).1)) (ones p.length)) else (0, 1)
theorem valid_coef {p : List Monomial} (h : validP p = true) {m : Monomial} (hm : m ∈ p) : okM m = true := by
  unfold validP at h
  rw [Bool.and_eq_true, List.all_eq_true] at h
  obtain ⟨j, hj, rfl⟩ := List.getElem_of_mem hm
  have := h.1 j (by rw [List.mem_range'_1]; omega)
  unfold stepOk at this
  rw [Bool.and_eq_true] at this
  have e : monoAt p j = p[j] := by unfold monoAt; rw [List.getD_eq_getElem?_getD, List.getElem?_eq_getElem hj]; rfl
  rw [e] at this
  exact this.1
theorem poly_Eval_eq (p : List Monomial) (vs : List Value) (hB : Bd p) : poly_Eval p vs = some (evalR p vs) := by
  unfold poly_Eval evalR
  rw [poly_Valid_eq p hB]
  simp only [bnd_some]
  cases hv : validP p with
  | false => rfl
  | true =>
    simp only [cond_true]
    rw [cnt_list0 (f := fun s => (s.1, s.2)) ⟨0, []⟩ p (gMon vs) (fun j s => s.1.length = j) (fun _ _ => rfl) ([], false) rfl (fun j s hj hI => by
      have hm := hB.2 _ (monoAt_mem (p := p) (j := j) hj)
      refine ⟨?_, fun s' e => ?_⟩
      · simp only [show p.getD j ⟨0, []⟩ = monoAt p j from rfl]
        generalize monoAt p j = m at hm
        rw [cnt_list0 (f := fun s => (s.1, s.2)) [] m.Vars (gVar vs) (fun k s => s.2.length = k + 1) (fun _ _ => rfl) (s.2, [m.Coef]) rfl (fun k s hk hI2 => by
          generalize m.Vars.getD k [] = v
          refine ⟨?_, fun s' e => ?_⟩
          · rw [value_find]
            simp only [bnd_some]
            unfold gVar
            cases hmv : missV vs v with
            | true =>
              have : decide (look vs v < 0) = true := hmv
              rw [this]; rfl
            | false =>
              have h1 : decide (look vs v < 0) = false := hmv
              have h2 := look_lt vs v hmv
              rw [h1]
              simp only [cond_false]
              rw [grd_pos h2, bad_or]
              simp only [bnd_some]
              rw [grd_pos (by omega)]; rfl
          · unfold gVar at e
            cases hmv : missV vs v with
            | true => rw [hmv] at e; cases e
            | false => rw [hmv] at e; cases e; simp [hI2]), gVar_all]
        unfold gMon miss
        cases m.Vars.any (missV vs) with
        | true => rfl
        | false =>
          simp only [cond_false, bnd_some, Sh.aft]
          rw [grd_pos (by have := hB.1; omega)]
          rfl
      · unfold gMon at e
        cases hmv : miss vs (p.getD j ⟨0, []⟩) with
        | true => rw [hmv] at e; cases e
        | false => rw [hmv] at e; cases e; simp [hI]), gMon_all]
    cases p.any (miss vs) with
    | true => rfl
    | false =>
      simp only [cond_false, bnd_some, Sh.aft, Bool.false_or, List.nil_append]
      cases p.any (outm vs) with
      | true => rfl
      | false =>
        simp only [cond_false]
        have hlen : (p.map (fun m => m.Coef :: nums vs m)).length = p.length := List.length_map ..
        generalize p.map (fun m => m.Coef :: nums vs m) = ls at hlen
        rw [cnt_list0 (f := fun s => s) [] ls gPro (fun j s => s.length = j) (fun _ _ => rfl) [] rfl (fun j s hj hI => by
          refine ⟨?_, fun s' e => ?_⟩
          · rw [product_eq]
            simp only [bnd_some]
            unfold gPro
            cases h : (prodR (ls.getD j [])).2 == 0 with
            | false => rfl
            | true =>
              simp only [cond_true]
              rw [grd_pos (by have := hB.1; omega)]
          · unfold gPro at e
            cases h : (prodR (ls.getD j [])).2 == 0 with
            | false => rw [h] at e; cases e
            | true => rw [h] at e; cases e; simp [hI]), gPro_all]
        cases ls.any (fun l => !((prodR l).2 == 0)) with
        | true => rfl
        | false =>
          simp only [cond_false, bnd_some, Sh.aft, List.nil_append]
          rw [intmath_Sum_eq]
          simp only [bnd_some, List.length_map, hlen]
end Go.Proofs.YtjfpcjnopbfekaaGreatDoor



/- PLAIN LAWS of layer 5: the specification gives the same value. -/
namespace Go.Proofs.YtjfpcjnopbfekaaGreatDoor
open Go.Ab Go.Sh
abbrev R4 := Bool × Int × Bool × Bool
def rst (s : R4) (x : Int) : R4 := bif inB x then (bif x == 0 then (s.1, s.2.1, true, s.2.2.2) else (bif inB s.2.1 && (inB x && inB (s.2.1 * x)) then (s.1, s.2.1 * x, s.2.2.1, s.2.2.2) else (s.1, s.2.1, s.2.2.1, true))) else (true, s.2.1, s.2.2.1, s.2.2.2)
theorem rst_zero : ∀ (l : List Int) (s : R4), (l.foldl rst s).1 = (s.1 || l.any (fun n => !(inB n)))
  | [], s => by simp
  | x :: l, s => by
    simp only [List.foldl_cons, List.any_cons]
    rw [rst_zero l]
    unfold rst
    cases inB x with
    | false => simp
    | true =>
      simp only [cond_true, Bool.not_true, Bool.false_or]
      cases x == 0 with
      | true => rfl
      | false =>
        simp only [cond_false]
        cases inB s.2.1 && (true && inB (s.2.1 * x)) <;> rfl
theorem rst_z : ∀ (l : List Int) (s : R4), l.any (fun n => !(inB n)) = false → (l.foldl rst s).2.2.1 = (s.2.2.1 || l.any (fun n => n == 0))
  | [], s, _ => by simp
  | x :: l, s, h => by
    simp only [List.any_cons, Bool.or_eq_false_iff] at h
    simp only [List.foldl_cons, List.any_cons]
    rw [rst_z l _ h.2]
    have hx : inB x = true := by simpa using h.1
    unfold rst
    rw [hx]
    simp only [cond_true]
    cases x == 0 with
    | true => simp
    | false =>
      simp only [cond_false, Bool.false_or]
      cases inB s.2.1 && (true && inB (s.2.1 * x)) <;> rfl
theorem rst_big : ∀ (l : List Int) (b z : Bool) (n : Int) , (l.foldl rst (b, n, z, true)).2.2.2 = true
  | [], b, z, n => rfl
  | x :: l, b, z, n => by
    simp only [List.foldl_cons]
    unfold rst
    simp only
    cases inB x with
    | false => exact rst_big l _ _ _
    | true =>
      simp only [cond_true]
      cases x == 0 with
      | true => exact rst_big l _ _ _
      | false =>
        simp only [cond_false]
        cases inB n && (true && inB (n * x)) with
        | true => exact rst_big l _ _ _
        | false => exact rst_big l _ _ _
theorem rst_pm : ∀ (l : List Int) (b z : Bool) (n : Int), l.any (fun n => !(inB n)) = false → l.any (fun n => n == 0) = false → match pm n l with | some r => (l.foldl rst (b, n, z, false)).2.1 = r ∧ (l.foldl rst (b, n, z, false)).2.2.2 = false | none => (l.foldl rst (b, n, z, false)).2.2.2 = true
  | [], b, z, n, _, _ => ⟨rfl, rfl⟩
  | x :: l, b, z, n, h, h2 => by
    simp only [List.any_cons, Bool.or_eq_false_iff] at h h2
    have hx : inB x = true := by simpa using h.1
    simp only [List.foldl_cons, pm]
    have e : rst (b, n, z, false) x = bif inB n && (inB x && inB (n * x)) then (b, n * x, z, false) else (b, n, z, true) := by
      unfold rst
      rw [hx, h2.1]
      rfl
    rw [e]
    cases inB n && (inB x && inB (n * x)) with
    | true => exact rst_pm l b z (n * x) h.2 h2.2
    | false => exact rst_big l b z n
abbrev T1 := List Int × Bool
def gR (vs : List Value) (m : Monomial) (s : T1) : Stp T1 T1 E2 := bif miss vs m then .ret (0, 7) else
  (let r := (nums vs m).foldl rst (s.2, m.Coef, false, false); .go (s.1 ++ [bif r.2.2.1 then 0 else r.2.1], bif r.2.2.1 then r.1 else (bif r.1 then true else r.2.2.2)))
theorem gR_one (vs : List Value) (m : Monomial) (s : T1) (hc : m.Coef ≠ 0) (hi : inB m.Coef = true) : gR vs m s = bif miss vs m then .ret (0, 7) else
    .go (s.1 ++ [bif outm vs m then (bif ((nums vs m).foldl rst (s.2, m.Coef, false, false)).2.2.1 then 0 else ((nums vs m).foldl rst (s.2, m.Coef, false, false)).2.1) else (bif ((prodR (m.Coef :: nums vs m)).2 == 0) then (prodR (m.Coef :: nums vs m)).1 else ((nums vs m).foldl rst (s.2, m.Coef, false, false)).2.1)], s.2 || (outm vs m || !((prodR (m.Coef :: nums vs m)).2 == 0))) := by
  unfold gR
  cases miss vs m with
  | true => rfl
  | false =>
    simp only [cond_false]
    congr 2
    · -- the number
      unfold outm
      cases ho : (nums vs m).any (fun n => !(inB n)) with
      | true => rfl
      | false =>
        simp only [cond_false]
        rw [rst_z _ _ ho]
        unfold prodR
        have h0 : (m.Coef == 0) = false := by simpa using hc
        simp only [List.any_cons, h0, Bool.false_or]
        cases hz : (nums vs m).any (fun n => n == 0) with
        | true => rfl
        | false =>
          have h1 : pm 1 (m.Coef :: nums vs m) = pm m.Coef (nums vs m) := by
            simp only [pm, Int.one_mul, hi]; rfl
          have h2 := rst_pm (nums vs m) s.2 false m.Coef ho hz
          simp only [cond_false, h1]
          cases hp : pm m.Coef (nums vs m) with
          | none => rfl
          | some r => rw [hp] at h2; simp only [h2.1]; rfl
    · rw [rst_zero]
      unfold outm
      cases ho : (nums vs m).any (fun n => !(inB n)) with
      | true =>
        cases ((nums vs m).foldl rst (s.2, m.Coef, false, false)).2.2.1 <;> cases s.2 <;> rfl
      | false =>
        rw [rst_z _ _ ho]
        unfold prodR
        have h0 : (m.Coef == 0) = false := by simpa using hc
        simp only [List.any_cons, h0, Bool.false_or, Bool.or_false]
        cases hz : (nums vs m).any (fun n => n == 0) with
        | true => simp
        | false =>
          have h1 : pm 1 (m.Coef :: nums vs m) = pm m.Coef (nums vs m) := by
            simp only [pm, Int.one_mul, hi]; rfl
          have h2 := rst_pm (nums vs m) s.2 false m.Coef ho hz
          simp only [cond_false, h1]
          cases hp : pm m.Coef (nums vs m) with
          | none => rw [hp] at h2; simp only [h2]; cases s.2 <;> rfl
          | some r => rw [hp] at h2; simp only [h2.2]; cases s.2 <;> rfl
theorem gR_all (vs : List Value) : ∀ (l : List Monomial) (s : T1), (∀ m ∈ l, m.Coef ≠ 0 ∧ inB m.Coef = true) →
    loopL (gR vs) (fun s => (s.1, s.2)) l s = (bif l.any (miss vs) then .ret (0, 7) else (loopL (gR vs) (fun s => (s.1, s.2)) l s)) ∧
    (l.any (miss vs) = false → ∃ q : List Int, loopL (gR vs) (fun s => (s.1, s.2)) l s = .brk (s.1 ++ q, s.2 || l.any (fun m => outm vs m || !((prodR (m.Coef :: nums vs m)).2 == 0))) ∧ (l.any (fun m => outm vs m || !((prodR (m.Coef :: nums vs m)).2 == 0)) = false → q = l.map (fun m => (prodR (m.Coef :: nums vs m)).1)))
  | [], s, _ => ⟨rfl, fun _ => ⟨[], by simp [loopL], fun _ => rfl⟩⟩
  | m :: l, s, h => by
    have hm := h m (by simp)
    have ih := fun s => gR_all vs l s (fun x hx => h x (by simp [hx]))
    simp only [loopL, List.any_cons, List.map_cons]
    rw [gR_one vs m s hm.1 hm.2]
    cases hmi : miss vs m with
    | true => exact ⟨rfl, fun e => by cases e⟩
    | false =>
      simp only [cond_false, Bool.false_or]
      generalize hx : (bif outm vs m then (bif ((nums vs m).foldl rst (s.2, m.Coef, false, false)).2.2.1 then 0 else ((nums vs m).foldl rst (s.2, m.Coef, false, false)).2.1) else (bif ((prodR (m.Coef :: nums vs m)).2 == 0) then (prodR (m.Coef :: nums vs m)).1 else ((nums vs m).foldl rst (s.2, m.Coef, false, false)).2.1)) = X
      obtain ⟨i1, i2⟩ := ih (s.1 ++ [X], s.2 || (outm vs m || !((prodR (m.Coef :: nums vs m)).2 == 0)))
      refine ⟨i1, fun e => ?_⟩
      obtain ⟨q, e1, e2⟩ := i2 e
      refine ⟨X :: q, ?_, fun e3 => ?_⟩
      · rw [e1]; simp only [List.append_assoc, List.singleton_append, Bool.or_assoc]
      · rw [Bool.or_eq_false_iff] at e3
        rw [e2 e3.2]
        congr 1
        have e4 := e3.1
        rw [Bool.or_eq_false_iff] at e4
        have e5 : ((prodR (m.Coef :: nums vs m)).2 == 0) = true := by simpa using e4.2
        rw [e4.1, e5] at hx
        exact hx.symm
end Go.Proofs.YtjfpcjnopbfekaaGreatDoor



/- PLAIN LAWS of layer 5: Eval, the program against the specification. -/
namespace Go.Proofs.YtjfpcjnopbfekaaGreatDoor
open Go.Ab Go.Sh
theorem find_place (vs : List Value) (v : Str) (b : Nat → Option (Stp Unit Nat Empty)) (hb : ∀ j, j < vs.length → b j = some (bif isV v (vs.getD j ⟨[], 0⟩) then .brk j else .go ())) :
    cnt (fun j (_ : Unit) => b j) (fun i _ => i) (vs.length - 0) 0 () = some (.brk (bif missV vs v then vs.length else (look vs v).toNat)) := by
  rw [cnt_place (fun j => isV v (vs.getD j ⟨[], 0⟩)) _ _ () (fun j u _ hj => hb j (by omega)), place_idx (isV v) ⟨[], 0⟩ vs]
  rfl
theorem ref05_Eval_eq (p : List Monomial) (vs : List Value) (hB : Bd p) (hvs : vs.length ≤ 1000000) : ref05_Eval p vs = some (evalR p vs) := by
  unfold ref05_Eval evalR
  rw [ref05_Valid_eq p hB]
  simp only [bnd_some]
  cases hv : validP p with
  | false => rfl
  | true =>
    simp only [cond_true]
    rw [cnt_list0 (f := fun s => (s.1, s.2)) ⟨0, []⟩ p (gR vs) (fun j s => s.1.length = j) (fun _ _ => rfl) ([], false) rfl (fun j s hj hI => by
      have hm := hB.2 _ (monoAt_mem (p := p) (j := j) hj)
      refine ⟨?_, fun s' e => ?_⟩
      · simp only [show p.getD j ⟨0, []⟩ = monoAt p j from rfl]
        generalize monoAt p j = m at hm
        generalize hbd : (fun (s2257 : Bool × Int × Bool × Bool × Int) => _ : (Bool × Int × Bool × Bool × Int) → Option (Stp (Bool × Int × Bool × Bool × Int) (Bool × Int × Bool × Bool) (Stp T1 T1 E2))) = body
        have key : ∀ (rest : List Str) (k fuel : Nat) (st : R4), m.Vars.drop k = rest → k + rest.length = m.Vars.length → rest.length < fuel →
            whl body fuel (st.1, st.2.1, st.2.2.1, st.2.2.2, ((k : Nat) : Int)) = some (bif rest.any (missV vs) then .ret (.ret (0, 7)) else .brk ((rest.map (num vs)).foldl rst st)) := by
          intro rest
          induction rest with
          | nil =>
            intro k fuel st h1 h2 h3
            obtain ⟨f, rfl⟩ : ∃ f, fuel = f + 1 := ⟨fuel - 1, by simp at h3; omega⟩
            have e0 : body (st.1, st.2.1, st.2.2.1, st.2.2.2, ((k : Nat) : Int)) = some (.brk st) := by
              rw [← hbd]
              simp only
              rw [decide_eq_false (by simp at h2; omega)]; rfl
            simp only [whl, e0, bnd_some, stp]
            rfl
          | cons v rest ih =>
            intro k fuel st h1 h2 h3
            obtain ⟨f, rfl⟩ : ∃ f, fuel = f + 1 := ⟨fuel - 1, by simp at h3; omega⟩
            have hk : k < m.Vars.length := by simp at h2; omega
            have h4 := drop_cons hk
            rw [h1] at h4
            have hv1 : m.Vars.getD k [] = v := (List.cons.inj h4).1.symm
            have hv2 : m.Vars.drop (k + 1) = rest := (List.cons.inj h4).2.symm
            have e0 : body (st.1, st.2.1, st.2.2.1, st.2.2.2, ((k : Nat) : Int)) = some (bif missV vs v then .ret (.ret (0, 7)) else (let r := rst st (num vs v); .go (r.1, r.2.1, r.2.2.1, r.2.2.2, ((k + 1 : Nat) : Int)))) := by
              rw [← hbd]
              simp only
              rw [decide_eq_true (by omega)]
              simp only [cond_true]
              rw [find_place vs v (fun i => grd (0 ≤ ((k : Nat) : Int) ∧ ((k : Nat) : Int) < ((m.Vars.length : Nat) : Int)) <| bif (((vs.getD i ⟨[], 0⟩).Var) == ((m.Vars).getD ((k : Nat) : Int).toNat [])) then some (.brk i) else some (.go ())) (fun i hi => by
                rw [grd_pos (by omega), Int.toNat_natCast, hv1]
                unfold isV
                cases ((vs.getD i ⟨[], 0⟩).Var == v) <;> rfl)]
              simp only [bnd_some, aftE]
              cases hmv : missV vs v with
              | true =>
                simp only [cond_true]
                rw [show ((((vs.length : Nat) : Int) == ((vs.length : Nat) : Int))) = true by simp]; rfl
              | false =>
                have hl := look_lt vs v hmv
                simp only [cond_false]
                rw [show (((((look vs v).toNat : Nat) : Int) == ((vs.length : Nat) : Int))) = false by rw [beq_eq_false_iff_ne]; omega]
                simp only [cond_false]
                rw [grd_pos (by omega), ref03_In_eq]
                simp only [bnd_some]
                have hn : (vs.getD (look vs v).toNat ⟨[], 0⟩).N = num vs v := rfl
                rw [hn]
                have hw : w64 (((k : Nat) : Int) + 1) = ((k + 1 : Nat) : Int) := by rw [w64_same (by omega) (by omega)]; omega
                rw [hw]
                unfold rst
                cases hin : inB (num vs v) with
                | false => rfl
                | true =>
                  simp only [cond_true]
                  cases hz : (num vs v == 0) with
                  | true => rfl
                  | false =>
                    simp only [cond_false]
                    rw [ref03_Mul_eq]
                    simp only [bnd_some]
                    unfold mulR
                    rw [hin]
                    cases inB st.2.1 && (true && inB (st.2.1 * num vs v)) <;> rfl
            simp only [whl, e0, bnd_some, List.any_cons, List.map_cons, List.foldl_cons]
            cases hmv : missV vs v with
            | true => rfl
            | false =>
              simp only [cond_false, Bool.false_or, stp]
              exact ih (k + 1) f (rst st (num vs v)) hv2 (by simp at h2; omega) (by simp at h3; omega)
        have hk0 := key m.Vars 0 4294967296 (s.2, m.Coef, false, false) (by rw [List.drop_zero]) (by omega) (by omega)
        have hk1 : whl body 4294967296 (s.2, m.Coef, false, false, 0) = some (bif m.Vars.any (missV vs) then .ret (.ret (0, 7)) else .brk ((m.Vars.map (num vs)).foldl rst (s.2, m.Coef, false, false))) := hk0
        rw [hk1]
        unfold gR miss nums
        cases m.Vars.any (missV vs) with
        | true => rfl
        | false =>
          simp only [cond_false, bnd_some, Sh.aft]
          generalize (m.Vars.map (num vs)).foldl rst (s.2, m.Coef, false, false) = r
          have hg : (s.1.length + 1) * 8 ≤ 140737488355328 := by have := hB.1; omega
          cases r.2.2.1 <;> cases r.1 <;> exact grd_pos hg
      · unfold gR at e
        cases hmv : miss vs (p.getD j ⟨0, []⟩) with
        | true => rw [hmv] at e; cases e
        | false => rw [hmv] at e; cases e; simp [hI])]
    obtain ⟨i1, i2⟩ := gR_all vs p ([], false) (fun m hm => by
      have hok := valid_coef hv hm
      unfold okM at hok
      simp only [Bool.and_eq_true, Bool.not_eq_true', beq_eq_false_iff_ne, decide_eq_true_eq] at hok
      exact ⟨hok.1, inB_iff.2 (by omega)⟩)
    cases hmi : p.any (miss vs) with
    | true => rw [i1, hmi]; rfl
    | false =>
      obtain ⟨q, e1, e2⟩ := i2 hmi
      rw [e1]
      simp only [cond_false, bnd_some, Sh.aft, Bool.false_or, List.nil_append]
      have hor : p.any (fun m => outm vs m || !((prodR (m.Coef :: nums vs m)).2 == 0)) = (p.any (outm vs) || (p.map (fun m => m.Coef :: nums vs m)).any (fun l => !((prodR l).2 == 0))) := by
        rw [List.any_map, Bool.eq_iff_iff]
        simp only [List.any_eq_true, Bool.or_eq_true, Function.comp]
        constructor
        · rintro ⟨m, hm, h | h⟩
          · exact .inl ⟨m, hm, h⟩
          · exact .inr ⟨m, hm, h⟩
        · rintro (⟨m, hm, h⟩ | ⟨m, hm, h⟩)
          · exact ⟨m, hm, .inl h⟩
          · exact ⟨m, hm, .inr h⟩
      rw [hor] at e2 ⊢
      cases h1 : p.any (outm vs) with
      | true => rfl
      | false =>
        simp only [Bool.false_or, cond_false]
        cases h2 : (p.map (fun m => m.Coef :: nums vs m)).any (fun l => !((prodR l).2 == 0)) with
        | true => rfl
        | false =>
          simp only [cond_false]
          have e3 := e2 (by rw [h1, h2]; rfl)
          rw [e3, ref03_Sum_eq _ (by rw [List.length_map]; exact hB.1)]
          simp only [bnd_some, List.length_map, List.map_map]
          rfl
end Go.Proofs.YtjfpcjnopbfekaaGreatDoor



/- PLAIN LAWS of layer 5: how much the guards leave. -/
namespace Go.Proofs.YtjfpcjnopbfekaaGreatDoor
open Go.Ab Go.Sh
def shortM (m : Monomial) : Bool := decide (m.Vars.length ≤ 10) && m.Vars.all (fun v => decide (v.length ≤ 40))
def fewP (p : List Monomial) (n : Int) : Bool := p.all shortM && decide ((p.length : Int) ≤ n)
theorem ref05_Few_eq (p : List Monomial) (n : Int) : ref05_Few p n = some (fewP p n) := by
  unfold ref05_Few fewP
  rw [cnt_all (fun j => shortM (p.getD j ⟨0, []⟩)) _ _ () (fun j u _ _ => by
    generalize p.getD j ⟨0, []⟩ = m
    unfold shortM
    by_cases h10 : m.Vars.length ≤ 10
    · rw [decide_eq_false (show ¬ ((m.Vars.length : Nat) : Int) > 10 by omega), decide_eq_true h10]
      simp only [cond_false, Bool.true_and]
      generalize hbd : (fun (s241 : Int) => _ : Int → Option (Stp Int Unit (Stp Unit Unit Bool))) = body
      have key : ∀ (rest : List Str) (k fuel : Nat), m.Vars.drop k = rest → k + rest.length = m.Vars.length → rest.length < fuel → whl body fuel ((k : Nat) : Int) = some (bif rest.all (fun v => decide (v.length ≤ 40)) then .brk () else .ret (.ret false)) := by
        intro rest
        induction rest with
        | nil =>
          intro k fuel h1 h2 h3
          obtain ⟨f, rfl⟩ : ∃ f, fuel = f + 1 := ⟨fuel - 1, by simp at h3; omega⟩
          have e0 : body ((k : Nat) : Int) = some (.brk ()) := by
            rw [← hbd]
            simp only
            rw [decide_eq_false (by simp at h2; omega)]; rfl
          simp only [whl, e0, bnd_some, stp]
          rfl
        | cons v rest ih =>
          intro k fuel h1 h2 h3
          obtain ⟨f, rfl⟩ : ∃ f, fuel = f + 1 := ⟨fuel - 1, by simp at h3; omega⟩
          have hk : k < m.Vars.length := by simp at h2; omega
          have h4 := drop_cons hk
          rw [h1] at h4
          have hv1 : m.Vars.getD k [] = v := (List.cons.inj h4).1.symm
          have hv2 : m.Vars.drop (k + 1) = rest := (List.cons.inj h4).2.symm
          have hw : w64 (((k : Nat) : Int) + 1) = ((k + 1 : Nat) : Int) := by rw [w64_same (by omega) (by omega)]; omega
          have e0 : body ((k : Nat) : Int) = some (bif decide (v.length ≤ 40) then .go ((k + 1 : Nat) : Int) else .ret (.ret false)) := by
            rw [← hbd]
            simp only
            rw [decide_eq_true (by omega)]
            simp only [cond_true]
            rw [grd_pos (by omega), Int.toNat_natCast, hv1, hw]
            by_cases hv : v.length ≤ 40
            · rw [decide_eq_true hv, decide_eq_false (by omega)]; rfl
            · rw [decide_eq_false hv, decide_eq_true (by omega)]; rfl
          simp only [whl, e0, bnd_some, List.all_cons]
          cases decide (v.length ≤ 40) with
          | false => rfl
          | true =>
            simp only [cond_true, Bool.true_and, stp]
            exact ih (k + 1) f hv2 (by simp at h2; omega) (by simp at h3; omega)
      have hk0 : whl body 4294967296 0 = _ := key m.Vars 0 4294967296 (by rw [List.drop_zero]) (by omega) (by omega)
      rw [hk0]
      cases m.Vars.all (fun v => decide (v.length ≤ 40)) <;> rfl
    · rw [decide_eq_true (show ((m.Vars.length : Nat) : Int) > 10 by omega), decide_eq_false h10]; rfl), aft_bif, all0 shortM ⟨0, []⟩ p]
  cases p.all shortM <;> rfl
theorem few_Bd {p : List Monomial} {n : Int} (h : fewP p n = true) (hn : n ≤ 1000) : Bd p := by
  unfold fewP at h
  rw [Bool.and_eq_true, List.all_eq_true, decide_eq_true_eq] at h
  refine ⟨by omega, fun m hm => ?_⟩
  have := h.1 m hm
  unfold shortM at this
  rw [Bool.and_eq_true, List.all_eq_true, decide_eq_true_eq] at this
  exact ⟨by omega, fun v hv => by have := this.2 v hv; simp only [decide_eq_true_eq] at this; omega⟩
end Go.Proofs.YtjfpcjnopbfekaaGreatDoor



/- PLAIN LAWS of layer 5: what a collected sum gives, in whatever order its entries come. -/
namespace Go.Sh
theorem mr_err {V σ ε β : Type} {m : List (Str × V)} {body : Str × V → σ → Option (Stp σ ε β)} {K : σ → Prop} {J : β → Prop} (I : List Nat → σ → Prop) (ok : Str × V → Bool) (g : σ → Str × V → σ) (x : β) (hJ : J x)
    (hstep : ∀ seen s i (h : i < m.length), seen.Nodup → i ∉ seen → (∀ j ∈ seen, j < m.length) → I seen s → body m[i] s = some (bif ok m[i] then .go (g s m[i]) else .ret x) ∧ I (seen ++ [i]) (g s m[i]))
    (hbad : ∃ i, ∃ h : i < m.length, ok m[i] = false) :
    ∀ (n : Nat) (seen : List Nat) (s : σ), seen.Nodup → (∀ i ∈ seen, i < m.length) → (∀ i ∈ seen, ∀ h : i < m.length, ok m[i] = true) → n + seen.length = m.length → I seen s → MR m body K J n seen s
  | 0, seen, s, h1, h2, h4, h3, hI => by
    obtain ⟨i, hi, hb⟩ := hbad
    have hin : i ∈ seen := by
      refine Classical.byContradiction fun hn => ?_
      have := nodup_le (i :: seen) (List.range m.length) (List.nodup_cons.2 ⟨hn, h1⟩) (fun x hx => by
        rcases List.mem_cons.1 hx with rfl | hx
        · simpa using hi
        · simpa using h2 x hx)
      simp at this; omega
    rw [h4 i hin hi] at hb
    cases hb
  | n + 1, seen, s, h1, h2, h4, h3, hI => by
    refine ⟨?_, fun i hi hn => ?_⟩
    · refine Classical.byContradiction fun hn => ?_
      have := nodup_le (List.range m.length) seen List.nodup_range (fun x hx => Classical.byContradiction fun hx2 => hn ⟨x, by simpa using hx, hx2⟩)
      simp at this; omega
    · obtain ⟨e1, e2⟩ := hstep seen s i hi h1 hn h2 hI
      refine ⟨_, e1, ?_⟩
      cases hok : ok m[i] with
      | false => exact hJ
      | true =>
        have hnd : (seen ++ [i]).Nodup := by
          rw [List.nodup_append]
          exact ⟨h1, by simp, fun a ha b hb => by
            have : b = i := by simpa using hb
            subst this; intro e; subst e; exact hn ha⟩
        exact mr_err I ok g x hJ hstep hbad n (seen ++ [i]) _ hnd (fun j hj => by
          rcases List.mem_append.1 hj with hj | hj
          · exact h2 j hj
          · have : j = i := by simpa using hj
            subst this; exact hi) (fun j hj h => by
          rcases List.mem_append.1 hj with hj | hj
          · exact h4 j hj h
          · have : j = i := by simpa using hj
            subst this; exact hok) (by simp; omega) e2
theorem perm_range {seen : List Nat} {n : Nat} (h1 : seen.Nodup) (h2 : ∀ i, i < n → i ∈ seen) (h3 : ∀ i ∈ seen, i < n) : seen.Perm (List.range n) :=
  (List.perm_ext_iff_of_nodup h1 List.nodup_range).2 fun a => ⟨fun h => List.mem_range.2 (h3 a h), fun h => h2 a (List.mem_range.1 h)⟩
end Go.Sh
namespace Go.Proofs.YtjfpcjnopbfekaaGreatDoor
open Go.Ab Go.Sh Go.Sort
/-! ### sorting by keys that differ -/
section
variable {α : Type} (key : α → List Str)
def insM (x : α) : List α → List α
  | [] => [x]
  | y :: l => bif decide (cmpL (key y) (key x) < 0) then y :: insM x l else x :: y :: l
def sortMI : List α → List α
  | [] => []
  | x :: l => insM key x (sortMI l)
def ltM (a b : α) : Prop := cmpL (key a) (key b) < 0
theorem insM_perm (x : α) : ∀ l, (insM key x l).Perm (x :: l)
  | [] => List.Perm.refl _
  | y :: l => by
    unfold insM
    cases decide (cmpL (key y) (key x) < 0) with
    | true => exact ((insM_perm x l).cons y).trans (List.Perm.swap x y l)
    | false => exact List.Perm.refl _
theorem sortMI_perm : ∀ l, (sortMI key l).Perm l
  | [] => List.Perm.refl _
  | x :: l => (insM_perm key x _).trans ((sortMI_perm l).cons x)
theorem insM_sorted (x : α) : ∀ {l : List α}, l.Pairwise (ltM key) → (∀ y ∈ l, key y ≠ key x) → (insM key x l).Pairwise (ltM key)
  | [], _, _ => by simp [insM]
  | y :: l, h, hne => by
    unfold insM
    rw [List.pairwise_cons] at h
    by_cases hlt : cmpL (key y) (key x) < 0
    · rw [decide_eq_true hlt]
      simp only [cond_true]
      rw [List.pairwise_cons]
      refine ⟨fun z hz => ?_, insM_sorted x h.2 fun z hz => hne z (by simp [hz])⟩
      rcases List.mem_cons.1 ((insM_perm key x l).mem_iff.1 hz) with rfl | hz
      · exact hlt
      · exact h.1 z hz
    · rw [decide_eq_false hlt]
      simp only [cond_false]
      have hxy : ltM key x y := by
        have h0 : cmpL (key y) (key x) ≠ 0 := fun e => hne y (by simp) (cmpL_zero e)
        exact cmpL_anti.2 (by omega)
      rw [List.pairwise_cons]
      refine ⟨fun z hz => ?_, List.pairwise_cons.2 h⟩
      rcases List.mem_cons.1 hz with rfl | hz
      · exact hxy
      · exact cmpL_trans hxy (h.1 z hz)
theorem sortMI_sorted : ∀ {l : List α}, (l.map key).Nodup → (sortMI key l).Pairwise (ltM key)
  | [], _ => by simp [sortMI]
  | x :: l, h => by
    rw [List.map_cons, List.nodup_cons] at h
    refine insM_sorted key x (sortMI_sorted h.2) fun y hy e => h.1 ?_
    rw [← e]
    exact List.mem_map.2 ⟨y, (sortMI_perm key l).mem_iff.1 hy, rfl⟩
theorem ltM_asymm {a b : α} (h1 : ltM key a b) (h2 : ltM key b a) : a = b := by
  have := cmpL_trans h1 h2
  rw [cmpL_self] at this
  omega
theorem sortM_uniq {a b : List α} (h1 : a.Pairwise (ltM key)) (h2 : b.Pairwise (ltM key)) (h : a.Perm b) : a = b :=
  List.Perm.eq_of_pairwise (fun _ _ _ _ => ltM_asymm key) h1 h2 h
theorem sortF_eq {l : List α} (h : (l.map key).Nodup) : sortF (fun x y => cmpL (key x) (key y)) l = sortMI key l := by
  refine sortM_uniq key ?_ (sortMI_sorted key h) ((List.mergeSort_perm l _).trans (sortMI_perm key l).symm)
  have hsw := swo_pull cmpL_swo key
  have h1 : (sortF (fun x y => cmpL (key x) (key y)) l).Pairwise (fun a b => !(ltOf (fun x y => cmpL (key x) (key y)) b a)) := by
    refine List.pairwise_mergeSort (fun a b c hab hbc => ?_) (fun a b => ?_) l
    · simp only [Bool.not_eq_true'] at *
      exact hsw.ntrans _ _ _ hbc hab
    · cases h2 : ltOf (fun x y => cmpL (key x) (key y)) b a with
      | false => rfl
      | true =>
        cases h3 : ltOf (fun x y => cmpL (key x) (key y)) a b with
        | false => rfl
        | true => have := hsw.trans _ _ _ h2 h3; rw [hsw.irrefl] at this; cases this
  have hnd : ((sortF (fun x y => cmpL (key x) (key y)) l).map key).Nodup := ((List.mergeSort_perm l _).map key).nodup_iff.2 h
  have h2 : (sortF (fun x y => cmpL (key x) (key y)) l).Pairwise (fun a b => key a ≠ key b) := List.pairwise_map.1 hnd
  refine (h1.and h2).imp fun {a b} ⟨k1, k2⟩ => ?_
  have k3 : ¬ cmpL (key b) (key a) < 0 := by simpa [ltOf] using k1
  have k4 : cmpL (key b) (key a) ≠ 0 := fun e => k2 (cmpL_zero e).symm
  exact cmpL_anti.2 (by omega)
theorem sortMI_congr {a b : List α} (h : a.Perm b) (hb : (b.map key).Nodup) : sortMI key a = sortMI key b :=
  sortM_uniq key (sortMI_sorted key ((h.map key).nodup_iff.2 hb)) (sortMI_sorted key hb) ((sortMI_perm key a).trans (h.trans (sortMI_perm key b).symm))
end
/-! ### the result of a sum -/
abbrev MV := List (Str × List Str)
abbrev MI := List (Str × List Int)
def entC (x1 x2 : MI) (e : Str × List Str) : Int × Int := dotR (mget [] e.1 x1) (mget [] e.1 x2)
def entOk (x1 x2 : MI) (e : Str × List Str) : Bool := (entC x1 x2 e).2 == 0
def mono1 (x1 x2 : MI) (e : Str × List Str) : List Monomial := bif (entC x1 x2 e).1 == 0 then [] else [⟨(entC x1 x2 e).1, e.2⟩]
def outL (x0 : MV) (x1 x2 : MI) : List Monomial := (x0.map (mono1 x1 x2)).flatten
def resT (x0 : MV) (x1 x2 : MI) : List Monomial × Int :=
  bif x0.all (entOk x1 x2) then (bif validP (sortMI Monomial.Vars (outL x0 x1 x2)) then (sortMI Monomial.Vars (outL x0 x1 x2), 0) else ([], 3)) else ([], 3)
theorem mono1_vars {x1 x2 : MI} {e : Str × List Str} {m : Monomial} (h : m ∈ mono1 x1 x2 e) : m.Vars = e.2 := by
  unfold mono1 at h
  cases hz : (entC x1 x2 e).1 == 0 with
  | true => rw [hz] at h; cases h
  | false => rw [hz] at h; simp only [cond_false, List.mem_singleton] at h; rw [h]
theorem mono1_len (x1 x2 : MI) (e : Str × List Str) : (mono1 x1 x2 e).length ≤ 1 := by
  unfold mono1
  cases (entC x1 x2 e).1 == 0 <;> simp
theorem outL_keys (x1 x2 : MI) : ∀ (x0 : MV), (x0.map (·.2)).Nodup → ((outL x0 x1 x2).map Monomial.Vars).Nodup
  | [], _ => by simp [outL]
  | e :: x0, h => by
    rw [List.map_cons, List.nodup_cons] at h
    have ih := outL_keys x1 x2 x0 h.2
    unfold outL at *
    rw [List.map_cons, List.flatten_cons, List.map_append, List.nodup_append]
    refine ⟨?_, ih, ?_⟩
    · unfold mono1
      cases (entC x1 x2 e).1 == 0 <;> simp
    · rintro a ha b hb rfl
      obtain ⟨m, hm, rfl⟩ := List.mem_map.1 ha
      obtain ⟨m', hm', e2⟩ := List.mem_map.1 hb
      obtain ⟨l, hl, hml⟩ := List.mem_flatten.1 hm'
      obtain ⟨e', he', rfl⟩ := List.mem_map.1 hl
      rw [mono1_vars hm, mono1_vars hml] at e2
      exact h.1 (List.mem_map.2 ⟨e', he', e2⟩)
theorem outL_len (x1 x2 : MI) : ∀ (x0 : MV), (outL x0 x1 x2).length ≤ x0.length
  | [] => by simp [outL]
  | e :: x0 => by
    have ih := outL_len x1 x2 x0
    have h1 := mono1_len x1 x2 e
    unfold outL at *
    rw [List.map_cons, List.flatten_cons, List.length_append, List.length_cons]
    omega
def at0 (x0 : MV) (i : Nat) : Str × List Str := x0.getD i ([], [])
theorem range_map (x0 : MV) : (List.range x0.length).map (at0 x0) = x0 := by
  refine List.ext_getElem (by simp) fun i h1 h2 => by simp [at0, List.getD_eq_getElem?_getD, h2]
theorem at0_eq {x0 : MV} {i : Nat} (h : i < x0.length) : at0 x0 i = x0[i] := by simp [at0, List.getD_eq_getElem?_getD, h]
theorem result_eq (x0 : MV) (x1 x2 : MI) (h1 : (x0.map (·.2)).Nodup) (hn : x0.length ≤ 1000000) (hb : ∀ e ∈ x0, e.2.length ≤ 1000000 ∧ ∀ v ∈ e.2, v.length ≤ 1000000) : poly_sum_result x0 x1 x2 = some (resT x0 x1 x2) := by
  unfold poly_sum_result resT
  have hbody : ∀ (e : Str × List Str) (s : List Monomial), s.length ≤ 1000000 → ((intmath_Dot (mget [] e.1 x1) (mget [] e.1 x2)).bind fun y109 => bif (y109.2 == 0) then (bif (y109.1 == 0) then (some (.go s) : Option (Stp (List Monomial) Empty (List Monomial × Int))) else (grd ((s.length + 1) * 32 ≤ 140737488355328) <| some (.go (s ++ [(Monomial.mk y109.1 e.2)])))) else (some (.ret ([], 3)))) = some (bif entOk x1 x2 e then .go (s ++ mono1 x1 x2 e) else .ret ([], 3)) := fun e s hs => by
    rw [intmath_Dot_eq]
    simp only [bnd_some]
    unfold entOk mono1 entC
    generalize dotR (mget [] e.1 x1) (mget [] e.1 x2) = c
    cases c.2 == 0 with
    | false => rfl
    | true =>
      cases c.1 == 0 with
      | true => simp
      | false =>
        simp only [cond_true, cond_false]
        rw [grd_pos (by omega)]
  have hIlen : ∀ (seen : List Nat), seen.Nodup → (∀ j ∈ seen, j < x0.length) → ((seen.map fun i => mono1 x1 x2 (at0 x0 i)).flatten).length ≤ 1000000 := fun seen k1 k2 => by
    have h3 := nodup_le seen (List.range x0.length) k1 (fun x hx => List.mem_range.2 (k2 x hx))
    rw [List.length_range] at h3
    have h4 : ∀ l : List Nat, ((l.map fun i => mono1 x1 x2 (at0 x0 i)).flatten).length ≤ l.length := by
      intro l
      induction l with
      | nil => simp
      | cons a l ih =>
        have := mono1_len x1 x2 (at0 x0 a)
        rw [List.map_cons, List.flatten_cons, List.length_append, List.length_cons]; omega
    have := h4 seen
    omega
  cases hall : x0.all (entOk x1 x2) with
  | true =>
    simp only [cond_true]
    have hok : ∀ i (h : i < x0.length), entOk x1 x2 x0[i] = true := fun i h => List.all_eq_true.1 hall _ (List.getElem_mem h)
    refine mrngK_eq (mr_go (fun seen s => s = (seen.map fun i => mono1 x1 x2 (at0 x0 i)).flatten) (fun s e => s ++ mono1 x1 x2 e) (fun seen s i h k1 k2 k3 hI => ?_) (fun seen s k1 k2 k3 hI => ?_) x0.length [] [] List.nodup_nil (fun i hi => by cases hi) (by simp) rfl)
    · refine ⟨?_, ?_⟩
      · rw [hbody _ _ (by rw [hI]; exact hIlen seen k1 k3), hok i h]; rfl
      · rw [hI, List.map_append, List.flatten_append]; simp [at0_eq h]
    · have hp := ((perm_range k1 k2 k3).map fun i => mono1 x1 x2 (at0 x0 i)).flatten
      rw [← hI] at hp
      have e1 : ((List.range x0.length).map fun i => mono1 x1 x2 (at0 x0 i)).flatten = outL x0 x1 x2 := by
        unfold outL
        conv => rhs; rw [← range_map x0]
        rw [List.map_map]; rfl
      rw [e1] at hp
      have hk := outL_keys x1 x2 x0 h1
      have hs : lib_SortM (fun x => x.Vars) s = some (sortMI Monomial.Vars (outL x0 x1 x2)) := by
        have hnd := (hp.map Monomial.Vars).nodup_iff.2 hk
        have hlen := hp.length_eq
        have hl2 := outL_len x1 x2 x0
        unfold lib_SortM
        rw [grd_pos ⟨by omega, hnd⟩]
        exact congrArg some ((sortF_eq Monomial.Vars hnd).trans (sortMI_congr Monomial.Vars hp hk))
      show ((lib_SortM (fun x => x.Vars) s).bind fun y91 => (poly_Valid y91).bind fun y94 => bif y94 then some (y91, 0) else some ([], 3)) = _
      rw [hs]
      simp only [bnd_some]
      have hBd : Bd (sortMI Monomial.Vars (outL x0 x1 x2)) := by
        refine ⟨?_, fun m hm => ?_⟩
        · have := (sortMI_perm Monomial.Vars (outL x0 x1 x2)).length_eq
          have hl2 := outL_len x1 x2 x0
          omega
        · have hm := (sortMI_perm Monomial.Vars (outL x0 x1 x2)).mem_iff.1 hm
          unfold outL at hm
          obtain ⟨l, hl, hml⟩ := List.mem_flatten.1 hm
          obtain ⟨e', he', rfl⟩ := List.mem_map.1 hl
          rw [mono1_vars hml]
          exact hb e' he'
      rw [poly_Valid_eq _ hBd]
      simp only [bnd_some]
      cases validP (sortMI Monomial.Vars (outL x0 x1 x2)) <;> rfl
  | false =>
    have hbad : ∃ i, ∃ h : i < x0.length, entOk x1 x2 x0[i] = false := by
      have : ¬ (x0.all (entOk x1 x2) = true) := by rw [hall]; simp
      rw [List.all_eq_true] at this
      refine Classical.byContradiction fun hn => this fun e he => ?_
      obtain ⟨i, hi, rfl⟩ := List.getElem_of_mem he
      cases hq : entOk x1 x2 x0[i] with
      | true => rfl
      | false => exact absurd ⟨i, hi, hq⟩ hn
    rw [cond_false]
    refine mrngK_eq (mr_err (J := fun x => x = (([], 3) : List Monomial × Int)) (fun seen s => s = (seen.map fun i => mono1 x1 x2 (at0 x0 i)).flatten) (entOk x1 x2) (fun s e => s ++ mono1 x1 x2 e) ([], 3) rfl (fun seen s i h k1 k2 k3 hI => ?_) hbad x0.length [] [] List.nodup_nil (fun i hi => by cases hi) (fun i hi => by cases hi) (by simp) rfl)
    refine ⟨hbody _ _ (by rw [hI]; exact hIlen seen k1 k3), ?_⟩
    rw [hI, List.map_append, List.flatten_append]; simp [at0_eq h]
end Go.Proofs.YtjfpcjnopbfekaaGreatDoor



/- PLAIN LAWS of layer 5: the examples of the document. -/
namespace Go.Proofs.YtjfpcjnopbfekaaGreatDoor
open Go.Ab Go.Sh Go.Sort
def lib_SortedT (xs : List Str) : Option (List Str) := grd (xs.length * 16 ≤ 140737488355328) <| some (sortI xs)
theorem sorted_tw : lib_SortedS = lib_SortedT := funext fun xs => by unfold lib_SortedS lib_SortedT; rw [sortS_eq]
def addT (x0 : (List Str)) (x1 : Int) (x2 : Int) (x3 : MV) (x4 : MI) (x5 : MI) : Option (MV × MI × MI) :=
  (lib_ValuesS x0).bind fun y18 =>
  (lib_SortedT y18).bind fun y21 =>
  (lib_Join y21 [42]).bind fun y24 =>
  grd (((mget [] y24 x4).length + [x1].length) * 8 ≤ 140737488355328) <|
  grd (((mget [] y24 x5).length + [x2].length) * 8 ≤ 140737488355328) <|
  grd (x4.length + 1 < 1000000) <|
  grd (x5.length + 1 < 1000000) <|
  some ((mput y24 y21 x3), (mput y24 ((mget [] y24 x4) ++ [x1]) x4), (mput y24 ((mget [] y24 x5) ++ [x2]) x5))
theorem add_tw : poly_sum_add = addT := by
  funext x0 x1 x2 x3 x4 x5
  unfold poly_sum_add addT
  rw [sorted_tw]
def preOf (x0 : Linear) : Option (MV × MI × MI) :=
  (linear_Valid x0).bind fun y1 => bif y1 then (
    (addT [] x0.Const 1 [] [] []).bind fun y11 =>
    (cnt (σ := (MI × MI × MV)) (ε := (MI × MI × MV)) (ρ := Empty) (fun i37 s36 =>
      (addT [((x0.Terms.getD i37 ⟨[], 0⟩).Var)] ((x0.Terms.getD i37 ⟨[], 0⟩).C) 1 s36.2.2 s36.1 s36.2.1).bind fun y62 =>
      some (.go (y62.2.1, y62.2.2, y62.1))
    ) (fun i37 s36 => (s36.1, s36.2.1, s36.2.2)) (x0.Terms.length - 0) 0 (y11.2.1, y11.2.2, y11.1)).bind <| aftE fun u70 =>
    some (u70.2.2, u70.1, u70.2.1)) else none
def goodM (x0 : MV) : Prop := (x0.map (·.2)).Nodup ∧ x0.length ≤ 1000000 ∧ ∀ e ∈ x0, e.2.length ≤ 1000000 ∧ ∀ v ∈ e.2, v.length ≤ 1000000
theorem Of_run {x0 : Linear} {M : MV × MI × MI} (h : preOf x0 = some M) (hg : goodM M.1) : poly_Of x0 = some (resT M.1 M.2.1 M.2.2) := by
  unfold preOf at h
  unfold poly_Of
  rw [add_tw]
  cases h1 : linear_Valid x0 with
  | none => rw [h1] at h; cases h
  | some b =>
    rw [h1] at h
    cases b with
    | false => cases h
    | true =>
      simp only [Option.bind_some, cond_true] at h ⊢
      rw [show poly_newSum = some ([], [], []) from rfl]
      simp only [Option.bind_some]
      cases h2 : addT [] x0.Const 1 [] [] [] with
      | none => rw [h2] at h; cases h
      | some y =>
        rw [h2] at h
        simp only [Option.bind_some] at h ⊢
        generalize cnt (σ := (MI × MI × MV)) (ε := (MI × MI × MV)) (ρ := Empty) (fun i37 s36 =>
          (addT [((x0.Terms.getD i37 ⟨[], 0⟩).Var)] ((x0.Terms.getD i37 ⟨[], 0⟩).C) 1 s36.2.2 s36.1 s36.2.1).bind fun y62 =>
          some (.go (y62.2.1, y62.2.2, y62.1))
        ) (fun i37 s36 => (s36.1, s36.2.1, s36.2.2)) (x0.Terms.length - 0) 0 (y.2.1, y.2.2, y.1) = o at h ⊢
        cases o with
        | none => cases h
        | some o =>
          cases o with
          | ret e => cases e
          | brk u =>
            have h : some (u.2.2, u.1, u.2.1) = some M := h
            cases h
            show ((poly_sum_result u.2.2 u.1 u.2.1).bind fun y73 => some (y73.1, y73.2)) = _
            rw [result_eq _ _ _ hg.1 hg.2.1 hg.2.2]; rfl
def mulT1 (x0 : Monomial) (x1 : Monomial) (x2 : MV) (x3 : MI) (x4 : MI) : Option (MV × MI × MI) :=
  (lib_ConcatS [x0.Vars, x1.Vars]).bind fun y7 => (addT y7 x0.Coef x1.Coef x2 x3 x4).bind fun y10 => some (y10.1, y10.2.1, y10.2.2)
def pairsT (x0 : (List Monomial)) (x1 : (List Monomial)) (x2 : MV) (x3 : MI) (x4 : MI) : Option (MV × MI × MI) :=
  (cnt (σ := (MV × MI × MI)) (ε := (MV × MI × MI)) (ρ := (MV × MI × MI)) (fun i303 s302 =>
    (cnt (σ := (MV × MI × MI)) (ε := (MV × MI × MI)) (ρ := Empty) (fun i341 s340 =>
      (mulT1 (Monomial.mk ((x0.getD i303 ⟨0, []⟩).Coef) ((x0.getD i303 ⟨0, []⟩).Vars)) (Monomial.mk ((x1.getD i341 ⟨0, []⟩).Coef) ((x1.getD i341 ⟨0, []⟩).Vars)) s340.1 s340.2.1 s340.2.2).bind fun y366 =>
      some (.go (y366.1, y366.2.1, y366.2.2))
    ) (fun i341 s340 => (s340.1, s340.2.1, s340.2.2)) (x1.length - 0) 0 (s302.1, s302.2.1, s302.2.2)).bind <| aftE fun u374 =>
    some (.go (u374.1, u374.2.1, u374.2.2))
  ) (fun i303 s302 => (s302.1, s302.2.1, s302.2.2)) (x0.length - 0) 0 (x2, x3, x4)).bind <| Sh.aft some
theorem pairs_tw : poly_pairs_api_Monomial = pairsT := by
  have h : poly_mul_1 = mulT1 := by
    funext x0 x1 x2 x3 x4
    unfold poly_mul_1 mulT1
    rw [add_tw]
  funext x0 x1 x2 x3 x4
  unfold poly_pairs_api_Monomial pairsT
  rw [h]
theorem mul_run {a b : List Monomial} {M : MV × MI × MI} (h : pairsT a b [] [] [] = some M) (hg : goodM M.1) : poly_mul a b = some (resT M.1 M.2.1 M.2.2) := by
  unfold poly_mul
  rw [show poly_newSum = some ([], [], []) from rfl]
  simp only [Option.bind_some]
  rw [pairs_tw, h]
  simp only [Option.bind_some]
  rw [result_eq _ _ _ hg.1 hg.2.1 hg.2.2]; rfl
def exN : Linear := Linear.mk (-1) [Coef.mk [110] 1]
def exP : Linear := Linear.mk 1 [Coef.mk [110] 1]
theorem ex_ofN : preOf exN = some ([([], []), ([110], [[110]])], [([], [-1]), ([110], [1])], [([], [1]), ([110], [1])]) := by kernel_rfl
theorem ex_ofP : preOf exP = some ([([], []), ([110], [[110]])], [([], [1]), ([110], [1])], [([], [1]), ([110], [1])]) := by kernel_rfl
theorem good2 : goodM [([], []), ([110], [[110]])] := ⟨by decide, by decide, by decide⟩
theorem ofN : poly_Of exN = some ([⟨-1, []⟩, ⟨1, [[110]]⟩], 0) := by rw [Of_run ex_ofN good2]; kernel_rfl
theorem ofP : poly_Of exP = some ([⟨1, []⟩, ⟨1, [[110]]⟩], 0) := by rw [Of_run ex_ofP good2]; kernel_rfl
theorem ex_mul1 : pairsT [⟨1, []⟩] [⟨-1, []⟩, ⟨1, [[110]]⟩] [] [] [] = some ([([], []), ([110], [[110]])], [([], [1]), ([110], [1])], [([], [-1]), ([110], [1])]) := by kernel_rfl
theorem mul1 : poly_mul [⟨1, []⟩] [⟨-1, []⟩, ⟨1, [[110]]⟩] = some ([⟨-1, []⟩, ⟨1, [[110]]⟩], 0) := by rw [mul_run ex_mul1 good2]; kernel_rfl
theorem ex_mul2 : pairsT [⟨-1, []⟩, ⟨1, [[110]]⟩] [⟨1, []⟩, ⟨1, [[110]]⟩] [] [] [] = some ([([], []), ([110], [[110]]), ([110, 42, 110], [[110], [110]])], [([], [-1]), ([110], [-1, 1]), ([110, 42, 110], [1])], [([], [1]), ([110], [1, 1]), ([110, 42, 110], [1])]) := by kernel_rfl
theorem good3 : goodM [([], []), ([110], [[110]]), ([110, 42, 110], [[110], [110]])] := ⟨by decide, by decide, by decide⟩
theorem mul2 : poly_mul [⟨-1, []⟩, ⟨1, [[110]]⟩] [⟨1, []⟩, ⟨1, [[110]]⟩] = some ([⟨-1, []⟩, ⟨1, [[110], [110]]⟩], 0) := by rw [mul_run ex_mul2 good3]; kernel_rfl
theorem ex_Product : poly_Product [exN, exP] = some ([⟨-1, []⟩, ⟨1, [[110], [110]]⟩], 0) := by
  unfold poly_Product
  simp only [List.length_cons, List.length_nil, Nat.zero_add, Nat.sub_zero, Nat.reduceAdd, cnt, List.getD_cons_zero, List.getD_cons_succ]
  rw [show (Linear.mk exN.Const exN.Terms) = exN from rfl, show (Linear.mk exP.Const exP.Terms) = exP from rfl, ofN, ofP]
  simp only [Option.bind_some, stp, Sh.aft, beq_self_eq_true, cond_true, List.nil_append]
  rw [grd_pos (by decide)]
  simp only [Option.bind_some, stp, Sh.aft, beq_self_eq_true, cond_true, List.nil_append, List.cons_append]
  rw [grd_pos (by decide)]
  simp only [Option.bind_some, stp, Sh.aft, List.length_cons, List.length_nil, Nat.zero_add, Nat.sub_zero, Nat.reduceAdd, cnt, List.getD_cons_zero, List.getD_cons_succ, mul1, beq_self_eq_true, cond_true]
  rw [mul2]
  simp only [Option.bind_some, stp, Sh.aft, beq_self_eq_true, cond_true]
theorem ex_Parse : poly_Parse [50, 42, 109, 42, 110, 94, 50] = some ([⟨2, [[109], [110], [110]]⟩], 0) := by kernel_rfl
theorem ex_Eval : poly_Eval [⟨2, [[109], [110], [110]]⟩] [(Value.mk [109] 3), (Value.mk [110] (-1))] = some (6, 0) := by kernel_rfl
theorem ex_Print : poly_Print [⟨-1, []⟩, ⟨1, [[110], [110]]⟩] = some [45, 49, 43, 110, 94, 50] := by kernel_rfl
theorem ex_Valid : poly_Valid [⟨2, [[109], [110], [110]]⟩] = some true := by kernel_rfl
theorem ex_Degree : poly_Degree [⟨2, [[109], [110], [110]]⟩] = some 3 := by kernel_rfl
theorem law05_awake_true : law05_awake = some true := by
  unfold law05_awake
  rw [show [(Linear.mk (-1) [(Coef.mk [110] 1)]), (Linear.mk 1 [(Coef.mk [110] 1)])] = [exN, exP] from rfl, ex_Product, ex_Parse]
  simp only [Option.bind_some]
  rw [ex_Eval]
  simp only [Option.bind_some]
  rw [ex_Print, ex_Valid, ex_Degree]
  rfl
end Go.Proofs.YtjfpcjnopbfekaaGreatDoor



/- PLAIN LAW: Eval returns the specified result. -/
namespace Go.Proofs.YtjfpcjnopbfekaaGreatDoor
open Go.Ab Go.Sh
theorem polyEval_law (x0 : List Monomial) (x1 : List Value) : law05_PolyEval x0 x1 = some true := by
  unfold law05_PolyEval
  rw [law05_awake_true]
  simp only [bnd_some, cond_true]
  rw [ref05_Few_eq]
  simp only [bnd_some]
  cases hf : fewP x0 8 with
  | false => rfl
  | true =>
    simp only [cond_true]
    by_cases h12 : x1.length ≤ 12
    · rw [decide_eq_false (by omega)]
      have hB := few_Bd hf (by decide)
      simp only [cond_false]
      rw [poly_Eval_eq x0 x1 hB]
      simp only [bnd_some]
      rw [ref05_Eval_eq x0 x1 hB (by omega)]
      simp only [bnd_some, beq_self_eq_true, cond_true]
    · rw [decide_eq_true (by omega)]; rfl
end Go.Proofs.YtjfpcjnopbfekaaGreatDoor


