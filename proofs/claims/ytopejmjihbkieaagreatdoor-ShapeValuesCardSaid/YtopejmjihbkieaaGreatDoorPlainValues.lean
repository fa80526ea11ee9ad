/- Plain laws: what the walked functions compute answers as the statement says. -/
import Derived.Test.YtopejmjihbkieaaGreatDoorAbL
import Derived.Test.YtopejmjihbkieaaGreatDoorAbN
import Derived.Lib.ItoaNum
import Derived.Lib.ItoaMem
import Derived.Lib.AtoiAll
import Derived.Test.YtopejmjihbkieaaGreatDoorWalkcValues
import Derived.Lib.AtoiAllCases
import Derived.Lib.ItoaLen
import Derived.Lib.SlTrimSet
import Derived.KernelRfl
set_option linter.unusedSimpArgs false
set_option linter.unusedVariables false
/- PLAIN LAWS, of no program: loops as searches through lists; numerals. -/
namespace Go.Sh
open Go.Ab
section
variable {α σ ε ρ : Type}
theorem cnt_all {body : Nat → Unit → Option (Stp Unit ε ρ)} {fin : Nat → Unit → ε} {r : ρ} (p : Nat → Bool) : ∀ (k i : Nat) (u : Unit), (∀ j u, i ≤ j → j < i + k → body j u = some (bif p j then .go () else .ret r)) →
    cnt body fin k i u = some (bif (List.range' i k).all p then .brk (fin (i + k) ()) else .ret r)
  | 0, i, u, h => by simp [cnt]
  | k + 1, i, u, h => by
    simp only [cnt, h i u (Nat.le_refl _) (by omega), List.range'_succ, List.all_cons]
    cases hp : p i with
    | true =>
      simp only [cond_true, Option.bind_some, stp, Bool.true_and]
      rw [cnt_all p k (i + 1) () (fun j u h1 h2 => h j u (by omega) (by omega))]
      rw [show i + 1 + k = i + (k + 1) by omega]
    | false => simp [stp]
theorem cnt_find {body : Nat → Unit → Option (Stp Unit ε ρ)} {fin : Nat → Unit → ε} {f : Nat → ρ} (p : Nat → Bool) : ∀ (k i : Nat) (u : Unit), (∀ j u, i ≤ j → j < i + k → body j u = some (bif p j then .ret (f j) else .go ())) →
    cnt body fin k i u = some (match (List.range' i k).find? p with | some j => .ret (f j) | none => .brk (fin (i + k) ()))
  | 0, i, u, h => by simp [cnt]
  | k + 1, i, u, h => by
    simp only [cnt, h i u (Nat.le_refl _) (by omega), List.range'_succ, List.find?_cons]
    cases hp : p i with
    | false =>
      simp only [cond_false, Option.bind_some, stp]
      rw [cnt_find p k (i + 1) () (fun j u h1 h2 => h j u (by omega) (by omega))]
      rw [show i + 1 + k = i + (k + 1) by omega]
    | true => simp [stp]
/-- A loop that carries a state and goes on to the end. -/
theorem cnt_go {body : Nat → σ → Option (Stp σ ε ρ)} {fin : Nat → σ → ε} (g : Nat → σ → σ) (I : Nat → σ → Prop) : ∀ (k i : Nat) (s : σ), I i s → (∀ j s, i ≤ j → j < i + k → I j s → body j s = some (.go (g j s)) ∧ I (j + 1) (g j s)) →
    ∃ s', cnt body fin k i s = some (.brk (fin (i + k) s')) ∧ s' = (List.range' i k).foldl (fun s j => g j s) s ∧ I (i + k) s'
  | 0, i, s, hI, h => ⟨s, by simp [cnt], by simp, hI⟩
  | k + 1, i, s, hI, h => by
    obtain ⟨h1, h2⟩ := h i s (Nat.le_refl _) (by omega) hI
    obtain ⟨s', e1, e2, e3⟩ := cnt_go g I k (i + 1) (g i s) h2 (fun j s h1 h2 => h j s (by omega) (by omega))
    refine ⟨s', ?_, ?_, by rw [show i + (k + 1) = i + 1 + k by omega]; exact e3⟩
    · simp only [cnt, h1, Option.bind_some, stp]
      rw [e1, show i + 1 + k = i + (k + 1) by omega]
    · rw [e2, List.range'_succ]; rfl
theorem all_getD (q : α → Bool) (d : α) (l : List α) : ∀ (i : Nat), (List.range' i (l.length - i)).all (fun j => q (l.getD j d)) = (l.drop i).all q := by
  intro i
  by_cases h : i < l.length
  · obtain ⟨k, hk⟩ : ∃ k, l.length - i = k + 1 := ⟨l.length - i - 1, by omega⟩
    have ih := all_getD q d l (i + 1)
    rw [hk, List.range'_succ, List.all_cons, List.drop_eq_getElem_cons h, List.all_cons]
    rw [show l.length - (i + 1) = k by omega] at ih
    rw [ih]
    simp [List.getD_eq_getElem?_getD, List.getElem?_eq_getElem h]
  · rw [show l.length - i = 0 by omega, List.drop_eq_nil_of_le (by omega)]; rfl
  termination_by i => l.length - i
theorem all0 (q : α → Bool) (d : α) (l : List α) : (List.range' 0 (l.length - 0)).all (fun j => q (l.getD j d)) = l.all q := by
  have := all_getD q d l 0
  simpa using this
theorem foldl_getD {β : Type} (g : β → α → β) (d : α) (l : List α) : ∀ (i : Nat) (s : β), (List.range' i (l.length - i)).foldl (fun s j => g s (l.getD j d)) s = (l.drop i).foldl g s := by
  intro i s
  by_cases h : i < l.length
  · obtain ⟨k, hk⟩ : ∃ k, l.length - i = k + 1 := ⟨l.length - i - 1, by omega⟩
    have ih := foldl_getD g d l (i + 1) (g s (l.getD i d))
    rw [hk, List.range'_succ, List.foldl_cons, List.drop_eq_getElem_cons h, List.foldl_cons]
    rw [show l.length - (i + 1) = k by omega] at ih
    rw [ih]
    simp [List.getD_eq_getElem?_getD, List.getElem?_eq_getElem h]
  · rw [show l.length - i = 0 by omega, List.drop_eq_nil_of_le (by omega)]; rfl
  termination_by i => l.length - i
/-- The first place at which p holds, or -1. -/
def idxOf (p : α → Bool) : List α → Int
  | [] => -1
  | x :: l => bif p x then 0 else (let r := idxOf p l; bif r == -1 then -1 else r + 1)
theorem idxOf_ge (p : α → Bool) : ∀ l : List α, -1 ≤ idxOf p l
  | [] => by simp [idxOf]
  | x :: l => by
    have := idxOf_ge p l
    simp only [idxOf]
    cases p x
    · cases h : idxOf p l == -1
      · simp; omega
      · simp
    · simp
theorem idxOf_neg (p : α → Bool) : ∀ l : List α, (idxOf p l < 0) ↔ l.any p = false
  | [] => by simp [idxOf]
  | x :: l => by
    have h1 := idxOf_ge p l
    have h2 := idxOf_neg p l
    simp only [idxOf, List.any_cons]
    cases hp : p x
    · cases h : idxOf p l == -1
      · have : idxOf p l ≠ -1 := by simpa using h
        simp only [cond_false, Bool.false_or]
        rw [← h2]; omega
      · have : idxOf p l = -1 := by simpa using h
        simp only [cond_false, cond_true, Bool.false_or]
        rw [← h2]; omega
    · simp
theorem find_idx (p : α → Bool) (d : α) (l : List α) : ∀ (i : Nat), (match (List.range' i (l.length - i)).find? (fun j => p (l.getD j d)) with | some j => ((j : Nat) : Int) | none => -1) = (bif idxOf p (l.drop i) == -1 then -1 else idxOf p (l.drop i) + i) := by
  intro i
  by_cases h : i < l.length
  · obtain ⟨k, hk⟩ : ∃ k, l.length - i = k + 1 := ⟨l.length - i - 1, by omega⟩
    have ih := find_idx p d l (i + 1)
    rw [hk, List.range'_succ, List.find?_cons, List.drop_eq_getElem_cons h]
    rw [show l.length - (i + 1) = k by omega] at ih
    have e : l.getD i d = l[i] := by simp [List.getD_eq_getElem?_getD, List.getElem?_eq_getElem h]
    rw [e]
    simp only [idxOf]
    cases hp : p l[i]
    · simp only [cond_false]
      rw [ih]
      cases hq : idxOf p (l.drop (i + 1)) == -1
      · have h3 : idxOf p (l.drop (i + 1)) ≠ -1 := by simpa using hq
        have h4 := idxOf_ge p (l.drop (i + 1))
        simp only [cond_false]
        have : ((idxOf p (l.drop (i + 1)) + 1) == -1) = false := by simp; omega
        rw [this]; simp only [cond_false]
        omega
      · simp
    · simp
  · rw [show l.length - i = 0 by omega, List.drop_eq_nil_of_le (by omega)]; rfl
  termination_by i => l.length - i
theorem find_idx0 (p : α → Bool) (d : α) (l : List α) : (match (List.range' 0 (l.length - 0)).find? (fun j => p (l.getD j d)) with | some j => ((j : Nat) : Int) | none => -1) = idxOf p l := by
  rw [find_idx p d l 0]
  simp only [List.drop_zero]
  cases h : idxOf p l == -1
  · simp
  · have : idxOf p l = -1 := by simpa using h
    simp [this]
end

/-! ### numerals -/
def isDig (b : UInt8) : Bool := decide (48 ≤ b.toNat) && decide (b.toNat ≤ 57)
def valD (acc : Nat) (l : Str) : Nat := l.foldl (fun a c => a * 10 + (c.toNat - 48)) acc
theorem valD_snoc (acc : Nat) (l : Str) (c : UInt8) : valD acc (l ++ [c]) = valD acc l * 10 + (c.toNat - 48) := by simp [valD]
theorem parse_val : ∀ (l : Str) (acc : Nat), l.all isDig = true → (acc + 1) * 10 ^ l.length ≤ 10 ^ 18 → Lib.parseUint10 acc l = .ok (valD acc l)
  | [], acc, _, _ => rfl
  | c :: l, acc, h, hb => by
    simp only [List.all_cons, Bool.and_eq_true, isDig, decide_eq_true_eq] at h
    obtain ⟨⟨h1, h2⟩, h3⟩ := h
    have hp : 1 ≤ 10 ^ l.length := Nat.one_le_pow _ _ (by decide)
    have hb2 : (acc * 10 + 10) * 10 ^ l.length ≤ 10 ^ 18 := by
      have : (acc + 1) * 10 ^ (l.length + 1) = (acc * 10 + 10) * 10 ^ l.length := by rw [Nat.pow_succ]; rw [show (acc * 10 + 10) = (acc + 1) * 10 by omega, Nat.mul_assoc, Nat.mul_comm 10]
      rw [← this]; simpa using hb
    have hb3 : acc * 10 + 10 ≤ 10 ^ 18 := Nat.le_trans (Nat.le_mul_of_pos_right _ hp) hb2
    have e18 : (10 : Nat) ^ 18 = 1000000000000000000 := by decide
    rw [e18] at hb3
    simp only [Lib.parseUint10]
    rw [if_pos ⟨h1, h2⟩, if_neg (by omega), if_neg (by omega)]
    rw [parse_val l _ (by simpa [isDig] using h3) (Nat.le_trans (Nat.mul_le_mul_right _ (by omega)) hb2)]
    rfl
theorem dig_back {c : UInt8} (h : isDig c = true) : UInt8.ofNat (48 + (c.toNat - 48)) = c := by
  simp only [isDig, Bool.and_eq_true, decide_eq_true_eq] at h
  rw [show 48 + (c.toNat - 48) = c.toNat by omega]
  exact UInt8.ofNat_toNat
theorem snoc_rec {α : Type} {P : List α → Prop} (h0 : P []) (h1 : ∀ l c, P l → P (l ++ [c])) (l : List α) : P l := by
  have : ∀ m : List α, P m.reverse := by
    intro m
    induction m with
    | nil => exact h0
    | cons c m ih => simpa using h1 _ c ih
  simpa using this l.reverse
theorem dec_val (l : Str) : l.all isDig = true → l ≠ [] → l.head? ≠ some 48 → 1 ≤ valD 0 l ∧ Lib.decDigits (valD 0 l) = l := by
  refine snoc_rec (P := fun l => l.all isDig = true → l ≠ [] → l.head? ≠ some 48 → 1 ≤ valD 0 l ∧ Lib.decDigits (valD 0 l) = l) ?_ ?_ l
  · intro _ h; exact absurd rfl h
  · intro l c ih h _ hh
    rw [List.all_append, Bool.and_eq_true] at h
    have hc : isDig c = true := by simpa using h.2
    have hc' := hc
    simp only [isDig, Bool.and_eq_true, decide_eq_true_eq] at hc'
    rw [valD_snoc]
    by_cases hl : l = []
    · subst hl
      have hne : c ≠ 48 := by simpa using hh
      have : c.toNat ≠ 48 := fun e => hne (by rw [← UInt8.toNat_inj]; simpa using e)
      simp only [valD, List.foldl_nil, Nat.zero_mul, Nat.zero_add, List.nil_append]
      refine ⟨by omega, ?_⟩
      rw [Lib.decDigits_one (by omega), dig_back hc]
    · have hh2 : l.head? ≠ some 48 := by
        cases l with
        | nil => exact absurd rfl hl
        | cons x l => simpa using hh
      obtain ⟨i1, i2⟩ := ih h.1 hl hh2
      refine ⟨by omega, ?_⟩
      rw [Lib.decDigits, dif_neg (by omega), show (valD 0 l * 10 + (c.toNat - 48)) / 10 = valD 0 l by omega, i2, show (valD 0 l * 10 + (c.toNat - 48)) % 10 = c.toNat - 48 by omega, dig_back hc]
theorem dec_dig (u : Nat) : (Lib.decDigits u).all isDig = true ∧ (1 ≤ u → (Lib.decDigits u).head? ≠ some 48) ∧ Lib.decDigits u ≠ [] := by
  have key : ∀ i, i < 10 → isDig (UInt8.ofNat (48 + i)) = true := by decide
  have key2 : ∀ i, i < 10 → 1 ≤ i → UInt8.ofNat (48 + i) ≠ 48 := by decide
  by_cases h : u < 10
  · rw [Lib.decDigits_one h]
    exact ⟨by simp only [List.all_cons, List.all_nil, Bool.and_true]; exact key u h, fun h1 => by simpa using key2 u h h1, by simp⟩
  · have ih := dec_dig (u / 10)
    rw [Lib.decDigits, dif_neg h]
    refine ⟨by rw [List.all_append, ih.1]; simp only [List.all_cons, List.all_nil, Bool.and_true, Bool.true_and]; exact key (u % 10) (by omega), fun _ => ?_, by simp⟩
    have := ih.2.1 (by omega)
    cases hd : Lib.decDigits (u / 10) with
    | nil => exact absurd hd ih.2.2
    | cons x l => rw [hd] at this; simpa using this
  termination_by u
  decreasing_by omega
end Go.Sh

/- PLAIN LAWS of layers 4 and 11: names, linear expressions, shapes. -/
namespace Go.Proofs.YtopejmjihbkieaaGreatDoor
open Go.Ab Go.Sh
theorem grd_pos {α : Type} {p : Prop} [Decidable p] {x : Option α} (h : p) : grd p x = x := if_pos h
theorem aft_bif {ε β : Type} {b : Bool} {e : ε} {r : β} {f : ε → Option β} : (some (bif b then Out.brk e else Out.ret r : Out ε β)).bind (aft f) = bif b then f e else some r := by cases b <;> rfl
theorem all_congr {p q : Nat → Bool} : ∀ (k i : Nat), (∀ j, i ≤ j → j < i + k → p j = q j) → (List.range' i k).all p = (List.range' i k).all q
  | 0, i, _ => rfl
  | k + 1, i, h => by
    rw [List.range'_succ, List.all_cons, List.all_cons, h i (Nat.le_refl _) (by omega), all_congr k (i + 1) (fun j h1 h2 => h j (by omega) (by omega))]
theorem u8_beq (c k : UInt8) (n : Int) (hk : (k.toNat : Int) = n) : ((c.toNat : Int) == n) = (c == k) := by
  rw [Bool.eq_iff_iff]
  simp only [beq_iff_eq, ← UInt8.toNat_inj]
  omega
theorem len_beq0 {α : Type} (l : List α) : (((l.length : Nat) : Int) == 0) = l.isEmpty := by
  cases l with
  | nil => rfl
  | cons x l => simp; omega
def isLet (b : UInt8) : Bool := decide (97 ≤ b.toNat) && decide (b.toNat ≤ 122)
theorem ref04_digit_eq (x : UInt8) : ref04_digit x = some (isDig x) := by
  unfold ref04_digit isDig
  by_cases h : 48 ≤ x.toNat
  · rw [decide_eq_true (show (x.toNat : Int) ≥ 48 by omega), decide_eq_true h]
    simp only [cond_true, Bool.true_and, Option.some.injEq]
    rw [decide_eq_decide]; omega
  · rw [decide_eq_false (show ¬ (x.toNat : Int) ≥ 48 by omega), decide_eq_false h]; rfl
theorem ref04_letter_eq (x : UInt8) : ref04_letter x = some (isLet x) := by
  unfold ref04_letter isLet
  by_cases h : 97 ≤ x.toNat
  · rw [decide_eq_true (show (x.toNat : Int) ≥ 97 by omega), decide_eq_true h]
    simp only [cond_true, Bool.true_and, Option.some.injEq]
    rw [decide_eq_decide]; omega
  · rw [decide_eq_false (show ¬ (x.toNat : Int) ≥ 97 by omega), decide_eq_false h]; rfl
/-- Is it a variable? -/
def nameS : Str → Bool
  | [] => false
  | c :: r => bif c == 95 then (decide (1 ≤ r.length) && (decide (r.length ≤ 9) && (!(r.getD 0 0 == 48) && r.all isDig))) else (decide (r.length ≤ 29) && (isLet c && r.all (fun b => isLet b || isDig b)))
theorem ref04_Name_eq (s : Str) : ref04_Name s = some (nameS s) := by
  cases s with
  | nil => rfl
  | cons c r =>
    unfold ref04_Name
    have e1 : ((((c :: r).length : Nat) : Int) == 0) = false := by simp; omega
    rw [e1]
    simp only [cond_false]
    have e95 : ((((c :: r).getD 0 0).toNat : Int) == 95) = (c == 95) := by rw [List.getD_cons_zero]; exact u8_beq c 95 95 rfl
    by_cases h30 : r.length ≤ 29
    · rw [decide_eq_false (show ¬ (((c :: r).length : Nat) : Int) > 30 by simp; omega)]
      simp only [cond_false]
      rw [grd_pos (by simp), e95]
      simp only [nameS]
      cases hc : c == 95 with
      | true =>
        simp only [cond_true]
        by_cases h1 : 1 ≤ r.length
        · rw [decide_eq_false (show ¬ (((c :: r).length : Nat) : Int) < 2 by simp; omega), decide_eq_true h1]
          simp only [cond_false, Bool.true_and]
          by_cases h9 : r.length ≤ 9
          · rw [decide_eq_false (show ¬ (((c :: r).length : Nat) : Int) > 10 by simp; omega), decide_eq_true h9]
            simp only [cond_false, Bool.true_and]
            rw [grd_pos (by simp; omega)]
            have e48 : ((((c :: r).getD 1 0).toNat : Int) == 48) = (r.getD 0 0 == 48) := by rw [List.getD_cons_succ]; exact u8_beq _ 48 48 rfl
            rw [e48]
            cases hd : r.getD 0 0 == 48 with
            | true => simp
            | false =>
              simp only [cond_false, Bool.not_false, Bool.true_and]
              rw [cnt_all (fun j => isDig ((c :: r).getD j 0)) _ _ () (fun j u _ _ => by rw [ref04_digit_eq]; cases isDig ((c :: r).getD j 0) <;> rfl), aft_bif, all_getD isDig 0 (c :: r) 1]
              simp only [List.drop_succ_cons, List.drop_zero]
              cases r.all isDig <;> rfl
          · rw [decide_eq_true (show (((c :: r).length : Nat) : Int) > 10 by simp; omega), decide_eq_false h9]; simp
        · rw [decide_eq_true (show (((c :: r).length : Nat) : Int) < 2 by simp; omega), decide_eq_false h1]; simp
      | false =>
        simp only [cond_false]
        rw [decide_eq_true h30]
        rw [cnt_all (fun j => isLet ((c :: r).getD j 0) || (!(((j : Nat) : Int) == 0) && isDig ((c :: r).getD j 0))) _ _ () (fun j u _ _ => by
          rw [ref04_letter_eq, ref04_digit_eq]
          cases isLet ((c :: r).getD j 0) <;> cases isDig ((c :: r).getD j 0) <;> cases ((j : Nat) : Int) == 0 <;> rfl), aft_bif]
        have e : (List.range' 0 ((c :: r).length - 0)).all (fun j => isLet ((c :: r).getD j 0) || (!(((j : Nat) : Int) == 0) && isDig ((c :: r).getD j 0))) = (isLet c && r.all (fun b => isLet b || isDig b)) := by
          rw [show (c :: r).length - 0 = r.length + 1 by simp, List.range'_succ, List.all_cons]
          have e0 : (isLet ((c :: r).getD 0 0) || (!(((0 : Nat) : Int) == 0) && isDig ((c :: r).getD 0 0))) = isLet c := by simp
          rw [e0]
          congr 1
          rw [all_congr (q := fun j => (fun b => isLet b || isDig b) ((c :: r).getD j 0)) _ _ (fun j h1 _ => by
            have : (((j : Nat) : Int) == 0) = false := by simp; omega
            simp only [this, Bool.not_false, Bool.true_and])]
          have := all_getD (fun b => isLet b || isDig b) 0 (c :: r) 1
          simpa using this
        rw [e]
        simp only [Bool.true_and]
        cases isLet c && r.all (fun b => isLet b || isDig b) <;> rfl
    · rw [decide_eq_true (show (((c :: r).length : Nat) : Int) > 30 by simp; omega)]
      simp only [cond_true, nameS]
      rw [decide_eq_false h30]
      have : ¬ r.length ≤ 9 := by omega
      rw [decide_eq_false this]
      cases c == 95 <;> simp
theorem strings_HasPrefix1 (s : Str) (c : UInt8) : strings_HasPrefix s [c] = some (match s with | [] => false | x :: _ => x == c) := by
  unfold strings_HasPrefix internal_stringslite_HasPrefix
  cases s with
  | nil => rfl
  | cons x l =>
    rw [decide_eq_true (by simp; omega)]
    simp only [cond_true]
    rw [grd_pos (by simp)]
    simp
theorem atoi_dig {r : Str} (h0 : r ≠ []) (h : r.all isDig = true) (hl : r.length ≤ 9) : Lib.atoiAll r = .ok (valD 0 r : Int) ∧ valD 0 r < 10000000000 := by
  cases r with
  | nil => exact absurd rfl h0
  | cons c r =>
    have hc : isDig c = true := by simp only [List.all_cons, Bool.and_eq_true] at h; exact h.1
    have hc2 := hc
    simp only [isDig, Bool.and_eq_true, decide_eq_true_eq] at hc2
    have hp : (10 : Nat) ^ (c :: r).length ≤ 10 ^ 9 := Nat.pow_le_pow_right (by decide) hl
    have hv := parse_val (c :: r) 0 h (by
      rw [Nat.zero_add, Nat.one_mul]
      exact Nat.le_trans hp (by decide))
    have hb : ∀ (l : Str) (a : Nat), l.all isDig = true → valD a l + 1 ≤ (a + 1) * 10 ^ l.length := by
      intro l
      induction l with
      | nil => intro a _; simp [valD]
      | cons x l ih =>
        intro a hx
        simp only [List.all_cons, Bool.and_eq_true, isDig, decide_eq_true_eq] at hx
        have := ih (a * 10 + (x.toNat - 48)) (by simpa [isDig] using hx.2)
        have e : valD a (x :: l) = valD (a * 10 + (x.toNat - 48)) l := rfl
        rw [e]
        refine Nat.le_trans this ?_
        rw [List.length_cons, Nat.pow_succ, Nat.mul_comm (10 ^ l.length) 10, ← Nat.mul_assoc]
        exact Nat.mul_le_mul_right _ (by omega)
    have hlt := hb (c :: r) 0 h
    rw [Nat.zero_add, Nat.one_mul] at hlt
    have h9 : (10 : Nat) ^ 9 = 1000000000 := by decide
    rw [h9] at hp
    refine ⟨?_, by omega⟩
    rw [Lib.atoiAll_plain c r (by omega) (by omega)]
    have : Lib.parseMag (c :: r) = .ok (valD 0 (c :: r)) := by unfold Lib.parseMag; rw [if_neg (by simp)]; exact hv
    rw [this]
    simp only [Lib.signless]
    rw [if_neg (by omega)]
theorem linear_Name_eq (s : Str) (hs : s.length ≤ 1000000) : linear_Name s = some (nameS s) := by
  unfold linear_Name
  rw [strings_HasPrefix1]
  cases s with
  | nil => rfl
  | cons c r =>
    simp only [Option.bind_some, nameS]
    have hr : r.length ≤ 1000000 := by simp at hs; omega
    cases hc : c == 95 with
    | true =>
      simp only [cond_true]
      rw [grd_pos (by simp)]
      simp only [List.drop_succ_cons, List.drop_zero, lib_Atoi]
      rw [grd_pos (by omega)]
      simp only [Option.bind_some]
      by_cases h9 : r.length ≤ 9
      · by_cases h1 : 1 ≤ r.length
        · rw [decide_eq_true h1, decide_eq_true h9]
          simp only [Bool.true_and]
          have hne : r ≠ [] := by intro e; subst e; simp at h1
          have hhd : (r.getD 0 0 == 48) = decide (r.head? = some 48) := by
            cases r with
            | nil => exact absurd rfl hne
            | cons x l => simp; rw [Bool.eq_iff_iff]; simp
          -- the answer of the program: is it its numeral?
          have key : ∀ v : Int, 0 < v → v ≤ 9223372036854775807 → lib_Itoa v = some (Lib.decDigits v.toNat) ∨ True := fun _ _ _ => .inr trivial
          by_cases hall : r.all isDig = true
          · obtain ⟨a1, a2⟩ := atoi_dig hne hall h9
            simp only [atoiR, a1, cond_true]
            by_cases h48 : r.head? = some 48
            · -- a leading zero: another numeral
              rw [hhd, decide_eq_true h48]
              simp only [Bool.not_true, Bool.false_and]
              by_cases hz : valD 0 r = 0
              · rw [hz]; rfl
              · rw [decide_eq_true (by omega : (valD 0 r : Int) > 0), decide_eq_true (by simp; omega : (((c :: r).length : Nat) : Int) ≤ 10)]
                simp only [cond_true, lib_Itoa]
                have hlen : (Lib.itoa (valD 0 r : Int)).length ≤ 21 := Lib.itoa_length_le _ (by omega) (by omega)
                rw [grd_pos ⟨by omega, by omega, by omega⟩]
                simp only [Option.bind_some, Option.some.injEq]
                rw [Lib.itoa_nonneg, beq_eq_false_iff_ne]
                intro e
                exact (dec_dig (valD 0 r)).2.1 (by omega) (by rw [e]; exact h48)
            · obtain ⟨d1, d2⟩ := dec_val r hall hne h48
              rw [hhd, decide_eq_false h48, hall]
              simp only [Bool.not_false, Bool.true_and]
              rw [decide_eq_true (by omega : (valD 0 r : Int) > 0), decide_eq_true (by simp; omega : (((c :: r).length : Nat) : Int) ≤ 10)]
              simp only [cond_true, lib_Itoa]
              have hlen : (Lib.itoa (valD 0 r : Int)).length ≤ 21 := Lib.itoa_length_le _ (by omega) (by omega)
              rw [grd_pos ⟨by omega, by omega, by omega⟩]
              simp only [Option.bind_some, Option.some.injEq]
              rw [Lib.itoa_nonneg, d2]; simp
          · have hall : r.all isDig = false := by simpa using hall
            rw [hall]
            simp only [Bool.and_false]
            cases ha : Lib.atoiAll r with
            | ok v =>
              simp only [atoiR, ha, cond_true]
              by_cases hv : v > 0
              · rw [decide_eq_true hv, decide_eq_true (by simp; omega : (((c :: r).length : Nat) : Int) ≤ 10)]
                simp only [cond_true, lib_Itoa]
                have hvb : v ≤ 9223372036854775807 := by
                  cases r with
                  | nil => exact absurd rfl hne
                  | cons x l =>
                    unfold Lib.atoiAll at ha
                    simp only at ha
                    split at ha
                    · cases ha
                    · cases ha
                    · split at ha
                      · cases ha
                      · split at ha
                        · cases ha
                        · rename_i h1 h2
                          simp only [Lib.NumEnd.ok.injEq] at ha
                          rw [← ha]
                          split
                          · omega
                          · rename_i h3
                            have := h1
                            simp only [h3, not_false_eq_true, true_and] at this
                            omega
                have hlen : (Lib.itoa v).length ≤ 21 := Lib.itoa_length_le _ (by omega) hvb
                rw [grd_pos ⟨by omega, hvb, by omega⟩]
                simp only [Option.bind_some, Option.some.injEq]
                rw [beq_eq_false_iff_ne]
                intro e
                have : (Lib.itoa v).all isDig = true := by
                  unfold Lib.itoa
                  rw [if_neg (by omega)]; exact (dec_dig _).1
                rw [e, hall] at this; cases this
              · rw [decide_eq_false hv]; rfl
            | range => simp [atoiR, ha]
            | _ => simp [atoiR, ha]
        · have : r = [] := List.eq_nil_of_length_eq_zero (by omega)
          subst this
          rfl
      · rw [decide_eq_false h9, decide_eq_false (by simp; omega : ¬ (((c :: r).length : Nat) : Int) ≤ 10)]
        simp only [cond_false, Bool.false_and, Bool.and_false]
        cases (atoiR r).2 <;> cases decide ((atoiR r).1 > 0) <;> rfl
    | false =>
      simp only [cond_false]
      rw [cnt_all (fun j => isLet ((c :: r).getD j 0) || (!(((j : Nat) : Int) == 0) && isDig ((c :: r).getD j 0))) _ _ () (fun j u _ _ => by
        simp only [isLet, isDig]
        generalize (c :: r).getD j 0 = x
        by_cases h1 : (x.toNat : Int) < 97
        · rw [decide_eq_true h1, decide_eq_false (show ¬ 97 ≤ x.toNat by omega)]
          simp only [cond_true, Bool.false_and, Bool.false_or]
          cases ((j : Nat) : Int) == 0
          · simp only [cond_false, Bool.not_false, Bool.true_and]
            by_cases h2 : (x.toNat : Int) < 48
            · rw [decide_eq_true h2, decide_eq_false (show ¬ 48 ≤ x.toNat by omega)]; rfl
            · rw [decide_eq_false h2, decide_eq_true (show 48 ≤ x.toNat by omega)]
              by_cases h3 : (x.toNat : Int) > 57
              · rw [decide_eq_true h3, decide_eq_false (show ¬ x.toNat ≤ 57 by omega)]; rfl
              · rw [decide_eq_false h3, decide_eq_true (show x.toNat ≤ 57 by omega)]; rfl
          · rfl
        · rw [decide_eq_false h1, decide_eq_true (show 97 ≤ x.toNat by omega)]
          simp only [cond_false, Bool.true_and]
          by_cases h2 : (x.toNat : Int) > 122
          · rw [decide_eq_true h2, decide_eq_false (show ¬ x.toNat ≤ 122 by omega), decide_eq_false (show ¬ x.toNat ≤ 57 by omega), decide_eq_false (show ¬ (x.toNat : Int) < 48 by omega), decide_eq_true (show (x.toNat : Int) > 57 by omega)]
            cases ((j : Nat) : Int) == 0 <;> simp [Sh.aft]
          · rw [decide_eq_false h2, decide_eq_true (show x.toNat ≤ 122 by omega)]; simp [Sh.aft]), aft_bif]
      have e : (List.range' 0 ((c :: r).length - 0)).all (fun j => isLet ((c :: r).getD j 0) || (!(((j : Nat) : Int) == 0) && isDig ((c :: r).getD j 0))) = (isLet c && r.all (fun b => isLet b || isDig b)) := by
        rw [show (c :: r).length - 0 = r.length + 1 by simp, List.range'_succ, List.all_cons]
        have e0 : (isLet ((c :: r).getD 0 0) || (!(((0 : Nat) : Int) == 0) && isDig ((c :: r).getD 0 0))) = isLet c := by simp
        rw [e0]
        congr 1
        rw [all_congr (q := fun j => (fun b => isLet b || isDig b) ((c :: r).getD j 0)) _ _ (fun j h1 _ => by
          have : (((j : Nat) : Int) == 0) = false := by simp; omega
          simp only [this, Bool.not_false, Bool.true_and])]
        have := all_getD (fun b => isLet b || isDig b) 0 (c :: r) 1
        simpa using this
      rw [e]
      have e2 : ((c :: r) == []) = false := rfl
      rw [e2]
      simp only [cond_false]
      by_cases h30 : r.length ≤ 29
      · rw [decide_eq_true h30, decide_eq_true (by simp; omega : (((c :: r).length : Nat) : Int) ≤ 30)]
        cases isLet c && r.all (fun b => isLet b || isDig b) <;> rfl
      · rw [decide_eq_false h30, decide_eq_false (by simp; omega : ¬ (((c :: r).length : Nat) : Int) ≤ 30)]
        cases isLet c && r.all (fun b => isLet b || isDig b) <;> rfl
end Go.Proofs.YtopejmjihbkieaaGreatDoor

/- PLAIN LAWS: validity. -/
namespace Go.Proofs.YtopejmjihbkieaaGreatDoor
open Go.Ab Go.Sh
def inS (n : Int) : Bool := decide (-1000000 ≤ n) && decide (n ≤ 1000000)
theorem linear_in_eq (n : Int) : linear_in n = some (inS n) := by
  unfold linear_in inS
  by_cases h : n ≥ -1000000
  · rw [decide_eq_true h]; rfl
  · rw [decide_eq_false h]; rfl
theorem ref04_small_eq (n : Int) : ref04_small n = some (inS n) := by
  unfold ref04_small inS
  by_cases h : n ≥ -1000000
  · rw [decide_eq_true h]; rfl
  · rw [decide_eq_false h]; rfl
def tAt (l : Linear) (j : Nat) : Coef := l.Terms.getD j ⟨[], 0⟩
def validP (l : Linear) (j : Nat) : Bool := nameS (tAt l j).Var && (!((tAt l j).C == 0) && (inS (tAt l j).C && (!decide (((j : Nat) : Int) > 0) || Op.bytesLess (tAt l (j - 1)).Var (tAt l j).Var)))
def validL (l : Linear) : Bool := (List.range' 0 (l.Terms.length - 0)).all (validP l) && (inS l.Const && decide (l.Terms.length ≤ 12))
theorem w64_pred {j : Nat} (h : 0 < j) (h2 : j ≤ 9223372036854775807) : w64 (((j : Nat) : Int) - 1) = ((j - 1 : Nat) : Int) := by
  rw [w64_id (by unfold I64; omega)]; omega
theorem getD_le {l : List Coef} {n : Nat} (h : ∀ t ∈ l, t.Var.length ≤ n) (j : Nat) : (l.getD j ⟨[], 0⟩).Var.length ≤ n := by
  rw [List.getD_eq_getElem?_getD]
  cases h1 : l[j]? with
  | none => simp
  | some x => exact h x (List.mem_of_getElem? h1)
theorem linear_Valid_eq (l : Linear) (h1 : l.Terms.length ≤ 1000000) (h2 : ∀ t ∈ l.Terms, t.Var.length ≤ 1000000) : linear_Valid l = some (validL l) := by
  unfold linear_Valid
  rw [cnt_all (validP l) _ _ () (fun j u _ hj => by
    rw [linear_Name_eq _ (getD_le h2 j), linear_in_eq]
    simp only [validP, tAt, Option.bind_some]
    cases nameS (l.Terms.getD j ⟨[], 0⟩).Var
    · rfl
    · cases (l.Terms.getD j ⟨[], 0⟩).C == 0
      · cases inS (l.Terms.getD j ⟨[], 0⟩).C
        · rfl
        · by_cases hp : 0 < j
          · rw [decide_eq_true (show ((j : Nat) : Int) > 0 by omega), w64_pred hp (by omega)]
            rw [grd_pos (by omega)]
            simp only [Int.toNat_natCast, cond_true, cond_false, Bool.not_true, Bool.false_or, Bool.true_and, Bool.not_false]
            cases Op.bytesLess (l.Terms.getD (j - 1) ⟨[], 0⟩).Var (l.Terms.getD j ⟨[], 0⟩).Var <;> rfl
          · rw [decide_eq_false (show ¬ ((j : Nat) : Int) > 0 by omega)]; rfl
      · rfl), aft_bif, linear_in_eq]
  unfold validL
  cases (List.range' 0 (l.Terms.length - 0)).all (validP l)
  · rfl
  · cases inS l.Const
    · rfl
    · simp only [cond_true, Option.bind_some, Bool.true_and, Option.some.injEq]
      rw [decide_eq_decide]; omega
theorem ref04_Valid_eq (l : Linear) : ref04_Valid l = some (validL l) := by
  unfold ref04_Valid
  rw [ref04_small_eq]
  unfold validL
  by_cases h12 : l.Terms.length ≤ 12
  · rw [decide_eq_false (show ¬ ((l.Terms.length : Nat) : Int) > 12 by omega), decide_eq_true h12]
    rw [cnt_all (validP l) _ _ () (fun j u _ hj => by
      rw [ref04_Name_eq, ref04_small_eq]
      simp only [validP, tAt, Option.bind_some]
      cases nameS (l.Terms.getD j ⟨[], 0⟩).Var
      · rfl
      · cases (l.Terms.getD j ⟨[], 0⟩).C == 0
        · cases inS (l.Terms.getD j ⟨[], 0⟩).C
          · rfl
          · by_cases hp : 0 < j
            · rw [decide_eq_true (show ((j : Nat) : Int) > 0 by omega), w64_pred hp (by omega)]
              rw [grd_pos (by omega)]
              simp only [Int.toNat_natCast, cond_true, cond_false, Bool.not_true, Bool.false_or, Bool.true_and, Bool.not_false]
              cases Op.bytesLess (l.Terms.getD (j - 1) ⟨[], 0⟩).Var (l.Terms.getD j ⟨[], 0⟩).Var <;> rfl
            · rw [decide_eq_false (show ¬ ((j : Nat) : Int) > 0 by omega)]; rfl
        · rfl), aft_bif]
    cases (List.range' 0 (l.Terms.length - 0)).all (validP l) <;> cases inS l.Const <;> rfl
  · rw [decide_eq_true (show ((l.Terms.length : Nat) : Int) > 12 by omega), decide_eq_false h12]
    cases (List.range' 0 (l.Terms.length - 0)).all (validP l) <;> cases inS l.Const <;> rfl

/-! ### what is small -/
def fewT (l : Linear) : Bool := l.Terms.all (fun t => decide (t.Var.length ≤ 35)) && decide (l.Terms.length ≤ 14)
theorem dec_gt {a b : Nat} : decide (((a : Nat) : Int) > (b : Int)) = !decide (a ≤ b) := by
  by_cases h : a ≤ b
  · rw [decide_eq_true h, decide_eq_false (by omega)]; rfl
  · rw [decide_eq_false h, decide_eq_true (by omega)]; rfl
theorem dec_le {a b : Nat} : decide (((a : Nat) : Int) ≤ (b : Int)) = decide (a ≤ b) := by rw [decide_eq_decide]; omega
theorem ref11_fewLinear_eq (l : Linear) : ref11_fewLinear l = some (fewT l) := by
  unfold ref11_fewLinear
  rw [cnt_all (fun j => (fun (t : Coef) => decide (t.Var.length ≤ 35)) (l.Terms.getD j ⟨[], 0⟩)) _ _ () (fun j u _ _ => by
    rw [show (35 : Int) = ((35 : Nat) : Int) from rfl, dec_gt]
    simp only
    cases decide ((l.Terms.getD j ⟨[], 0⟩).Var.length ≤ 35) <;> rfl), aft_bif, all0 (fun (t : Coef) => decide (t.Var.length ≤ 35))]
  unfold fewT
  rw [show (14 : Int) = ((14 : Nat) : Int) from rfl, dec_le]
  cases l.Terms.all (fun t => decide (t.Var.length ≤ 35)) <;> rfl
def fewS (s : Shape) : Bool := s.Dims.all fewT && (decide (s.Dims.length ≤ 8) && decide (s.Row.length ≤ 35))
theorem eta_L (l : Linear) : Linear.mk l.Const l.Terms = l := rfl
theorem eta_S (s : Shape) : Shape.mk s.Row s.Dims = s := rfl
theorem ref11_Few_eq (s : Shape) : ref11_Few s = some (fewS s) := by
  unfold ref11_Few
  rw [cnt_all (fun j => fewT (s.Dims.getD j ⟨0, []⟩)) _ _ () (fun j u _ _ => by
    rw [eta_L, ref11_fewLinear_eq]
    simp only [Option.bind_some]
    cases fewT (s.Dims.getD j ⟨0, []⟩) <;> rfl), aft_bif, all0 fewT]
  unfold fewS
  rw [show (8 : Int) = ((8 : Nat) : Int) from rfl, dec_le, show (35 : Int) = ((35 : Nat) : Int) from rfl, dec_le]
  cases s.Dims.all fewT
  · rfl
  · cases decide (s.Dims.length ≤ 8) <;> rfl
def fewB (b : Bind) : Bool := decide (b.Var.length ≤ 35) && (decide (b.Elem.length ≤ 35) && (fewT b.Dim && fewS b.Row))
def fewBs (l : List Bind) : Bool := l.all fewB && decide (l.length ≤ 10)
theorem ref11_FewBinds_eq (l : List Bind) : ref11_FewBinds l = some (fewBs l) := by
  unfold ref11_FewBinds
  rw [cnt_all (fun j => fewB (l.getD j (⟨0, [], ⟨0, []⟩, ⟨[], []⟩, []⟩))) _ _ () (fun j u _ _ => by
    rw [eta_L, eta_S, ref11_fewLinear_eq, ref11_Few_eq]
    simp only [Option.bind_some, fewB]
    rw [show (35 : Int) = ((35 : Nat) : Int) from rfl, dec_gt, dec_gt]
    generalize l.getD j (⟨0, [], ⟨0, []⟩, ⟨[], []⟩, []⟩) = x
    cases decide (x.Var.length ≤ 35)
    · rfl
    · cases decide (x.Elem.length ≤ 35)
      · rfl
      · cases fewT x.Dim
        · rfl
        · cases fewS x.Row <;> rfl), aft_bif, all0 fewB]
  unfold fewBs
  rw [show (10 : Int) = ((10 : Nat) : Int) from rfl, dec_le]
  cases l.all fewB <;> rfl

/-! ### shapes -/
def validS (s : Shape) : Bool := s.Dims.all validL && (decide (s.Dims.length ≤ 6) && (s.Row.isEmpty || nameS s.Row))
theorem nil_beq (s : Str) : (s == []) = s.isEmpty := by cases s <;> rfl
theorem ref11_Valid_eq (s : Shape) : ref11_Valid s = some (validS s) := by
  unfold ref11_Valid
  rw [cnt_all (fun j => validL (s.Dims.getD j ⟨0, []⟩)) _ _ () (fun j u _ _ => by
    rw [eta_L, ref04_Valid_eq]
    simp only [Option.bind_some]
    cases validL (s.Dims.getD j ⟨0, []⟩) <;> rfl), aft_bif, all0 validL]
  unfold validS
  rw [show (6 : Int) = ((6 : Nat) : Int) from rfl, dec_le, nil_beq, ref04_Name_eq]
  cases s.Dims.all validL
  · rfl
  · cases decide (s.Dims.length ≤ 6)
    · rfl
    · cases s.Row.isEmpty <;> rfl
/-- What the program's functions ask for: no name too long. -/
def okL (l : Linear) : Prop := l.Terms.length ≤ 1000000 ∧ ∀ t ∈ l.Terms, t.Var.length ≤ 1000000
def okS (s : Shape) : Prop := s.Row.length ≤ 1000000 ∧ ∀ l ∈ s.Dims, okL l
theorem okL_few {l : Linear} (h : fewT l = true) : okL l := by
  simp only [fewT, Bool.and_eq_true, List.all_eq_true, decide_eq_true_eq] at h
  exact ⟨by omega, fun t ht => by have := h.1 t ht; omega⟩
theorem okS_few {s : Shape} (h : fewS s = true) : okS s := by
  simp only [fewS, Bool.and_eq_true, List.all_eq_true, decide_eq_true_eq] at h
  exact ⟨by omega, fun l hl => okL_few (h.1 l hl)⟩
theorem okL_getD {ls : List Linear} (h : ∀ l ∈ ls, okL l) (j : Nat) : okL (ls.getD j ⟨0, []⟩) := by
  rw [List.getD_eq_getElem?_getD]
  cases h1 : ls[j]? with
  | none => exact ⟨by simp, fun t ht => by simp at ht⟩
  | some x => exact h x (List.mem_of_getElem? h1)
theorem contains_bad (ls : List Linear) (h : ∀ l ∈ ls, okL l) : slices_ContainsFunc_api_Linear ls = some (!ls.all validL) := by
  unfold slices_ContainsFunc_api_Linear slices_IndexFunc_api_Linear
  rw [cnt_find (f := fun j => ((j : Nat) : Int)) (fun j => (fun l => !validL l) (ls.getD j ⟨0, []⟩)) _ _ () (fun j u _ _ => by
    rw [eta_L]
    unfold shape_Valid_1
    rw [linear_Valid_eq _ (okL_getD h j).1 (okL_getD h j).2]
    simp only [Option.bind_some]
    cases validL (ls.getD j ⟨0, []⟩) <;> rfl)]
  have hf := find_idx0 (fun l => !validL l) ⟨0, []⟩ ls
  have hn := idxOf_neg (fun l => !validL l) ls
  have e : ls.any (fun l => !validL l) = !ls.all validL := by simp [List.any_eq_not_all_not]
  rw [e] at hn
  generalize (List.range' 0 (ls.length - 0)).find? (fun j => (fun l => !validL l) (ls.getD j ⟨0, []⟩)) = x at hf
  cases x with
  | none =>
    simp only at hf
    have h1 : (!ls.all validL) = false := hn.1 (by omega)
    rw [h1]; rfl
  | some j =>
    simp only at hf
    have h1 : (!ls.all validL) = true := by
      cases hb : !ls.all validL
      · have := hn.2 hb; omega
      · rfl
    rw [h1]
    simp only [Option.bind_some, Sh.aft]
    rw [decide_eq_true (by omega : ((j : Nat) : Int) ≥ 0)]
theorem shape_Valid_eq (s : Shape) (h : okS s) : shape_Valid s = some (validS s) := by
  unfold shape_Valid validS
  rw [nil_beq, contains_bad _ h.2, linear_Name_eq _ h.1, show (6 : Int) = ((6 : Nat) : Int) from rfl, dec_le]
  cases s.Row.isEmpty <;> cases nameS s.Row <;> cases decide (s.Dims.length ≤ 6) <;> cases s.Dims.all validL <;> rfl
theorem shape_Rank_eq (s : Shape) (h : okS s) : shape_Rank s = ref11_Rank s := by
  unfold shape_Rank ref11_Rank
  rw [shape_Valid_eq s h, ref11_Valid_eq]
end Go.Proofs.YtopejmjihbkieaaGreatDoor

/- PLAIN LAWS: equality, element variables, binds. -/
namespace Go.Proofs.YtopejmjihbkieaaGreatDoor
open Go.Ab Go.Sh
theorem cnt_three {body : Nat → Unit → Option (Stp Unit Unit Int)} {fin : Nat → Unit → Unit} (m : Nat) (E : Nat → Prop) : ∀ (k i : Nat) (u : Unit), (∀ j u, i ≤ j → j < i + k → (j < m ∧ E j ∧ body j u = some (.go ())) ∨ (j < m ∧ ¬ E j ∧ ∃ x, x ≠ 0 ∧ body j u = some (.ret x)) ∨ (m ≤ j ∧ body j u = some (.brk ()))) →
    (cnt body fin k i u = some (.brk ()) ∧ ∀ j, i ≤ j → j < i + k → j < m → E j) ∨ (∃ x, x ≠ 0 ∧ cnt body fin k i u = some (.ret x) ∧ ∃ j, i ≤ j ∧ j < i + k ∧ j < m ∧ ¬ E j)
  | 0, i, u, h => .inl ⟨rfl, fun j h1 h2 => by omega⟩
  | k + 1, i, u, h => by
    rcases h i u (Nat.le_refl _) (by omega) with ⟨h1, h2, h3⟩ | ⟨h1, h2, x, h3, h4⟩ | ⟨h1, h2⟩
    · rcases cnt_three m E k (i + 1) () (fun j u h1 h2 => h j u (by omega) (by omega)) with ⟨e, ha⟩ | ⟨x, hx, e, j, j1, j2, j3, j4⟩
      · refine .inl ⟨by simp only [cnt, h3, Option.bind_some, stp]; exact e, fun j j1 j2 j3 => ?_⟩
        by_cases hj : j = i
        · subst hj; exact h2
        · exact ha j (by omega) (by omega) j3
      · exact .inr ⟨x, hx, by simp only [cnt, h3, Option.bind_some, stp]; exact e, j, by omega, by omega, j3, j4⟩
    · exact .inr ⟨x, h3, by simp only [cnt, h4, Option.bind_some, stp], i, Nat.le_refl _, by omega, h1, h2⟩
    · exact .inl ⟨by simp only [cnt, h2, Option.bind_some, stp], fun j j1 j2 j3 => by omega⟩
theorem ext_getD {α : Type} (d : α) {x y : List α} (hl : x.length = y.length) (h : ∀ j, j < x.length → x.getD j d = y.getD j d) : x = y := by
  refine List.ext_getElem hl fun j h1 h2 => ?_
  have := h j h1
  simpa [List.getD_eq_getElem?_getD, List.getElem?_eq_getElem h1, List.getElem?_eq_getElem h2] using this
theorem all_eq {α : Type} [DecidableEq α] (d : α) {x y : List α} (hl : x.length = y.length) : (List.range' 0 (x.length - 0)).all (fun j => decide (x.getD j d = y.getD j d)) = decide (x = y) := by
  rw [Bool.eq_iff_iff]
  simp only [List.all_eq_true, decide_eq_true_eq, List.mem_range'_1]
  exact ⟨fun h => ext_getD d hl fun j hj => h j ⟨by omega, by omega⟩, fun h j _ => by rw [h]⟩
theorem len_eq {a b : Nat} : (((a : Nat) : Int) == ((b : Nat) : Int)) = decide (a = b) := by
  rw [Bool.eq_iff_iff]; simp only [beq_iff_eq, decide_eq_true_eq]; omega
theorem coef_beq (x y : Coef) : ((x.Var == y.Var) && ((x.C == y.C) && true)) = decide (x = y) := by
  cases x; cases y
  rw [Bool.eq_iff_iff]; simp
theorem slices_Equal_eq (x y : List Coef) : slices_Equal_api_Coef x y = some (decide (x = y)) := by
  unfold slices_Equal_api_Coef
  rw [len_eq]
  by_cases h : x.length = y.length
  · rw [decide_eq_true h]
    simp only [cond_true]
    rw [cnt_all (fun j => decide (x.getD j ⟨[], 0⟩ = y.getD j ⟨[], 0⟩)) _ _ () (fun j u _ hj => by
      rw [grd_pos (by omega), coef_beq]
      cases decide (x.getD j ⟨[], 0⟩ = y.getD j ⟨[], 0⟩) <;> rfl), aft_bif, all_eq ⟨[], 0⟩ h]
    cases decide (x = y) <;> rfl
  · rw [decide_eq_false h, decide_eq_false (fun e => h (by rw [e]))]; rfl
theorem shape_same_eq (x y : Linear) : shape_same x y = some (decide (x = y)) := by
  unfold shape_same
  rw [slices_Equal_eq]
  cases x with | mk a s => cases y with | mk b t =>
  by_cases h : a = b
  · subst h
    simp
  · have : (a == b) = false := by simpa using h
    simp only
    rw [this, decide_eq_false (p := Linear.mk a s = Linear.mk b t) (fun e => h (by simp only [Linear.mk.injEq] at e; exact e.1))]; rfl
theorem shape_EqualF (x y : List Linear) : slices_EqualFunc_api_Linear x y = some (decide (x = y)) := by
  unfold slices_EqualFunc_api_Linear
  rw [len_eq]
  by_cases h : x.length = y.length
  · rw [decide_eq_true h]
    simp only [cond_true]
    rw [cnt_all (fun j => decide (x.getD j ⟨0, []⟩ = y.getD j ⟨0, []⟩)) _ _ () (fun j u _ hj => by
      rw [grd_pos (by omega), eta_L, eta_L, shape_same_eq]
      simp only [Option.bind_some]
      cases decide (x.getD j ⟨0, []⟩ = y.getD j ⟨0, []⟩) <;> rfl), aft_bif, all_eq ⟨0, []⟩ h]
    cases decide (x = y) <;> rfl
  · rw [decide_eq_false h, decide_eq_false (fun e => h (by rw [e]))]; rfl
theorem shape_Equal_eq (x y : Shape) : shape_Equal x y = some (decide (x = y)) := by
  unfold shape_Equal
  rw [shape_EqualF]
  cases x with | mk a s => cases y with | mk b t =>
  by_cases h : a = b
  · subst h
    simp
  · have : (a == b) = false := by simpa using h
    simp only
    rw [this, decide_eq_false (p := Shape.mk a s = Shape.mk b t) (fun e => h (by simp only [Shape.mk.injEq] at e; exact e.1))]; rfl
theorem ref04_Equal_eq (x y : Linear) : ref04_Equal x y = some (decide (x = y)) := by
  unfold ref04_Equal ref04_Compare
  have key := cnt_three (fin := fun _ _ => ()) (body := fun i147 s146 =>
    bif decide (((i147 : Nat) : Int) < ((y.Terms.length : Nat) : Int)) then (
      ((
        bif (Op.bytesLess ((x.Terms.getD i147 ⟨[], 0⟩).Var) ((y.Terms.getD i147 ⟨[], 0⟩).Var)) then (
          some (.ret (.ret (-1)))
        ) else (
          bif (((x.Terms.getD i147 ⟨[], 0⟩).Var) == ((y.Terms.getD i147 ⟨[], 0⟩).Var)) then (
            bif decide (((x.Terms.getD i147 ⟨[], 0⟩).C) < ((y.Terms.getD i147 ⟨[], 0⟩).C)) then (
              some (.ret (.ret (-1)))
            ) else (
              bif ((((x.Terms.getD i147 ⟨[], 0⟩).Var) == ((y.Terms.getD i147 ⟨[], 0⟩).Var)) && ((((x.Terms.getD i147 ⟨[], 0⟩).C) == ((y.Terms.getD i147 ⟨[], 0⟩).C)) && true)) then (
                some (.brk ())
              ) else (
                some (.ret (.ret 1))
              )
            )
          ) else (
            bif ((((x.Terms.getD i147 ⟨[], 0⟩).Var) == ((y.Terms.getD i147 ⟨[], 0⟩).Var)) && ((((x.Terms.getD i147 ⟨[], 0⟩).C) == ((y.Terms.getD i147 ⟨[], 0⟩).C)) && true)) then (
              some (.brk ())
            ) else (
              some (.ret (.ret 1))
            )
          )
        )
      ) : Option (Out Unit (Stp Unit Unit Int))).bind (Sh.aft fun u274 =>
        some (.go ())
      )
    ) else (
      some (.brk ())
    )) y.Terms.length (fun j => x.Terms.getD j ⟨[], 0⟩ = y.Terms.getD j ⟨[], 0⟩) (x.Terms.length - 0) 0 () (fun j u _ _ => by
      by_cases hj : j < y.Terms.length
      · rw [decide_eq_true (show ((j : Nat) : Int) < ((y.Terms.length : Nat) : Int) by omega), coef_beq]
        generalize x.Terms.getD j ⟨[], 0⟩ = a
        generalize y.Terms.getD j ⟨[], 0⟩ = b
        by_cases hab : a = b
        · subst hab
          refine .inl ⟨hj, rfl, ?_⟩
          have h1 : Op.bytesLess a.Var a.Var = false := by
            have : ∀ l : Str, Op.bytesLess l l = false := by
              intro l
              induction l with
              | nil => rfl
              | cons x l ih => simp [Op.bytesLess, ih]
            exact this _
          rw [h1]
          simp [Sh.aft]
        · refine .inr (.inl ⟨hj, hab, ?_⟩)
          rw [decide_eq_false hab]
          cases Op.bytesLess a.Var b.Var with
          | true => exact ⟨-1, by decide, rfl⟩
          | false =>
            cases hv : a.Var == b.Var with
            | true =>
              cases decide (a.C < b.C) with
              | true => exact ⟨-1, by decide, rfl⟩
              | false => exact ⟨1, by decide, rfl⟩
            | false => exact ⟨1, by decide, rfl⟩
      · rw [decide_eq_false (show ¬ ((j : Nat) : Int) < ((y.Terms.length : Nat) : Int) by omega)]
        exact .inr (.inr ⟨by omega, rfl⟩))
  rcases key with ⟨e, ha⟩ | ⟨r, hr, e, j, _, j2, j3, j4⟩
  · rw [e]
    simp only [Option.bind_some, Sh.aft]
    rw [len_eq]
    cases x with | mk a s => cases y with | mk b t =>
    simp only at ha ⊢
    by_cases hl : s.length = t.length
    · have hst : s = t := ext_getD ⟨[], 0⟩ hl fun j hj => ha j (by omega) (by omega) (by omega)
      subst hst
      rw [decide_eq_false (show ¬ ((s.length : Nat) : Int) < ((s.length : Nat) : Int) by omega), decide_eq_true (rfl : s.length = s.length)]
      simp only [cond_true, cond_false]
      by_cases h1 : a < b
      · rw [decide_eq_true h1]
        have : ¬ a = b := by omega
        simp [this]
      · rw [decide_eq_false h1]
        by_cases h2 : a > b
        · rw [decide_eq_true h2]
          have : ¬ a = b := by omega
          simp [this]
        · rw [decide_eq_false h2]
          have : a = b := by omega
          simp [this]
    · rw [decide_eq_false hl]
      have hne : ¬ (Linear.mk a s = Linear.mk b t) := fun e => hl (by simp at e; rw [e.2])
      rw [decide_eq_false hne]
      by_cases h1 : s.length < t.length
      · rw [decide_eq_true (show ((s.length : Nat) : Int) < ((t.length : Nat) : Int) by omega)]; rfl
      · rw [decide_eq_false (show ¬ ((s.length : Nat) : Int) < ((t.length : Nat) : Int) by omega), decide_eq_true (show ((s.length : Nat) : Int) > ((t.length : Nat) : Int) by omega)]; rfl
  · rw [e]
    simp only [Option.bind_some, Sh.aft]
    have hne : ¬ (x = y) := fun e => j4 (by rw [e])
    rw [decide_eq_false hne]
    simpa using hr
theorem ref11_Equal_eq (x y : Shape) : ref11_Equal x y = some (decide (x = y)) := by
  unfold ref11_Equal
  cases x with | mk a s => cases y with | mk b t =>
  simp only
  rw [len_eq]
  by_cases h : a = b
  · subst h
    simp only [beq_self_eq_true, cond_true]
    by_cases hl : s.length = t.length
    · rw [decide_eq_true hl]
      simp only [cond_true]
      rw [cnt_all (fun j => decide (s.getD j ⟨0, []⟩ = t.getD j ⟨0, []⟩)) _ _ () (fun j u _ hj => by
        rw [grd_pos (by omega), eta_L, eta_L, ref04_Equal_eq]
        simp only [Option.bind_some]
        cases decide (s.getD j ⟨0, []⟩ = t.getD j ⟨0, []⟩) <;> rfl), aft_bif, all_eq ⟨0, []⟩ hl]
      have : decide (Shape.mk a s = Shape.mk a t) = decide (s = t) := by rw [decide_eq_decide]; simp
      rw [this]
      cases decide (s = t) <;> rfl
    · rw [decide_eq_false hl, decide_eq_false (p := Shape.mk a s = Shape.mk a t) (fun e => hl (by simp only [Shape.mk.injEq] at e; rw [e.2]))]; rfl
  · have : (a == b) = false := by simpa using h
    rw [this, decide_eq_false (p := Shape.mk a s = Shape.mk b t) (fun e => h (by simp only [Shape.mk.injEq] at e; exact e.1))]; rfl

/-! ### element variables -/
def elemS : Str → Bool
  | [] => false
  | c :: r => decide (r.length ≤ 29) && ((decide (65 ≤ c.toNat) && decide (c.toNat ≤ 90)) && r.all isDig)
theorem ref11_ElemVar_eq (s : Str) : ref11_ElemVar s = some (elemS s) := by
  unfold ref11_ElemVar
  rw [cnt_all (fun j => isDig (s.getD j 0)) _ _ () (fun j u _ _ => by
    simp only [isDig]
    generalize s.getD j 0 = x
    by_cases h2 : (x.toNat : Int) < 48
    · rw [decide_eq_true h2, decide_eq_false (show ¬ 48 ≤ x.toNat by omega)]; rfl
    · rw [decide_eq_false h2, decide_eq_true (show 48 ≤ x.toNat by omega)]
      by_cases h3 : (x.toNat : Int) > 57
      · rw [decide_eq_true h3, decide_eq_false (show ¬ x.toNat ≤ 57 by omega)]; rfl
      · rw [decide_eq_false h3, decide_eq_true (show x.toNat ≤ 57 by omega)]; rfl), aft_bif, all_getD isDig 0 s 1]
  cases s with
  | nil => rfl
  | cons c r =>
    simp only [List.drop_succ_cons, List.drop_zero, elemS]
    rw [decide_eq_true (by simp; omega : (((c :: r).length : Nat) : Int) ≥ 1)]
    simp only [cond_true]
    by_cases h29 : r.length ≤ 29
    · rw [decide_eq_true (by simp; omega : (((c :: r).length : Nat) : Int) ≤ 30), decide_eq_true h29, grd_pos (by simp)]
      simp only [cond_true, Bool.true_and, List.getD_cons_zero]
      by_cases h65 : 65 ≤ c.toNat
      · rw [decide_eq_true (show (c.toNat : Int) ≥ 65 by omega), decide_eq_true h65]
        have : decide ((c.toNat : Int) ≤ 90) = decide (c.toNat ≤ 90) := by rw [decide_eq_decide]; omega
        rw [this]
        cases r.all isDig <;> cases decide (c.toNat ≤ 90) <;> rfl
      · rw [decide_eq_false (show ¬ (c.toNat : Int) ≥ 65 by omega), decide_eq_false h65]
        cases r.all isDig <;> rfl
    · rw [decide_eq_false (by simp; omega : ¬ (((c :: r).length : Nat) : Int) ≤ 30), decide_eq_false h29]
      cases r.all isDig <;> rfl
theorem dropWhile_nil {α : Type} (p : α → Bool) : ∀ l : List α, (l.dropWhile p = []) ↔ l.all p = true
  | [] => by simp
  | x :: l => by
    simp only [List.dropWhile_cons, List.all_cons, Bool.and_eq_true]
    cases hp : p x
    · simp
    · simp [dropWhile_nil p l]
theorem dropWhile_head {α : Type} (p : α → Bool) : ∀ (l : List α) {x : α} {r : List α}, l.dropWhile p = x :: r → p x = false
  | [], x, r, h => by simp at h
  | y :: l, x, r, h => by
    simp only [List.dropWhile_cons] at h
    cases hp : p y
    · rw [hp] at h; simp at h; rw [← h.1]; exact hp
    · rw [hp] at h; simp at h; exact dropWhile_head p l h
theorem trim_nil (l cs : Str) : (Lib.trimS l cs = []) ↔ l.all cs.contains = true := by
  unfold Lib.trimS Lib.trimLeftS Lib.trimRightS
  rw [dropWhile_nil]
  constructor
  · intro h
    cases hd : l.reverse.dropWhile (cs.contains ·) with
    | nil =>
      have := (dropWhile_nil (cs.contains ·) l.reverse).1 hd
      simpa using this
    | cons x r =>
      have h1 := dropWhile_head _ _ hd
      rw [hd] at h
      simp only [List.all_reverse, List.all_cons, Bool.and_eq_true] at h
      have h2 := h.1
      rw [h2] at h1; cases h1
  · intro h
    have : l.reverse.dropWhile (cs.contains ·) = [] := (dropWhile_nil (cs.contains ·) l.reverse).2 (by simpa using h)
    rw [this]; rfl
theorem digits_contains (b : UInt8) : ([48, 49, 50, 51, 52, 53, 54, 55, 56, 57] : Str).contains b = isDig b := by
  rw [Bool.eq_iff_iff]
  simp only [List.contains_iff_mem, List.mem_cons, List.mem_nil_iff, or_false, isDig, Bool.and_eq_true, decide_eq_true_eq, ← UInt8.toNat_inj]
  have : (48 : UInt8).toNat = 48 ∧ (49 : UInt8).toNat = 49 ∧ (50 : UInt8).toNat = 50 ∧ (51 : UInt8).toNat = 51 ∧ (52 : UInt8).toNat = 52 ∧ (53 : UInt8).toNat = 53 ∧ (54 : UInt8).toNat = 54 ∧ (55 : UInt8).toNat = 55 ∧ (56 : UInt8).toNat = 56 ∧ (57 : UInt8).toNat = 57 := by decide
  omega
theorem shape_ElemVar_eq (s : Str) : shape_ElemVar s = some (elemS s) := by
  unfold shape_ElemVar
  cases s with
  | nil => rfl
  | cons c r =>
    rw [decide_eq_false (by simp; omega : ¬ (((c :: r).length : Nat) : Int) < 1)]
    simp only [cond_false, elemS]
    by_cases h29 : r.length ≤ 29
    · rw [decide_eq_false (by simp; omega : ¬ (((c :: r).length : Nat) : Int) > 30), decide_eq_true h29, grd_pos (by simp)]
      simp only [cond_false, Bool.true_and, List.getD_cons_zero]
      by_cases h65 : 65 ≤ c.toNat
      · rw [decide_eq_false (show ¬ (c.toNat : Int) < 65 by omega), decide_eq_true h65]
        by_cases h90 : c.toNat ≤ 90
        · rw [decide_eq_false (show ¬ (c.toNat : Int) > 90 by omega), decide_eq_true h90, grd_pos (by simp)]
          simp only [cond_false, Bool.true_and, List.drop_succ_cons, List.drop_zero, lib_Trim]
          rw [grd_pos (by decide)]
          simp only [Option.bind_some, Option.some.injEq]
          have hc : (([48, 49, 50, 51, 52, 53, 54, 55, 56, 57] : Str).contains) = isDig := funext digits_contains
          rw [Bool.eq_iff_iff, beq_iff_eq, trim_nil, hc]
        · rw [decide_eq_true (show (c.toNat : Int) > 90 by omega), decide_eq_false h90]; rfl
      · rw [decide_eq_true (show (c.toNat : Int) < 65 by omega), decide_eq_false h65]; rfl
    · rw [decide_eq_true (by simp; omega : (((c :: r).length : Nat) : Int) > 30), decide_eq_false h29]; rfl
end Go.Proofs.YtopejmjihbkieaaGreatDoor

/- PLAIN LAWS: binds, variables. -/
namespace Go.Proofs.YtopejmjihbkieaaGreatDoor
open Go.Ab Go.Sh
abbrev bd0 : Bind := ⟨0, [], ⟨0, []⟩, ⟨[], []⟩, []⟩
theorem eta_B (b : Bind) : Bind.mk b.Kind b.Var b.Dim b.Row b.Elem = b := rfl
def isB (k : Int) (v : Str) (b : Bind) : Bool := b.Kind == k && b.Var == v
theorem find_out (l : List Bind) (p : Bind → Bool) : ∀ x : Option Nat, (match x with | some j => ((j : Nat) : Int) | none => -1) = idxOf p l →
    ((some (match x with | some j => Out.ret ((j : Nat) : Int) | none => Out.brk ()) : Option (Out Unit Int)).bind (Sh.aft fun _ => some (-1))) = some (idxOf p l)
  | none, hx => by rw [← hx]; rfl
  | some j, hx => by rw [← hx]; rfl
theorem shape_find_eq (l : List Bind) (k : Int) (v : Str) : shape_find l k v = some (idxOf (isB k v) l) := by
  unfold shape_find slices_IndexFunc_api_Bind
  rw [cnt_find (f := fun j => ((j : Nat) : Int)) (fun j => isB k v (l.getD j bd0)) _ _ () (fun j u _ _ => by
    unfold shape_find_1 isB
    simp only
    cases (l.getD j bd0).Kind == k
    · rfl
    · cases (l.getD j bd0).Var == v <;> rfl)]
  exact congrArg (fun o : Option Int => o.bind fun y => some y) (find_out l (isB k v) _ (find_idx0 (isB k v) bd0 l))
theorem ref11_Find_eq (l : List Bind) (k : Int) (v : Str) : ref11_Find l k v = some (idxOf (isB k v) l) := by
  unfold ref11_Find
  rw [cnt_find (f := fun j => ((j : Nat) : Int)) (fun j => isB k v (l.getD j bd0)) _ _ () (fun j u _ _ => by
    unfold isB
    cases (l.getD j bd0).Kind == k
    · rfl
    · cases (l.getD j bd0).Var == v <;> rfl)]
  exact find_out l (isB k v) _ (find_idx0 (isB k v) bd0 l)
def zeroL (l : Linear) : Bool := l.Const == 0 && l.Terms.isEmpty
def zeroS (s : Shape) : Bool := s.Row.isEmpty && s.Dims.isEmpty
def elemTy (s : Str) : Bool := s == [105, 110, 116] || (s == [98, 111, 111, 108] || elemS s)
def validB (b : Bind) : Bool :=
  bif b.Kind == 1 then (nameS b.Var && (validL b.Dim && (zeroS b.Row && b.Elem.isEmpty)))
  else bif b.Kind == 2 then (nameS b.Var && (validS b.Row && (zeroL b.Dim && b.Elem.isEmpty)))
  else bif b.Kind == 3 then (elemS b.Var && (elemTy b.Elem && (zeroL b.Dim && zeroS b.Row))) else false
def okB (b : Bind) : Prop := b.Var.length ≤ 1000000 ∧ okL b.Dim ∧ okS b.Row
theorem okB_few {b : Bind} (h : fewB b = true) : okB b := by
  simp only [fewB, Bool.and_eq_true, decide_eq_true_eq] at h
  exact ⟨by omega, okL_few h.2.2.1, okS_few h.2.2.2⟩
theorem dec_pos {α : Type} (l : List α) : decide (((l.length : Nat) : Int) > 0) = !l.isEmpty := by
  cases l with
  | nil => rfl
  | cons x l => rw [decide_eq_true (by simp)]; rfl
theorem shape_bound_eq (b : Bind) (h : okB b) : shape_bound b = some (validB b) := by
  unfold shape_bound validB zeroL zeroS elemTy
  rw [linear_Name_eq _ h.1, linear_Valid_eq _ h.2.1.1 h.2.1.2, shape_Valid_eq _ h.2.2, shape_ElemVar_eq, shape_ElemVar_eq, len_beq0, len_beq0, nil_beq, nil_beq]
  cases b.Dim.Const == 0 <;> cases b.Row.Row.isEmpty <;> simp only [cond_true, cond_false, Option.bind_some, Bool.true_and, Bool.false_and] <;>
  (cases b.Kind == 1
   · cases b.Kind == 2
     · cases b.Kind == 3
       · rfl
       · cases elemS b.Var
         · rfl
         · cases b.Elem == [105, 110, 116] <;> cases b.Elem == [98, 111, 111, 108] <;> cases elemS b.Elem <;> cases b.Dim.Terms.isEmpty <;> cases b.Row.Dims.isEmpty <;> rfl
     · cases nameS b.Var
       · rfl
       · cases validS b.Row <;> cases b.Dim.Terms.isEmpty <;> cases b.Elem.isEmpty <;> rfl
   · cases nameS b.Var
     · rfl
     · cases validL b.Dim <;> cases b.Row.Dims.isEmpty <;> cases b.Elem.isEmpty <;> rfl)
theorem ref11_validBind_eq (b : Bind) : ref11_validBind b = some (validB b) := by
  unfold ref11_validBind validB zeroL zeroS elemTy ref11_zero ref11_Elem
  rw [ref04_Name_eq, ref04_Valid_eq, ref11_Valid_eq, ref11_ElemVar_eq, ref11_ElemVar_eq, len_beq0, dec_pos, nil_beq, nil_beq]
  cases b.Dim.Const == 0 <;> cases b.Row.Row.isEmpty <;> simp only [cond_true, cond_false, Option.bind_some, Bool.true_and, Bool.false_and] <;>
  (cases b.Kind == 1
   · cases b.Kind == 2
     · cases b.Kind == 3
       · rfl
       · cases elemS b.Var
         · rfl
         · cases b.Elem == [105, 110, 116] <;> cases b.Elem == [98, 111, 111, 108] <;> cases elemS b.Elem <;> cases b.Dim.Terms.isEmpty <;> cases b.Row.Dims.isEmpty <;> rfl
     · cases nameS b.Var
       · rfl
       · cases validS b.Row <;> cases b.Dim.Terms.isEmpty <;> cases b.Elem.isEmpty <;> rfl
   · cases nameS b.Var
     · rfl
     · cases validL b.Dim <;> cases b.Row.Dims.isEmpty <;> cases b.Elem.isEmpty <;> rfl)
def validBP (l : List Bind) (j : Nat) : Bool := validB (l.getD j bd0) && !decide (idxOf (isB (l.getD j bd0).Kind (l.getD j bd0).Var) (l.take j) ≥ 0)
def validBs (l : List Bind) : Bool := (List.range' 0 (l.length - 0)).all (validBP l)
theorem okB_getD {l : List Bind} (h : ∀ b ∈ l, okB b) (j : Nat) : okB (l.getD j bd0) := by
  rw [List.getD_eq_getElem?_getD]
  cases h1 : l[j]? with
  | none => exact ⟨by simp, ⟨by simp, fun t ht => by simp at ht⟩, ⟨by simp, fun t ht => by simp at ht⟩⟩
  | some x => exact h x (List.mem_of_getElem? h1)
theorem shape_ValidBinds_eq (l : List Bind) (h : ∀ b ∈ l, okB b) : shape_ValidBinds l = some (validBs l) := by
  unfold shape_ValidBinds validBs
  rw [cnt_all (validBP l) _ _ () (fun j u _ _ => by
    have e := shape_bound_eq (l.getD j bd0) (okB_getD h j)
    have e2 := shape_find_eq (l.take j) (l.getD j bd0).Kind (l.getD j bd0).Var
    simp only [eta_L, eta_S, eta_B]
    rw [e, e2]
    simp only [Option.bind_some, validBP]
    cases validB (l.getD j bd0)
    · rfl
    · cases decide (idxOf (isB (l.getD j bd0).Kind (l.getD j bd0).Var) (l.take j) ≥ 0) <;> rfl), aft_bif]
  cases (List.range' 0 (l.length - 0)).all (validBP l) <;> rfl
theorem ref11_ValidBinds_eq (l : List Bind) : ref11_ValidBinds l = some (validBs l) := by
  unfold ref11_ValidBinds validBs
  rw [cnt_all (validBP l) _ _ () (fun j u _ _ => by
    have e := ref11_validBind_eq (l.getD j bd0)
    have e2 := ref11_Find_eq (l.take j) (l.getD j bd0).Kind (l.getD j bd0).Var
    simp only [eta_L, eta_S, eta_B]
    rw [e, e2]
    simp only [Option.bind_some, validBP]
    cases validB (l.getD j bd0)
    · rfl
    · cases decide (idxOf (isB (l.getD j bd0).Kind (l.getD j bd0).Var) (l.take j) ≥ 0) <;> rfl), aft_bif]
  cases (List.range' 0 (l.length - 0)).all (validBP l) <;> rfl

/-! ### variables -/
def mkV (k : Int) (v : Str) : Bind := Bind.mk k v (Linear.mk 0 []) (Shape.mk [] []) []
def addV (k : Int) (out : List Bind) (v : Str) : List Bind := bif decide (idxOf (isB k v) out ≥ 0) then out else out ++ [mkV k v]
theorem addV_len (k : Int) (out : List Bind) (v : Str) : (addV k out v).length ≤ out.length + 1 := by
  unfold addV
  cases decide (idxOf (isB k v) out ≥ 0) <;> simp
theorem linear_Vars_eq (l : Linear) (h : l.Terms.length ≤ 1000000) : linear_Vars l = some (l.Terms.map (·.Var)) := by
  unfold linear_Vars
  obtain ⟨s', e1, e2, _⟩ := cnt_go (fin := fun _ s => s) (body := fun i18 s17 =>
    grd ((s17.length + 1) * 16 ≤ 140737488355328) <|
    some (.go (s17 ++ [((l.Terms.getD i18 ⟨[], 0⟩).Var)]))) (ε := List Str) (ρ := Empty) (fun j s => s ++ [(l.Terms.getD j ⟨[], 0⟩).Var]) (fun j s => s.length = j) (l.Terms.length - 0) 0 [] rfl (fun j s _ hj hI => by
      refine ⟨by rw [grd_pos (by omega)], by simp [hI]⟩)
  rw [e1]
  simp only [Option.bind_some, aftE, Option.some.injEq]
  rw [e2]
  have := foldl_getD (fun (s : List Str) (t : Coef) => s ++ [t.Var]) ⟨[], 0⟩ l.Terms 0 []
  rw [this]
  simp only [List.drop_zero]
  have gen : ∀ (ts : List Coef) (s : List Str), ts.foldl (fun s t => s ++ [t.Var]) s = s ++ ts.map (·.Var) := by
    intro ts
    induction ts with
    | nil => intro s; simp
    | cons t ts ih => intro s; simp [ih]
  rw [gen]; rfl
def varsS (s : Shape) : List Bind := s.Dims.foldl (fun out l => l.Terms.foldl (fun out t => addV 1 out t.Var) out) (bif s.Row.isEmpty then [] else [mkV 2 s.Row])
theorem foldl_len (ts : List Coef) : ∀ out : List Bind, (ts.foldl (fun out t => addV 1 out t.Var) out).length ≤ out.length + ts.length := by
  induction ts with
  | nil => intro out; simp
  | cons t ts ih =>
    intro out
    have h1 := ih (addV 1 out t.Var)
    have h2 := addV_len 1 out t.Var
    simp only [List.foldl_cons, List.length_cons]
    omega
theorem validL_len {l : Linear} (h : validL l = true) : l.Terms.length ≤ 12 := by
  simp only [validL, Bool.and_eq_true, decide_eq_true_eq] at h
  exact h.2.2
theorem validS_dims {s : Shape} (h : validS s = true) : s.Dims.length ≤ 6 ∧ ∀ j, (s.Dims.getD j ⟨0, []⟩).Terms.length ≤ 12 := by
  simp only [validS, Bool.and_eq_true, decide_eq_true_eq, List.all_eq_true] at h
  refine ⟨h.2.1, fun j => ?_⟩
  rw [List.getD_eq_getElem?_getD]
  cases h1 : s.Dims[j]? with
  | none => simp
  | some x => exact validL_len (h.1 x (List.mem_of_getElem? h1))
theorem shape_Vars_eq (s : Shape) (h : okS s) : shape_Vars s = some (bif validS s then varsS s else []) := by
  unfold shape_Vars
  rw [shape_Valid_eq s h]
  simp only [Option.bind_some]
  cases hv : validS s with
  | false => rfl
  | true =>
    obtain ⟨h6, h12⟩ := validS_dims hv
    simp only [cond_true]
    rw [nil_beq]
    have hinit : ((bif s.Row.isEmpty then some [] else some [(Bind.mk 2 s.Row (Linear.mk 0 []) (Shape.mk [] []) [])] : Option (List Bind))) = some (bif s.Row.isEmpty then [] else [mkV 2 s.Row]) := by cases s.Row.isEmpty <;> rfl
    rw [hinit]
    simp only [Option.bind_some]
    have hil : (bif s.Row.isEmpty then [] else [mkV 2 s.Row] : List Bind).length ≤ 1 := by cases s.Row.isEmpty <;> simp
    generalize hi : (bif s.Row.isEmpty then [] else [mkV 2 s.Row] : List Bind) = init at hil
    have hbody : ∀ (j : Nat) (out : List Bind), j < s.Dims.length → out.length ≤ 1 + 12 * j →
        ((linear_Vars (Linear.mk ((s.Dims.getD j ⟨0, []⟩).Const) ((s.Dims.getD j ⟨0, []⟩).Terms))).bind fun y360 =>
      (cnt (σ := (List Bind)) (ε := ((List Bind) × Nat)) (ρ := Empty) (fun i410 s409 =>
        (shape_find s409 1 (y360.getD i410 [])).bind fun y448 =>
        ((
          bif decide (y448 < 0) then (
            grd ((s409.length + 1) * 112 ≤ 140737488355328) <|
            some ((s409 ++ [(Bind.mk 1 (y360.getD i410 []) (Linear.mk 0 []) (Shape.mk [] []) [])]), true)
          ) else (
            some (s409, false)
          )
        ) : Option ((List Bind) × Bool)).bind fun v455 =>
        some (.go v455.1)
      ) (fun i410 s409 => (s409, i410)) (y360.length - 0) 0 out).bind <| aftE fun u471 =>
      some (Stp.go u471.1 : Stp (List Bind) (List Bind) Empty)) = some (.go ((s.Dims.getD j ⟨0, []⟩).Terms.foldl (fun out t => addV 1 out t.Var) out)) := by
      intro j out hj hout
      rw [eta_L, linear_Vars_eq _ (by have := h12 j; omega)]
      simp only [Option.bind_some]
      generalize hts : (s.Dims.getD j ⟨0, []⟩).Terms = ts
      have hlen : ts.length ≤ 12 := by rw [← hts]; exact h12 j
      have hget : ∀ i, (ts.map (·.Var)).getD i [] = (ts.getD i ⟨[], 0⟩).Var := fun i => by
        simp only [List.getD_eq_getElem?_getD, List.getElem?_map]
        cases ts[i]? <;> rfl
      obtain ⟨s', e1, e2, _⟩ := cnt_go (fin := fun i410 s409 => (s409, i410)) (body := fun i410 s409 =>
        (shape_find s409 1 ((ts.map (·.Var)).getD i410 [])).bind fun y448 =>
        ((
          bif decide (y448 < 0) then (
            grd ((s409.length + 1) * 112 ≤ 140737488355328) <|
            some ((s409 ++ [(Bind.mk 1 ((ts.map (·.Var)).getD i410 []) (Linear.mk 0 []) (Shape.mk [] []) [])]), true)
          ) else (
            some (s409, false)
          )
        ) : Option ((List Bind) × Bool)).bind fun v455 =>
        some (.go v455.1)) (ε := ((List Bind) × Nat)) (ρ := Empty) (fun i out => addV 1 out (ts.getD i ⟨[], 0⟩).Var) (fun i o => o.length ≤ out.length + i) ((ts.map (·.Var)).length - 0) 0 out (by omega) (fun i o _ hi hI => by
          rw [shape_find_eq, hget]
          simp only [Option.bind_some, addV]
          have := addV_len 1 o (ts.getD i ⟨[], 0⟩).Var
          simp only [addV] at this
          have hi2 : i < ts.length := by simpa using hi
          refine ⟨?_, by omega⟩
          generalize hq : idxOf (isB 1 (ts.getD i ⟨[], 0⟩).Var) o = q
          by_cases hq0 : q < 0
          · rw [decide_eq_true hq0, decide_eq_false (show ¬ q ≥ 0 by omega), cond_true, grd_pos (by omega)]; rfl
          · rw [decide_eq_false hq0, decide_eq_true (show q ≥ 0 by omega)]; rfl)
      rw [e1]
      simp only [Option.bind_some, aftE, Option.some.injEq]
      rw [e2, show (ts.map (·.Var)).length - 0 = ts.length - 0 by simp]
      have := foldl_getD (fun (o : List Bind) (t : Coef) => addV 1 o t.Var) ⟨[], 0⟩ ts 0 out
      rw [this]; rfl
    obtain ⟨s', e1, e2, _⟩ := cnt_go (σ := List Bind) (ε := List Bind) (ρ := Empty) (fin := fun _ s => s) (fun j out => (s.Dims.getD j ⟨0, []⟩).Terms.foldl (fun out t => addV 1 out t.Var) out) (fun j o => o.length ≤ 1 + 12 * j) (s.Dims.length - 0) 0 init (by omega) (fun j o _ hj hI => ⟨hbody j o (by omega) hI, by
      have := foldl_len (s.Dims.getD j ⟨0, []⟩).Terms o
      have := h12 j
      omega⟩)
    rw [e1]
    simp only [Option.bind_some, aftE, Option.some.injEq]
    rw [e2]
    have := foldl_getD (fun (o : List Bind) (l : Linear) => l.Terms.foldl (fun out t => addV 1 out t.Var) o) ⟨0, []⟩ s.Dims 0 init
    rw [this, ← hi]; rfl
theorem ref11_AddVar_eq (k : Int) (v : Str) (out : List Bind) (h : out.length ≤ 1000000) : ref11_AddVar k v out = some (addV k out v) := by
  unfold ref11_AddVar addV
  rw [ref11_Find_eq]
  simp only [Option.bind_some]
  cases decide (idxOf (isB k v) out ≥ 0)
  · simp only [cond_false]; rw [grd_pos (by omega)]; rfl
  · rfl
theorem whl_count {body : List Bind × Int → Option (Stp (List Bind × Int) (List Bind × Int) Empty)} (len : Nat) (g : Nat → List Bind → List Bind) (I : Nat → List Bind → Prop) : ∀ (k i n : Nat) (o : List Bind), i + k = len → k < n → I i o →
    (∀ j o, i ≤ j → j < len → I j o → body (o, ((j : Nat) : Int)) = some (.go (g j o, (((j + 1 : Nat)) : Int))) ∧ I (j + 1) (g j o)) → (∀ o, body (o, ((len : Nat) : Int)) = some (.brk (o, ((len : Nat) : Int)))) →
    whl body n (o, ((i : Nat) : Int)) = some (.brk ((List.range' i k).foldl (fun o j => g j o) o, ((len : Nat) : Int))) ∧ I len ((List.range' i k).foldl (fun o j => g j o) o)
  | 0, i, n, o, hik, hn, hI, h, he => by
    obtain ⟨m, rfl⟩ : ∃ m, n = m + 1 := ⟨n - 1, by omega⟩
    have : i = len := by omega
    subst this
    refine ⟨?_, hI⟩
    show (body (o, ((i : Nat) : Int))).bind (stp (whl body m)) = _
    rw [he o]; rfl
  | k + 1, i, n, o, hik, hn, hI, h, he => by
    obtain ⟨m, rfl⟩ : ∃ m, n = m + 1 := ⟨n - 1, by omega⟩
    obtain ⟨h1, h2⟩ := h i o (Nat.le_refl _) (by omega) hI
    have ih := whl_count len g I k (i + 1) m (g i o) (by omega) (by omega) h2 (fun j o h1 h2 => h j o (by omega) h2) he
    rw [List.range'_succ, List.foldl_cons]
    refine ⟨?_, ih.2⟩
    show (body (o, ((i : Nat) : Int))).bind (stp (whl body m)) = _
    rw [h1]
    exact ih.1
theorem ref11_Vars_eq (s : Shape) : ref11_Vars s = some (bif validS s then varsS s else []) := by
  unfold ref11_Vars
  rw [ref11_Valid_eq]
  simp only [Option.bind_some]
  cases hv : validS s with
  | false => rfl
  | true =>
    obtain ⟨h6, h12⟩ := validS_dims hv
    simp only [cond_true]
    rw [nil_beq, ref11_AddVar_eq 2 s.Row [] (by simp)]
    have hinit : ((bif s.Row.isEmpty then some [] else ((some (addV 2 [] s.Row)).bind fun y22 => some y22) : Option (List Bind))) = some (bif s.Row.isEmpty then [] else [mkV 2 s.Row]) := by cases s.Row.isEmpty <;> rfl
    rw [hinit]
    simp only [Option.bind_some]
    have hil : (bif s.Row.isEmpty then [] else [mkV 2 s.Row] : List Bind).length ≤ 1 := by cases s.Row.isEmpty <;> simp
    generalize hi : (bif s.Row.isEmpty then [] else [mkV 2 s.Row] : List Bind) = init at hil
    obtain ⟨s', e1, e2, _⟩ := cnt_go (σ := List Bind) (ε := List Bind) (ρ := Empty) (fin := fun _ s => s) (body := fun i141 s140 =>
      (whl (σ := ((List Bind) × Int)) (ε := ((List Bind) × Int)) (ρ := Empty) (fun s240 =>
        bif decide (s240.2 < ((((s.Dims.getD i141 ⟨0, []⟩).Terms).length : Nat) : Int)) then (
          grd (0 ≤ s240.2 ∧ s240.2 < (((s.Dims.getD i141 ⟨0, []⟩).Terms).length : Int)) <|
          (ref11_AddVar 1 ((((s.Dims.getD i141 ⟨0, []⟩).Terms).getD s240.2.toNat ⟨[], 0⟩).Var) s240.1).bind fun y264 =>
          some (.go (y264, (w64 (s240.2 + 1))))
        ) else (
          some (.brk (s240.1, s240.2))
        )
      ) 4294967296 (s140, 0)).bind <| aftE fun u270 =>
      some (.go u270.1)) (fun j out => (s.Dims.getD j ⟨0, []⟩).Terms.foldl (fun out t => addV 1 out t.Var) out) (fun j o => o.length ≤ 1 + 12 * j) (s.Dims.length - 0) 0 init (by omega) (fun j out _ hj hI => by
        have hlen := h12 j
        refine ⟨?_, by have := foldl_len (s.Dims.getD j ⟨0, []⟩).Terms out; omega⟩
        generalize hts : (s.Dims.getD j ⟨0, []⟩).Terms = ts at hlen
        have hw := whl_count (body := fun s240 =>
        bif decide (s240.2 < ((ts.length : Nat) : Int)) then (
          grd (0 ≤ s240.2 ∧ s240.2 < (ts.length : Int)) <|
          (ref11_AddVar 1 ((ts.getD s240.2.toNat ⟨[], 0⟩).Var) s240.1).bind fun y264 =>
          some (.go (y264, (w64 (s240.2 + 1))))
        ) else (
          some (.brk (s240.1, s240.2))
        )) ts.length (fun i o => addV 1 o (ts.getD i ⟨[], 0⟩).Var) (fun i o => o.length ≤ out.length + i) ts.length 0 4294967296 out (by omega) (by omega) (by omega) (fun i o _ hi hI => by
          have := addV_len 1 o (ts.getD i ⟨[], 0⟩).Var
          refine ⟨?_, by omega⟩
          simp only
          rw [decide_eq_true (show ((i : Nat) : Int) < ((ts.length : Nat) : Int) by omega), cond_true, grd_pos (by omega)]
          rw [Int.toNat_natCast, ref11_AddVar_eq _ _ _ (by omega), w64_id (by unfold I64; omega)]
          rfl) (fun o => by simp only; rw [decide_eq_false (by omega)]; rfl)
        have e0 : (((0 : Nat)) : Int) = 0 := rfl
        rw [e0] at hw
        rw [hw.1]
        simp only [Option.bind_some, aftE, Option.some.injEq, Stp.go.injEq]
        have := foldl_getD (fun (o : List Bind) (t : Coef) => addV 1 o t.Var) ⟨[], 0⟩ ts 0 out
        rw [Nat.sub_zero] at this
        rw [this]; rfl)
    rw [e1]
    simp only [Option.bind_some, aftE, Option.some.injEq]
    rw [e2]
    have := foldl_getD (fun (o : List Bind) (l : Linear) => l.Terms.foldl (fun out t => addV 1 out t.Var) o) ⟨0, []⟩ s.Dims 0 init
    rw [this, ← hi]; rfl
theorem ref11_SameVars_self (l : List Bind) : ref11_SameVars l l = some true := by
  unfold ref11_SameVars
  rw [beq_self_eq_true]
  simp only [cond_true]
  rw [cnt_all (r := false) (fun _ => true) _ _ () (fun j u _ hj => by
    rw [grd_pos (by omega)]
    simp), aft_bif]
  have ha : ∀ l : List Nat, l.all (fun _ => true) = true := by
    intro l
    induction l with
    | nil => rfl
    | cons x l ih => rw [List.all_cons, ih]; rfl
  rw [ha]; rfl
theorem ref11_Rank_val (s : Shape) : ref11_Rank s = some (bif validS s then (bif s.Row.isEmpty then (((s.Dims.length : Nat) : Int), true) else (0, false)) else (0, false)) := by
  unfold ref11_Rank
  rw [ref11_Valid_eq, nil_beq]
  simp only [Option.bind_some]
  cases validS s <;> cases s.Row.isEmpty <;> rfl
/-- The statement ShapeForms, the example of the document left aside. -/
theorem forms_of_awake (ha : law11_awake = some true) (x0 x1 : Shape) (x2 : Framewiselaw11_Forms) : law11_ShapeForms x0 x1 x2 = some true := by
  unfold law11_ShapeForms
  rw [ha, ref11_Few_eq, ref11_Few_eq, ref11_FewBinds_eq]
  simp only [Option.bind_some, cond_true]
  cases h0 : fewS x0 with
  | false => rfl
  | true =>
    simp only [cond_true]
    cases h1 : fewS x1 with
    | false => rfl
    | true =>
      simp only [cond_true]
      cases h2 : fewBs x2.Binds with
      | false => rfl
      | true =>
        simp only [cond_true]
        cases decide (((x2.Text.length : Nat) : Int) > 60) with
        | true => rfl
        | false =>
          simp only [cond_false]
          have k0 := okS_few h0
          have k2 : ∀ b ∈ x2.Binds, okB b := by
            simp only [fewBs, Bool.and_eq_true, List.all_eq_true] at h2
            exact fun b hb => okB_few (h2.1 b hb)
          rw [shape_Rank_eq x0 k0, ref11_Rank_val, shape_Valid_eq x0 k0, ref11_Valid_eq, shape_Vars_eq x0 k0, ref11_Vars_eq, shape_Equal_eq, shape_Equal_eq, ref11_Equal_eq, shape_ValidBinds_eq _ k2, ref11_ValidBinds_eq, shape_ElemVar_eq, ref11_ElemVar_eq]
          simp only [Option.bind_some, beq_self_eq_true, cond_true]
          rw [ref11_SameVars_self]
          simp
end Go.Proofs.YtopejmjihbkieaaGreatDoor

/- PLAIN LAWS: sums, whatever the order of a map's entries; the example of the document. -/
namespace Go.Sh
theorem nodup_le {α : Type} [DecidableEq α] : ∀ (l l' : List α), l.Nodup → (∀ x ∈ l, x ∈ l') → l.length ≤ l'.length
  | [], l', _, _ => by simp
  | a :: l, l', h, hs => by
    rw [List.nodup_cons] at h
    have ha : a ∈ l' := hs a (by simp)
    have ih := nodup_le l (l'.erase a) h.2 (fun x hx => by
      have hne : x ≠ a := fun e => h.1 (e ▸ hx)
      exact (List.mem_erase_of_ne hne).2 (hs x (by simp [hx])))
    rw [List.length_erase_of_mem ha] at ih
    have : 0 < l'.length := List.length_pos_of_mem ha
    simp only [List.length_cons]; omega
theorem mr_go {V σ ε β : Type} {m : List (Str × V)} {body : Str × V → σ → Option (Stp σ ε β)} {K : σ → Prop} {J : β → Prop} (I : List Nat → σ → Prop) (g : σ → Str × V → σ)
    (hstep : ∀ seen s i (h : i < m.length), seen.Nodup → i ∉ seen → (∀ j ∈ seen, j < m.length) → I seen s → body m[i] s = some (.go (g s m[i])) ∧ I (seen ++ [i]) (g s m[i]))
    (hend : ∀ seen s, seen.Nodup → (∀ i, i < m.length → i ∈ seen) → (∀ i ∈ seen, i < m.length) → I seen s → K s) :
    ∀ (n : Nat) (seen : List Nat) (s : σ), seen.Nodup → (∀ i ∈ seen, i < m.length) → n + seen.length = m.length → I seen s → MR m body K J n seen s
  | 0, seen, s, h1, h2, h3, hI => by
    have hall : ∀ i, i < m.length → i ∈ seen := by
      intro i hi
      refine Classical.byContradiction fun hn => ?_
      have := nodup_le (i :: seen) (List.range m.length) (List.nodup_cons.2 ⟨hn, h1⟩) (fun x hx => by
        rcases List.mem_cons.1 hx with rfl | hx
        · simpa using hi
        · simpa using h2 x hx)
      simp at this; omega
    exact ⟨hall, hend seen s h1 hall h2 hI⟩
  | n + 1, seen, s, h1, h2, h3, hI => by
    refine ⟨?_, fun i hi hn => ?_⟩
    · refine Classical.byContradiction fun hn => ?_
      have := nodup_le (List.range m.length) seen List.nodup_range (fun x hx => Classical.byContradiction fun hx2 => hn ⟨x, by simpa using hx, hx2⟩)
      simp at this; omega
    · obtain ⟨e1, e2⟩ := hstep seen s i hi h1 hn h2 hI
      refine ⟨_, e1, ?_⟩
      have hnd : (seen ++ [i]).Nodup := by
        rw [List.nodup_append]
        exact ⟨h1, by simp, fun a ha b hb => by
          have : b = i := by simpa using hb
          subst this; intro e; subst e; exact hn ha⟩
      exact mr_go I g hstep hend n (seen ++ [i]) _ hnd (fun j hj => by
        rcases List.mem_append.1 hj with hj | hj
        · exact h2 j hj
        · have : j = i := by simpa using hj
          subst this; exact hi) (by simp; omega) e2
def leS (x y : Str) : Bool := decide (x ≤ y)
theorem leS_trans (a b c : Str) (h1 : leS a b = true) (h2 : leS b c = true) : leS a c = true := by
  simp only [leS, decide_eq_true_eq] at *; exact List.le_trans h1 h2
theorem leS_total (a b : Str) : (leS a b || leS b a) = true := by
  simp only [leS, Bool.or_eq_true, decide_eq_true_eq]; exact List.le_total a b
theorem leS_anti (a b : Str) (h1 : leS a b = true) (h2 : leS b a = true) : a = b := by
  simp only [leS, decide_eq_true_eq] at *; exact List.le_antisymm h1 h2
theorem sort_sorted (l : List Str) : (Go.Ab.sortS l).Pairwise (fun a b => leS a b = true) := List.pairwise_mergeSort leS_trans leS_total l
theorem sort_perm (l : List Str) : (Go.Ab.sortS l).Perm l := List.mergeSort_perm l _
/-- What is sorted and has the same members is it. -/
theorem sort_eq {l r : List Str} (hs : r.Pairwise (fun a b => leS a b = true)) (hp : r.Perm l) : Go.Ab.sortS l = r :=
  List.Perm.eq_of_pairwise (fun a b _ _ => leS_anti a b) (sort_sorted l) hs ((sort_perm l).trans hp.symm)
theorem sort_congr {l r : List Str} (h : l.Perm r) : Go.Ab.sortS l = Go.Ab.sortS r := sort_eq (sort_sorted r) ((sort_perm r).trans h.symm)
def insS (x : Str) : List Str → List Str
  | [] => [x]
  | y :: l => bif leS x y then x :: y :: l else y :: insS x l
def sortI : List Str → List Str
  | [] => []
  | x :: l => insS x (sortI l)
theorem insS_perm (x : Str) : ∀ l, (insS x l).Perm (x :: l)
  | [] => .refl _
  | y :: l => by
    simp only [insS]
    cases leS x y
    · exact ((insS_perm x l).cons y).trans (.swap _ _ _)
    · exact .refl _
theorem insS_sorted (x : Str) : ∀ {l : List Str}, l.Pairwise (fun a b => leS a b = true) → (insS x l).Pairwise (fun a b => leS a b = true)
  | [], _ => by simp [insS]
  | y :: l, h => by
    rw [List.pairwise_cons] at h
    simp only [insS]
    cases hxy : leS x y
    · simp only [cond_false, List.pairwise_cons]
      have hyx : leS y x = true := by
        have := leS_total x y
        rw [hxy] at this; simpa using this
      refine ⟨fun a ha => ?_, insS_sorted x h.2⟩
      rcases List.mem_cons.1 ((insS_perm x l).mem_iff.1 ha) with rfl | ha
      · exact hyx
      · exact h.1 a ha
    · simp only [cond_true, List.pairwise_cons]
      refine ⟨fun a ha => ?_, h⟩
      rcases List.mem_cons.1 ha with rfl | ha
      · exact hxy
      · exact leS_trans _ _ _ hxy (h.1 a ha)
theorem sortI_perm : ∀ l, (sortI l).Perm l
  | [] => .refl _
  | x :: l => (insS_perm x _).trans ((sortI_perm l).cons x)
theorem sortI_sorted : ∀ l, (sortI l).Pairwise (fun a b => leS a b = true)
  | [] => List.Pairwise.nil
  | x :: l => insS_sorted x (sortI_sorted l)
theorem sortS_eq (l : List Str) : Go.Ab.sortS l = sortI l := sort_eq (sortI_sorted l) (sortI_perm l)
def nodupB : List Str → Bool
  | [] => true
  | x :: l => !(l.any fun y => y == x) && nodupB l
theorem nodupB_eq : ∀ {l : List Str}, nodupB l = true → l.Nodup
  | [], _ => List.nodup_nil
  | x :: l, h => by
    simp only [nodupB, Bool.and_eq_true, Bool.not_eq_true', List.any_eq_false, beq_iff_eq] at h
    exact List.nodup_cons.2 ⟨fun hm => h.1 x hm rfl, nodupB_eq h.2⟩
end Go.Sh
namespace Go.Proofs.YtopejmjihbkieaaGreatDoor
open Go.Ab Go.Sh
/-- The names with a coefficient. -/
def namesOf (m : List (Str × Int)) : List Str := (m.filter fun e => !(e.2 == 0)).map (·.1)
def endSum (n : Int) (m : List (Str × Int)) (names : List Str) : Linear × Int :=
  bif validL (Linear.mk n (names.map fun k => Coef.mk k (mget 0 k m))) then (Linear.mk n (names.map fun k => Coef.mk k (mget 0 k m)), 0) else (Linear.mk 0 [], 3)
def goodM (m : List (Str × Int)) : Bool := nodupB (m.map (·.1)) && (decide (m.length ≤ 1000) && m.all fun e => decide (e.1.length ≤ 1000000))
theorem snoc_map (m : List (Str × Int)) (y : List Str) (hy : y.length ≤ 1000000) : (cnt (σ := (List Coef)) (ε := (List Coef)) (ρ := Empty) (fun i117 s116 =>
      grd ((s116.length + 1) * 24 ≤ 140737488355328) <|
      some (.go (s116 ++ [(Coef.mk (y.getD i117 []) (mget 0 (y.getD i117 []) m))]))
    ) (fun i117 s116 => s116) (y.length - 0) 0 []) = some (.brk (y.map fun k => Coef.mk k (mget 0 k m))) := by
  obtain ⟨s', e1, e2, _⟩ := cnt_go (fin := fun _ s => s) (body := fun i117 s116 =>
      grd ((s116.length + 1) * 24 ≤ 140737488355328) <|
      some (.go (s116 ++ [(Coef.mk (y.getD i117 []) (mget 0 (y.getD i117 []) m))]))) (ε := List Coef) (ρ := Empty) (fun j s => s ++ [(fun k => Coef.mk k (mget 0 k m)) (y.getD j [])]) (fun j s => s.length = j) (y.length - 0) 0 [] rfl (fun j s _ hj hI => ⟨by rw [grd_pos (by omega)], by simp [hI]⟩)
  rw [e1, e2]
  have := foldl_getD (fun (s : List Coef) (k : Str) => s ++ [(fun k => Coef.mk k (mget 0 k m)) k]) [] y 0 []
  rw [this]
  have gen : ∀ (ts : List Str) (s : List Coef), ts.foldl (fun s k => s ++ [(fun k => Coef.mk k (mget 0 k m)) k]) s = s ++ ts.map (fun k => Coef.mk k (mget 0 k m)) := by
    intro ts
    induction ts with
    | nil => intro s; simp
    | cons t ts ih => intro s; simp [ih]
  rw [List.drop_zero, gen]; rfl
theorem sum_rest (n : Int) (m : List (Str × Int)) (hm : goodM m = true) (s : List Str) (hp : s.Perm (namesOf m)) :
    ((lib_Sort s).bind fun y97 =>
    (cnt (σ := (List Coef)) (ε := (List Coef)) (ρ := Empty) (fun i117 s116 =>
      grd ((s116.length + 1) * 24 ≤ 140737488355328) <|
      some (.go (s116 ++ [(Coef.mk (y97.getD i117 []) (mget 0 (y97.getD i117 []) m))]))
    ) (fun i117 s116 => s116) (y97.length - 0) 0 []).bind <| aftE fun u148 =>
    (linear_Valid (Linear.mk n u148)).bind fun y151 =>
    bif y151 then (
      some ((Linear.mk n u148), 0)
    ) else (
      some ((Linear.mk 0 []), 3)
    )) = some (endSum n m (sortI (namesOf m))) := by
  simp only [goodM, Bool.and_eq_true, decide_eq_true_eq, List.all_eq_true] at hm
  obtain ⟨_, hl, hk⟩ := hm
  have hlen : (namesOf m).length ≤ m.length := by unfold namesOf; rw [List.length_map]; exact List.length_filter_le _ _
  have hs : s.length ≤ 1000 := by rw [hp.length_eq]; omega
  unfold lib_Sort
  rw [grd_pos (by omega)]
  simp only [Option.bind_some]
  rw [sort_congr hp, sortS_eq]
  have hsi : (sortI (namesOf m)).length ≤ 1000 := by rw [(sortI_perm _).length_eq]; omega
  rw [snoc_map m _ (by omega)]
  simp only [Option.bind_some, aftE]
  rw [linear_Valid_eq _ (by simp; omega) (fun t ht => by
    obtain ⟨k, hk1, rfl⟩ := List.mem_map.1 ht
    have hk2 := (sortI_perm _).mem_iff.1 hk1
    obtain ⟨e, he, rfl⟩ := List.mem_map.1 hk2
    exact hk e (List.mem_filter.1 he).1)]
  simp only [Option.bind_some, endSum]
  cases validL (Linear.mk n ((sortI (namesOf m)).map fun k => Coef.mk k (mget 0 k m))) <;> rfl
theorem sum_loop {β : Type} (m : List (Str × Int)) (hm : goodM m = true) (k : List Str → Option β) (v : β) (hk : ∀ s, s.Perm (namesOf m) → k s = some v) :
    mrngK (σ := (List Str)) (ε := Empty) (β := β) m (fun e164 s94 =>
    bif (e164.2 == 0) then (
      some (.go s94)
    ) else (
      grd ((s94.length + 1) * 16 ≤ 140737488355328) <|
      some (.go (s94 ++ [e164.1]))
    )) [] k = some v := by
  simp only [goodM, Bool.and_eq_true, decide_eq_true_eq, List.all_eq_true] at hm
  obtain ⟨hnd, hl, _⟩ := hm
  have hnd := nodupB_eq hnd
  have hinj : ∀ i j (hi : i < m.length) (hj : j < m.length), m[i].1 = m[j].1 → i = j := by
    intro i j hi hj e
    have h1 : (m.map (·.1))[i]'(by simpa using hi) = (m.map (·.1))[j]'(by simpa using hj) := by simpa using e
    exact (List.getElem_inj hnd).1 h1
  refine mrngK_eq (mr_go (fun seen s => s.Nodup ∧ s.length ≤ seen.length ∧ ∀ x, x ∈ s ↔ ∃ i, i ∈ seen ∧ ∃ h : i < m.length, m[i].1 = x ∧ m[i].2 ≠ 0) (fun s e => bif e.2 == 0 then s else s ++ [e.1]) ?_ ?_ m.length [] [] List.nodup_nil (fun i hi => by simp at hi) (by simp) ⟨List.nodup_nil, by simp, fun x => by simp⟩)
  · rintro seen s i hi hs1 hs2 hs3 ⟨i1, i2, i3⟩
    have hsl : seen.length ≤ m.length := by
      have := nodup_le seen (List.range m.length) hs1 (fun x hx => by simpa using hs3 x hx)
      simpa using this
    cases hz : m[i].2 == 0 with
    | true =>
      have hz' : m[i].2 = 0 := by simpa using hz
      refine ⟨rfl, i1, by simp; omega, fun x => ?_⟩
      simp only [cond_true]
      rw [i3]
      constructor
      · rintro ⟨j, h1, h2⟩; exact ⟨j, by simp [h1], h2⟩
      · rintro ⟨j, h1, h2, h3, h4⟩
        rcases List.mem_append.1 h1 with h1 | h1
        · exact ⟨j, h1, h2, h3, h4⟩
        · have : j = i := by simpa using h1
          subst this; exact absurd hz' h4
    | false =>
      have hz' : m[i].2 ≠ 0 := by simpa using hz
      simp only [cond_false]
      rw [grd_pos (by omega)]
      refine ⟨rfl, ?_, by simp; omega, fun x => ?_⟩
      · rw [List.nodup_append]
        refine ⟨i1, by simp, fun a ha b hb => ?_⟩
        have hb : b = m[i].1 := by simpa using hb
        subst hb
        intro e
        obtain ⟨j, h1, h2, h3, _⟩ := (i3 a).1 ha
        exact hs2 (hinj j i h2 hi (h3.trans e) ▸ h1)
      · rw [List.mem_append, i3]
        constructor
        · rintro (⟨j, h1, h2⟩ | h)
          · exact ⟨j, by simp [h1], h2⟩
          · have h : x = m[i].1 := by simpa using h
            exact ⟨i, by simp, hi, h.symm, hz'⟩
        · rintro ⟨j, h1, h2, h3, h4⟩
          rcases List.mem_append.1 h1 with h1 | h1
          · exact .inl ⟨j, h1, h2, h3, h4⟩
          · have : j = i := by simpa using h1
            subst this; exact .inr (by simp [h3])
  · rintro seen s hs1 hall hlt ⟨i1, i2, i3⟩
    refine hk s ?_
    have hn2 : (namesOf m).Nodup := by
      unfold namesOf
      exact (List.Sublist.map _ List.filter_sublist).nodup hnd
    refine (List.perm_ext_iff_of_nodup i1 hn2).2 fun x => ?_
    rw [i3]
    unfold namesOf
    simp only [List.mem_map, List.mem_filter, Bool.not_eq_true', beq_eq_false_iff_ne]
    constructor
    · rintro ⟨j, _, h2, h3, h4⟩; exact ⟨m[j], ⟨List.getElem_mem h2, h4⟩, h3⟩
    · rintro ⟨e, ⟨h1, h2⟩, h3⟩
      obtain ⟨j, hj, rfl⟩ := List.getElem_of_mem h1
      exact ⟨j, hall j hj, hj, h3, h2⟩
theorem sum_result_eq (n : Int) (m : List (Str × Int)) (hm : goodM m = true) : linear_sum_result n m = some (endSum n m (sortI (namesOf m))) := by
  unfold linear_sum_result
  exact sum_loop m hm _ _ fun s hp => sum_rest n m hm s hp
theorem sum_result_2_eq (s0 : Str) (n : Int) (m : List (Str × Int)) (hm : goodM m = true) : linear_sum_result_2 s0 n m = some (endSum n m (sortI (namesOf m))) := by
  unfold linear_sum_result_2
  exact sum_loop m hm _ _ fun s hp => sum_rest n m hm s hp
end Go.Proofs.YtopejmjihbkieaaGreatDoor

/- PLAIN LAWS: the example of the document, computed. -/
namespace Go.Proofs.YtopejmjihbkieaaGreatDoor
open Go.Ab Go.Sh
theorem clone_eq (l : List Coef) (h : l.length ≤ 1000000) : slices_Clone_api_Coef l = some l := by
  unfold slices_Clone_api_Coef
  rw [grd_pos (by omega)]
  exact nilc_same fun e => by rw [e]
noncomputable def sumT (n : Int) (m : List (Str × Int)) : Option (Linear × Int) := bif goodM m then some (endSum n m (sortI (namesOf m))) else linear_sum_result n m
noncomputable def sumT2 (s : Str) (n : Int) (m : List (Str × Int)) : Option (Linear × Int) := bif goodM m then some (endSum n m (sortI (namesOf m))) else linear_sum_result_2 s n m
noncomputable def cloneT (l : List Coef) : Option (List Coef) := bif decide (l.length ≤ 1000000) then some l else slices_Clone_api_Coef l
theorem sum_T : linear_sum_result = sumT := by
  funext n m
  unfold sumT
  cases h : goodM m
  · rfl
  · exact sum_result_eq n m h
theorem sum_T2 : linear_sum_result_2 = sumT2 := by
  funext s n m
  unfold sumT2
  cases h : goodM m
  · rfl
  · exact sum_result_2_eq s n m h
theorem clone_T : slices_Clone_api_Coef = cloneT := by
  funext l
  unfold cloneT
  by_cases h : l.length ≤ 1000000
  · rw [decide_eq_true h]; exact clone_eq l h
  · rw [decide_eq_false h]; rfl
noncomputable def linear_SubstT (x0 : Linear) (x1 : (List Bind)) : Option (Linear × Int) :=
  (linear_Valid x0).bind fun y1 =>
  bif y1 then (
    (cnt (σ := (Int × (List (Str × Int)))) (ε := (Int × (List (Str × Int)))) (ρ := (Linear × Int)) (fun i122 s121 =>
      (slices_IndexFunc_api_Bind_2 x1 ((x0.Terms.getD i122 ⟨[], 0⟩).Var) ((x0.Terms.getD i122 ⟨[], 0⟩).C)).bind fun y193 =>
      ((
        bif decide (y193 < 0) then (
          some (.brk (true, s121.1, (mput ((x0.Terms.getD i122 ⟨[], 0⟩).Var) (w64 ((mget 0 ((x0.Terms.getD i122 ⟨[], 0⟩).Var) s121.2) + ((x0.Terms.getD i122 ⟨[], 0⟩).C))) s121.2)))
        ) else (
          grd (0 ≤ y193 ∧ y193 < (x1.length : Int)) <|
          (linear_Valid (Linear.mk (((x1.getD y193.toNat (⟨0, [], ⟨0, []⟩, ⟨[], []⟩, []⟩)).Dim).Const) (((x1.getD y193.toNat (⟨0, [], ⟨0, []⟩, ⟨[], []⟩, []⟩)).Dim).Terms))).bind fun y231 =>
          bif y231 then (
            (linear_sum_add (Linear.mk (((x1.getD y193.toNat (⟨0, [], ⟨0, []⟩, ⟨[], []⟩, []⟩)).Dim).Const) (((x1.getD y193.toNat (⟨0, [], ⟨0, []⟩, ⟨[], []⟩, []⟩)).Dim).Terms)) ((x0.Terms.getD i122 ⟨[], 0⟩).C) s121.1 s121.2).bind fun y238 =>
            some (.brk (false, y238.1, y238.2))
          ) else (
            some (.ret (.ret ((Linear.mk 0 []), 1)))
          )
        )
      ) : Option (Out (Bool × Int × (List (Str × Int))) (Stp (Int × (List (Str × Int))) (Int × (List (Str × Int))) (Linear × Int)))).bind (aft fun u223 =>
        some (.go (u223.2.1, u223.2.2))
      )
    ) (fun i122 s121 => (s121.1, s121.2)) (x0.Terms.length - 0) 0 (x0.Const, [])).bind <| aft fun u255 =>
    (sumT u255.1 u255.2).bind fun y258 =>
    some (y258.1, y258.2)
  ) else (
    some ((Linear.mk 0 []), 1)
  )
theorem linear_Subst_tw : linear_Subst = linear_SubstT := by
  funext x0 x1; unfold linear_Subst linear_SubstT
  simp only [sum_T, sum_T2, clone_T]
noncomputable def shape_clonesT (x0 : (List Linear)) : Option (List Linear) :=
  (cnt (σ := (List Linear)) (ε := (List Linear)) (ρ := Empty) (fun i77 s76 =>
    (cloneT ((x0.getD i77 ⟨0, []⟩).Terms)).bind fun y104 =>
    grd ((s76.length + 1) * 32 ≤ 140737488355328) <|
    some (.go (s76 ++ [(Linear.mk ((x0.getD i77 ⟨0, []⟩).Const) y104)]))
  ) (fun i77 s76 => s76) (x0.length - 0) 0 []).bind <| aftE fun u114 =>
  some u114
theorem shape_clones_tw : shape_clones = shape_clonesT := by
  funext x0; unfold shape_clones shape_clonesT
  simp only [sum_T, sum_T2, clone_T, linear_Subst_tw]
noncomputable def shape_madeT (x0 : Str) (x1 : (List Linear)) : Option (Shape × Int) :=
  bif decide (((x1.length : Nat) : Int) > 6) then (
    some ((Shape.mk [] []), 3)
  ) else (
    (shape_clonesT x1).bind fun y6 =>
    some ((Shape.mk x0 y6), 0)
  )
theorem shape_made_tw : shape_made = shape_madeT := by
  funext x0 x1; unfold shape_made shape_madeT
  simp only [sum_T, sum_T2, clone_T, linear_Subst_tw, shape_clones_tw]
noncomputable def shape_SubstT (x0 : Shape) (x1 : (List Bind)) : Option (Shape × Int) :=
  (shape_Valid x0).bind fun y1 =>
  bif y1 then (
    (shape_ValidBinds x1).bind fun y15 =>
    bif y15 then (
      (shape_find x1 2 x0.Row).bind fun y22 =>
      ((
        bif (x0.Row == []) then (
          some false
        ) else (
          some (decide (y22 ≥ 0))
        )
      ) : Option Bool).bind fun v25 =>
      ((
        bif v25 then (
          grd (0 ≤ y22 ∧ y22 < (x1.length : Int)) <|
          (shape_clonesT (((x1.getD y22.toNat (⟨0, [], ⟨0, []⟩, ⟨[], []⟩, []⟩)).Row).Dims)).bind fun y53 =>
          some ((((x1.getD y22.toNat (⟨0, [], ⟨0, []⟩, ⟨[], []⟩, []⟩)).Row).Row), y53)
        ) else (
          some (x0.Row, [])
        )
      ) : Option (Str × (List Linear))).bind fun v44 =>
      (cnt (σ := (List Linear)) (ε := (List Linear)) (ρ := (Shape × Int)) (fun i91 s90 =>
        (linear_SubstT (Linear.mk ((x0.Dims.getD i91 ⟨0, []⟩).Const) ((x0.Dims.getD i91 ⟨0, []⟩).Terms)) x1).bind fun y122 =>
        bif (y122.2 == 0) then (
          grd ((s90.length + 1) * 32 ≤ 140737488355328) <|
          some (.go (s90 ++ [y122.1]))
        ) else (
          some (.ret ((Shape.mk [] []), y122.2))
        )
      ) (fun i91 s90 => s90) (x0.Dims.length - 0) 0 v44.2).bind <| aft fun u140 =>
      (shape_madeT v44.1 u140).bind fun y143 =>
      some (y143.1, y143.2)
    ) else (
      some ((Shape.mk [] []), 1)
    )
  ) else (
    some ((Shape.mk [] []), 1)
  )
theorem shape_Subst_tw : shape_Subst = shape_SubstT := by
  funext x0 x1; unfold shape_Subst shape_SubstT
  simp only [sum_T, sum_T2, clone_T, linear_Subst_tw, shape_clones_tw, shape_made_tw]
noncomputable def linear_ParseT (x0 : Str) : Option (Linear × Int) :=
  (linear_reader_spaces x0 0 []).bind fun y1 =>
  (linear_reader_sign y1 0 []).bind fun y4 =>
  (whl (σ := (Int × Str × Int × (List (Str × Int)))) (ε := (Linear × Int)) (ρ := (Linear × Int)) (fun s71 =>
    (linear_reader_spaces s71.2.1 s71.2.2.1 s71.2.2.2).bind fun y79 =>
    (linear_reader_item s71.1 y79 s71.2.2.1 s71.2.2.2).bind fun y82 =>
    bif y82.1 then (
      (linear_reader_spaces y82.2.1 y82.2.2.1 y82.2.2.2).bind fun y89 =>
      bif (y89 == []) then (
        (sumT2 y89 y82.2.2.1 y82.2.2.2).bind fun y99 =>
        some (.ret (y99.1, y99.2))
      ) else (
        (linear_reader_sign y89 y82.2.2.1 y82.2.2.2).bind fun y106 =>
        bif y106.1.2 then (
          some (.go (y106.1.1, y106.2, y82.2.2.1, y82.2.2.2))
        ) else (
          some (.ret ((Linear.mk 0 []), 6))
        )
      )
    ) else (
      some (.ret ((Linear.mk 0 []), 6))
    )
  ) 4294967296 (y4.1.1, y4.2, 0, [])).bind <| aft some
theorem linear_Parse_tw : linear_Parse = linear_ParseT := by
  funext x0; unfold linear_Parse linear_ParseT
  simp only [sum_T, sum_T2, clone_T, linear_Subst_tw, shape_clones_tw, shape_made_tw, shape_Subst_tw]
noncomputable def shape_ParseT (x0 : Str) : Option (Shape × Int) :=
  (strings_CutPrefix x0 [91]).bind fun y1 =>
  (strings_CutSuffix y1.1 [93]).bind fun y4 =>
  bif y1.2 then (
    bif y4.2 then (
      (lib_Split y4.1 [44, 32]).bind fun y19 =>
      (cnt (σ := (Str × (List Linear))) (ε := (Str × (List Linear))) (ρ := (Shape × Int)) (fun i241 s240 =>
        (strings_CutSuffix (y19.getD i241 []) [46, 46]).bind fun y395 =>
        ((
          ((
            bif y395.2 then (
              bif (((i241 : Nat) : Int) == 0) then (
                some (.ret (.brk (true, true, y395.1, s240.2)))
              ) else (
                some (.brk true)
              )
            ) else (
              some (.brk false)
            )
          ) : Option (Out Bool (Out (Bool × Bool × Str × (List Linear)) (Stp (Str × (List Linear)) (Str × (List Linear)) (Shape × Int))))).bind (aft fun u483 =>
            (linear_ParseT (y19.getD i241 [])).bind fun y498 =>
            ((
              bif (y498.2 == 0) then (
                some (.brk ())
              ) else (
                bif (y4.1 == []) then (
                  some (.brk ())
                ) else (
                  some (.ret (.ret (.ret ((Shape.mk [] []), 6))))
                )
              )
            ) : Option (Out Unit (Out (Bool × Bool × Str × (List Linear)) (Stp (Str × (List Linear)) (Str × (List Linear)) (Shape × Int))))).bind (aft fun u512 =>
              bif (y4.1 == []) then (
                some (.brk (u483, false, s240.1, s240.2))
              ) else (
                grd ((s240.2.length + 1) * 32 ≤ 140737488355328) <|
                some (.brk (u483, false, s240.1, (s240.2 ++ [y498.1])))
              )
            )
          )
        ) : Option (Out (Bool × Bool × Str × (List Linear)) (Stp (Str × (List Linear)) (Str × (List Linear)) (Shape × Int)))).bind (aft fun u471 =>
          some (.go (u471.2.2.1, u471.2.2.2))
        )
      ) (fun i241 s240 => (s240.1, s240.2)) (y19.length - 0) 0 ([], [])).bind <| aft fun u549 =>
      (shape_Valid (Shape.mk u549.1 u549.2)).bind fun y552 =>
      bif y552 then (
        (shape_text (Shape.mk u549.1 u549.2)).bind fun y566 =>
        bif (y566 == x0) then (
          some ((Shape.mk u549.1 u549.2), 0)
        ) else (
          some ((Shape.mk [] []), 6)
        )
      ) else (
        some ((Shape.mk [] []), 6)
      )
    ) else (
      some ((Shape.mk [] []), 6)
    )
  ) else (
    some ((Shape.mk [] []), 6)
  )
theorem shape_Parse_tw : shape_Parse = shape_ParseT := by
  funext x0; unfold shape_Parse shape_ParseT
  simp only [sum_T, sum_T2, clone_T, linear_Subst_tw, shape_clones_tw, shape_made_tw, shape_Subst_tw, linear_Parse_tw]
noncomputable def law11_awakeT  : Option Bool :=
  (law11_dim 1 [110] 1).bind fun y1 =>
  (law11_dim 0 [] 3).bind fun y4 =>
  (shape_Print (Shape.mk [114] [y1, y4])).bind fun y7 =>
  (law11_dim 1 [109] 0).bind fun y10 =>
  (law11_dim 2 [107] 0).bind fun y13 =>
  (shape_SubstT (Shape.mk [114] [y1, y4]) [(Bind.mk 2 [114] (Linear.mk 0 []) (Shape.mk [] [y10]) []), (Bind.mk 1 [110] y13 (Shape.mk [] []) [])]).bind fun y16 =>
  (shape_Print y16.1).bind fun y19 =>
  (shape_ParseT y19.1).bind fun y22 =>
  (shape_Eval y16.1 [(Value.mk [107] 2), (Value.mk [109] 7)]).bind fun y25 =>
  bif (y7.2 == 0) then (
    bif (y16.2 == 0) then (
      bif (y19.2 == 0) then (
        bif (y22.2 == 0) then (
          bif (y25.2 == 0) then (
            bif (y7.1 == [91, 114, 46, 46, 44, 32, 110, 43, 49, 44, 32, 51, 93]) then (
              bif (y19.1 == [91, 109, 44, 32, 50, 107, 43, 49, 44, 32, 51, 93]) then (
                (shape_Equal y16.1 y22.1).bind fun y259 =>
                bif y259 then (
                  (ref11_SameInts y25.1 [7, 5, 3]).bind fun y276 =>
                  bif y276 then (
                    (shape_Valid (Shape.mk [114] [y1, y4])).bind fun y286 =>
                    some y286
                  ) else (
                    some false
                  )
                ) else (
                  some false
                )
              ) else (
                some false
              )
            ) else (
              some false
            )
          ) else (
            some false
          )
        ) else (
          some false
        )
      ) else (
        some false
      )
    ) else (
      some false
    )
  ) else (
    some false
  )
theorem law11_awake_tw : law11_awake = law11_awakeT := by
  unfold law11_awake law11_awakeT
  simp only [sum_T, sum_T2, clone_T, linear_Subst_tw, shape_clones_tw, shape_made_tw, shape_Subst_tw, linear_Parse_tw, shape_Parse_tw]
theorem law11_awake_true : law11_awake = some true := by
  rw [law11_awake_tw]
  kernel_rfl
theorem forms_law (x0 x1 : Shape) (x2 : Framewiselaw11_Forms) : law11_ShapeForms x0 x1 x2 = some true := forms_of_awake law11_awake_true x0 x1 x2
end Go.Proofs.YtopejmjihbkieaaGreatDoor

/- PLAIN LAWS: values of linear expressions, as a program that substitutes and evaluates has them. -/
namespace Go.Sh
section
variable {α σ ε ρ : Type}
/-- A loop over a list. -/
def loopL (g : α → σ → Stp σ ε ρ) (fin : σ → ε) : List α → σ → Out ε ρ
  | [], s => .brk (fin s)
  | x :: l, s => match g x s with | .go s' => loopL g fin l s' | .brk e => .brk e | .ret r => .ret r
theorem cnt_list {body : Nat → σ → Option (Stp σ ε ρ)} {fin : Nat → σ → ε} {f : σ → ε} (d : α) (l : List α) (g : α → σ → Stp σ ε ρ) (I : Nat → σ → Prop) (hf : ∀ i s, fin i s = f s) :
    ∀ (i : Nat) (s : σ), I i s → (∀ j s, i ≤ j → j < l.length → I j s → body j s = some (g (l.getD j d) s) ∧ ∀ s', g (l.getD j d) s = .go s' → I (j + 1) s') →
    cnt body fin (l.length - i) i s = some (loopL g f (l.drop i) s) := by
  intro i s hI h
  by_cases hi : i < l.length
  · obtain ⟨k, hk⟩ : ∃ k, l.length - i = k + 1 := ⟨l.length - i - 1, by omega⟩
    obtain ⟨h1, h2⟩ := h i s (Nat.le_refl _) hi hI
    have hx : l.getD i d = l[i] := by simp [List.getD_eq_getElem?_getD, List.getElem?_eq_getElem hi]
    rw [hx] at h1 h2
    rw [hk, List.drop_eq_getElem_cons hi]
    simp only [cnt, h1, Option.bind_some, loopL]
    cases hg : g l[i] s with
    | go s' =>
      have ih := cnt_list d l g I hf (i + 1) s' (h2 s' hg) (fun j s h1 h2 => h j s (by omega) h2)
      rw [show l.length - (i + 1) = k by omega] at ih
      exact ih
    | brk e => rfl
    | ret r => rfl
  · rw [show l.length - i = 0 by omega, List.drop_eq_nil_of_le (by omega)]
    simp [cnt, loopL, hf]
  termination_by i => l.length - i
theorem cnt_list0 {body : Nat → σ → Option (Stp σ ε ρ)} {fin : Nat → σ → ε} {f : σ → ε} (d : α) (l : List α) (g : α → σ → Stp σ ε ρ) (I : Nat → σ → Prop) (hf : ∀ i s, fin i s = f s) (s : σ) (hI : I 0 s)
    (h : ∀ j s, j < l.length → I j s → body j s = some (g (l.getD j d) s) ∧ ∀ s', g (l.getD j d) s = .go s' → I (j + 1) s') :
    cnt body fin (l.length - 0) 0 s = some (loopL g f l s) := by
  have := cnt_list d l g I hf 0 s hI (fun j s _ h1 h2 => h j s h1 h2)
  simpa using this
/-- A search that leaves the loop with the place. -/
theorem cnt_place {body : Nat → Unit → Option (Stp Unit Nat ρ)} (p : Nat → Bool) : ∀ (k i : Nat) (u : Unit), (∀ j u, i ≤ j → j < i + k → body j u = some (bif p j then .brk j else .go ())) →
    cnt body (fun i _ => i) k i u = some (.brk (match (List.range' i k).find? p with | some j => j | none => i + k))
  | 0, i, u, h => by simp [cnt]
  | k + 1, i, u, h => by
    simp only [cnt, h i u (Nat.le_refl _) (by omega), List.range'_succ, List.find?_cons]
    cases hp : p i with
    | false =>
      simp only [cond_false, Option.bind_some, stp]
      rw [cnt_place p k (i + 1) () (fun j u h1 h2 => h j u (by omega) (by omega))]
      rw [show i + 1 + k = i + (k + 1) by omega]
    | true => simp [stp]
/-- Each item is tried, and appended. -/
theorem loop_map {β : Type} (p : α → Bool) (f : α → β) (r : α → ρ) : ∀ (l : List α) (acc : List β),
    loopL (σ := List β) (ε := List β) (fun x acc => bif p x then .go (acc ++ [f x]) else .ret (r x)) (fun s => s) l acc = .brk (acc ++ l.map f) ∧ l.all p = true ∨
    ∃ x ∈ l, p x = false ∧ loopL (σ := List β) (ε := List β) (fun x acc => bif p x then .go (acc ++ [f x]) else .ret (r x)) (fun s => s) l acc = .ret (r x)
  | [], acc => .inl ⟨by simp [loopL], rfl⟩
  | x :: l, acc => by
    cases hp : p x with
    | false => exact .inr ⟨x, by simp, hp, by simp [loopL, hp]⟩
    | true =>
      simp only [loopL, hp, cond_true]
      rcases loop_map p f r l (acc ++ [f x]) with ⟨h1, h2⟩ | ⟨y, h1, h2, h3⟩
      · exact .inl ⟨by rw [h1]; simp, by rw [List.all_cons, hp, h2]; rfl⟩
      · exact .inr ⟨y, by simp [h1], h2, h3⟩
theorem idxOf_pos (p : α → Bool) (d : α) : ∀ l : List α, 0 ≤ idxOf p l → (idxOf p l).toNat < l.length ∧ p (l.getD (idxOf p l).toNat d) = true
  | [], h => by simp [idxOf] at h
  | x :: l, h => by
    cases hp : p x with
    | true => simp [idxOf, hp]
    | false =>
      have hge := idxOf_ge p l
      simp only [idxOf, hp, cond_false] at h ⊢
      by_cases hm : idxOf p l = -1
      · rw [hm] at h; simp at h
      · have e : (idxOf p l == -1) = false := by simpa using hm
        rw [e, cond_false]
        obtain ⟨h1, h2⟩ := idxOf_pos p d l (by omega)
        have e2 : (idxOf p l + 1).toNat = (idxOf p l).toNat + 1 := by omega
        rw [e2]
        exact ⟨by simp; omega, by simpa using h2⟩
theorem idxOf_lt (p : α → Bool) (d : α) (l : List α) : idxOf p l < (l.length : Int) := by
  by_cases h : 0 ≤ idxOf p l
  · have := (idxOf_pos p d l h).1; omega
  · omega
theorem place_idx (p : α → Bool) (d : α) (l : List α) : ((match (List.range' 0 (l.length - 0)).find? (fun j => p (l.getD j d)) with | some j => j | none => 0 + (l.length - 0)) : Nat) = (bif decide (idxOf p l < 0) then l.length else (idxOf p l).toNat) := by
  have h := find_idx0 p d l
  have hge := idxOf_ge p l
  cases hf : (List.range' 0 (l.length - 0)).find? (fun j => p (l.getD j d)) with
  | none =>
    rw [hf] at h
    have h : (-1 : Int) = idxOf p l := h
    rw [← h]; simp
  | some j =>
    rw [hf] at h
    have h : ((j : Nat) : Int) = idxOf p l := h
    rw [← h, decide_eq_false (by omega)]; simp
end
end Go.Sh
namespace Go.Proofs.YtopejmjihbkieaaGreatDoor
open Go.Ab Go.Sh
/-! ### values -/
def isV (v : Str) (x : Value) : Bool := x.Var == v
def vv (vs : List Value) (v : Str) : Int := (vs.getD (idxOf (isV v) vs).toNat ⟨[], 0⟩).N
def hasV (vs : List Value) (v : Str) : Prop := 0 ≤ idxOf (isV v) vs ∧ -1000000000 ≤ vv vs v ∧ vv vs v ≤ 1000000000
def evG (vs : List Value) (t : Coef) (n : Int) : Stp Int Int (Int × Int) :=
  bif decide (idxOf (isV t.Var) vs < 0) then .ret (0, 7) else
  bif decide (vv vs t.Var < (-1000000000)) then .ret (0, 2) else
  bif decide (vv vs t.Var > 1000000000) then .ret (0, 2) else .go (w64 (n + (w64 (t.C * vv vs t.Var))))
def outP (o : Out Int (Int × Int)) : Int × Int := match o with | .brk n => (n, 0) | .ret r => r
def evL (vs : List Value) (l : Linear) : Int × Int := bif validL l then outP (loopL (evG vs) (fun s => s) l.Terms l.Const) else (0, 1)
theorem value_find (vs : List Value) (v : Str) (c : Int) : slices_IndexFunc_api_Value vs v c = some (idxOf (isV v) vs) := by
  unfold slices_IndexFunc_api_Value
  rw [cnt_find (f := fun j => ((j : Nat) : Int)) (fun j => isV v (vs.getD j ⟨[], 0⟩)) _ _ () (fun j u _ _ => by
    unfold linear_Eval_1 isV
    simp only [Option.bind_some]
    cases (vs.getD j ⟨[], 0⟩).Var == v <;> rfl)]
  have h := find_idx0 (isV v) ⟨[], 0⟩ vs
  cases hf : (List.range' 0 (vs.length - 0)).find? (fun j => isV v (vs.getD j ⟨[], 0⟩)) with
  | none => rw [hf] at h; exact congrArg some h
  | some j => rw [hf] at h; exact congrArg some h
theorem outP_bind (o : Out Int (Int × Int)) : ((some o).bind (Sh.aft fun u => some (u, 0))) = some (outP o) := by cases o <;> rfl
theorem linear_Eval_eq (l : Linear) (vs : List Value) (h : okL l) : linear_Eval l vs = some (evL vs l) := by
  unfold linear_Eval evL
  rw [linear_Valid_eq l h.1 h.2]
  simp only [Option.bind_some]
  cases validL l with
  | false => rfl
  | true =>
    simp only [cond_true]
    rw [cnt_list0 (fin := fun _ s => s) (f := fun s => s) ⟨[], 0⟩ l.Terms (evG vs) (fun _ _ => True) (fun _ _ => rfl) l.Const trivial (fun j s hj _ => ⟨by
      rw [value_find]
      simp only [Option.bind_some, evG]
      by_cases h0 : idxOf (isV (l.Terms.getD j ⟨[], 0⟩).Var) vs < 0
      · rw [decide_eq_true h0]; rfl
      · rw [decide_eq_false h0]
        simp only [cond_false]
        rw [grd_pos ⟨by omega, idxOf_lt _ ⟨[], 0⟩ _⟩]
        unfold vv
        cases decide ((vs.getD (idxOf (isV (l.Terms.getD j ⟨[], 0⟩).Var) vs).toNat ⟨[], 0⟩).N < (-1000000000)) <;> cases decide ((vs.getD (idxOf (isV (l.Terms.getD j ⟨[], 0⟩).Var) vs).toNat ⟨[], 0⟩).N > 1000000000) <;> rfl, fun _ _ => trivial⟩)]
    exact outP_bind _
theorem ref04_Eval_eq (l : Linear) (vs : List Value) : ref04_Eval l vs = some (evL vs l) := by
  unfold ref04_Eval evL
  rw [ref04_Valid_eq l]
  simp only [Option.bind_some]
  cases validL l with
  | false => rfl
  | true =>
    simp only [cond_true]
    rw [cnt_list0 (fin := fun _ s => s) (f := fun s => s) ⟨[], 0⟩ l.Terms (evG vs) (fun _ _ => True) (fun _ _ => rfl) l.Const trivial (fun j s hj _ => ⟨by
      rw [cnt_place (fun i => isV (l.Terms.getD j ⟨[], 0⟩).Var (vs.getD i ⟨[], 0⟩)) _ _ () (fun i u _ _ => by
        unfold isV
        cases (vs.getD i ⟨[], 0⟩).Var == (l.Terms.getD j ⟨[], 0⟩).Var <;> rfl)]
      simp only [Option.bind_some, aftE]
      rw [place_idx (isV (l.Terms.getD j ⟨[], 0⟩).Var) ⟨[], 0⟩ vs]
      simp only [evG]
      have hlt := idxOf_lt (isV (l.Terms.getD j ⟨[], 0⟩).Var) ⟨[], 0⟩ vs
      by_cases h0 : idxOf (isV (l.Terms.getD j ⟨[], 0⟩).Var) vs < 0
      · rw [decide_eq_true h0]; simp
      · rw [decide_eq_false h0]
        simp only [cond_false]
        have e : ((((idxOf (isV (l.Terms.getD j ⟨[], 0⟩).Var) vs).toNat : Nat) : Int) == ((vs.length : Nat) : Int)) = false := by
          rw [beq_eq_false_iff_ne]; omega
        rw [e, cond_false, grd_pos (by omega)]
        unfold vv
        cases decide ((vs.getD (idxOf (isV (l.Terms.getD j ⟨[], 0⟩).Var) vs).toNat ⟨[], 0⟩).N < (-1000000000)) <;> cases decide ((vs.getD (idxOf (isV (l.Terms.getD j ⟨[], 0⟩).Var) vs).toNat ⟨[], 0⟩).N > 1000000000) <;> rfl, fun _ _ => trivial⟩)]
    exact outP_bind _
/-! ### linear forms -/
def linT (f : Str → Int) : List Coef → Int
  | [] => 0
  | t :: ts => t.C * f t.Var + linT f ts
def lin (f : Str → Int) (l : Linear) : Int := l.Const + linT f l.Terms
theorem prod_bound {a b A B : Int} (h1 : -A ≤ a) (h2 : a ≤ A) (h3 : -B ≤ b) (h4 : b ≤ B) : -(A * B) ≤ a * b ∧ a * b ≤ A * B := by
  have hA : 0 ≤ A := by omega
  have hB : 0 ≤ B := by omega
  have hn : (a * b).natAbs ≤ A.natAbs * B.natAbs := by rw [Int.natAbs_mul]; exact Nat.mul_le_mul (by omega) (by omega)
  have e : ((A.natAbs * B.natAbs : Nat) : Int) = A * B := by rw [Int.natCast_mul]; congr 1 <;> omega
  omega
theorem evG_loop (vs : List Value) : ∀ (ts : List Coef) (n : Int), (∀ t ∈ ts, -1000000 ≤ t.C ∧ t.C ≤ 1000000) → ts.length ≤ 12 →
    -(1000000 + (12 - (ts.length : Int)) * 1000000000000000) ≤ n → n ≤ 1000000 + (12 - (ts.length : Int)) * 1000000000000000 →
    (loopL (evG vs) (fun s => s) ts n = .brk (n + linT (vv vs) ts) ∧ ∀ t ∈ ts, hasV vs t.Var) ∨ ((∃ t ∈ ts, ¬ hasV vs t.Var) ∧ ∃ e, (e = 7 ∨ e = 2) ∧ loopL (evG vs) (fun s => s) ts n = .ret (0, e))
  | [], n, _, _, _, _ => .inl ⟨by simp [loopL, linT], by simp⟩
  | t :: ts, n, hC, hl, h1, h2 => by
    by_cases h0 : idxOf (isV t.Var) vs < 0
    · exact .inr ⟨⟨t, by simp, fun hv => by have := hv.1; omega⟩, 7, .inl rfl, by simp only [loopL, evG, decide_eq_true h0, cond_true]⟩
    by_cases h3 : vv vs t.Var < -1000000000
    · exact .inr ⟨⟨t, by simp, fun hv => by have := hv.2.1; omega⟩, 2, .inr rfl, by simp only [loopL, evG, decide_eq_false h0, decide_eq_true h3, cond_true, cond_false]⟩
    by_cases h4 : vv vs t.Var > 1000000000
    · exact .inr ⟨⟨t, by simp, fun hv => by have := hv.2.2; omega⟩, 2, .inr rfl, by simp only [loopL, evG, decide_eq_false h0, decide_eq_false h3, decide_eq_true h4, cond_true, cond_false]⟩
    obtain ⟨c1, c2⟩ := hC t (by simp)
    obtain ⟨b1, b2⟩ := prod_bound c1 c2 (show -1000000000 ≤ vv vs t.Var by omega) (show vv vs t.Var ≤ 1000000000 by omega)
    have hl' : (ts.length : Int) ≤ 11 := by simp at hl; omega
    have hlen : (((t :: ts).length : Nat) : Int) = (ts.length : Int) + 1 := by simp
    rw [hlen] at h1 h2
    have e : evG vs t n = .go (n + t.C * vv vs t.Var) := by
      simp only [evG, decide_eq_false h0, decide_eq_false h3, decide_eq_false h4, cond_false]
      rw [w64_id (n := t.C * vv vs t.Var) (by unfold I64; omega), w64_id (by unfold I64; omega)]
    simp only [loopL, e, linT]
    rcases evG_loop vs ts (n + t.C * vv vs t.Var) (fun t ht => hC t (by simp [ht])) (by omega) (by omega) (by omega) with ⟨e1, e2⟩ | ⟨⟨y, e1, e1'⟩, e2⟩
    · refine .inl ⟨by rw [e1, Int.add_assoc], fun x hx => ?_⟩
      rcases List.mem_cons.1 hx with rfl | hx
      · exact ⟨by omega, by omega, by omega⟩
      · exact e2 x hx
    · exact .inr ⟨⟨y, by simp [e1], e1'⟩, e2⟩
theorem validL_C {l : Linear} (h : validL l = true) : ∀ t ∈ l.Terms, (-1000000 ≤ t.C ∧ t.C ≤ 1000000) ∧ nameS t.Var = true := by
  intro t ht
  obtain ⟨j, hj, rfl⟩ := List.getElem_of_mem ht
  simp only [validL, Bool.and_eq_true, List.all_eq_true] at h
  have := h.1 j (by simpa using hj)
  have e : tAt l j = l.Terms[j] := by simp [tAt, List.getD_eq_getElem?_getD, List.getElem?_eq_getElem hj]
  simp only [validP, e, Bool.and_eq_true, inS, decide_eq_true_eq] at this
  exact ⟨this.2.2.1, this.1⟩
theorem validL_K {l : Linear} (h : validL l = true) : -1000000 ≤ l.Const ∧ l.Const ≤ 1000000 := by
  simp only [validL, Bool.and_eq_true, inS, decide_eq_true_eq] at h
  exact h.2.1
theorem name_len {s : Str} (h : nameS s = true) : s.length ≤ 30 := by
  cases s with
  | nil => simp
  | cons c r =>
    simp only [nameS] at h
    cases hc : c == 95
    · simp only [hc, cond_false, Bool.and_eq_true, decide_eq_true_eq] at h
      simp; omega
    · simp only [hc, cond_true, Bool.and_eq_true, decide_eq_true_eq] at h
      simp; omega
theorem okL_valid {l : Linear} (h : validL l = true) : okL l :=
  ⟨by have := validL_len h; omega, fun t ht => by have := name_len (validL_C h t ht).2; omega⟩
theorem evL_cases (vs : List Value) (l : Linear) (h : validL l = true) : (evL vs l = (lin (vv vs) l, 0) ∧ ∀ t ∈ l.Terms, hasV vs t.Var) ∨ ((∃ t ∈ l.Terms, ¬ hasV vs t.Var) ∧ (evL vs l).2 ≠ 0) := by
  have hl := validL_len h
  obtain ⟨k1, k2⟩ := validL_K h
  have hp : 0 ≤ (12 - (l.Terms.length : Int)) * 1000000000000000 := Int.mul_nonneg (by omega) (by omega)
  unfold evL
  rw [h, cond_true]
  rcases evG_loop vs l.Terms l.Const (fun t ht => (validL_C h t ht).1) hl (by omega) (by omega) with ⟨e1, e2⟩ | ⟨e1, e, e2, e3⟩
  · exact .inl ⟨by rw [e1]; rfl, e2⟩
  · refine .inr ⟨e1, ?_⟩
    rw [e3]
    rcases e2 with rfl | rfl <;> simp [outP]
theorem evL_ok {vs : List Value} {l : Linear} (h : (evL vs l).2 = 0) : validL l = true ∧ (evL vs l).1 = lin (vv vs) l ∧ ∀ t ∈ l.Terms, hasV vs t.Var := by
  cases hv : validL l with
  | false => unfold evL at h; rw [hv] at h; simp at h
  | true =>
    rcases evL_cases vs l hv with ⟨e1, e2⟩ | ⟨_, e⟩
    · exact ⟨rfl, by rw [e1], e2⟩
    · exact absurd h e
theorem evL_of {vs : List Value} {l : Linear} (h : validL l = true) (hh : ∀ t ∈ l.Terms, hasV vs t.Var) : evL vs l = (lin (vv vs) l, 0) := by
  rcases evL_cases vs l h with ⟨e1, _⟩ | ⟨⟨t, ht, e⟩, _⟩
  · exact e1
  · exact absurd (hh t ht) e
end Go.Proofs.YtopejmjihbkieaaGreatDoor

/- PLAIN LAWS: sums by name, and substitution, as linear forms. -/
namespace Go.Sh
def linM (f : Str → Int) : List (Str × Int) → Int
  | [] => 0
  | (k, c) :: m => c * f k + linM f m
theorem mput_lin (f : Str → Int) (x : Str) (v : Int) : ∀ m : List (Str × Int), linM f (mput x v m) = linM f m + (v - mget 0 x m) * f x
  | [] => by simp [mput, mget, linM]
  | (k, u) :: m => by
    by_cases h : k = x
    · subst h
      simp only [mput, mget, if_pos, linM]
      rw [Int.sub_mul]; omega
    · simp only [mput, mget, if_neg h, linM]
      rw [mput_lin f x v m]; omega
theorem mget_mput (x y : Str) (v : Int) : ∀ m : List (Str × Int), mget 0 y (mput x v m) = if x = y then v else mget 0 y m
  | [] => by simp [mput, mget]
  | (k, u) :: m => by
    by_cases h : k = x
    · subst h
      simp only [mput, mget, if_pos]
      by_cases h2 : k = y
      · simp [h2]
      · simp [h2]
    · simp only [mput, if_neg h, mget]
      rw [mget_mput x y v m]
      by_cases h2 : k = y
      · subst h2; simp [Ne.symm h]
      · simp [h2]
theorem mput_keys (x : Str) (v : Int) : ∀ m : List (Str × Int), (mput x v m).map (·.1) = if x ∈ m.map (·.1) then m.map (·.1) else m.map (·.1) ++ [x]
  | [] => by simp [mput]
  | (k, u) :: m => by
    by_cases h : k = x
    · subst h; simp [mput]
    · simp only [mput, if_neg h, List.map_cons, mput_keys x v m, List.mem_cons, Ne.symm h, false_or]
      split <;> simp
/-- A map of few names with numbers that are not great. -/
structure Sm (B : Int) (K : Nat) (m : List (Str × Int)) : Prop where
  bd : ∀ x, -B ≤ mget 0 x m ∧ mget 0 x m ≤ B
  len : m.length ≤ K
  nd : (m.map (·.1)).Nodup
  key : ∀ x ∈ m.map (·.1), x.length ≤ 1000000
theorem Sm.nil : Sm 0 0 [] := ⟨fun x => by simp [mget], by simp, by simp, by simp⟩
theorem Sm.put {B : Int} {K : Nat} {m : List (Str × Int)} (h : Sm B K m) {x : Str} {v : Int} {B' : Int} (hx : x.length ≤ 1000000) (hB : B ≤ B') (h1 : -B' ≤ v) (h2 : v ≤ B') : Sm B' (K + 1) (mput x v m) := by
  refine ⟨fun y => ?_, ?_, ?_, fun y hy => ?_⟩
  · rw [mget_mput]
    split
    · exact ⟨h1, h2⟩
    · have := h.bd y; omega
  · have e := congrArg List.length (mput_keys x v m)
    have := h.len
    split at e <;> simp at e <;> omega
  · rw [mput_keys]
    split
    · exact h.nd
    · rename_i hn
      rw [List.nodup_append]
      exact ⟨h.nd, by simp, fun a ha b hb => by
        have : b = x := by simpa using hb
        subst this; intro e; subst e; exact hn ha⟩
  · rw [mput_keys] at hy
    split at hy
    · exact h.key y hy
    · rcases List.mem_append.1 hy with hy | hy
      · exact h.key y hy
      · have : y = x := by simpa using hy
        subst this; exact hx
theorem Sm.mono {B B' : Int} {K K' : Nat} {m : List (Str × Int)} (h : Sm B K m) (h1 : B ≤ B') (h2 : K ≤ K') : Sm B' K' m :=
  ⟨fun x => by have := h.bd x; omega, by have := h.len; omega, h.nd, h.key⟩
theorem nodupB_of : ∀ {l : List Str}, l.Nodup → nodupB l = true
  | [], _ => rfl
  | x :: l, h => by
    rw [List.nodup_cons] at h
    simp only [nodupB, Bool.and_eq_true, Bool.not_eq_true', List.any_eq_false, beq_iff_eq]
    exact ⟨fun y hy e => h.1 (e ▸ hy), nodupB_of h.2⟩
end Go.Sh
namespace Go.Proofs.YtopejmjihbkieaaGreatDoor
open Go.Ab Go.Sh
theorem sm_good {B : Int} {K : Nat} {m : List (Str × Int)} (h : Sm B K m) (hK : K ≤ 1000) : goodM m = true := by
  simp only [goodM, Bool.and_eq_true, decide_eq_true_eq, List.all_eq_true]
  refine ⟨nodupB_of h.nd, by have := h.len; omega, fun e he => h.key e.1 (List.mem_map.2 ⟨e, he, rfl⟩)⟩
/-- To add k times an expression, term by term. -/
def addG (k : Int) (t : Coef) (m : List (Str × Int)) : List (Str × Int) := mput t.Var (w64 ((mget 0 t.Var m) + (w64 (k * t.C)))) m
def addM (l : Linear) (k : Int) (n : Int) (m : List (Str × Int)) : Int × List (Str × Int) := (w64 (n + w64 (k * l.Const)), l.Terms.foldl (fun m t => addG k t m) m)
theorem linear_sum_add_eq (l : Linear) (k n : Int) (m : List (Str × Int)) : linear_sum_add l k n m = some (addM l k n m) := by
  unfold linear_sum_add
  obtain ⟨s', e1, e2, _⟩ := cnt_go (σ := List (Str × Int)) (ε := (Int × (List (Str × Int)))) (ρ := (Int × (List (Str × Int)))) (fin := fun _ s41 => ((w64 (n + (w64 (k * l.Const)))), s41))
    (body := fun i42 s41 =>
    some (.go (mput ((l.Terms.getD i42 ⟨[], 0⟩).Var) (w64 ((mget 0 ((l.Terms.getD i42 ⟨[], 0⟩).Var) s41) + (w64 (k * ((l.Terms.getD i42 ⟨[], 0⟩).C))))) s41)))
    (fun j m => addG k (l.Terms.getD j ⟨[], 0⟩) m) (fun _ _ => True) (l.Terms.length - 0) 0 m trivial (fun j s _ _ _ => ⟨rfl, trivial⟩)
  rw [e1]
  simp only [Option.bind_some, Sh.aft, addM, Option.some.injEq]
  rw [e2]
  have := foldl_getD (fun (m : List (Str × Int)) (t : Coef) => addG k t m) ⟨[], 0⟩ l.Terms 0 m
  rw [this]; rfl
theorem mul_swap (a b c : Int) : a * b * c = a * (b * c) := Int.mul_assoc a b c
/-- What adding k times an expression does, as a linear form. -/
theorem foldl_sm (f : Str → Int) (k : Int) (hk : -1000000 ≤ k ∧ k ≤ 1000000) : ∀ (ts : List Coef) (m : List (Str × Int)) (B : Int) (K : Nat), (∀ t ∈ ts, (-1000000 ≤ t.C ∧ t.C ≤ 1000000) ∧ t.Var.length ≤ 1000000) →
    Sm B K m → 0 ≤ B → B + (ts.length : Int) * 1000000000000 ≤ 9000000000000000000 →
    Sm (B + (ts.length : Int) * 1000000000000) (K + ts.length) (ts.foldl (fun m t => addG k t m) m) ∧ linM f (ts.foldl (fun m t => addG k t m) m) = linM f m + k * linT f ts
  | [], m, B, K, _, hs, _, _ => ⟨by simpa using hs, by simp [linT]⟩
  | t :: ts, m, B, K, hC, hs, hB, hle => by
    obtain ⟨⟨c1, c2⟩, hv⟩ := hC t (by simp)
    obtain ⟨b1, b2⟩ := prod_bound hk.1 hk.2 c1 c2
    have hlen : (((t :: ts).length : Nat) : Int) = (ts.length : Int) + 1 := by simp
    rw [hlen] at hle
    have hle' : B + ((ts.length : Int) * 1000000000000 + 1000000000000) ≤ 9000000000000000000 := by
      rw [Int.add_mul] at hle; omega
    have hp : 0 ≤ (ts.length : Int) * 1000000000000 := by omega
    obtain ⟨m1, m2⟩ := hs.bd t.Var
    have e : addG k t m = mput t.Var (mget 0 t.Var m + k * t.C) m := by
      unfold addG
      rw [w64_id (n := k * t.C) (by unfold I64; omega), w64_id (by unfold I64; omega)]
    have hs1 := hs.put (v := mget 0 t.Var m + k * t.C) (B' := B + 1000000000000) hv (by omega) (by omega) (by omega)
    rw [← e] at hs1
    obtain ⟨g1, g2⟩ := foldl_sm f k hk ts (addG k t m) (B + 1000000000000) (K + 1) (fun x hx => hC x (by simp [hx])) hs1 (by omega) (by omega)
    rw [List.foldl_cons, hlen]
    refine ⟨?_, ?_⟩
    · have e1 : B + 1000000000000 + (ts.length : Int) * 1000000000000 = B + ((ts.length : Int) + 1) * 1000000000000 := by rw [Int.add_mul]; omega
      have e2 : K + 1 + ts.length = K + (t :: ts).length := by simp; omega
      rw [← e1, ← e2]; exact g1
    · rw [g2, e, mput_lin]
      simp only [linT]
      rw [Int.mul_add, show mget 0 t.Var m + k * t.C - mget 0 t.Var m = k * t.C by omega, mul_swap]; omega
/-! ### what a sum is -/
theorem linT_perm (f : Str → Int) {a b : List Coef} (h : a.Perm b) : linT f a = linT f b := by
  induction h with
  | nil => rfl
  | cons x _ ih => simp only [linT, ih]
  | swap x y l => simp only [linT]; omega
  | trans _ _ h1 h2 => exact h1.trans h2
theorem mget_skip {k x : Str} {u : Int} {m : List (Str × Int)} (h : k ≠ x) : mget 0 x ((k, u) :: m) = mget 0 x m := by simp [mget, h]
theorem names_sub (m : List (Str × Int)) {x : Str} (h : x ∈ namesOf m) : x ∈ m.map (·.1) := by
  unfold namesOf at h
  obtain ⟨e, he, rfl⟩ := List.mem_map.1 h
  exact List.mem_map.2 ⟨e, (List.mem_filter.1 he).1, rfl⟩
theorem names_lin (f : Str → Int) : ∀ m : List (Str × Int), (m.map (·.1)).Nodup → linT f ((namesOf m).map fun k => Coef.mk k (mget 0 k m)) = linM f m
  | [], _ => rfl
  | (k, u) :: m, h => by
    rw [List.map_cons, List.nodup_cons] at h
    have ih := names_lin f m h.2
    have hskip : (namesOf m).map (fun x => Coef.mk x (mget 0 x ((k, u) :: m))) = (namesOf m).map fun x => Coef.mk x (mget 0 x m) := by
      refine List.map_congr_left fun x hx => ?_
      rw [mget_skip fun e => h.1 (by subst e; exact names_sub m hx)]
    by_cases hu : u = 0
    · subst hu
      have e : namesOf ((k, (0 : Int)) :: m) = namesOf m := by simp [namesOf]
      rw [e, hskip, ih]; simp [linM]
    · have e : namesOf ((k, u) :: m) = k :: namesOf m := by simp [namesOf, hu]
      rw [e, List.map_cons, hskip]
      simp only [linT, ih, linM]
      simp [mget]
theorem endSum_ok {n : Int} {m : List (Str × Int)} {B : Int} {K : Nat} (hs : Sm B K m) (f : Str → Int) (h : (endSum n m (sortI (namesOf m))).2 = 0) : validL (endSum n m (sortI (namesOf m))).1 = true ∧ lin f (endSum n m (sortI (namesOf m))).1 = n + linM f m := by
  unfold endSum at h ⊢
  cases hv : validL (Linear.mk n ((sortI (namesOf m)).map fun k => Coef.mk k (mget 0 k m))) with
  | false => rw [hv] at h; simp at h
  | true =>
    simp only [cond_true, lin]
    refine ⟨hv, ?_⟩
    rw [linT_perm f ((sortI_perm (namesOf m)).map _), names_lin f m hs.nd]
/-! ### substitution -/
def sbG (bs : List Bind) (t : Coef) (s : Int × List (Str × Int)) : Stp (Int × List (Str × Int)) (Int × List (Str × Int)) (Linear × Int) :=
  bif decide (idxOf (isB 1 t.Var) bs < 0) then .go (s.1, mput t.Var (w64 (mget 0 t.Var s.2 + t.C)) s.2) else
  bif validL (bs.getD (idxOf (isB 1 t.Var) bs).toNat bd0).Dim then .go (addM (bs.getD (idxOf (isB 1 t.Var) bs).toNat bd0).Dim t.C s.1 s.2) else .ret ((Linear.mk 0 []), 1)
/-- What a variable stands for. -/
def sv (bs : List Bind) (f : Str → Int) (v : Str) : Int := bif decide (idxOf (isB 1 v) bs < 0) then f v else lin f (bs.getD (idxOf (isB 1 v) bs).toNat bd0).Dim
theorem bind_find (bs : List Bind) (v : Str) (c : Int) : slices_IndexFunc_api_Bind_2 bs v c = some (idxOf (isB 1 v) bs) := by
  unfold slices_IndexFunc_api_Bind_2
  rw [cnt_find (f := fun j => ((j : Nat) : Int)) (fun j => isB 1 v (bs.getD j bd0)) _ _ () (fun j u _ _ => by
    unfold linear_Subst_1 isB
    simp only
    cases (bs.getD j bd0).Kind == 1
    · rfl
    · cases (bs.getD j bd0).Var == v <;> rfl)]
  exact find_out bs (isB 1 v) _ (find_idx0 (isB 1 v) bd0 bs)
def outS (o : Out (Int × List (Str × Int)) (Linear × Int)) : Linear × Int := match o with | .brk u => endSum u.1 u.2 (sortI (namesOf u.2)) | .ret r => r
def sbL (bs : List Bind) (l : Linear) : Linear × Int := bif validL l then outS (loopL (sbG bs) (fun s => s) l.Terms (l.Const, [])) else ((Linear.mk 0 []), 1)
def St (j : Nat) (c : Int) (s : Int × List (Str × Int)) : Prop := Sm ((j : Int) * 12000000000000) (12 * j) s.2 ∧ -(1000000 + (j : Int) * 1000000000000) ≤ s.1 ∧ s.1 ≤ 1000000 + (j : Int) * 1000000000000
theorem sbG_step (bs : List Bind) (f : Str → Int) (t : Coef) (c : Int) (j : Nat) (hj : j < 12) (ht : (-1000000 ≤ t.C ∧ t.C ≤ 1000000) ∧ nameS t.Var = true) (s s' : Int × List (Str × Int)) (hs : St j c s) (h : sbG bs t s = .go s') :
    St (j + 1) c s' ∧ s'.1 + linM f s'.2 = s.1 + linM f s.2 + t.C * sv bs f t.Var := by
  have hn := name_len ht.2
  have ej : ((j + 1 : Nat) : Int) * 12000000000000 = (j : Int) * 12000000000000 + 12000000000000 := by omega
  obtain ⟨h1, h2, h3⟩ := hs
  unfold sbG at h
  by_cases h0 : idxOf (isB 1 t.Var) bs < 0
  · rw [decide_eq_true h0, cond_true] at h
    have e : s' = (s.1, mput t.Var (w64 (mget 0 t.Var s.2 + t.C)) s.2) := by
      injection h with h; exact h.symm
    obtain ⟨m1, m2⟩ := h1.bd t.Var
    have hw : w64 (mget 0 t.Var s.2 + t.C) = mget 0 t.Var s.2 + t.C := w64_id (by unfold I64; omega)
    rw [hw] at e
    subst e
    refine ⟨⟨(h1.put (v := mget 0 t.Var s.2 + t.C) (B' := ((j + 1 : Nat) : Int) * 12000000000000) (by omega) (by omega) (by omega) (by omega)).mono (Int.le_refl _) (by omega), by simp only; omega, by simp only; omega⟩, ?_⟩
    simp only
    rw [mput_lin, show mget 0 t.Var s.2 + t.C - mget 0 t.Var s.2 = t.C by omega]
    simp only [sv, decide_eq_true h0, cond_true]; omega
  · rw [decide_eq_false h0, cond_false] at h
    generalize hD : (bs.getD (idxOf (isB 1 t.Var) bs).toNat bd0).Dim = D at h
    cases hv : validL D with
    | false => rw [hv, cond_false] at h; cases h
    | true =>
      rw [hv, cond_true] at h
      have e : s' = addM D t.C s.1 s.2 := by
        injection h with h; exact h.symm
      subst e
      obtain ⟨k1, k2⟩ := validL_K hv
      have hl := validL_len hv
      obtain ⟨b1, b2⟩ := prod_bound ht.1.1 ht.1.2 k1 k2
      obtain ⟨g1, g2⟩ := foldl_sm f t.C ht.1 D.Terms s.2 ((j : Int) * 12000000000000) (12 * j) (fun x hx => ⟨(validL_C hv x hx).1, by have := name_len (validL_C hv x hx).2; omega⟩) h1 (by omega) (by omega)
      have hw : w64 (s.1 + w64 (t.C * D.Const)) = s.1 + t.C * D.Const := by
        rw [w64_id (n := t.C * D.Const) (by unfold I64; omega), w64_id (by unfold I64; omega)]
      refine ⟨⟨g1.mono (by omega) (by omega), ?_, ?_⟩, ?_⟩
      · simp only [addM, hw]; omega
      · simp only [addM, hw]; omega
      · simp only [addM, hw, g2, sv, decide_eq_false h0, cond_false, hD, lin]
        rw [Int.mul_add]; omega
theorem sb_loop (bs : List Bind) (f : Str → Int) (c : Int) (ts : List Coef) : ∀ (j : Nat) (s : Int × List (Str × Int)), j + ts.length ≤ 12 → (∀ t ∈ ts, (-1000000 ≤ t.C ∧ t.C ≤ 1000000) ∧ nameS t.Var = true) → St j c s →
    (∃ u, loopL (sbG bs) (fun s => s) ts s = .brk u ∧ St (j + ts.length) c u ∧ u.1 + linM f u.2 = s.1 + linM f s.2 + linT (sv bs f) ts) ∨ loopL (sbG bs) (fun s => s) ts s = .ret ((Linear.mk 0 []), 1) := by
  induction ts with
  | nil => exact fun j s _ _ hs => .inl ⟨s, rfl, hs, by simp [linT]⟩
  | cons t ts ih =>
    intro j s hj hC hs
    have hj' : j + 1 + ts.length ≤ 12 := by simp at hj; omega
    have hret : ∀ r, sbG bs t s = .ret r → r = ((Linear.mk 0 []), 1) := by
      intro r hg
      unfold sbG at hg
      cases h1 : decide (idxOf (isB 1 t.Var) bs < 0) <;> cases h2 : validL (bs.getD (idxOf (isB 1 t.Var) bs).toNat bd0).Dim <;> rw [h1, h2] at hg <;> first | (injection hg with hg; exact hg.symm) | cases hg
    have hbrk : ∀ e, sbG bs t s ≠ .brk e := by
      intro e hg
      unfold sbG at hg
      cases h1 : decide (idxOf (isB 1 t.Var) bs < 0) <;> cases h2 : validL (bs.getD (idxOf (isB 1 t.Var) bs).toNat bd0).Dim <;> rw [h1, h2] at hg <;> cases hg
    have hgo := fun s' => sbG_step bs f t c j (by simp at hj; omega) (hC t (by simp)) s s'
    simp only [loopL]
    generalize sbG bs t s = R at hret hbrk hgo
    cases R with
    | go s' =>
      obtain ⟨h1, h2⟩ := hgo s' hs rfl
      rcases ih (j + 1) s' hj' (fun x hx => hC x (by simp [hx])) h1 with ⟨u, e1, e2, e3⟩ | e
      · refine .inl ⟨u, e1, ?_, ?_⟩
        · rw [show j + (t :: ts).length = j + 1 + ts.length by simp; omega]; exact e2
        · rw [e3, h2]; simp only [linT]; omega
      · exact .inr e
    | brk e => exact absurd rfl (hbrk e)
    | ret r => exact .inr (by rw [hret r rfl])
theorem St0 (l : Linear) (h : validL l = true) : St 0 l.Const (l.Const, []) := by
  obtain ⟨k1, k2⟩ := validL_K h
  exact ⟨Sm.nil, by simp only; omega, by simp only; omega⟩
theorem linear_Subst_eq (l : Linear) (bs : List Bind) (h : okL l) (hb : ∀ b ∈ bs, okB b) : linear_Subst l bs = some (sbL bs l) := by
  unfold linear_Subst sbL
  rw [linear_Valid_eq l h.1 h.2]
  simp only [Option.bind_some]
  cases hv : validL l with
  | false => rfl
  | true =>
    simp only [cond_true]
    rw [cnt_list0 (fin := fun _ s => (s.1, s.2)) (f := fun s => s) ⟨[], 0⟩ l.Terms (sbG bs) (fun _ _ => True) (fun _ _ => rfl) (l.Const, []) trivial (fun j s hj _ => ⟨by
      rw [bind_find]
      simp only [Option.bind_some, sbG]
      generalize ht : l.Terms.getD j ⟨[], 0⟩ = t
      by_cases h0 : idxOf (isB 1 t.Var) bs < 0
      · rw [decide_eq_true h0]; rfl
      · rw [decide_eq_false h0]
        simp only [cond_false]
        rw [grd_pos ⟨by omega, idxOf_lt _ bd0 _⟩]
        have hk := okB_getD hb (idxOf (isB 1 t.Var) bs).toNat
        rw [eta_L, linear_Valid_eq _ hk.2.1.1 hk.2.1.2]
        simp only [Option.bind_some]
        cases validL (bs.getD (idxOf (isB 1 t.Var) bs).toNat bd0).Dim with
        | false => rfl
        | true => simp only [cond_true]; rw [linear_sum_add_eq]; rfl, fun _ _ => trivial⟩)]
    rcases sb_loop bs (fun _ => 0) l.Const l.Terms 0 (l.Const, []) (by have := validL_len hv; omega) (validL_C hv) (St0 l hv) with ⟨u, e1, e2, _⟩ | e
    · rw [e1]
      simp only [Option.bind_some, Sh.aft, outS]
      rw [sum_result_eq u.1 u.2 (sm_good e2.1 (by have := validL_len hv; omega))]
      rfl
    · rw [e]; rfl
theorem sbL_ok {bs : List Bind} {l : Linear} (h : (sbL bs l).2 = 0) (f : Str → Int) : validL l = true ∧ validL (sbL bs l).1 = true ∧ lin f (sbL bs l).1 = lin (sv bs f) l := by
  cases hv : validL l with
  | false => unfold sbL at h; rw [hv] at h; simp at h
  | true =>
    unfold sbL at h ⊢
    rw [hv, cond_true] at h ⊢
    rcases sb_loop bs f l.Const l.Terms 0 (l.Const, []) (by have := validL_len hv; omega) (validL_C hv) (St0 l hv) with ⟨u, e1, e2, e3⟩ | e
    · rw [e1] at h ⊢
      simp only [outS] at h ⊢
      obtain ⟨g1, g2⟩ := endSum_ok e2.1 f h
      refine ⟨by simp, g1, ?_⟩
      rw [g2, e3]; simp only [linM, lin]; omega
    · rw [e] at h; simp [outS] at h
end Go.Proofs.YtopejmjihbkieaaGreatDoor

/- PLAIN LAWS: shapes substituted and evaluated; the statement ShapeValues. -/
namespace Go.Sh
theorem loop_snoc {α ρ : Type} : ∀ (l acc : List α), loopL (ρ := ρ) (fun x acc => Stp.go (acc ++ [x])) (fun s => s) l acc = .brk (acc ++ l)
  | [], acc => by simp [loopL]
  | x :: l, acc => by simp only [loopL]; rw [loop_snoc l]; simp
end Go.Sh
namespace Go.Proofs.YtopejmjihbkieaaGreatDoor
open Go.Ab Go.Sh
theorem shape_clones_eq (ls : List Linear) (h : ∀ l ∈ ls, okL l) (hl : ls.length ≤ 1000000) : shape_clones ls = some ls := by
  unfold shape_clones
  rw [cnt_list0 (fin := fun _ s => s) (f := fun s => s) ⟨0, []⟩ ls (fun x acc => Stp.go (acc ++ [x])) (fun j s => s.length = j) (fun _ _ => rfl) [] rfl (fun j s hj hI => ⟨by
    rw [clone_eq _ (okL_getD h j).1]
    simp only [Option.bind_some]
    rw [grd_pos (by omega)], fun s' e => by injection e with e; subst e; simp [hI]⟩)]
  rw [loop_snoc]; simp [aftE]
theorem shape_made_eq (row : Str) (ls : List Linear) (h : ∀ l ∈ ls, okL l) : shape_made row ls = some (bif decide (ls.length ≤ 6) then (Shape.mk row ls, 0) else (Shape.mk [] [], 3)) := by
  unfold shape_made
  by_cases h6 : ls.length ≤ 6
  · rw [decide_eq_true h6, decide_eq_false (by omega), cond_false, shape_clones_eq ls h (by omega)]; rfl
  · rw [decide_eq_false h6, decide_eq_true (by omega)]; rfl
def rowOf (bs : List Bind) (s : Shape) : Str × List Linear :=
  bif (bif s.Row.isEmpty then false else decide (idxOf (isB 2 s.Row) bs ≥ 0)) then ((bs.getD (idxOf (isB 2 s.Row) bs).toNat bd0).Row.Row, (bs.getD (idxOf (isB 2 s.Row) bs).toNat bd0).Row.Dims) else (s.Row, [])
def sbD (bs : List Bind) (s : Shape) : Out (List Linear) (Shape × Int) :=
  loopL (fun x acc => bif (sbL bs x).2 == 0 then .go (acc ++ [(sbL bs x).1]) else .ret (Shape.mk [] [], (sbL bs x).2)) (fun s => s) s.Dims (rowOf bs s).2
def sbO (row : Str) (o : Out (List Linear) (Shape × Int)) : Shape × Int := match o with | .brk ds => (bif decide (ds.length ≤ 6) then (Shape.mk row ds, 0) else (Shape.mk [] [], 3)) | .ret r => r
def sbS (bs : List Bind) (s : Shape) : Shape × Int := bif validS s then (bif validBs bs then sbO (rowOf bs s).1 (sbD bs s) else (Shape.mk [] [], 1)) else (Shape.mk [] [], 1)
theorem sbD_cases (bs : List Bind) (s : Shape) : (sbD bs s = .brk ((rowOf bs s).2 ++ s.Dims.map fun d => (sbL bs d).1) ∧ ∀ d ∈ s.Dims, (sbL bs d).2 = 0) ∨ ∃ d ∈ s.Dims, (sbL bs d).2 ≠ 0 ∧ sbD bs s = .ret (Shape.mk [] [], (sbL bs d).2) := by
  unfold sbD
  rcases loop_map (ρ := Shape × Int) (fun d => (sbL bs d).2 == 0) (fun d => (sbL bs d).1) (fun d => (Shape.mk [] [], (sbL bs d).2)) s.Dims (rowOf bs s).2 with ⟨h1, h2⟩ | ⟨d, h1, h2, h3⟩
  · exact .inl ⟨h1, fun d hd => by simpa using List.all_eq_true.1 h2 d hd⟩
  · exact .inr ⟨d, h1, by simpa using h2, h3⟩
theorem rowOf_ok (bs : List Bind) (s : Shape) (hs : okS s) (hb : ∀ b ∈ bs, okB b ∧ b.Row.Dims.length ≤ 8) : (rowOf bs s).1.length ≤ 1000000 ∧ (∀ l ∈ (rowOf bs s).2, okL l) ∧ (rowOf bs s).2.length ≤ 8 := by
  unfold rowOf
  cases (bif s.Row.isEmpty then false else decide (idxOf (isB 2 s.Row) bs ≥ 0))
  · exact ⟨hs.1, fun l hl => by simp at hl, by simp⟩
  · have h1 := okB_getD (fun b hb' => (hb b hb').1) (idxOf (isB 2 s.Row) bs).toNat
    refine ⟨h1.2.2.1, h1.2.2.2, ?_⟩
    simp only [cond_true]
    rw [List.getD_eq_getElem?_getD]
    cases hx : bs[(idxOf (isB 2 s.Row) bs).toNat]? with
    | none => simp
    | some b => exact (hb b (List.mem_of_getElem? hx)).2
theorem sbD_ok (bs : List Bind) (s : Shape) (hs : okS s) (hb : ∀ b ∈ bs, okB b ∧ b.Row.Dims.length ≤ 8) {ds : List Linear} (h : sbD bs s = .brk ds) : ∀ l ∈ ds, okL l := by
  rcases sbD_cases bs s with ⟨e, h2⟩ | ⟨d, _, _, e⟩
  · rw [e] at h
    injection h with h
    subst h
    intro l hl
    rcases List.mem_append.1 hl with hl | hl
    · exact (rowOf_ok bs s hs hb).2.1 l hl
    · obtain ⟨d, hd, rfl⟩ := List.mem_map.1 hl
      exact okL_valid (sbL_ok (h2 d hd) (fun _ => 0)).2.1
  · rw [e] at h; cases h
theorem shape_Subst_eq (s : Shape) (bs : List Bind) (hs : okS s) (hb : ∀ b ∈ bs, okB b ∧ b.Row.Dims.length ≤ 8) : shape_Subst s bs = some (sbS bs s) := by
  have hb1 : ∀ b ∈ bs, okB b := fun b h => (hb b h).1
  unfold shape_Subst sbS
  rw [shape_Valid_eq s hs, shape_ValidBinds_eq bs hb1]
  simp only [Option.bind_some]
  cases hv : validS s with
  | false => rfl
  | true =>
    cases hvb : validBs bs with
    | false => rfl
    | true =>
      simp only [cond_true]
      rw [shape_find_eq]
      simp only [Option.bind_some]
      rw [nil_beq]
      have hr := rowOf_ok bs s hs hb
      have hrow : ((bif s.Row.isEmpty then some false else some (decide (idxOf (isB 2 s.Row) bs ≥ 0)) : Option Bool).bind fun v25 =>
      ((
        bif v25 then (
          grd (0 ≤ idxOf (isB 2 s.Row) bs ∧ idxOf (isB 2 s.Row) bs < (bs.length : Int)) <|
          (shape_clones (((bs.getD (idxOf (isB 2 s.Row) bs).toNat (⟨0, [], ⟨0, []⟩, ⟨[], []⟩, []⟩)).Row).Dims)).bind fun y53 =>
          some ((((bs.getD (idxOf (isB 2 s.Row) bs).toNat (⟨0, [], ⟨0, []⟩, ⟨[], []⟩, []⟩)).Row).Row), y53)
        ) else (
          some (s.Row, [])
        )
      ) : Option (Str × (List Linear)))) = some (rowOf bs s) := by
        unfold rowOf at hr ⊢
        cases hre : s.Row.isEmpty with
        | true => rfl
        | false =>
          simp only [hre, cond_false, Option.bind_some] at hr ⊢
          by_cases h0 : idxOf (isB 2 s.Row) bs ≥ 0
          · rw [decide_eq_true h0] at hr ⊢
            simp only [cond_true] at hr ⊢
            rw [grd_pos ⟨h0, idxOf_lt _ bd0 _⟩, shape_clones_eq _ hr.2.1 (by omega)]; rfl
          · rw [decide_eq_false h0]; rfl
      have key : ∀ (k : Str × List Linear → Option (Shape × Int)), ((bif s.Row.isEmpty then some false else some (decide (idxOf (isB 2 s.Row) bs ≥ 0)) : Option Bool).bind fun v25 =>
      ((
        bif v25 then (
          grd (0 ≤ idxOf (isB 2 s.Row) bs ∧ idxOf (isB 2 s.Row) bs < (bs.length : Int)) <|
          (shape_clones (((bs.getD (idxOf (isB 2 s.Row) bs).toNat (⟨0, [], ⟨0, []⟩, ⟨[], []⟩, []⟩)).Row).Dims)).bind fun y53 =>
          some ((((bs.getD (idxOf (isB 2 s.Row) bs).toNat (⟨0, [], ⟨0, []⟩, ⟨[], []⟩, []⟩)).Row).Row), y53)
        ) else (
          some (s.Row, [])
        )
      ) : Option (Str × (List Linear))).bind k) = k (rowOf bs s) := by
        intro k
        rw [← Option.bind_assoc, hrow]; rfl
      refine (key _).trans ?_
      have hd6 := (validS_dims hv).1
      rw [cnt_list0 (fin := fun _ s => s) (f := fun s => s) ⟨0, []⟩ s.Dims (fun x acc => bif (sbL bs x).2 == 0 then .go (acc ++ [(sbL bs x).1]) else .ret (Shape.mk [] [], (sbL bs x).2)) (fun j acc => acc.length ≤ 8 + j) (fun _ _ => rfl) (rowOf bs s).2 hr.2.2 (fun j acc hj hI => ⟨by
        rw [eta_L, linear_Subst_eq _ bs (okL_getD hs.2 j) hb1]
        simp only [Option.bind_some]
        cases (sbL bs (s.Dims.getD j ⟨0, []⟩)).2 == 0
        · rfl
        · simp only [cond_true]; rw [grd_pos (by omega)], fun s' e => by
        cases hz : (sbL bs (s.Dims.getD j ⟨0, []⟩)).2 == 0
        · rw [hz] at e; cases e
        · rw [hz, cond_true] at e; injection e with e; subst e; simp; omega⟩)]
      show ((some (sbD bs s)).bind (Sh.aft fun u140 => (shape_made (rowOf bs s).1 u140).bind fun y143 => some (y143.1, y143.2))) = _
      cases hD : sbD bs s with
      | ret r => rfl
      | brk ds =>
        simp only [Option.bind_some, Sh.aft, sbO]
        rw [shape_made_eq _ ds (sbD_ok bs s hs hb hD)]; rfl
theorem sbS_ok (bs : List Bind) (s : Shape) (hs : okS s) (hb : ∀ b ∈ bs, okB b ∧ b.Row.Dims.length ≤ 8) : okS (sbS bs s).1 := by
  have h0 : okS (Shape.mk [] []) := ⟨by simp, fun l hl => by simp at hl⟩
  unfold sbS
  cases validS s with
  | false => exact h0
  | true =>
    cases validBs bs with
    | false => exact h0
    | true =>
      simp only [cond_true]
      cases hD : sbD bs s with
      | ret r =>
        rcases sbD_cases bs s with ⟨e, h2⟩ | ⟨d, _, _, e⟩
        · rw [e] at hD; cases hD
        · rw [e] at hD; injection hD with hD; subst hD; exact h0
      | brk ds =>
        simp only [sbO]
        cases decide (ds.length ≤ 6)
        · exact h0
        · exact ⟨(rowOf_ok bs s hs hb).1, sbD_ok bs s hs hb hD⟩
theorem sbS_val (bs : List Bind) (s : Shape) (h : (sbS bs s).2 = 0) (hr : s.Row.isEmpty = true) : validS s = true ∧ (sbS bs s).1 = Shape.mk [] (s.Dims.map fun d => (sbL bs d).1) ∧ ∀ d ∈ s.Dims, (sbL bs d).2 = 0 := by
  unfold sbS at h ⊢
  cases hv : validS s with
  | false => rw [hv] at h; simp at h
  | true =>
    cases hb : validBs bs with
    | false => rw [hv, hb] at h; simp at h
    | true =>
      rw [hv, hb] at h
      simp only [cond_true] at h ⊢
      have e0 : rowOf bs s = ([], []) := by
        unfold rowOf; rw [hr]
        have : s.Row = [] := by simpa using hr
        rw [this]; rfl
      rcases sbD_cases bs s with ⟨e, h2⟩ | ⟨d, _, h3, e⟩
      · rw [e] at h ⊢
        rw [e0] at h ⊢
        simp only [sbO, List.nil_append] at h ⊢
        cases h6 : decide ((s.Dims.map fun d => (sbL bs d).1).length ≤ 6) with
        | false => rw [h6] at h; simp at h
        | true => exact ⟨trivial, rfl, h2⟩
      · rw [e] at h; exact absurd h h3
/-! ### evaluating -/
def evP (vs : List Value) (x : Linear) : Bool := (evL vs x).2 == 0 && (!decide ((evL vs x).1 < 0) && !decide ((evL vs x).1 > 4096))
def evE (vs : List Value) (x : Linear) : Int := bif (evL vs x).2 == 0 then 2 else (evL vs x).2
def evO (o : Out (List Int) (List Int × Int)) : List Int × Int := match o with | .brk l => (l, 0) | .ret r => r
def evS (vs : List Value) (s : Shape) : List Int × Int := bif validS s then (bif s.Row.isEmpty then evO (loopL (fun x acc => bif evP vs x then .go (acc ++ [(evL vs x).1]) else .ret ([], evE vs x)) (fun s => s) s.Dims []) else ([], 13)) else ([], 1)
theorem shape_Eval_eq (s : Shape) (vs : List Value) (hs : okS s) : shape_Eval s vs = some (evS vs s) := by
  unfold shape_Eval evS
  rw [shape_Valid_eq s hs, nil_beq]
  simp only [Option.bind_some]
  cases hv : validS s with
  | false => rfl
  | true =>
    cases s.Row.isEmpty with
    | false => rfl
    | true =>
      simp only [cond_true]
      have hd6 := (validS_dims hv).1
      rw [cnt_list0 (fin := fun _ s => s) (f := fun s => s) ⟨0, []⟩ s.Dims (fun x acc => bif evP vs x then .go (acc ++ [(evL vs x).1]) else .ret ([], evE vs x)) (fun j acc => acc.length ≤ j) (fun _ _ => rfl) [] (by simp) (fun j acc hj hI => ⟨by
        rw [eta_L, linear_Eval_eq _ vs (okL_getD hs.2 j)]
        simp only [Option.bind_some, evP, evE]
        cases (evL vs (s.Dims.getD j ⟨0, []⟩)).2 == 0
        · rfl
        · cases decide ((evL vs (s.Dims.getD j ⟨0, []⟩)).1 < 0)
          · cases decide ((evL vs (s.Dims.getD j ⟨0, []⟩)).1 > 4096)
            · simp only [cond_true, cond_false, Bool.not_false, Bool.and_self]; rw [grd_pos (by omega)]
            · rfl
          · rfl, fun s' e => by
        cases hz : evP vs (s.Dims.getD j ⟨0, []⟩)
        · rw [hz] at e; cases e
        · rw [hz, cond_true] at e; injection e with e; subst e; simp; omega⟩)]
      generalize loopL (fun x acc => bif evP vs x then Stp.go (acc ++ [(evL vs x).1]) else Stp.ret ([], evE vs x)) (fun s => s) s.Dims [] = o
      cases o <;> rfl
theorem evS_ok {vs : List Value} {s : Shape} (h : (evS vs s).2 = 0) : validS s = true ∧ (evS vs s).1 = s.Dims.map (fun d => (evL vs d).1) ∧ ∀ d ∈ s.Dims, evP vs d = true := by
  unfold evS at h ⊢
  cases hv : validS s with
  | false => rw [hv] at h; simp at h
  | true =>
    cases hr : s.Row.isEmpty with
    | false => rw [hv, hr] at h; simp at h
    | true =>
      rw [hv, hr] at h
      simp only [cond_true] at h ⊢
      rcases loop_map (ρ := List Int × Int) (fun d => evP vs d) (fun d => (evL vs d).1) (fun d => ([], evE vs d)) s.Dims [] with ⟨h1, h2⟩ | ⟨d, h1, h2, h3⟩
      · rw [h1]; exact ⟨trivial, by simp [evO], fun d hd => List.all_eq_true.1 h2 d hd⟩
      · rw [h3] at h
        simp only [evO, evE] at h
        cases hz : (evL vs d).2 == 0 with
        | true => rw [hz] at h; simp at h
        | false => rw [hz, cond_false] at h; rw [h] at hz; simp at hz
theorem evS_of {vs : List Value} {s : Shape} (hv : validS s = true) (hr : s.Row.isEmpty = true) (h : ∀ d ∈ s.Dims, evP vs d = true) : evS vs s = (s.Dims.map (fun d => (evL vs d).1), 0) := by
  unfold evS
  rw [hv, hr]
  simp only [cond_true]
  rcases loop_map (ρ := List Int × Int) (fun d => evP vs d) (fun d => (evL vs d).1) (fun d => ([], evE vs d)) s.Dims [] with ⟨h1, h2⟩ | ⟨d, h1, h2, h3⟩
  · rw [h1]; simp [evO]
  · rw [h d h1] at h2; cases h2
theorem ref11_SameInts_self (l : List Int) : ref11_SameInts l l = some true := by
  unfold ref11_SameInts
  rw [beq_self_eq_true]
  simp only [cond_true]
  rw [cnt_all (r := false) (fun _ => true) _ _ () (fun j u _ hj => by
    rw [grd_pos (by omega)]
    simp), aft_bif]
  have ha : ∀ l : List Nat, l.all (fun _ => true) = true := by
    intro l
    induction l with
    | nil => rfl
    | cons x l ih => rw [List.all_cons, ih]; rfl
  rw [ha]; rfl
/-! ### the variables of a shape without a row -/
def Kd (out : List Bind) : Prop := ∀ b ∈ out, b.Kind = 1
theorem addV_kd {out : List Bind} (h : Kd out) (v : Str) : Kd (addV 1 out v) ∧ (∃ b ∈ addV 1 out v, b.Var = v) ∧ ∀ b ∈ out, b ∈ addV 1 out v := by
  unfold addV
  by_cases h0 : idxOf (isB 1 v) out ≥ 0
  · rw [decide_eq_true h0]
    obtain ⟨h1, h2⟩ := idxOf_pos (isB 1 v) bd0 out h0
    refine ⟨h, ⟨out.getD (idxOf (isB 1 v) out).toNat bd0, ?_, ?_⟩, fun b hb => hb⟩
    · rw [List.getD_eq_getElem?_getD, List.getElem?_eq_getElem h1]; exact List.getElem_mem h1
    · simp only [isB, Bool.and_eq_true, beq_iff_eq] at h2; exact h2.2
  · rw [decide_eq_false h0]
    refine ⟨fun b hb => ?_, ⟨mkV 1 v, by simp, rfl⟩, fun b hb => by simp [hb]⟩
    rcases List.mem_append.1 hb with hb | hb
    · exact h b hb
    · have : b = mkV 1 v := by simpa using hb
      subst this; rfl
theorem terms_kd : ∀ (ts : List Coef) {out : List Bind}, Kd out → Kd (ts.foldl (fun out t => addV 1 out t.Var) out) ∧ (∀ t ∈ ts, ∃ b ∈ ts.foldl (fun out t => addV 1 out t.Var) out, b.Var = t.Var) ∧ ∀ b ∈ out, b ∈ ts.foldl (fun out t => addV 1 out t.Var) out
  | [], out, h => ⟨h, by simp, fun b hb => hb⟩
  | t :: ts, out, h => by
    obtain ⟨a1, ⟨b0, a2, a2'⟩, a3⟩ := addV_kd h t.Var
    obtain ⟨b1, b2, b3⟩ := terms_kd ts a1
    simp only [List.foldl_cons]
    refine ⟨b1, fun x hx => ?_, fun b hb => b3 b (a3 b hb)⟩
    rcases List.mem_cons.1 hx with rfl | hx
    · exact ⟨b0, b3 b0 a2, a2'⟩
    · exact b2 x hx
theorem dims_kd : ∀ (ls : List Linear) {out : List Bind}, Kd out → Kd (ls.foldl (fun out l => l.Terms.foldl (fun out t => addV 1 out t.Var) out) out) ∧ (∀ l ∈ ls, ∀ t ∈ l.Terms, ∃ b ∈ ls.foldl (fun out l => l.Terms.foldl (fun out t => addV 1 out t.Var) out) out, b.Var = t.Var) ∧ ∀ b ∈ out, b ∈ ls.foldl (fun out l => l.Terms.foldl (fun out t => addV 1 out t.Var) out) out
  | [], out, h => ⟨h, by simp, fun b hb => hb⟩
  | l :: ls, out, h => by
    obtain ⟨a1, a2, a3⟩ := terms_kd l.Terms h
    obtain ⟨b1, b2, b3⟩ := dims_kd ls a1
    simp only [List.foldl_cons]
    refine ⟨b1, fun x hx t ht => ?_, fun b hb => b3 b (a3 b hb)⟩
    rcases List.mem_cons.1 hx with rfl | hx
    · obtain ⟨b, h1, h2⟩ := a2 t ht
      exact ⟨b, b3 b h1, h2⟩
    · exact b2 x hx t ht
theorem varsS_kd (s : Shape) (h : s.Row.isEmpty = true) : Kd (varsS s) ∧ ∀ l ∈ s.Dims, ∀ t ∈ l.Terms, ∃ b ∈ varsS s, b.Var = t.Var := by
  have := dims_kd s.Dims (out := []) (fun b hb => by simp at hb)
  unfold varsS
  rw [h]
  exact ⟨this.1, this.2.1⟩
theorem foldD_len : ∀ (ls : List Linear) (out : List Bind), (∀ l ∈ ls, l.Terms.length ≤ 12) → (ls.foldl (fun out l => l.Terms.foldl (fun out t => addV 1 out t.Var) out) out).length ≤ out.length + 12 * ls.length
  | [], out, _ => by simp
  | l :: ls, out, h => by
    have h1 := foldD_len ls (l.Terms.foldl (fun out t => addV 1 out t.Var) out) (fun x hx => h x (by simp [hx]))
    have h2 := foldl_len l.Terms out
    have h3 := h l (by simp)
    simp only [List.foldl_cons, List.length_cons]
    omega
/-! ### the statement -/
def dOf (bs : List Bind) (b : Bind) : Linear := bif decide (idxOf (isB b.Kind b.Var) bs ≥ 0) then (bs.getD (idxOf (isB b.Kind b.Var) bs).toNat bd0).Dim else Linear.mk 0 [Coef.mk b.Var 1]
def gvP (bs : List Bind) (vs : List Value) (b : Bind) : Bool := (evL vs (dOf bs b)).2 == 0 && (!decide ((evL vs (dOf bs b)).1 < (-1000000000)) && !decide ((evL vs (dOf bs b)).1 > 1000000000))
theorem linT_congr {f g : Str → Int} : ∀ (ts : List Coef), (∀ t ∈ ts, f t.Var = g t.Var) → linT f ts = linT g ts
  | [], _ => rfl
  | t :: ts, h => by simp only [linT]; rw [h t (by simp), linT_congr ts fun x hx => h x (by simp [hx])]
theorem given_vv (bs : List Bind) (vs : List Value) (bl : List Bind) (hk : Kd bl) (hp : ∀ b ∈ bl, gvP bs vs b = true) (v : Str) (hv : ∃ b ∈ bl, b.Var = v) :
    hasV (bl.map fun b => Value.mk b.Var (evL vs (dOf bs b)).1) v ∧ vv (bl.map fun b => Value.mk b.Var (evL vs (dOf bs b)).1) v = sv bs (vv vs) v := by
  have hall : ∀ e ∈ (bl.map fun b => Value.mk b.Var (evL vs (dOf bs b)).1), e.N = sv bs (vv vs) e.Var ∧ -1000000000 ≤ e.N ∧ e.N ≤ 1000000000 := by
    intro e he
    obtain ⟨b, hb, rfl⟩ := List.mem_map.1 he
    have h1 := hp b hb
    simp only [gvP, Bool.and_eq_true, Bool.not_eq_true', decide_eq_false_iff_not, beq_iff_eq] at h1
    refine ⟨?_, by simp only; omega, by simp only; omega⟩
    obtain ⟨_, e2, _⟩ := evL_ok h1.1
    show (evL vs (dOf bs b)).1 = sv bs (vv vs) b.Var
    rw [e2]
    simp only [sv, dOf, hk b hb]
    by_cases h0 : idxOf (isB 1 b.Var) bs < 0
    · rw [decide_eq_false (by omega), decide_eq_true h0]; simp [lin, linT]
    · rw [decide_eq_true (by omega), decide_eq_false h0]; rfl
  have h0 : 0 ≤ idxOf (isV v) (bl.map fun b => Value.mk b.Var (evL vs (dOf bs b)).1) := by
    refine Classical.byContradiction fun hn => ?_
    have := (idxOf_neg (isV v) _).1 (Int.not_le.1 hn)
    obtain ⟨b, hb, e⟩ := hv
    rw [List.any_eq_false] at this
    refine this (Value.mk b.Var (evL vs (dOf bs b)).1) (List.mem_map.2 ⟨b, hb, rfl⟩) ?_
    simp [isV, e]
  obtain ⟨h1, h2⟩ := idxOf_pos (isV v) ⟨[], 0⟩ _ h0
  have hm : (bl.map fun b => Value.mk b.Var (evL vs (dOf bs b)).1).getD (idxOf (isV v) (bl.map fun b => Value.mk b.Var (evL vs (dOf bs b)).1)).toNat ⟨[], 0⟩ ∈ (bl.map fun b => Value.mk b.Var (evL vs (dOf bs b)).1) := by
    rw [List.getD_eq_getElem?_getD, List.getElem?_eq_getElem h1]; exact List.getElem_mem h1
  obtain ⟨e1, e2, e3⟩ := hall _ hm
  have hvar : ((bl.map fun b => Value.mk b.Var (evL vs (dOf bs b)).1).getD (idxOf (isV v) (bl.map fun b => Value.mk b.Var (evL vs (dOf bs b)).1)).toNat ⟨[], 0⟩).Var = v := by simpa [isV] using h2
  rw [hvar] at e1
  exact ⟨⟨h0, e2, e3⟩, e1⟩
theorem values_main (s : Shape) (bs : List Bind) (vs : List Value) (h1 : (sbS bs s).2 = 0) (h2 : (evS vs (sbS bs s).1).2 = 0) (hr : s.Row.isEmpty = true) (hp : ∀ b ∈ varsS s, gvP bs vs b = true) :
    evS ((varsS s).map fun b => Value.mk b.Var (evL vs (dOf bs b)).1) s = ((evS vs (sbS bs s).1).1, 0) := by
  obtain ⟨k1, k2, k3⟩ := sbS_val bs s h1 hr
  obtain ⟨_, m2, m3⟩ := evS_ok h2
  rw [k2] at m2 m3
  obtain ⟨v1, v2⟩ := varsS_kd s hr
  have hd : ∀ d ∈ s.Dims, evL ((varsS s).map fun b => Value.mk b.Var (evL vs (dOf bs b)).1) d = ((evL vs (sbL bs d).1).1, 0) := by
    intro d hd
    have e := m3 (sbL bs d).1 (List.mem_map.2 ⟨d, hd, rfl⟩)
    simp only [evP, Bool.and_eq_true, beq_iff_eq] at e
    obtain ⟨_, e2, _⟩ := evL_ok e.1
    obtain ⟨g1, _, g3⟩ := sbL_ok (k3 d hd) (vv vs)
    have hg := fun t ht => given_vv bs vs (varsS s) v1 hp t.Var (v2 d hd t ht)
    rw [evL_of g1 fun t ht => (hg t ht).1, e2, g3]
    simp only [lin]
    rw [linT_congr d.Terms fun t ht => (hg t ht).2]
  rw [k2, m2, List.map_map, evS_of k1 hr]
  · congr 1
    exact List.map_congr_left fun d h => by rw [hd d h]; rfl
  · intro d h
    have e := m3 (sbL bs d).1 (List.mem_map.2 ⟨d, h, rfl⟩)
    simp only [evP, hd d h] at e ⊢
    simp only [Bool.and_eq_true] at e
    rw [Bool.and_eq_true]
    exact ⟨rfl, e.2 |> fun h => by simpa using h⟩
theorem values_law (x0 : Shape) (x1 : List Bind) (x2 : List Value) : law11_ShapeValues x0 x1 x2 = some true := by
  unfold law11_ShapeValues
  rw [law11_awake_true, ref11_Few_eq, ref11_FewBinds_eq]
  simp only [Option.bind_some, cond_true]
  cases h0 : fewS x0 with
  | false => rfl
  | true =>
    simp only [cond_true]
    cases h1 : fewBs x1 with
    | false => rfl
    | true =>
      simp only [cond_true]
      cases decide (((x2.length : Nat) : Int) > 10) with
      | true => rfl
      | false =>
        simp only [cond_false]
        have k0 := okS_few h0
        have k1 : ∀ b ∈ x1, okB b ∧ b.Row.Dims.length ≤ 8 := by
          simp only [fewBs, Bool.and_eq_true, List.all_eq_true] at h1
          intro b hb
          refine ⟨okB_few (h1.1 b hb), ?_⟩
          have := h1.1 b hb
          simp only [fewB, fewS, Bool.and_eq_true, decide_eq_true_eq] at this
          omega
        rw [shape_Subst_eq x0 x1 k0 k1]
        simp only [Option.bind_some]
        rw [shape_Eval_eq _ x2 (sbS_ok x1 x0 k0 k1), nil_beq]
        simp only [Option.bind_some]
        cases c1 : (sbS x1 x0).2 == 0 with
        | false => rfl
        | true =>
          cases c2 : (evS x2 (sbS x1 x0).1).2 == 0 with
          | false => rfl
          | true =>
            cases c3 : x0.Row.isEmpty with
            | false => rfl
            | true =>
              simp only [cond_true]
              have c1' : (sbS x1 x0).2 = 0 := by simpa using c1
              have c2' : (evS x2 (sbS x1 x0).1).2 = 0 := by simpa using c2
              obtain ⟨hv, _, _⟩ := sbS_val x1 x0 c1' c3
              obtain ⟨d6, d12⟩ := validS_dims hv
              have hlen : (varsS x0).length ≤ 100 := by
                have := foldD_len x0.Dims [] (fun l hl => by
                  obtain ⟨j, hj, rfl⟩ := List.getElem_of_mem hl
                  have := d12 j
                  simpa [List.getD_eq_getElem?_getD, List.getElem?_eq_getElem hj] using this)
                unfold varsS
                rw [c3]
                simp only [cond_true]
                simp at this; omega
              rw [ref11_Vars_eq, hv]
              simp only [Option.bind_some, cond_true]
              rw [cnt_list0 (fin := fun _ s => s) (f := fun s => s) bd0 (varsS x0) (fun b acc => bif gvP x1 x2 b then Stp.go (acc ++ [Value.mk b.Var (evL x2 (dOf x1 b)).1]) else Stp.ret true) (fun j acc => acc.length ≤ j) (fun _ _ => rfl) [] (by simp) (fun j acc hj hI => ⟨by
                rw [ref11_Find_eq]
                simp only [Option.bind_some]
                generalize hb : (varsS x0).getD j bd0 = b
                have hdo : ((bif decide (idxOf (isB b.Kind b.Var) x1 ≥ 0) then (
                      grd (0 ≤ idxOf (isB b.Kind b.Var) x1 ∧ idxOf (isB b.Kind b.Var) x1 < (x1.length : Int)) <|
                      some (true, (((x1.getD (idxOf (isB b.Kind b.Var) x1).toNat bd0).Dim).Const), (((x1.getD (idxOf (isB b.Kind b.Var) x1).toNat bd0).Dim).Terms))
                    ) else (
                      some (false, 0, [(Coef.mk (b.Var) 1)])
                    )) : Option (Bool × Int × (List Coef))) = some (decide (idxOf (isB b.Kind b.Var) x1 ≥ 0), (dOf x1 b).Const, (dOf x1 b).Terms) := by
                  unfold dOf
                  by_cases hz : idxOf (isB b.Kind b.Var) x1 ≥ 0
                  · rw [decide_eq_true hz]; simp only [cond_true]; rw [grd_pos ⟨hz, idxOf_lt _ bd0 _⟩]
                  · rw [decide_eq_false hz]; rfl
                rw [hdo]
                simp only [Option.bind_some]
                rw [eta_L, ref04_Eval_eq]
                simp only [Option.bind_some, gvP]
                cases (evL x2 (dOf x1 b)).2 == 0
                · rfl
                · cases decide ((evL x2 (dOf x1 b)).1 < (-1000000000))
                  · cases decide ((evL x2 (dOf x1 b)).1 > 1000000000)
                    · simp only [cond_true, cond_false, Bool.not_false, Bool.and_self]; rw [grd_pos (by omega)]
                    · rfl
                  · rfl, fun s' e => by
                cases hz : gvP x1 x2 ((varsS x0).getD j bd0)
                · rw [hz] at e; cases e
                · rw [hz, cond_true] at e; injection e with e; subst e; simp; omega⟩)]
              rcases loop_map (ρ := Bool) (fun b => gvP x1 x2 b) (fun b => Value.mk b.Var (evL x2 (dOf x1 b)).1) (fun _ => true) (varsS x0) [] with ⟨e1, e2⟩ | ⟨d, _, _, e3⟩
              · rw [e1]
                simp only [Option.bind_some, Sh.aft, List.nil_append]
                rw [shape_Eval_eq _ _ k0, values_main x0 x1 x2 c1' c2' c3 (fun b hb => List.all_eq_true.1 e2 b hb)]
                simp only [Option.bind_some, beq_self_eq_true, cond_true]
                rw [ref11_SameInts_self]; rfl
              · rw [e3]; rfl
end Go.Proofs.YtopejmjihbkieaaGreatDoor
