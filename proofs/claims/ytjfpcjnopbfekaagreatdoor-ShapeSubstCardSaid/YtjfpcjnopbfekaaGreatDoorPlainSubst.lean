/- Plain laws: what the walked functions compute answers as the statement says. -/
import Derived.Test.YtjfpcjnopbfekaaGreatDoorAbL
import Derived.Test.YtjfpcjnopbfekaaGreatDoorAbN
import Derived.Lib.ItoaNum
import Derived.Lib.ItoaMem
import Derived.Lib.AtoiAll
import Derived.Test.YtjfpcjnopbfekaaGreatDoorWalkcSubst
import Derived.Lib.AtoiAllCases
import Derived.Lib.ItoaLen
import Derived.Lib.SlTrimSet
import Derived.KernelRfl
set_option linter.unusedSimpArgs false
set_option linter.unusedVariables false
/- PLAIN LAWS, of no program: loops as searches through lists; numerals. -/
namespace Go.Sh
open Go.Ab
section
variable {α σ ε ρ : Type}
theorem cnt_all {body : Nat → Unit → Option (Stp Unit ε ρ)} {fin : Nat → Unit → ε} {r : ρ} (p : Nat → Bool) : ∀ (k i : Nat) (u : Unit), (∀ j u, i ≤ j → j < i + k → body j u = some (bif p j then .go () else .ret r)) →
    cnt body fin k i u = some (bif (List.range' i k).all p then .brk (fin (i + k) ()) else .ret r)
  | 0, i, u, h => by simp [cnt]
  | k + 1, i, u, h => by
    simp only [cnt, h i u (Nat.le_refl _) (by omega), List.range'_succ, List.all_cons]
    cases hp : p i with
    | true =>
      simp only [cond_true, Option.bind_some, stp, Bool.true_and]
      rw [cnt_all p k (i + 1) () (fun j u h1 h2 => h j u (by omega) (by omega))]
      rw [show i + 1 + k = i + (k + 1) by omega]
    | false => simp [stp]
theorem cnt_find {body : Nat → Unit → Option (Stp Unit ε ρ)} {fin : Nat → Unit → ε} {f : Nat → ρ} (p : Nat → Bool) : ∀ (k i : Nat) (u : Unit), (∀ j u, i ≤ j → j < i + k → body j u = some (bif p j then .ret (f j) else .go ())) →
    cnt body fin k i u = some (match (List.range' i k).find? p with | some j => .ret (f j) | none => .brk (fin (i + k) ()))
  | 0, i, u, h => by simp [cnt]
  | k + 1, i, u, h => by
    simp only [cnt, h i u (Nat.le_refl _) (by omega), List.range'_succ, List.find?_cons]
    cases hp : p i with
    | false =>
      simp only [cond_false, Option.bind_some, stp]
      rw [cnt_find p k (i + 1) () (fun j u h1 h2 => h j u (by omega) (by omega))]
      rw [show i + 1 + k = i + (k + 1) by omega]
    | true => simp [stp]
/-- A loop that carries a state and goes on to the end. -/
theorem cnt_go {body : Nat → σ → Option (Stp σ ε ρ)} {fin : Nat → σ → ε} (g : Nat → σ → σ) (I : Nat → σ → Prop) : ∀ (k i : Nat) (s : σ), I i s → (∀ j s, i ≤ j → j < i + k → I j s → body j s = some (.go (g j s)) ∧ I (j + 1) (g j s)) →
    ∃ s', cnt body fin k i s = some (.brk (fin (i + k) s')) ∧ s' = (List.range' i k).foldl (fun s j => g j s) s ∧ I (i + k) s'
  | 0, i, s, hI, h => ⟨s, by simp [cnt], by simp, hI⟩
  | k + 1, i, s, hI, h => by
    obtain ⟨h1, h2⟩ := h i s (Nat.le_refl _) (by omega) hI
    obtain ⟨s', e1, e2, e3⟩ := cnt_go g I k (i + 1) (g i s) h2 (fun j s h1 h2 => h j s (by omega) (by omega))
    refine ⟨s', ?_, ?_, by rw [show i + (k + 1) = i + 1 + k by omega]; exact e3⟩
    · simp only [cnt, h1, Option.bind_some, stp]
      rw [e1, show i + 1 + k = i + (k + 1) by omega]
    · rw [e2, List.range'_succ]; rfl
theorem all_getD (q : α → Bool) (d : α) (l : List α) : ∀ (i : Nat), (List.range' i (l.length - i)).all (fun j => q (l.getD j d)) = (l.drop i).all q := by
  intro i
  by_cases h : i < l.length
  · obtain ⟨k, hk⟩ : ∃ k, l.length - i = k + 1 := ⟨l.length - i - 1, by omega⟩
    have ih := all_getD q d l (i + 1)
    rw [hk, List.range'_succ, List.all_cons, List.drop_eq_getElem_cons h, List.all_cons]
    rw [show l.length - (i + 1) = k by omega] at ih
    rw [ih]
    simp [List.getD_eq_getElem?_getD, List.getElem?_eq_getElem h]
  · rw [show l.length - i = 0 by omega, List.drop_eq_nil_of_le (by omega)]; rfl
  termination_by i => l.length - i
theorem all0 (q : α → Bool) (d : α) (l : List α) : (List.range' 0 (l.length - 0)).all (fun j => q (l.getD j d)) = l.all q := by
  have := all_getD q d l 0
  simpa using this
theorem foldl_getD {β : Type} (g : β → α → β) (d : α) (l : List α) : ∀ (i : Nat) (s : β), (List.range' i (l.length - i)).foldl (fun s j => g s (l.getD j d)) s = (l.drop i).foldl g s := by
  intro i s
  by_cases h : i < l.length
  · obtain ⟨k, hk⟩ : ∃ k, l.length - i = k + 1 := ⟨l.length - i - 1, by omega⟩
    have ih := foldl_getD g d l (i + 1) (g s (l.getD i d))
    rw [hk, List.range'_succ, List.foldl_cons, List.drop_eq_getElem_cons h, List.foldl_cons]
    rw [show l.length - (i + 1) = k by omega] at ih
    rw [ih]
    simp [List.getD_eq_getElem?_getD, List.getElem?_eq_getElem h]
  · rw [show l.length - i = 0 by omega, List.drop_eq_nil_of_le (by omega)]; rfl
  termination_by i => l.length - i
/-- The first place at which p holds, or -1. -/
def idxOf (p : α → Bool) : List α → Int
  | [] => -1
  | x :: l => bif p x then 0 else (let r := idxOf p l; bif r == -1 then -1 else r + 1)
theorem idxOf_ge (p : α → Bool) : ∀ l : List α, -1 ≤ idxOf p l
  | [] => by simp [idxOf]
  | x :: l => by
    have := idxOf_ge p l
    simp only [idxOf]
    cases p x
    · cases h : idxOf p l == -1
      · simp; omega
      · simp
    · simp
theorem idxOf_neg (p : α → Bool) : ∀ l : List α, (idxOf p l < 0) ↔ l.any p = false
  | [] => by simp [idxOf]
  | x :: l => by
    have h1 := idxOf_ge p l
    have h2 := idxOf_neg p l
    simp only [idxOf, List.any_cons]
    cases hp : p x
    · cases h : idxOf p l == -1
      · have : idxOf p l ≠ -1 := by simpa using h
        simp only [cond_false, Bool.false_or]
        rw [← h2]; omega
      · have : idxOf p l = -1 := by simpa using h
        simp only [cond_false, cond_true, Bool.false_or]
        rw [← h2]; omega
    · simp
theorem find_idx (p : α → Bool) (d : α) (l : List α) : ∀ (i : Nat), (match (List.range' i (l.length - i)).find? (fun j => p (l.getD j d)) with | some j => ((j : Nat) : Int) | none => -1) = (bif idxOf p (l.drop i) == -1 then -1 else idxOf p (l.drop i) + i) := by
  intro i
  by_cases h : i < l.length
  · obtain ⟨k, hk⟩ : ∃ k, l.length - i = k + 1 := ⟨l.length - i - 1, by omega⟩
    have ih := find_idx p d l (i + 1)
    rw [hk, List.range'_succ, List.find?_cons, List.drop_eq_getElem_cons h]
    rw [show l.length - (i + 1) = k by omega] at ih
    have e : l.getD i d = l[i] := by simp [List.getD_eq_getElem?_getD, List.getElem?_eq_getElem h]
    rw [e]
    simp only [idxOf]
    cases hp : p l[i]
    · simp only [cond_false]
      rw [ih]
      cases hq : idxOf p (l.drop (i + 1)) == -1
      · have h3 : idxOf p (l.drop (i + 1)) ≠ -1 := by simpa using hq
        have h4 := idxOf_ge p (l.drop (i + 1))
        simp only [cond_false]
        have : ((idxOf p (l.drop (i + 1)) + 1) == -1) = false := by simp; omega
        rw [this]; simp only [cond_false]
        omega
      · simp
    · simp
  · rw [show l.length - i = 0 by omega, List.drop_eq_nil_of_le (by omega)]; rfl
  termination_by i => l.length - i
theorem find_idx0 (p : α → Bool) (d : α) (l : List α) : (match (List.range' 0 (l.length - 0)).find? (fun j => p (l.getD j d)) with | some j => ((j : Nat) : Int) | none => -1) = idxOf p l := by
  rw [find_idx p d l 0]
  simp only [List.drop_zero]
  cases h : idxOf p l == -1
  · simp
  · have : idxOf p l = -1 := by simpa using h
    simp [this]
end

/-! ### numerals -/
def isDig (b : UInt8) : Bool := decide (48 ≤ b.toNat) && decide (b.toNat ≤ 57)
def valD (acc : Nat) (l : Str) : Nat := l.foldl (fun a c => a * 10 + (c.toNat - 48)) acc
theorem valD_snoc (acc : Nat) (l : Str) (c : UInt8) : valD acc (l ++ [c]) = valD acc l * 10 + (c.toNat - 48) := by simp [valD]
theorem parse_val : ∀ (l : Str) (acc : Nat), l.all isDig = true → (acc + 1) * 10 ^ l.length ≤ 10 ^ 18 → Lib.parseUint10 acc l = .ok (valD acc l)
  | [], acc, _, _ => rfl
  | c :: l, acc, h, hb => by
    simp only [List.all_cons, Bool.and_eq_true, isDig, decide_eq_true_eq] at h
    obtain ⟨⟨h1, h2⟩, h3⟩ := h
    have hp : 1 ≤ 10 ^ l.length := Nat.one_le_pow _ _ (by decide)
    have hb2 : (acc * 10 + 10) * 10 ^ l.length ≤ 10 ^ 18 := by
      have : (acc + 1) * 10 ^ (l.length + 1) = (acc * 10 + 10) * 10 ^ l.length := by rw [Nat.pow_succ]; rw [show (acc * 10 + 10) = (acc + 1) * 10 by omega, Nat.mul_assoc, Nat.mul_comm 10]
      rw [← this]; simpa using hb
    have hb3 : acc * 10 + 10 ≤ 10 ^ 18 := Nat.le_trans (Nat.le_mul_of_pos_right _ hp) hb2
    have e18 : (10 : Nat) ^ 18 = 1000000000000000000 := by decide
    rw [e18] at hb3
    simp only [Lib.parseUint10]
    rw [if_pos ⟨h1, h2⟩, if_neg (by omega), if_neg (by omega)]
    rw [parse_val l _ (by simpa [isDig] using h3) (Nat.le_trans (Nat.mul_le_mul_right _ (by omega)) hb2)]
    rfl
theorem dig_back {c : UInt8} (h : isDig c = true) : UInt8.ofNat (48 + (c.toNat - 48)) = c := by
  simp only [isDig, Bool.and_eq_true, decide_eq_true_eq] at h
  rw [show 48 + (c.toNat - 48) = c.toNat by omega]
  exact UInt8.ofNat_toNat
theorem snoc_rec {α : Type} {P : List α → Prop} (h0 : P []) (h1 : ∀ l c, P l → P (l ++ [c])) (l : List α) : P l := by
  have : ∀ m : List α, P m.reverse := by
    intro m
    induction m with
    | nil => exact h0
    | cons c m ih => simpa using h1 _ c ih
  simpa using this l.reverse
theorem dec_val (l : Str) : l.all isDig = true → l ≠ [] → l.head? ≠ some 48 → 1 ≤ valD 0 l ∧ Lib.decDigits (valD 0 l) = l := by
  refine snoc_rec (P := fun l => l.all isDig = true → l ≠ [] → l.head? ≠ some 48 → 1 ≤ valD 0 l ∧ Lib.decDigits (valD 0 l) = l) ?_ ?_ l
  · intro _ h; exact absurd rfl h
  · intro l c ih h _ hh
    rw [List.all_append, Bool.and_eq_true] at h
    have hc : isDig c = true := by simpa using h.2
    have hc' := hc
    simp only [isDig, Bool.and_eq_true, decide_eq_true_eq] at hc'
    rw [valD_snoc]
    by_cases hl : l = []
    · subst hl
      have hne : c ≠ 48 := by simpa using hh
      have : c.toNat ≠ 48 := fun e => hne (by rw [← UInt8.toNat_inj]; simpa using e)
      simp only [valD, List.foldl_nil, Nat.zero_mul, Nat.zero_add, List.nil_append]
      refine ⟨by omega, ?_⟩
      rw [Lib.decDigits_one (by omega), dig_back hc]
    · have hh2 : l.head? ≠ some 48 := by
        cases l with
        | nil => exact absurd rfl hl
        | cons x l => simpa using hh
      obtain ⟨i1, i2⟩ := ih h.1 hl hh2
      refine ⟨by omega, ?_⟩
      rw [Lib.decDigits, dif_neg (by omega), show (valD 0 l * 10 + (c.toNat - 48)) / 10 = valD 0 l by omega, i2, show (valD 0 l * 10 + (c.toNat - 48)) % 10 = c.toNat - 48 by omega, dig_back hc]
theorem dec_dig (u : Nat) : (Lib.decDigits u).all isDig = true ∧ (1 ≤ u → (Lib.decDigits u).head? ≠ some 48) ∧ Lib.decDigits u ≠ [] := by
  have key : ∀ i, i < 10 → isDig (UInt8.ofNat (48 + i)) = true := by decide
  have key2 : ∀ i, i < 10 → 1 ≤ i → UInt8.ofNat (48 + i) ≠ 48 := by decide
  by_cases h : u < 10
  · rw [Lib.decDigits_one h]
    exact ⟨by simp only [List.all_cons, List.all_nil, Bool.and_true]; exact key u h, fun h1 => by simpa using key2 u h h1, by simp⟩
  · have ih := dec_dig (u / 10)
    rw [Lib.decDigits, dif_neg h]
    refine ⟨by rw [List.all_append, ih.1]; simp only [List.all_cons, List.all_nil, Bool.and_true, Bool.true_and]; exact key (u % 10) (by omega), fun _ => ?_, by simp⟩
    have := ih.2.1 (by omega)
    cases hd : Lib.decDigits (u / 10) with
    | nil => exact absurd hd ih.2.2
    | cons x l => rw [hd] at this; simpa using this
  termination_by u
  decreasing_by omega
end Go.Sh

/- PLAIN LAWS of layers 4 and 11: names, linear expressions, shapes. -/
namespace Go.Proofs.YtjfpcjnopbfekaaGreatDoor
open Go.Ab Go.Sh
theorem grd_pos {α : Type} {p : Prop} [Decidable p] {x : Option α} (h : p) : grd p x = x := if_pos h
theorem aft_bif {ε β : Type} {b : Bool} {e : ε} {r : β} {f : ε → Option β} : (some (bif b then Out.brk e else Out.ret r : Out ε β)).bind (aft f) = bif b then f e else some r := by cases b <;> rfl
theorem all_congr {p q : Nat → Bool} : ∀ (k i : Nat), (∀ j, i ≤ j → j < i + k → p j = q j) → (List.range' i k).all p = (List.range' i k).all q
  | 0, i, _ => rfl
  | k + 1, i, h => by
    rw [List.range'_succ, List.all_cons, List.all_cons, h i (Nat.le_refl _) (by omega), all_congr k (i + 1) (fun j h1 h2 => h j (by omega) (by omega))]
theorem u8_beq (c k : UInt8) (n : Int) (hk : (k.toNat : Int) = n) : ((c.toNat : Int) == n) = (c == k) := by
  rw [Bool.eq_iff_iff]
  simp only [beq_iff_eq, ← UInt8.toNat_inj]
  omega
theorem len_beq0 {α : Type} (l : List α) : (((l.length : Nat) : Int) == 0) = l.isEmpty := by
  cases l with
  | nil => rfl
  | cons x l => simp; omega
def isLet (b : UInt8) : Bool := decide (97 ≤ b.toNat) && decide (b.toNat ≤ 122)
theorem ref04_digit_eq (x : UInt8) : ref04_digit x = some (isDig x) := by
  unfold ref04_digit isDig
  by_cases h : 48 ≤ x.toNat
  · rw [decide_eq_true (show (x.toNat : Int) ≥ 48 by omega), decide_eq_true h]
    simp only [cond_true, Bool.true_and, Option.some.injEq]
    rw [decide_eq_decide]; omega
  · rw [decide_eq_false (show ¬ (x.toNat : Int) ≥ 48 by omega), decide_eq_false h]; rfl
theorem ref04_letter_eq (x : UInt8) : ref04_letter x = some (isLet x) := by
  unfold ref04_letter isLet
  by_cases h : 97 ≤ x.toNat
  · rw [decide_eq_true (show (x.toNat : Int) ≥ 97 by omega), decide_eq_true h]
    simp only [cond_true, Bool.true_and, Option.some.injEq]
    rw [decide_eq_decide]; omega
  · rw [decide_eq_false (show ¬ (x.toNat : Int) ≥ 97 by omega), decide_eq_false h]; rfl
/-- Is it a variable? -/
def nameS : Str → Bool
  | [] => false
  | c :: r => bif c == 95 then (decide (1 ≤ r.length) && (decide (r.length ≤ 9) && (!(r.getD 0 0 == 48) && r.all isDig))) else (decide (r.length ≤ 29) && (isLet c && r.all (fun b => isLet b || isDig b)))
theorem ref04_Name_eq (s : Str) : ref04_Name s = some (nameS s) := by
  cases s with
  | nil => rfl
  | cons c r =>
    unfold ref04_Name
    have e1 : ((((c :: r).length : Nat) : Int) == 0) = false := by simp; omega
    rw [e1]
    simp only [cond_false]
    have e95 : ((((c :: r).getD 0 0).toNat : Int) == 95) = (c == 95) := by rw [List.getD_cons_zero]; exact u8_beq c 95 95 rfl
    by_cases h30 : r.length ≤ 29
    · rw [decide_eq_false (show ¬ (((c :: r).length : Nat) : Int) > 30 by simp; omega)]
      simp only [cond_false]
      rw [grd_pos (by simp), e95]
      simp only [nameS]
      cases hc : c == 95 with
      | true =>
        simp only [cond_true]
        by_cases h1 : 1 ≤ r.length
        · rw [decide_eq_false (show ¬ (((c :: r).length : Nat) : Int) < 2 by simp; omega), decide_eq_true h1]
          simp only [cond_false, Bool.true_and]
          by_cases h9 : r.length ≤ 9
          · rw [decide_eq_false (show ¬ (((c :: r).length : Nat) : Int) > 10 by simp; omega), decide_eq_true h9]
            simp only [cond_false, Bool.true_and]
            rw [grd_pos (by simp; omega)]
            have e48 : ((((c :: r).getD 1 0).toNat : Int) == 48) = (r.getD 0 0 == 48) := by rw [List.getD_cons_succ]; exact u8_beq _ 48 48 rfl
            rw [e48]
            cases hd : r.getD 0 0 == 48 with
            | true => simp
            | false =>
              simp only [cond_false, Bool.not_false, Bool.true_and]
              rw [cnt_all (fun j => isDig ((c :: r).getD j 0)) _ _ () (fun j u _ _ => by rw [ref04_digit_eq]; cases isDig ((c :: r).getD j 0) <;> rfl), aft_bif, all_getD isDig 0 (c :: r) 1]
              simp only [List.drop_succ_cons, List.drop_zero]
              cases r.all isDig <;> rfl
          · rw [decide_eq_true (show (((c :: r).length : Nat) : Int) > 10 by simp; omega), decide_eq_false h9]; simp
        · rw [decide_eq_true (show (((c :: r).length : Nat) : Int) < 2 by simp; omega), decide_eq_false h1]; simp
      | false =>
        simp only [cond_false]
        rw [decide_eq_true h30]
        rw [cnt_all (fun j => isLet ((c :: r).getD j 0) || (!(((j : Nat) : Int) == 0) && isDig ((c :: r).getD j 0))) _ _ () (fun j u _ _ => by
          rw [ref04_letter_eq, ref04_digit_eq]
          cases isLet ((c :: r).getD j 0) <;> cases isDig ((c :: r).getD j 0) <;> cases ((j : Nat) : Int) == 0 <;> rfl), aft_bif]
        have e : (List.range' 0 ((c :: r).length - 0)).all (fun j => isLet ((c :: r).getD j 0) || (!(((j : Nat) : Int) == 0) && isDig ((c :: r).getD j 0))) = (isLet c && r.all (fun b => isLet b || isDig b)) := by
          rw [show (c :: r).length - 0 = r.length + 1 by simp, List.range'_succ, List.all_cons]
          have e0 : (isLet ((c :: r).getD 0 0) || (!(((0 : Nat) : Int) == 0) && isDig ((c :: r).getD 0 0))) = isLet c := by simp
          rw [e0]
          congr 1
          rw [all_congr (q := fun j => (fun b => isLet b || isDig b) ((c :: r).getD j 0)) _ _ (fun j h1 _ => by
            have : (((j : Nat) : Int) == 0) = false := by simp; omega
            simp only [this, Bool.not_false, Bool.true_and])]
          have := all_getD (fun b => isLet b || isDig b) 0 (c :: r) 1
          simpa using this
        rw [e]
        simp only [Bool.true_and]
        cases isLet c && r.all (fun b => isLet b || isDig b) <;> rfl
    · rw [decide_eq_true (show (((c :: r).length : Nat) : Int) > 30 by simp; omega)]
      simp only [cond_true, nameS]
      rw [decide_eq_false h30]
      have : ¬ r.length ≤ 9 := by omega
      rw [decide_eq_false this]
      cases c == 95 <;> simp
theorem strings_HasPrefix1 (s : Str) (c : UInt8) : strings_HasPrefix s [c] = some (match s with | [] => false | x :: _ => x == c) := by
  unfold strings_HasPrefix internal_stringslite_HasPrefix
  cases s with
  | nil => rfl
  | cons x l =>
    rw [decide_eq_true (by simp; omega)]
    simp only [cond_true]
    rw [grd_pos (by simp)]
    simp
theorem atoi_dig {r : Str} (h0 : r ≠ []) (h : r.all isDig = true) (hl : r.length ≤ 9) : Lib.atoiAll r = .ok (valD 0 r : Int) ∧ valD 0 r < 10000000000 := by
  cases r with
  | nil => exact absurd rfl h0
  | cons c r =>
    have hc : isDig c = true := by simp only [List.all_cons, Bool.and_eq_true] at h; exact h.1
    have hc2 := hc
    simp only [isDig, Bool.and_eq_true, decide_eq_true_eq] at hc2
    have hp : (10 : Nat) ^ (c :: r).length ≤ 10 ^ 9 := Nat.pow_le_pow_right (by decide) hl
    have hv := parse_val (c :: r) 0 h (by
      rw [Nat.zero_add, Nat.one_mul]
      exact Nat.le_trans hp (by decide))
    have hb : ∀ (l : Str) (a : Nat), l.all isDig = true → valD a l + 1 ≤ (a + 1) * 10 ^ l.length := by
      intro l
      induction l with
      | nil => intro a _; simp [valD]
      | cons x l ih =>
        intro a hx
        simp only [List.all_cons, Bool.and_eq_true, isDig, decide_eq_true_eq] at hx
        have := ih (a * 10 + (x.toNat - 48)) (by simpa [isDig] using hx.2)
        have e : valD a (x :: l) = valD (a * 10 + (x.toNat - 48)) l := rfl
        rw [e]
        refine Nat.le_trans this ?_
        rw [List.length_cons, Nat.pow_succ, Nat.mul_comm (10 ^ l.length) 10, ← Nat.mul_assoc]
        exact Nat.mul_le_mul_right _ (by omega)
    have hlt := hb (c :: r) 0 h
    rw [Nat.zero_add, Nat.one_mul] at hlt
    have h9 : (10 : Nat) ^ 9 = 1000000000 := by decide
    rw [h9] at hp
    refine ⟨?_, by omega⟩
    rw [Lib.atoiAll_plain c r (by omega) (by omega)]
    have : Lib.parseMag (c :: r) = .ok (valD 0 (c :: r)) := by unfold Lib.parseMag; rw [if_neg (by simp)]; exact hv
    rw [this]
    simp only [Lib.signless]
    rw [if_neg (by omega)]
theorem linear_Name_eq (s : Str) (hs : s.length ≤ 1000000) : linear_Name s = some (nameS s) := by
  unfold linear_Name
  rw [strings_HasPrefix1]
  cases s with
  | nil => rfl
  | cons c r =>
    simp only [Option.bind_some, nameS]
    have hr : r.length ≤ 1000000 := by simp at hs; omega
    cases hc : c == 95 with
    | true =>
      simp only [cond_true]
      rw [grd_pos (by simp)]
      simp only [List.drop_succ_cons, List.drop_zero, lib_Atoi]
      rw [grd_pos (by omega)]
      simp only [Option.bind_some]
      by_cases h9 : r.length ≤ 9
      · by_cases h1 : 1 ≤ r.length
        · rw [decide_eq_true h1, decide_eq_true h9]
          simp only [Bool.true_and]
          have hne : r ≠ [] := by intro e; subst e; simp at h1
          have hhd : (r.getD 0 0 == 48) = decide (r.head? = some 48) := by
            cases r with
            | nil => exact absurd rfl hne
            | cons x l => simp; rw [Bool.eq_iff_iff]; simp
          -- the answer of the program: is it its numeral?
          have key : ∀ v : Int, 0 < v → v ≤ 9223372036854775807 → lib_Itoa v = some (Lib.decDigits v.toNat) ∨ True := fun _ _ _ => .inr trivial
          by_cases hall : r.all isDig = true
          · obtain ⟨a1, a2⟩ := atoi_dig hne hall h9
            simp only [atoiR, a1, cond_true]
            by_cases h48 : r.head? = some 48
            · -- a leading zero: another numeral
              rw [hhd, decide_eq_true h48]
              simp only [Bool.not_true, Bool.false_and]
              by_cases hz : valD 0 r = 0
              · rw [hz]; rfl
              · rw [decide_eq_true (by omega : (valD 0 r : Int) > 0), decide_eq_true (by simp; omega : (((c :: r).length : Nat) : Int) ≤ 10)]
                simp only [cond_true, lib_Itoa]
                have hlen : (Lib.itoa (valD 0 r : Int)).length ≤ 21 := Lib.itoa_length_le _ (by omega) (by omega)
                rw [grd_pos ⟨by omega, by omega, by omega⟩]
                simp only [Option.bind_some, Option.some.injEq]
                rw [Lib.itoa_nonneg, beq_eq_false_iff_ne]
                intro e
                exact (dec_dig (valD 0 r)).2.1 (by omega) (by rw [e]; exact h48)
            · obtain ⟨d1, d2⟩ := dec_val r hall hne h48
              rw [hhd, decide_eq_false h48, hall]
              simp only [Bool.not_false, Bool.true_and]
              rw [decide_eq_true (by omega : (valD 0 r : Int) > 0), decide_eq_true (by simp; omega : (((c :: r).length : Nat) : Int) ≤ 10)]
              simp only [cond_true, lib_Itoa]
              have hlen : (Lib.itoa (valD 0 r : Int)).length ≤ 21 := Lib.itoa_length_le _ (by omega) (by omega)
              rw [grd_pos ⟨by omega, by omega, by omega⟩]
              simp only [Option.bind_some, Option.some.injEq]
              rw [Lib.itoa_nonneg, d2]; simp
          · have hall : r.all isDig = false := by simpa using hall
            rw [hall]
            simp only [Bool.and_false]
            cases ha : Lib.atoiAll r with
            | ok v =>
              simp only [atoiR, ha, cond_true]
              by_cases hv : v > 0
              · rw [decide_eq_true hv, decide_eq_true (by simp; omega : (((c :: r).length : Nat) : Int) ≤ 10)]
                simp only [cond_true, lib_Itoa]
                have hvb : v ≤ 9223372036854775807 := by
                  cases r with
                  | nil => exact absurd rfl hne
                  | cons x l =>
                    unfold Lib.atoiAll at ha
                    simp only at ha
                    split at ha
                    · cases ha
                    · cases ha
                    · split at ha
                      · cases ha
                      · split at ha
                        · cases ha
                        · rename_i h1 h2
                          simp only [Lib.NumEnd.ok.injEq] at ha
                          rw [← ha]
                          split
                          · omega
                          · rename_i h3
                            have := h1
                            simp only [h3, not_false_eq_true, true_and] at this
                            omega
                have hlen : (Lib.itoa v).length ≤ 21 := Lib.itoa_length_le _ (by omega) hvb
                rw [grd_pos ⟨by omega, hvb, by omega⟩]
                simp only [Option.bind_some, Option.some.injEq]
                rw [beq_eq_false_iff_ne]
                intro e
                have : (Lib.itoa v).all isDig = true := by
                  unfold Lib.itoa
                  rw [if_neg (by omega)]; exact (dec_dig _).1
                rw [e, hall] at this; cases this
              · rw [decide_eq_false hv]; rfl
            | range => simp [atoiR, ha]
            | _ => simp [atoiR, ha]
        · have : r = [] := List.eq_nil_of_length_eq_zero (by omega)
          subst this
          rfl
      · rw [decide_eq_false h9, decide_eq_false (by simp; omega : ¬ (((c :: r).length : Nat) : Int) ≤ 10)]
        simp only [cond_false, Bool.false_and, Bool.and_false]
        cases (atoiR r).2 <;> cases decide ((atoiR r).1 > 0) <;> rfl
    | false =>
      simp only [cond_false]
      rw [cnt_all (fun j => isLet ((c :: r).getD j 0) || (!(((j : Nat) : Int) == 0) && isDig ((c :: r).getD j 0))) _ _ () (fun j u _ _ => by
        simp only [isLet, isDig]
        generalize (c :: r).getD j 0 = x
        by_cases h1 : (x.toNat : Int) < 97
        · rw [decide_eq_true h1, decide_eq_false (show ¬ 97 ≤ x.toNat by omega)]
          simp only [cond_true, Bool.false_and, Bool.false_or]
          cases ((j : Nat) : Int) == 0
          · simp only [cond_false, Bool.not_false, Bool.true_and]
            by_cases h2 : (x.toNat : Int) < 48
            · rw [decide_eq_true h2, decide_eq_false (show ¬ 48 ≤ x.toNat by omega)]; rfl
            · rw [decide_eq_false h2, decide_eq_true (show 48 ≤ x.toNat by omega)]
              by_cases h3 : (x.toNat : Int) > 57
              · rw [decide_eq_true h3, decide_eq_false (show ¬ x.toNat ≤ 57 by omega)]; rfl
              · rw [decide_eq_false h3, decide_eq_true (show x.toNat ≤ 57 by omega)]; rfl
          · rfl
        · rw [decide_eq_false h1, decide_eq_true (show 97 ≤ x.toNat by omega)]
          simp only [cond_false, Bool.true_and]
          by_cases h2 : (x.toNat : Int) > 122
          · rw [decide_eq_true h2, decide_eq_false (show ¬ x.toNat ≤ 122 by omega), decide_eq_false (show ¬ x.toNat ≤ 57 by omega), decide_eq_false (show ¬ (x.toNat : Int) < 48 by omega), decide_eq_true (show (x.toNat : Int) > 57 by omega)]
            cases ((j : Nat) : Int) == 0 <;> simp [Sh.aft]
          · rw [decide_eq_false h2, decide_eq_true (show x.toNat ≤ 122 by omega)]; simp [Sh.aft]), aft_bif]
      have e : (List.range' 0 ((c :: r).length - 0)).all (fun j => isLet ((c :: r).getD j 0) || (!(((j : Nat) : Int) == 0) && isDig ((c :: r).getD j 0))) = (isLet c && r.all (fun b => isLet b || isDig b)) := by
        rw [show (c :: r).length - 0 = r.length + 1 by simp, List.range'_succ, List.all_cons]
        have e0 : (isLet ((c :: r).getD 0 0) || (!(((0 : Nat) : Int) == 0) && isDig ((c :: r).getD 0 0))) = isLet c := by simp
        rw [e0]
        congr 1
        rw [all_congr (q := fun j => (fun b => isLet b || isDig b) ((c :: r).getD j 0)) _ _ (fun j h1 _ => by
          have : (((j : Nat) : Int) == 0) = false := by simp; omega
          simp only [this, Bool.not_false, Bool.true_and])]
        have := all_getD (fun b => isLet b || isDig b) 0 (c :: r) 1
        simpa using this
      rw [e]
      have e2 : ((c :: r) == []) = false := rfl
      rw [e2]
      simp only [cond_false]
      by_cases h30 : r.length ≤ 29
      · rw [decide_eq_true h30, decide_eq_true (by simp; omega : (((c :: r).length : Nat) : Int) ≤ 30)]
        cases isLet c && r.all (fun b => isLet b || isDig b) <;> rfl
      · rw [decide_eq_false h30, decide_eq_false (by simp; omega : ¬ (((c :: r).length : Nat) : Int) ≤ 30)]
        cases isLet c && r.all (fun b => isLet b || isDig b) <;> rfl
end Go.Proofs.YtjfpcjnopbfekaaGreatDoor

/- PLAIN LAWS: validity. -/
namespace Go.Proofs.YtjfpcjnopbfekaaGreatDoor
open Go.Ab Go.Sh
def inS (n : Int) : Bool := decide (-1000000 ≤ n) && decide (n ≤ 1000000)
theorem linear_in_eq (n : Int) : linear_in n = some (inS n) := by
  unfold linear_in inS
  by_cases h : n ≥ -1000000
  · rw [decide_eq_true h]; rfl
  · rw [decide_eq_false h]; rfl
theorem ref04_small_eq (n : Int) : ref04_small n = some (inS n) := by
  unfold ref04_small inS
  by_cases h : n ≥ -1000000
  · rw [decide_eq_true h]; rfl
  · rw [decide_eq_false h]; rfl
def tAt (l : Linear) (j : Nat) : Coef := l.Terms.getD j ⟨[], 0⟩
def validP (l : Linear) (j : Nat) : Bool := nameS (tAt l j).Var && (!((tAt l j).C == 0) && (inS (tAt l j).C && (!decide (((j : Nat) : Int) > 0) || Op.bytesLess (tAt l (j - 1)).Var (tAt l j).Var)))
def validL (l : Linear) : Bool := (List.range' 0 (l.Terms.length - 0)).all (validP l) && (inS l.Const && decide (l.Terms.length ≤ 12))
theorem w64_pred {j : Nat} (h : 0 < j) (h2 : j ≤ 9223372036854775807) : w64 (((j : Nat) : Int) - 1) = ((j - 1 : Nat) : Int) := by
  rw [w64_id (by unfold I64; omega)]; omega
theorem getD_le {l : List Coef} {n : Nat} (h : ∀ t ∈ l, t.Var.length ≤ n) (j : Nat) : (l.getD j ⟨[], 0⟩).Var.length ≤ n := by
  rw [List.getD_eq_getElem?_getD]
  cases h1 : l[j]? with
  | none => simp
  | some x => exact h x (List.mem_of_getElem? h1)
theorem linear_Valid_eq (l : Linear) (h1 : l.Terms.length ≤ 1000000) (h2 : ∀ t ∈ l.Terms, t.Var.length ≤ 1000000) : linear_Valid l = some (validL l) := by
  unfold linear_Valid
  rw [cnt_all (validP l) _ _ () (fun j u _ hj => by
    rw [linear_Name_eq _ (getD_le h2 j), linear_in_eq]
    simp only [validP, tAt, Option.bind_some]
    cases nameS (l.Terms.getD j ⟨[], 0⟩).Var
    · rfl
    · cases (l.Terms.getD j ⟨[], 0⟩).C == 0
      · cases inS (l.Terms.getD j ⟨[], 0⟩).C
        · rfl
        · by_cases hp : 0 < j
          · rw [decide_eq_true (show ((j : Nat) : Int) > 0 by omega), w64_pred hp (by omega)]
            rw [grd_pos (by omega)]
            simp only [Int.toNat_natCast, cond_true, cond_false, Bool.not_true, Bool.false_or, Bool.true_and, Bool.not_false]
            cases Op.bytesLess (l.Terms.getD (j - 1) ⟨[], 0⟩).Var (l.Terms.getD j ⟨[], 0⟩).Var <;> rfl
          · rw [decide_eq_false (show ¬ ((j : Nat) : Int) > 0 by omega)]; rfl
      · rfl), aft_bif, linear_in_eq]
  unfold validL
  cases (List.range' 0 (l.Terms.length - 0)).all (validP l)
  · rfl
  · cases inS l.Const
    · rfl
    · simp only [cond_true, Option.bind_some, Bool.true_and, Option.some.injEq]
      rw [decide_eq_decide]; omega
theorem ref04_Valid_eq (l : Linear) : ref04_Valid l = some (validL l) := by
  unfold ref04_Valid
  rw [ref04_small_eq]
  unfold validL
  by_cases h12 : l.Terms.length ≤ 12
  · rw [decide_eq_false (show ¬ ((l.Terms.length : Nat) : Int) > 12 by omega), decide_eq_true h12]
    rw [cnt_all (validP l) _ _ () (fun j u _ hj => by
      rw [ref04_Name_eq, ref04_small_eq]
      simp only [validP, tAt, Option.bind_some]
      cases nameS (l.Terms.getD j ⟨[], 0⟩).Var
      · rfl
      · cases (l.Terms.getD j ⟨[], 0⟩).C == 0
        · cases inS (l.Terms.getD j ⟨[], 0⟩).C
          · rfl
          · by_cases hp : 0 < j
            · rw [decide_eq_true (show ((j : Nat) : Int) > 0 by omega), w64_pred hp (by omega)]
              rw [grd_pos (by omega)]
              simp only [Int.toNat_natCast, cond_true, cond_false, Bool.not_true, Bool.false_or, Bool.true_and, Bool.not_false]
              cases Op.bytesLess (l.Terms.getD (j - 1) ⟨[], 0⟩).Var (l.Terms.getD j ⟨[], 0⟩).Var <;> rfl
            · rw [decide_eq_false (show ¬ ((j : Nat) : Int) > 0 by omega)]; rfl
        · rfl), aft_bif]
    cases (List.range' 0 (l.Terms.length - 0)).all (validP l) <;> cases inS l.Const <;> rfl
  · rw [decide_eq_true (show ((l.Terms.length : Nat) : Int) > 12 by omega), decide_eq_false h12]
    cases (List.range' 0 (l.Terms.length - 0)).all (validP l) <;> cases inS l.Const <;> rfl

/-! ### what is small -/
def fewT (l : Linear) : Bool := l.Terms.all (fun t => decide (t.Var.length ≤ 35)) && decide (l.Terms.length ≤ 14)
theorem dec_gt {a b : Nat} : decide (((a : Nat) : Int) > (b : Int)) = !decide (a ≤ b) := by
  by_cases h : a ≤ b
  · rw [decide_eq_true h, decide_eq_false (by omega)]; rfl
  · rw [decide_eq_false h, decide_eq_true (by omega)]; rfl
theorem dec_le {a b : Nat} : decide (((a : Nat) : Int) ≤ (b : Int)) = decide (a ≤ b) := by rw [decide_eq_decide]; omega
theorem ref11_fewLinear_eq (l : Linear) : ref11_fewLinear l = some (fewT l) := by
  unfold ref11_fewLinear
  rw [cnt_all (fun j => (fun (t : Coef) => decide (t.Var.length ≤ 35)) (l.Terms.getD j ⟨[], 0⟩)) _ _ () (fun j u _ _ => by
    rw [show (35 : Int) = ((35 : Nat) : Int) from rfl, dec_gt]
    simp only
    cases decide ((l.Terms.getD j ⟨[], 0⟩).Var.length ≤ 35) <;> rfl), aft_bif, all0 (fun (t : Coef) => decide (t.Var.length ≤ 35))]
  unfold fewT
  rw [show (14 : Int) = ((14 : Nat) : Int) from rfl, dec_le]
  cases l.Terms.all (fun t => decide (t.Var.length ≤ 35)) <;> rfl
def fewS (s : Shape) : Bool := s.Dims.all fewT && (decide (s.Dims.length ≤ 8) && decide (s.Row.length ≤ 35))
theorem eta_L (l : Linear) : Linear.mk l.Const l.Terms = l := rfl
theorem eta_S (s : Shape) : Shape.mk s.Row s.Dims = s := rfl
theorem ref11_Few_eq (s : Shape) : ref11_Few s = some (fewS s) := by
  unfold ref11_Few
  rw [cnt_all (fun j => fewT (s.Dims.getD j ⟨0, []⟩)) _ _ () (fun j u _ _ => by
    rw [eta_L, ref11_fewLinear_eq]
    simp only [Option.bind_some]
    cases fewT (s.Dims.getD j ⟨0, []⟩) <;> rfl), aft_bif, all0 fewT]
  unfold fewS
  rw [show (8 : Int) = ((8 : Nat) : Int) from rfl, dec_le, show (35 : Int) = ((35 : Nat) : Int) from rfl, dec_le]
  cases s.Dims.all fewT
  · rfl
  · cases decide (s.Dims.length ≤ 8) <;> rfl
def fewB (b : Bind) : Bool := decide (b.Var.length ≤ 35) && (decide (b.Elem.length ≤ 35) && (fewT b.Dim && fewS b.Row))
def fewBs (l : List Bind) : Bool := l.all fewB && decide (l.length ≤ 10)
theorem ref11_FewBinds_eq (l : List Bind) : ref11_FewBinds l = some (fewBs l) := by
  unfold ref11_FewBinds
  rw [cnt_all (fun j => fewB (l.getD j (⟨0, [], ⟨0, []⟩, ⟨[], []⟩, []⟩))) _ _ () (fun j u _ _ => by
    rw [eta_L, eta_S, ref11_fewLinear_eq, ref11_Few_eq]
    simp only [Option.bind_some, fewB]
    rw [show (35 : Int) = ((35 : Nat) : Int) from rfl, dec_gt, dec_gt]
    generalize l.getD j (⟨0, [], ⟨0, []⟩, ⟨[], []⟩, []⟩) = x
    cases decide (x.Var.length ≤ 35)
    · rfl
    · cases decide (x.Elem.length ≤ 35)
      · rfl
      · cases fewT x.Dim
        · rfl
        · cases fewS x.Row <;> rfl), aft_bif, all0 fewB]
  unfold fewBs
  rw [show (10 : Int) = ((10 : Nat) : Int) from rfl, dec_le]
  cases l.all fewB <;> rfl

/-! ### shapes -/
def validS (s : Shape) : Bool := s.Dims.all validL && (decide (s.Dims.length ≤ 6) && (s.Row.isEmpty || nameS s.Row))
theorem nil_beq (s : Str) : (s == []) = s.isEmpty := by cases s <;> rfl
theorem ref11_Valid_eq (s : Shape) : ref11_Valid s = some (validS s) := by
  unfold ref11_Valid
  rw [cnt_all (fun j => validL (s.Dims.getD j ⟨0, []⟩)) _ _ () (fun j u _ _ => by
    rw [eta_L, ref04_Valid_eq]
    simp only [Option.bind_some]
    cases validL (s.Dims.getD j ⟨0, []⟩) <;> rfl), aft_bif, all0 validL]
  unfold validS
  rw [show (6 : Int) = ((6 : Nat) : Int) from rfl, dec_le, nil_beq, ref04_Name_eq]
  cases s.Dims.all validL
  · rfl
  · cases decide (s.Dims.length ≤ 6)
    · rfl
    · cases s.Row.isEmpty <;> rfl
/-- What the program's functions ask for: no name too long. -/
def okL (l : Linear) : Prop := l.Terms.length ≤ 1000000 ∧ ∀ t ∈ l.Terms, t.Var.length ≤ 1000000
def okS (s : Shape) : Prop := s.Row.length ≤ 1000000 ∧ ∀ l ∈ s.Dims, okL l
theorem okL_few {l : Linear} (h : fewT l = true) : okL l := by
  simp only [fewT, Bool.and_eq_true, List.all_eq_true, decide_eq_true_eq] at h
  exact ⟨by omega, fun t ht => by have := h.1 t ht; omega⟩
theorem okS_few {s : Shape} (h : fewS s = true) : okS s := by
  simp only [fewS, Bool.and_eq_true, List.all_eq_true, decide_eq_true_eq] at h
  exact ⟨by omega, fun l hl => okL_few (h.1 l hl)⟩
theorem okL_getD {ls : List Linear} (h : ∀ l ∈ ls, okL l) (j : Nat) : okL (ls.getD j ⟨0, []⟩) := by
  rw [List.getD_eq_getElem?_getD]
  cases h1 : ls[j]? with
  | none => exact ⟨by simp, fun t ht => by simp at ht⟩
  | some x => exact h x (List.mem_of_getElem? h1)
theorem contains_bad (ls : List Linear) (h : ∀ l ∈ ls, okL l) : slices_ContainsFunc_api_Linear ls = some (!ls.all validL) := by
  unfold slices_ContainsFunc_api_Linear slices_IndexFunc_api_Linear
  rw [cnt_find (f := fun j => ((j : Nat) : Int)) (fun j => (fun l => !validL l) (ls.getD j ⟨0, []⟩)) _ _ () (fun j u _ _ => by
    rw [eta_L]
    unfold shape_Valid_1
    rw [linear_Valid_eq _ (okL_getD h j).1 (okL_getD h j).2]
    simp only [Option.bind_some]
    cases validL (ls.getD j ⟨0, []⟩) <;> rfl)]
  have hf := find_idx0 (fun l => !validL l) ⟨0, []⟩ ls
  have hn := idxOf_neg (fun l => !validL l) ls
  have e : ls.any (fun l => !validL l) = !ls.all validL := by simp [List.any_eq_not_all_not]
  rw [e] at hn
  generalize (List.range' 0 (ls.length - 0)).find? (fun j => (fun l => !validL l) (ls.getD j ⟨0, []⟩)) = x at hf
  cases x with
  | none =>
    simp only at hf
    have h1 : (!ls.all validL) = false := hn.1 (by omega)
    rw [h1]; rfl
  | some j =>
    simp only at hf
    have h1 : (!ls.all validL) = true := by
      cases hb : !ls.all validL
      · have := hn.2 hb; omega
      · rfl
    rw [h1]
    simp only [Option.bind_some, Sh.aft]
    rw [decide_eq_true (by omega : ((j : Nat) : Int) ≥ 0)]
theorem shape_Valid_eq (s : Shape) (h : okS s) : shape_Valid s = some (validS s) := by
  unfold shape_Valid validS
  rw [nil_beq, contains_bad _ h.2, linear_Name_eq _ h.1, show (6 : Int) = ((6 : Nat) : Int) from rfl, dec_le]
  cases s.Row.isEmpty <;> cases nameS s.Row <;> cases decide (s.Dims.length ≤ 6) <;> cases s.Dims.all validL <;> rfl
end Go.Proofs.YtjfpcjnopbfekaaGreatDoor

/- PLAIN LAWS: equality, element variables, binds. -/
namespace Go.Proofs.YtjfpcjnopbfekaaGreatDoor
open Go.Ab Go.Sh
theorem cnt_three {body : Nat → Unit → Option (Stp Unit Unit Int)} {fin : Nat → Unit → Unit} (m : Nat) (E : Nat → Prop) : ∀ (k i : Nat) (u : Unit), (∀ j u, i ≤ j → j < i + k → (j < m ∧ E j ∧ body j u = some (.go ())) ∨ (j < m ∧ ¬ E j ∧ ∃ x, x ≠ 0 ∧ body j u = some (.ret x)) ∨ (m ≤ j ∧ body j u = some (.brk ()))) →
    (cnt body fin k i u = some (.brk ()) ∧ ∀ j, i ≤ j → j < i + k → j < m → E j) ∨ (∃ x, x ≠ 0 ∧ cnt body fin k i u = some (.ret x) ∧ ∃ j, i ≤ j ∧ j < i + k ∧ j < m ∧ ¬ E j)
  | 0, i, u, h => .inl ⟨rfl, fun j h1 h2 => by omega⟩
  | k + 1, i, u, h => by
    rcases h i u (Nat.le_refl _) (by omega) with ⟨h1, h2, h3⟩ | ⟨h1, h2, x, h3, h4⟩ | ⟨h1, h2⟩
    · rcases cnt_three m E k (i + 1) () (fun j u h1 h2 => h j u (by omega) (by omega)) with ⟨e, ha⟩ | ⟨x, hx, e, j, j1, j2, j3, j4⟩
      · refine .inl ⟨by simp only [cnt, h3, Option.bind_some, stp]; exact e, fun j j1 j2 j3 => ?_⟩
        by_cases hj : j = i
        · subst hj; exact h2
        · exact ha j (by omega) (by omega) j3
      · exact .inr ⟨x, hx, by simp only [cnt, h3, Option.bind_some, stp]; exact e, j, by omega, by omega, j3, j4⟩
    · exact .inr ⟨x, h3, by simp only [cnt, h4, Option.bind_some, stp], i, Nat.le_refl _, by omega, h1, h2⟩
    · exact .inl ⟨by simp only [cnt, h2, Option.bind_some, stp], fun j j1 j2 j3 => by omega⟩
theorem ext_getD {α : Type} (d : α) {x y : List α} (hl : x.length = y.length) (h : ∀ j, j < x.length → x.getD j d = y.getD j d) : x = y := by
  refine List.ext_getElem hl fun j h1 h2 => ?_
  have := h j h1
  simpa [List.getD_eq_getElem?_getD, List.getElem?_eq_getElem h1, List.getElem?_eq_getElem h2] using this
theorem all_eq {α : Type} [DecidableEq α] (d : α) {x y : List α} (hl : x.length = y.length) : (List.range' 0 (x.length - 0)).all (fun j => decide (x.getD j d = y.getD j d)) = decide (x = y) := by
  rw [Bool.eq_iff_iff]
  simp only [List.all_eq_true, decide_eq_true_eq, List.mem_range'_1]
  exact ⟨fun h => ext_getD d hl fun j hj => h j ⟨by omega, by omega⟩, fun h j _ => by rw [h]⟩
theorem len_eq {a b : Nat} : (((a : Nat) : Int) == ((b : Nat) : Int)) = decide (a = b) := by
  rw [Bool.eq_iff_iff]; simp only [beq_iff_eq, decide_eq_true_eq]; omega
theorem coef_beq (x y : Coef) : ((x.Var == y.Var) && ((x.C == y.C) && true)) = decide (x = y) := by
  cases x; cases y
  rw [Bool.eq_iff_iff]; simp
theorem ref04_Equal_eq (x y : Linear) : ref04_Equal x y = some (decide (x = y)) := by
  unfold ref04_Equal ref04_Compare
  have key := cnt_three (fin := fun _ _ => ()) (body := fun i147 s146 =>
    bif decide (((i147 : Nat) : Int) < ((y.Terms.length : Nat) : Int)) then (
      ((
        bif (Op.bytesLess ((x.Terms.getD i147 ⟨[], 0⟩).Var) ((y.Terms.getD i147 ⟨[], 0⟩).Var)) then (
          some (.ret (.ret (-1)))
        ) else (
          bif (((x.Terms.getD i147 ⟨[], 0⟩).Var) == ((y.Terms.getD i147 ⟨[], 0⟩).Var)) then (
            bif decide (((x.Terms.getD i147 ⟨[], 0⟩).C) < ((y.Terms.getD i147 ⟨[], 0⟩).C)) then (
              some (.ret (.ret (-1)))
            ) else (
              bif ((((x.Terms.getD i147 ⟨[], 0⟩).Var) == ((y.Terms.getD i147 ⟨[], 0⟩).Var)) && ((((x.Terms.getD i147 ⟨[], 0⟩).C) == ((y.Terms.getD i147 ⟨[], 0⟩).C)) && true)) then (
                some (.brk ())
              ) else (
                some (.ret (.ret 1))
              )
            )
          ) else (
            bif ((((x.Terms.getD i147 ⟨[], 0⟩).Var) == ((y.Terms.getD i147 ⟨[], 0⟩).Var)) && ((((x.Terms.getD i147 ⟨[], 0⟩).C) == ((y.Terms.getD i147 ⟨[], 0⟩).C)) && true)) then (
              some (.brk ())
            ) else (
              some (.ret (.ret 1))
            )
          )
        )
      ) : Option (Out Unit (Stp Unit Unit Int))).bind (Sh.aft fun u274 =>
        some (.go ())
      )
    ) else (
      some (.brk ())
    )) y.Terms.length (fun j => x.Terms.getD j ⟨[], 0⟩ = y.Terms.getD j ⟨[], 0⟩) (x.Terms.length - 0) 0 () (fun j u _ _ => by
      by_cases hj : j < y.Terms.length
      · rw [decide_eq_true (show ((j : Nat) : Int) < ((y.Terms.length : Nat) : Int) by omega), coef_beq]
        generalize x.Terms.getD j ⟨[], 0⟩ = a
        generalize y.Terms.getD j ⟨[], 0⟩ = b
        by_cases hab : a = b
        · subst hab
          refine .inl ⟨hj, rfl, ?_⟩
          have h1 : Op.bytesLess a.Var a.Var = false := by
            have : ∀ l : Str, Op.bytesLess l l = false := by
              intro l
              induction l with
              | nil => rfl
              | cons x l ih => simp [Op.bytesLess, ih]
            exact this _
          rw [h1]
          simp [Sh.aft]
        · refine .inr (.inl ⟨hj, hab, ?_⟩)
          rw [decide_eq_false hab]
          cases Op.bytesLess a.Var b.Var with
          | true => exact ⟨-1, by decide, rfl⟩
          | false =>
            cases hv : a.Var == b.Var with
            | true =>
              cases decide (a.C < b.C) with
              | true => exact ⟨-1, by decide, rfl⟩
              | false => exact ⟨1, by decide, rfl⟩
            | false => exact ⟨1, by decide, rfl⟩
      · rw [decide_eq_false (show ¬ ((j : Nat) : Int) < ((y.Terms.length : Nat) : Int) by omega)]
        exact .inr (.inr ⟨by omega, rfl⟩))
  rcases key with ⟨e, ha⟩ | ⟨r, hr, e, j, _, j2, j3, j4⟩
  · rw [e]
    simp only [Option.bind_some, Sh.aft]
    rw [len_eq]
    cases x with | mk a s => cases y with | mk b t =>
    simp only at ha ⊢
    by_cases hl : s.length = t.length
    · have hst : s = t := ext_getD ⟨[], 0⟩ hl fun j hj => ha j (by omega) (by omega) (by omega)
      subst hst
      rw [decide_eq_false (show ¬ ((s.length : Nat) : Int) < ((s.length : Nat) : Int) by omega), decide_eq_true (rfl : s.length = s.length)]
      simp only [cond_true, cond_false]
      by_cases h1 : a < b
      · rw [decide_eq_true h1]
        have : ¬ a = b := by omega
        simp [this]
      · rw [decide_eq_false h1]
        by_cases h2 : a > b
        · rw [decide_eq_true h2]
          have : ¬ a = b := by omega
          simp [this]
        · rw [decide_eq_false h2]
          have : a = b := by omega
          simp [this]
    · rw [decide_eq_false hl]
      have hne : ¬ (Linear.mk a s = Linear.mk b t) := fun e => hl (by simp at e; rw [e.2])
      rw [decide_eq_false hne]
      by_cases h1 : s.length < t.length
      · rw [decide_eq_true (show ((s.length : Nat) : Int) < ((t.length : Nat) : Int) by omega)]; rfl
      · rw [decide_eq_false (show ¬ ((s.length : Nat) : Int) < ((t.length : Nat) : Int) by omega), decide_eq_true (show ((s.length : Nat) : Int) > ((t.length : Nat) : Int) by omega)]; rfl
  · rw [e]
    simp only [Option.bind_some, Sh.aft]
    have hne : ¬ (x = y) := fun e => j4 (by rw [e])
    rw [decide_eq_false hne]
    simpa using hr
theorem ref11_Equal_eq (x y : Shape) : ref11_Equal x y = some (decide (x = y)) := by
  unfold ref11_Equal
  cases x with | mk a s => cases y with | mk b t =>
  simp only
  rw [len_eq]
  by_cases h : a = b
  · subst h
    simp only [beq_self_eq_true, cond_true]
    by_cases hl : s.length = t.length
    · rw [decide_eq_true hl]
      simp only [cond_true]
      rw [cnt_all (fun j => decide (s.getD j ⟨0, []⟩ = t.getD j ⟨0, []⟩)) _ _ () (fun j u _ hj => by
        rw [grd_pos (by omega), eta_L, eta_L, ref04_Equal_eq]
        simp only [Option.bind_some]
        cases decide (s.getD j ⟨0, []⟩ = t.getD j ⟨0, []⟩) <;> rfl), aft_bif, all_eq ⟨0, []⟩ hl]
      have : decide (Shape.mk a s = Shape.mk a t) = decide (s = t) := by rw [decide_eq_decide]; simp
      rw [this]
      cases decide (s = t) <;> rfl
    · rw [decide_eq_false hl, decide_eq_false (p := Shape.mk a s = Shape.mk a t) (fun e => hl (by simp only [Shape.mk.injEq] at e; rw [e.2]))]; rfl
  · have : (a == b) = false := by simpa using h
    rw [this, decide_eq_false (p := Shape.mk a s = Shape.mk b t) (fun e => h (by simp only [Shape.mk.injEq] at e; exact e.1))]; rfl

/-! ### element variables -/
def elemS : Str → Bool
  | [] => false
  | c :: r => decide (r.length ≤ 29) && ((decide (65 ≤ c.toNat) && decide (c.toNat ≤ 90)) && r.all isDig)
theorem ref11_ElemVar_eq (s : Str) : ref11_ElemVar s = some (elemS s) := by
  unfold ref11_ElemVar
  rw [cnt_all (fun j => isDig (s.getD j 0)) _ _ () (fun j u _ _ => by
    simp only [isDig]
    generalize s.getD j 0 = x
    by_cases h2 : (x.toNat : Int) < 48
    · rw [decide_eq_true h2, decide_eq_false (show ¬ 48 ≤ x.toNat by omega)]; rfl
    · rw [decide_eq_false h2, decide_eq_true (show 48 ≤ x.toNat by omega)]
      by_cases h3 : (x.toNat : Int) > 57
      · rw [decide_eq_true h3, decide_eq_false (show ¬ x.toNat ≤ 57 by omega)]; rfl
      · rw [decide_eq_false h3, decide_eq_true (show x.toNat ≤ 57 by omega)]; rfl), aft_bif, all_getD isDig 0 s 1]
  cases s with
  | nil => rfl
  | cons c r =>
    simp only [List.drop_succ_cons, List.drop_zero, elemS]
    rw [decide_eq_true (by simp; omega : (((c :: r).length : Nat) : Int) ≥ 1)]
    simp only [cond_true]
    by_cases h29 : r.length ≤ 29
    · rw [decide_eq_true (by simp; omega : (((c :: r).length : Nat) : Int) ≤ 30), decide_eq_true h29, grd_pos (by simp)]
      simp only [cond_true, Bool.true_and, List.getD_cons_zero]
      by_cases h65 : 65 ≤ c.toNat
      · rw [decide_eq_true (show (c.toNat : Int) ≥ 65 by omega), decide_eq_true h65]
        have : decide ((c.toNat : Int) ≤ 90) = decide (c.toNat ≤ 90) := by rw [decide_eq_decide]; omega
        rw [this]
        cases r.all isDig <;> cases decide (c.toNat ≤ 90) <;> rfl
      · rw [decide_eq_false (show ¬ (c.toNat : Int) ≥ 65 by omega), decide_eq_false h65]
        cases r.all isDig <;> rfl
    · rw [decide_eq_false (by simp; omega : ¬ (((c :: r).length : Nat) : Int) ≤ 30), decide_eq_false h29]
      cases r.all isDig <;> rfl
theorem dropWhile_nil {α : Type} (p : α → Bool) : ∀ l : List α, (l.dropWhile p = []) ↔ l.all p = true
  | [] => by simp
  | x :: l => by
    simp only [List.dropWhile_cons, List.all_cons, Bool.and_eq_true]
    cases hp : p x
    · simp
    · simp [dropWhile_nil p l]
theorem dropWhile_head {α : Type} (p : α → Bool) : ∀ (l : List α) {x : α} {r : List α}, l.dropWhile p = x :: r → p x = false
  | [], x, r, h => by simp at h
  | y :: l, x, r, h => by
    simp only [List.dropWhile_cons] at h
    cases hp : p y
    · rw [hp] at h; simp at h; rw [← h.1]; exact hp
    · rw [hp] at h; simp at h; exact dropWhile_head p l h
theorem trim_nil (l cs : Str) : (Lib.trimS l cs = []) ↔ l.all cs.contains = true := by
  unfold Lib.trimS Lib.trimLeftS Lib.trimRightS
  rw [dropWhile_nil]
  constructor
  · intro h
    cases hd : l.reverse.dropWhile (cs.contains ·) with
    | nil =>
      have := (dropWhile_nil (cs.contains ·) l.reverse).1 hd
      simpa using this
    | cons x r =>
      have h1 := dropWhile_head _ _ hd
      rw [hd] at h
      simp only [List.all_reverse, List.all_cons, Bool.and_eq_true] at h
      have h2 := h.1
      rw [h2] at h1; cases h1
  · intro h
    have : l.reverse.dropWhile (cs.contains ·) = [] := (dropWhile_nil (cs.contains ·) l.reverse).2 (by simpa using h)
    rw [this]; rfl
theorem digits_contains (b : UInt8) : ([48, 49, 50, 51, 52, 53, 54, 55, 56, 57] : Str).contains b = isDig b := by
  rw [Bool.eq_iff_iff]
  simp only [List.contains_iff_mem, List.mem_cons, List.mem_nil_iff, or_false, isDig, Bool.and_eq_true, decide_eq_true_eq, ← UInt8.toNat_inj]
  have : (48 : UInt8).toNat = 48 ∧ (49 : UInt8).toNat = 49 ∧ (50 : UInt8).toNat = 50 ∧ (51 : UInt8).toNat = 51 ∧ (52 : UInt8).toNat = 52 ∧ (53 : UInt8).toNat = 53 ∧ (54 : UInt8).toNat = 54 ∧ (55 : UInt8).toNat = 55 ∧ (56 : UInt8).toNat = 56 ∧ (57 : UInt8).toNat = 57 := by decide
  omega
theorem shape_ElemVar_eq (s : Str) : shape_ElemVar s = some (elemS s) := by
  unfold shape_ElemVar
  cases s with
  | nil => rfl
  | cons c r =>
    rw [decide_eq_false (by simp; omega : ¬ (((c :: r).length : Nat) : Int) < 1)]
    simp only [cond_false, elemS]
    by_cases h29 : r.length ≤ 29
    · rw [decide_eq_false (by simp; omega : ¬ (((c :: r).length : Nat) : Int) > 30), decide_eq_true h29, grd_pos (by simp)]
      simp only [cond_false, Bool.true_and, List.getD_cons_zero]
      by_cases h65 : 65 ≤ c.toNat
      · rw [decide_eq_false (show ¬ (c.toNat : Int) < 65 by omega), decide_eq_true h65]
        by_cases h90 : c.toNat ≤ 90
        · rw [decide_eq_false (show ¬ (c.toNat : Int) > 90 by omega), decide_eq_true h90, grd_pos (by simp)]
          simp only [cond_false, Bool.true_and, List.drop_succ_cons, List.drop_zero, lib_Trim]
          rw [grd_pos (by decide)]
          simp only [Option.bind_some, Option.some.injEq]
          have hc : (([48, 49, 50, 51, 52, 53, 54, 55, 56, 57] : Str).contains) = isDig := funext digits_contains
          rw [Bool.eq_iff_iff, beq_iff_eq, trim_nil, hc]
        · rw [decide_eq_true (show (c.toNat : Int) > 90 by omega), decide_eq_false h90]; rfl
      · rw [decide_eq_true (show (c.toNat : Int) < 65 by omega), decide_eq_false h65]; rfl
    · rw [decide_eq_true (by simp; omega : (((c :: r).length : Nat) : Int) > 30), decide_eq_false h29]; rfl
end Go.Proofs.YtjfpcjnopbfekaaGreatDoor

/- PLAIN LAWS: binds, variables. -/
namespace Go.Proofs.YtjfpcjnopbfekaaGreatDoor
open Go.Ab Go.Sh
abbrev bd0 : Bind := ⟨0, [], ⟨0, []⟩, ⟨[], []⟩, []⟩
theorem eta_B (b : Bind) : Bind.mk b.Kind b.Var b.Dim b.Row b.Elem = b := rfl
def isB (k : Int) (v : Str) (b : Bind) : Bool := b.Kind == k && b.Var == v
theorem find_out (l : List Bind) (p : Bind → Bool) : ∀ x : Option Nat, (match x with | some j => ((j : Nat) : Int) | none => -1) = idxOf p l →
    ((some (match x with | some j => Out.ret ((j : Nat) : Int) | none => Out.brk ()) : Option (Out Unit Int)).bind (Sh.aft fun _ => some (-1))) = some (idxOf p l)
  | none, hx => by rw [← hx]; rfl
  | some j, hx => by rw [← hx]; rfl
theorem shape_find_eq (l : List Bind) (k : Int) (v : Str) : shape_find l k v = some (idxOf (isB k v) l) := by
  unfold shape_find slices_IndexFunc_api_Bind
  rw [cnt_find (f := fun j => ((j : Nat) : Int)) (fun j => isB k v (l.getD j bd0)) _ _ () (fun j u _ _ => by
    unfold shape_find_1 isB
    simp only
    cases (l.getD j bd0).Kind == k
    · rfl
    · cases (l.getD j bd0).Var == v <;> rfl)]
  exact congrArg (fun o : Option Int => o.bind fun y => some y) (find_out l (isB k v) _ (find_idx0 (isB k v) bd0 l))
theorem ref11_Find_eq (l : List Bind) (k : Int) (v : Str) : ref11_Find l k v = some (idxOf (isB k v) l) := by
  unfold ref11_Find
  rw [cnt_find (f := fun j => ((j : Nat) : Int)) (fun j => isB k v (l.getD j bd0)) _ _ () (fun j u _ _ => by
    unfold isB
    cases (l.getD j bd0).Kind == k
    · rfl
    · cases (l.getD j bd0).Var == v <;> rfl)]
  exact find_out l (isB k v) _ (find_idx0 (isB k v) bd0 l)
def zeroL (l : Linear) : Bool := l.Const == 0 && l.Terms.isEmpty
def zeroS (s : Shape) : Bool := s.Row.isEmpty && s.Dims.isEmpty
def elemTy (s : Str) : Bool := s == [105, 110, 116] || (s == [98, 111, 111, 108] || elemS s)
def validB (b : Bind) : Bool :=
  bif b.Kind == 1 then (nameS b.Var && (validL b.Dim && (zeroS b.Row && b.Elem.isEmpty)))
  else bif b.Kind == 2 then (nameS b.Var && (validS b.Row && (zeroL b.Dim && b.Elem.isEmpty)))
  else bif b.Kind == 3 then (elemS b.Var && (elemTy b.Elem && (zeroL b.Dim && zeroS b.Row))) else false
def okB (b : Bind) : Prop := b.Var.length ≤ 1000000 ∧ okL b.Dim ∧ okS b.Row
theorem okB_few {b : Bind} (h : fewB b = true) : okB b := by
  simp only [fewB, Bool.and_eq_true, decide_eq_true_eq] at h
  exact ⟨by omega, okL_few h.2.2.1, okS_few h.2.2.2⟩
theorem dec_pos {α : Type} (l : List α) : decide (((l.length : Nat) : Int) > 0) = !l.isEmpty := by
  cases l with
  | nil => rfl
  | cons x l => rw [decide_eq_true (by simp)]; rfl
theorem shape_bound_eq (b : Bind) (h : okB b) : shape_bound b = some (validB b) := by
  unfold shape_bound validB zeroL zeroS elemTy
  rw [linear_Name_eq _ h.1, linear_Valid_eq _ h.2.1.1 h.2.1.2, shape_Valid_eq _ h.2.2, shape_ElemVar_eq, shape_ElemVar_eq, len_beq0, len_beq0, nil_beq, nil_beq]
  cases b.Dim.Const == 0 <;> cases b.Row.Row.isEmpty <;> simp only [cond_true, cond_false, Option.bind_some, Bool.true_and, Bool.false_and] <;>
  (cases b.Kind == 1
   · cases b.Kind == 2
     · cases b.Kind == 3
       · rfl
       · cases elemS b.Var
         · rfl
         · cases b.Elem == [105, 110, 116] <;> cases b.Elem == [98, 111, 111, 108] <;> cases elemS b.Elem <;> cases b.Dim.Terms.isEmpty <;> cases b.Row.Dims.isEmpty <;> rfl
     · cases nameS b.Var
       · rfl
       · cases validS b.Row <;> cases b.Dim.Terms.isEmpty <;> cases b.Elem.isEmpty <;> rfl
   · cases nameS b.Var
     · rfl
     · cases validL b.Dim <;> cases b.Row.Dims.isEmpty <;> cases b.Elem.isEmpty <;> rfl)
theorem ref11_validBind_eq (b : Bind) : ref11_validBind b = some (validB b) := by
  unfold ref11_validBind validB zeroL zeroS elemTy ref11_zero ref11_Elem
  rw [ref04_Name_eq, ref04_Valid_eq, ref11_Valid_eq, ref11_ElemVar_eq, ref11_ElemVar_eq, len_beq0, dec_pos, nil_beq, nil_beq]
  cases b.Dim.Const == 0 <;> cases b.Row.Row.isEmpty <;> simp only [cond_true, cond_false, Option.bind_some, Bool.true_and, Bool.false_and] <;>
  (cases b.Kind == 1
   · cases b.Kind == 2
     · cases b.Kind == 3
       · rfl
       · cases elemS b.Var
         · rfl
         · cases b.Elem == [105, 110, 116] <;> cases b.Elem == [98, 111, 111, 108] <;> cases elemS b.Elem <;> cases b.Dim.Terms.isEmpty <;> cases b.Row.Dims.isEmpty <;> rfl
     · cases nameS b.Var
       · rfl
       · cases validS b.Row <;> cases b.Dim.Terms.isEmpty <;> cases b.Elem.isEmpty <;> rfl
   · cases nameS b.Var
     · rfl
     · cases validL b.Dim <;> cases b.Row.Dims.isEmpty <;> cases b.Elem.isEmpty <;> rfl)
def validBP (l : List Bind) (j : Nat) : Bool := validB (l.getD j bd0) && !decide (idxOf (isB (l.getD j bd0).Kind (l.getD j bd0).Var) (l.take j) ≥ 0)
def validBs (l : List Bind) : Bool := (List.range' 0 (l.length - 0)).all (validBP l)
theorem okB_getD {l : List Bind} (h : ∀ b ∈ l, okB b) (j : Nat) : okB (l.getD j bd0) := by
  rw [List.getD_eq_getElem?_getD]
  cases h1 : l[j]? with
  | none => exact ⟨by simp, ⟨by simp, fun t ht => by simp at ht⟩, ⟨by simp, fun t ht => by simp at ht⟩⟩
  | some x => exact h x (List.mem_of_getElem? h1)
theorem shape_ValidBinds_eq (l : List Bind) (h : ∀ b ∈ l, okB b) : shape_ValidBinds l = some (validBs l) := by
  unfold shape_ValidBinds validBs
  rw [cnt_all (validBP l) _ _ () (fun j u _ _ => by
    have e := shape_bound_eq (l.getD j bd0) (okB_getD h j)
    have e2 := shape_find_eq (l.take j) (l.getD j bd0).Kind (l.getD j bd0).Var
    simp only [eta_L, eta_S, eta_B]
    rw [e, e2]
    simp only [Option.bind_some, validBP]
    cases validB (l.getD j bd0)
    · rfl
    · cases decide (idxOf (isB (l.getD j bd0).Kind (l.getD j bd0).Var) (l.take j) ≥ 0) <;> rfl), aft_bif]
  cases (List.range' 0 (l.length - 0)).all (validBP l) <;> rfl
theorem ref11_ValidBinds_eq (l : List Bind) : ref11_ValidBinds l = some (validBs l) := by
  unfold ref11_ValidBinds validBs
  rw [cnt_all (validBP l) _ _ () (fun j u _ _ => by
    have e := ref11_validBind_eq (l.getD j bd0)
    have e2 := ref11_Find_eq (l.take j) (l.getD j bd0).Kind (l.getD j bd0).Var
    simp only [eta_L, eta_S, eta_B]
    rw [e, e2]
    simp only [Option.bind_some, validBP]
    cases validB (l.getD j bd0)
    · rfl
    · cases decide (idxOf (isB (l.getD j bd0).Kind (l.getD j bd0).Var) (l.take j) ≥ 0) <;> rfl), aft_bif]
  cases (List.range' 0 (l.length - 0)).all (validBP l) <;> rfl

/-! ### variables -/
theorem validL_len {l : Linear} (h : validL l = true) : l.Terms.length ≤ 12 := by
  simp only [validL, Bool.and_eq_true, decide_eq_true_eq] at h
  exact h.2.2
theorem validS_dims {s : Shape} (h : validS s = true) : s.Dims.length ≤ 6 ∧ ∀ j, (s.Dims.getD j ⟨0, []⟩).Terms.length ≤ 12 := by
  simp only [validS, Bool.and_eq_true, decide_eq_true_eq, List.all_eq_true] at h
  refine ⟨h.2.1, fun j => ?_⟩
  rw [List.getD_eq_getElem?_getD]
  cases h1 : s.Dims[j]? with
  | none => simp
  | some x => exact validL_len (h.1 x (List.mem_of_getElem? h1))
end Go.Proofs.YtjfpcjnopbfekaaGreatDoor

/- PLAIN LAWS: sums, whatever the order of a map's entries; the example of the document. -/
namespace Go.Sh
theorem nodup_le {α : Type} [DecidableEq α] : ∀ (l l' : List α), l.Nodup → (∀ x ∈ l, x ∈ l') → l.length ≤ l'.length
  | [], l', _, _ => by simp
  | a :: l, l', h, hs => by
    rw [List.nodup_cons] at h
    have ha : a ∈ l' := hs a (by simp)
    have ih := nodup_le l (l'.erase a) h.2 (fun x hx => by
      have hne : x ≠ a := fun e => h.1 (e ▸ hx)
      exact (List.mem_erase_of_ne hne).2 (hs x (by simp [hx])))
    rw [List.length_erase_of_mem ha] at ih
    have : 0 < l'.length := List.length_pos_of_mem ha
    simp only [List.length_cons]; omega
theorem mr_go {V σ ε β : Type} {m : List (Str × V)} {body : Str × V → σ → Option (Stp σ ε β)} {K : σ → Prop} {J : β → Prop} (I : List Nat → σ → Prop) (g : σ → Str × V → σ)
    (hstep : ∀ seen s i (h : i < m.length), seen.Nodup → i ∉ seen → (∀ j ∈ seen, j < m.length) → I seen s → body m[i] s = some (.go (g s m[i])) ∧ I (seen ++ [i]) (g s m[i]))
    (hend : ∀ seen s, seen.Nodup → (∀ i, i < m.length → i ∈ seen) → (∀ i ∈ seen, i < m.length) → I seen s → K s) :
    ∀ (n : Nat) (seen : List Nat) (s : σ), seen.Nodup → (∀ i ∈ seen, i < m.length) → n + seen.length = m.length → I seen s → MR m body K J n seen s
  | 0, seen, s, h1, h2, h3, hI => by
    have hall : ∀ i, i < m.length → i ∈ seen := by
      intro i hi
      refine Classical.byContradiction fun hn => ?_
      have := nodup_le (i :: seen) (List.range m.length) (List.nodup_cons.2 ⟨hn, h1⟩) (fun x hx => by
        rcases List.mem_cons.1 hx with rfl | hx
        · simpa using hi
        · simpa using h2 x hx)
      simp at this; omega
    exact ⟨hall, hend seen s h1 hall h2 hI⟩
  | n + 1, seen, s, h1, h2, h3, hI => by
    refine ⟨?_, fun i hi hn => ?_⟩
    · refine Classical.byContradiction fun hn => ?_
      have := nodup_le (List.range m.length) seen List.nodup_range (fun x hx => Classical.byContradiction fun hx2 => hn ⟨x, by simpa using hx, hx2⟩)
      simp at this; omega
    · obtain ⟨e1, e2⟩ := hstep seen s i hi h1 hn h2 hI
      refine ⟨_, e1, ?_⟩
      have hnd : (seen ++ [i]).Nodup := by
        rw [List.nodup_append]
        exact ⟨h1, by simp, fun a ha b hb => by
          have : b = i := by simpa using hb
          subst this; intro e; subst e; exact hn ha⟩
      exact mr_go I g hstep hend n (seen ++ [i]) _ hnd (fun j hj => by
        rcases List.mem_append.1 hj with hj | hj
        · exact h2 j hj
        · have : j = i := by simpa using hj
          subst this; exact hi) (by simp; omega) e2
def leS (x y : Str) : Bool := decide (x ≤ y)
theorem leS_trans (a b c : Str) (h1 : leS a b = true) (h2 : leS b c = true) : leS a c = true := by
  simp only [leS, decide_eq_true_eq] at *; exact List.le_trans h1 h2
theorem leS_total (a b : Str) : (leS a b || leS b a) = true := by
  simp only [leS, Bool.or_eq_true, decide_eq_true_eq]; exact List.le_total a b
theorem leS_anti (a b : Str) (h1 : leS a b = true) (h2 : leS b a = true) : a = b := by
  simp only [leS, decide_eq_true_eq] at *; exact List.le_antisymm h1 h2
theorem sort_sorted (l : List Str) : (Go.Ab.sortS l).Pairwise (fun a b => leS a b = true) := List.pairwise_mergeSort leS_trans leS_total l
theorem sort_perm (l : List Str) : (Go.Ab.sortS l).Perm l := List.mergeSort_perm l _
/-- What is sorted and has the same members is it. -/
theorem sort_eq {l r : List Str} (hs : r.Pairwise (fun a b => leS a b = true)) (hp : r.Perm l) : Go.Ab.sortS l = r :=
  List.Perm.eq_of_pairwise (fun a b _ _ => leS_anti a b) (sort_sorted l) hs ((sort_perm l).trans hp.symm)
theorem sort_congr {l r : List Str} (h : l.Perm r) : Go.Ab.sortS l = Go.Ab.sortS r := sort_eq (sort_sorted r) ((sort_perm r).trans h.symm)
def insS (x : Str) : List Str → List Str
  | [] => [x]
  | y :: l => bif leS x y then x :: y :: l else y :: insS x l
def sortI : List Str → List Str
  | [] => []
  | x :: l => insS x (sortI l)
theorem insS_perm (x : Str) : ∀ l, (insS x l).Perm (x :: l)
  | [] => .refl _
  | y :: l => by
    simp only [insS]
    cases leS x y
    · exact ((insS_perm x l).cons y).trans (.swap _ _ _)
    · exact .refl _
theorem insS_sorted (x : Str) : ∀ {l : List Str}, l.Pairwise (fun a b => leS a b = true) → (insS x l).Pairwise (fun a b => leS a b = true)
  | [], _ => by simp [insS]
  | y :: l, h => by
    rw [List.pairwise_cons] at h
    simp only [insS]
    cases hxy : leS x y
    · simp only [cond_false, List.pairwise_cons]
      have hyx : leS y x = true := by
        have := leS_total x y
        rw [hxy] at this; simpa using this
      refine ⟨fun a ha => ?_, insS_sorted x h.2⟩
      rcases List.mem_cons.1 ((insS_perm x l).mem_iff.1 ha) with rfl | ha
      · exact hyx
      · exact h.1 a ha
    · simp only [cond_true, List.pairwise_cons]
      refine ⟨fun a ha => ?_, h⟩
      rcases List.mem_cons.1 ha with rfl | ha
      · exact hxy
      · exact leS_trans _ _ _ hxy (h.1 a ha)
theorem sortI_perm : ∀ l, (sortI l).Perm l
  | [] => .refl _
  | x :: l => (insS_perm x _).trans ((sortI_perm l).cons x)
theorem sortI_sorted : ∀ l, (sortI l).Pairwise (fun a b => leS a b = true)
  | [] => List.Pairwise.nil
  | x :: l => insS_sorted x (sortI_sorted l)
theorem sortS_eq (l : List Str) : Go.Ab.sortS l = sortI l := sort_eq (sortI_sorted l) (sortI_perm l)
def nodupB : List Str → Bool
  | [] => true
  | x :: l => !(l.any fun y => y == x) && nodupB l
theorem nodupB_eq : ∀ {l : List Str}, nodupB l = true → l.Nodup
  | [], _ => List.nodup_nil
  | x :: l, h => by
    simp only [nodupB, Bool.and_eq_true, Bool.not_eq_true', List.any_eq_false, beq_iff_eq] at h
    exact List.nodup_cons.2 ⟨fun hm => h.1 x hm rfl, nodupB_eq h.2⟩
end Go.Sh
namespace Go.Proofs.YtjfpcjnopbfekaaGreatDoor
open Go.Ab Go.Sh
/-- The names with a coefficient. -/
def namesOf (m : List (Str × Int)) : List Str := (m.filter fun e => !(e.2 == 0)).map (·.1)
def endSum (n : Int) (m : List (Str × Int)) (names : List Str) : Linear × Int :=
  bif validL (Linear.mk n (names.map fun k => Coef.mk k (mget 0 k m))) then (Linear.mk n (names.map fun k => Coef.mk k (mget 0 k m)), 0) else (Linear.mk 0 [], 3)
def goodM (m : List (Str × Int)) : Bool := nodupB (m.map (·.1)) && (decide (m.length ≤ 1000) && m.all fun e => decide (e.1.length ≤ 1000000))
theorem snoc_map (m : List (Str × Int)) (y : List Str) (hy : y.length ≤ 1000000) : (cnt (σ := (List Coef)) (ε := (List Coef)) (ρ := Empty) (fun i117 s116 =>
      grd ((s116.length + 1) * 24 ≤ 140737488355328) <|
      some (.go (s116 ++ [(Coef.mk (y.getD i117 []) (mget 0 (y.getD i117 []) m))]))
    ) (fun i117 s116 => s116) (y.length - 0) 0 []) = some (.brk (y.map fun k => Coef.mk k (mget 0 k m))) := by
  obtain ⟨s', e1, e2, _⟩ := cnt_go (fin := fun _ s => s) (body := fun i117 s116 =>
      grd ((s116.length + 1) * 24 ≤ 140737488355328) <|
      some (.go (s116 ++ [(Coef.mk (y.getD i117 []) (mget 0 (y.getD i117 []) m))]))) (ε := List Coef) (ρ := Empty) (fun j s => s ++ [(fun k => Coef.mk k (mget 0 k m)) (y.getD j [])]) (fun j s => s.length = j) (y.length - 0) 0 [] rfl (fun j s _ hj hI => ⟨by rw [grd_pos (by omega)], by simp [hI]⟩)
  rw [e1, e2]
  have := foldl_getD (fun (s : List Coef) (k : Str) => s ++ [(fun k => Coef.mk k (mget 0 k m)) k]) [] y 0 []
  rw [this]
  have gen : ∀ (ts : List Str) (s : List Coef), ts.foldl (fun s k => s ++ [(fun k => Coef.mk k (mget 0 k m)) k]) s = s ++ ts.map (fun k => Coef.mk k (mget 0 k m)) := by
    intro ts
    induction ts with
    | nil => intro s; simp
    | cons t ts ih => intro s; simp [ih]
  rw [List.drop_zero, gen]; rfl
theorem sum_rest (n : Int) (m : List (Str × Int)) (hm : goodM m = true) (s : List Str) (hp : s.Perm (namesOf m)) :
    ((lib_Sort s).bind fun y97 =>
    (cnt (σ := (List Coef)) (ε := (List Coef)) (ρ := Empty) (fun i117 s116 =>
      grd ((s116.length + 1) * 24 ≤ 140737488355328) <|
      some (.go (s116 ++ [(Coef.mk (y97.getD i117 []) (mget 0 (y97.getD i117 []) m))]))
    ) (fun i117 s116 => s116) (y97.length - 0) 0 []).bind <| aftE fun u148 =>
    (linear_Valid (Linear.mk n u148)).bind fun y151 =>
    bif y151 then (
      some ((Linear.mk n u148), 0)
    ) else (
      some ((Linear.mk 0 []), 3)
    )) = some (endSum n m (sortI (namesOf m))) := by
  simp only [goodM, Bool.and_eq_true, decide_eq_true_eq, List.all_eq_true] at hm
  obtain ⟨_, hl, hk⟩ := hm
  have hlen : (namesOf m).length ≤ m.length := by unfold namesOf; rw [List.length_map]; exact List.length_filter_le _ _
  have hs : s.length ≤ 1000 := by rw [hp.length_eq]; omega
  unfold lib_Sort
  rw [grd_pos (by omega)]
  simp only [Option.bind_some]
  rw [sort_congr hp, sortS_eq]
  have hsi : (sortI (namesOf m)).length ≤ 1000 := by rw [(sortI_perm _).length_eq]; omega
  rw [snoc_map m _ (by omega)]
  simp only [Option.bind_some, aftE]
  rw [linear_Valid_eq _ (by simp; omega) (fun t ht => by
    obtain ⟨k, hk1, rfl⟩ := List.mem_map.1 ht
    have hk2 := (sortI_perm _).mem_iff.1 hk1
    obtain ⟨e, he, rfl⟩ := List.mem_map.1 hk2
    exact hk e (List.mem_filter.1 he).1)]
  simp only [Option.bind_some, endSum]
  cases validL (Linear.mk n ((sortI (namesOf m)).map fun k => Coef.mk k (mget 0 k m))) <;> rfl
theorem sum_loop {β : Type} (m : List (Str × Int)) (hm : goodM m = true) (k : List Str → Option β) (v : β) (hk : ∀ s, s.Perm (namesOf m) → k s = some v) :
    mrngK (σ := (List Str)) (ε := Empty) (β := β) m (fun e164 s94 =>
    bif (e164.2 == 0) then (
      some (.go s94)
    ) else (
      grd ((s94.length + 1) * 16 ≤ 140737488355328) <|
      some (.go (s94 ++ [e164.1]))
    )) [] k = some v := by
  simp only [goodM, Bool.and_eq_true, decide_eq_true_eq, List.all_eq_true] at hm
  obtain ⟨hnd, hl, _⟩ := hm
  have hnd := nodupB_eq hnd
  have hinj : ∀ i j (hi : i < m.length) (hj : j < m.length), m[i].1 = m[j].1 → i = j := by
    intro i j hi hj e
    have h1 : (m.map (·.1))[i]'(by simpa using hi) = (m.map (·.1))[j]'(by simpa using hj) := by simpa using e
    exact (List.getElem_inj hnd).1 h1
  refine mrngK_eq (mr_go (fun seen s => s.Nodup ∧ s.length ≤ seen.length ∧ ∀ x, x ∈ s ↔ ∃ i, i ∈ seen ∧ ∃ h : i < m.length, m[i].1 = x ∧ m[i].2 ≠ 0) (fun s e => bif e.2 == 0 then s else s ++ [e.1]) ?_ ?_ m.length [] [] List.nodup_nil (fun i hi => by simp at hi) (by simp) ⟨List.nodup_nil, by simp, fun x => by simp⟩)
  · rintro seen s i hi hs1 hs2 hs3 ⟨i1, i2, i3⟩
    have hsl : seen.length ≤ m.length := by
      have := nodup_le seen (List.range m.length) hs1 (fun x hx => by simpa using hs3 x hx)
      simpa using this
    cases hz : m[i].2 == 0 with
    | true =>
      have hz' : m[i].2 = 0 := by simpa using hz
      refine ⟨rfl, i1, by simp; omega, fun x => ?_⟩
      simp only [cond_true]
      rw [i3]
      constructor
      · rintro ⟨j, h1, h2⟩; exact ⟨j, by simp [h1], h2⟩
      · rintro ⟨j, h1, h2, h3, h4⟩
        rcases List.mem_append.1 h1 with h1 | h1
        · exact ⟨j, h1, h2, h3, h4⟩
        · have : j = i := by simpa using h1
          subst this; exact absurd hz' h4
    | false =>
      have hz' : m[i].2 ≠ 0 := by simpa using hz
      simp only [cond_false]
      rw [grd_pos (by omega)]
      refine ⟨rfl, ?_, by simp; omega, fun x => ?_⟩
      · rw [List.nodup_append]
        refine ⟨i1, by simp, fun a ha b hb => ?_⟩
        have hb : b = m[i].1 := by simpa using hb
        subst hb
        intro e
        obtain ⟨j, h1, h2, h3, _⟩ := (i3 a).1 ha
        exact hs2 (hinj j i h2 hi (h3.trans e) ▸ h1)
      · rw [List.mem_append, i3]
        constructor
        · rintro (⟨j, h1, h2⟩ | h)
          · exact ⟨j, by simp [h1], h2⟩
          · have h : x = m[i].1 := by simpa using h
            exact ⟨i, by simp, hi, h.symm, hz'⟩
        · rintro ⟨j, h1, h2, h3, h4⟩
          rcases List.mem_append.1 h1 with h1 | h1
          · exact .inl ⟨j, h1, h2, h3, h4⟩
          · have : j = i := by simpa using h1
            subst this; exact .inr (by simp [h3])
  · rintro seen s hs1 hall hlt ⟨i1, i2, i3⟩
    refine hk s ?_
    have hn2 : (namesOf m).Nodup := by
      unfold namesOf
      exact (List.Sublist.map _ List.filter_sublist).nodup hnd
    refine (List.perm_ext_iff_of_nodup i1 hn2).2 fun x => ?_
    rw [i3]
    unfold namesOf
    simp only [List.mem_map, List.mem_filter, Bool.not_eq_true', beq_eq_false_iff_ne]
    constructor
    · rintro ⟨j, _, h2, h3, h4⟩; exact ⟨m[j], ⟨List.getElem_mem h2, h4⟩, h3⟩
    · rintro ⟨e, ⟨h1, h2⟩, h3⟩
      obtain ⟨j, hj, rfl⟩ := List.getElem_of_mem h1
      exact ⟨j, hall j hj, hj, h3, h2⟩
theorem sum_result_eq (n : Int) (m : List (Str × Int)) (hm : goodM m = true) : linear_sum_result n m = some (endSum n m (sortI (namesOf m))) := by
  unfold linear_sum_result
  exact sum_loop m hm _ _ fun s hp => sum_rest n m hm s hp
theorem sum_result_2_eq (s0 : Str) (n : Int) (m : List (Str × Int)) (hm : goodM m = true) : linear_sum_result_2 s0 n m = some (endSum n m (sortI (namesOf m))) := by
  unfold linear_sum_result_2
  exact sum_loop m hm _ _ fun s hp => sum_rest n m hm s hp
end Go.Proofs.YtjfpcjnopbfekaaGreatDoor

/- PLAIN LAWS: the example of the document, computed. -/
namespace Go.Proofs.YtjfpcjnopbfekaaGreatDoor
open Go.Ab Go.Sh
theorem clone_eq (l : List Coef) (h : l.length ≤ 1000000) : slices_Clone_api_Coef l = some l := by
  unfold slices_Clone_api_Coef
  rw [grd_pos (by omega)]
  exact nilc_same fun e => by rw [e]
noncomputable def sumT (n : Int) (m : List (Str × Int)) : Option (Linear × Int) := bif goodM m then some (endSum n m (sortI (namesOf m))) else linear_sum_result n m
noncomputable def sumT2 (s : Str) (n : Int) (m : List (Str × Int)) : Option (Linear × Int) := bif goodM m then some (endSum n m (sortI (namesOf m))) else linear_sum_result_2 s n m
noncomputable def cloneT (l : List Coef) : Option (List Coef) := bif decide (l.length ≤ 1000000) then some l else slices_Clone_api_Coef l
theorem sum_T : linear_sum_result = sumT := by
  funext n m
  unfold sumT
  cases h : goodM m
  · rfl
  · exact sum_result_eq n m h
theorem sum_T2 : linear_sum_result_2 = sumT2 := by
  funext s n m
  unfold sumT2
  cases h : goodM m
  · rfl
  · exact sum_result_2_eq s n m h
theorem clone_T : slices_Clone_api_Coef = cloneT := by
  funext l
  unfold cloneT
  by_cases h : l.length ≤ 1000000
  · rw [decide_eq_true h]; exact clone_eq l h
  · rw [decide_eq_false h]; rfl
noncomputable def linear_SubstT (x0 : Linear) (x1 : (List Bind)) : Option (Linear × Int) :=
  (linear_Valid x0).bind fun y1 =>
  bif y1 then (
    (cnt (σ := (Int × (List (Str × Int)))) (ε := (Int × (List (Str × Int)))) (ρ := (Linear × Int)) (fun i122 s121 =>
      (slices_IndexFunc_api_Bind_2 x1 ((x0.Terms.getD i122 ⟨[], 0⟩).Var) ((x0.Terms.getD i122 ⟨[], 0⟩).C)).bind fun y193 =>
      ((
        bif decide (y193 < 0) then (
          some (.brk (true, s121.1, (mput ((x0.Terms.getD i122 ⟨[], 0⟩).Var) (w64 ((mget 0 ((x0.Terms.getD i122 ⟨[], 0⟩).Var) s121.2) + ((x0.Terms.getD i122 ⟨[], 0⟩).C))) s121.2)))
        ) else (
          grd (0 ≤ y193 ∧ y193 < (x1.length : Int)) <|
          (linear_Valid (Linear.mk (((x1.getD y193.toNat (⟨0, [], ⟨0, []⟩, ⟨[], []⟩, []⟩)).Dim).Const) (((x1.getD y193.toNat (⟨0, [], ⟨0, []⟩, ⟨[], []⟩, []⟩)).Dim).Terms))).bind fun y231 =>
          bif y231 then (
            (linear_sum_add (Linear.mk (((x1.getD y193.toNat (⟨0, [], ⟨0, []⟩, ⟨[], []⟩, []⟩)).Dim).Const) (((x1.getD y193.toNat (⟨0, [], ⟨0, []⟩, ⟨[], []⟩, []⟩)).Dim).Terms)) ((x0.Terms.getD i122 ⟨[], 0⟩).C) s121.1 s121.2).bind fun y238 =>
            some (.brk (false, y238.1, y238.2))
          ) else (
            some (.ret (.ret ((Linear.mk 0 []), 1)))
          )
        )
      ) : Option (Out (Bool × Int × (List (Str × Int))) (Stp (Int × (List (Str × Int))) (Int × (List (Str × Int))) (Linear × Int)))).bind (aft fun u223 =>
        some (.go (u223.2.1, u223.2.2))
      )
    ) (fun i122 s121 => (s121.1, s121.2)) (x0.Terms.length - 0) 0 (x0.Const, [])).bind <| aft fun u255 =>
    (sumT u255.1 u255.2).bind fun y258 =>
    some (y258.1, y258.2)
  ) else (
    some ((Linear.mk 0 []), 1)
  )
theorem linear_Subst_tw : linear_Subst = linear_SubstT := by
  funext x0 x1; unfold linear_Subst linear_SubstT
  simp only [sum_T, sum_T2, clone_T]
noncomputable def shape_clonesT (x0 : (List Linear)) : Option (List Linear) :=
  (cnt (σ := (List Linear)) (ε := (List Linear)) (ρ := Empty) (fun i77 s76 =>
    (cloneT ((x0.getD i77 ⟨0, []⟩).Terms)).bind fun y104 =>
    grd ((s76.length + 1) * 32 ≤ 140737488355328) <|
    some (.go (s76 ++ [(Linear.mk ((x0.getD i77 ⟨0, []⟩).Const) y104)]))
  ) (fun i77 s76 => s76) (x0.length - 0) 0 []).bind <| aftE fun u114 =>
  some u114
theorem shape_clones_tw : shape_clones = shape_clonesT := by
  funext x0; unfold shape_clones shape_clonesT
  simp only [sum_T, sum_T2, clone_T, linear_Subst_tw]
noncomputable def shape_madeT (x0 : Str) (x1 : (List Linear)) : Option (Shape × Int) :=
  bif decide (((x1.length : Nat) : Int) > 6) then (
    some ((Shape.mk [] []), 3)
  ) else (
    (shape_clonesT x1).bind fun y6 =>
    some ((Shape.mk x0 y6), 0)
  )
theorem shape_made_tw : shape_made = shape_madeT := by
  funext x0 x1; unfold shape_made shape_madeT
  simp only [sum_T, sum_T2, clone_T, linear_Subst_tw, shape_clones_tw]
noncomputable def shape_SubstT (x0 : Shape) (x1 : (List Bind)) : Option (Shape × Int) :=
  (shape_Valid x0).bind fun y1 =>
  bif y1 then (
    (shape_ValidBinds x1).bind fun y15 =>
    bif y15 then (
      (shape_find x1 2 x0.Row).bind fun y22 =>
      ((
        bif (x0.Row == []) then (
          some false
        ) else (
          some (decide (y22 ≥ 0))
        )
      ) : Option Bool).bind fun v25 =>
      ((
        bif v25 then (
          grd (0 ≤ y22 ∧ y22 < (x1.length : Int)) <|
          (shape_clonesT (((x1.getD y22.toNat (⟨0, [], ⟨0, []⟩, ⟨[], []⟩, []⟩)).Row).Dims)).bind fun y53 =>
          some ((((x1.getD y22.toNat (⟨0, [], ⟨0, []⟩, ⟨[], []⟩, []⟩)).Row).Row), y53)
        ) else (
          some (x0.Row, [])
        )
      ) : Option (Str × (List Linear))).bind fun v44 =>
      (cnt (σ := (List Linear)) (ε := (List Linear)) (ρ := (Shape × Int)) (fun i91 s90 =>
        (linear_SubstT (Linear.mk ((x0.Dims.getD i91 ⟨0, []⟩).Const) ((x0.Dims.getD i91 ⟨0, []⟩).Terms)) x1).bind fun y122 =>
        bif (y122.2 == 0) then (
          grd ((s90.length + 1) * 32 ≤ 140737488355328) <|
          some (.go (s90 ++ [y122.1]))
        ) else (
          some (.ret ((Shape.mk [] []), y122.2))
        )
      ) (fun i91 s90 => s90) (x0.Dims.length - 0) 0 v44.2).bind <| aft fun u140 =>
      (shape_madeT v44.1 u140).bind fun y143 =>
      some (y143.1, y143.2)
    ) else (
      some ((Shape.mk [] []), 1)
    )
  ) else (
    some ((Shape.mk [] []), 1)
  )
theorem shape_Subst_tw : shape_Subst = shape_SubstT := by
  funext x0 x1; unfold shape_Subst shape_SubstT
  simp only [sum_T, sum_T2, clone_T, linear_Subst_tw, shape_clones_tw, shape_made_tw]
noncomputable def linear_ParseT (x0 : Str) : Option (Linear × Int) :=
  (linear_reader_spaces x0 0 []).bind fun y1 =>
  (linear_reader_sign y1 0 []).bind fun y4 =>
  (whl (σ := (Int × Str × Int × (List (Str × Int)))) (ε := (Linear × Int)) (ρ := (Linear × Int)) (fun s71 =>
    (linear_reader_spaces s71.2.1 s71.2.2.1 s71.2.2.2).bind fun y79 =>
    (linear_reader_item s71.1 y79 s71.2.2.1 s71.2.2.2).bind fun y82 =>
    bif y82.1 then (
      (linear_reader_spaces y82.2.1 y82.2.2.1 y82.2.2.2).bind fun y89 =>
      bif (y89 == []) then (
        (sumT2 y89 y82.2.2.1 y82.2.2.2).bind fun y99 =>
        some (.ret (y99.1, y99.2))
      ) else (
        (linear_reader_sign y89 y82.2.2.1 y82.2.2.2).bind fun y106 =>
        bif y106.1.2 then (
          some (.go (y106.1.1, y106.2, y82.2.2.1, y82.2.2.2))
        ) else (
          some (.ret ((Linear.mk 0 []), 6))
        )
      )
    ) else (
      some (.ret ((Linear.mk 0 []), 6))
    )
  ) 4294967296 (y4.1.1, y4.2, 0, [])).bind <| aft some
theorem linear_Parse_tw : linear_Parse = linear_ParseT := by
  funext x0; unfold linear_Parse linear_ParseT
  simp only [sum_T, sum_T2, clone_T, linear_Subst_tw, shape_clones_tw, shape_made_tw, shape_Subst_tw]
noncomputable def shape_ParseT (x0 : Str) : Option (Shape × Int) :=
  (strings_CutPrefix x0 [91]).bind fun y1 =>
  (strings_CutSuffix y1.1 [93]).bind fun y4 =>
  bif y1.2 then (
    bif y4.2 then (
      (lib_Split y4.1 [44, 32]).bind fun y19 =>
      (cnt (σ := (Str × (List Linear))) (ε := (Str × (List Linear))) (ρ := (Shape × Int)) (fun i241 s240 =>
        (strings_CutSuffix (y19.getD i241 []) [46, 46]).bind fun y395 =>
        ((
          ((
            bif y395.2 then (
              bif (((i241 : Nat) : Int) == 0) then (
                some (.ret (.brk (true, true, y395.1, s240.2)))
              ) else (
                some (.brk true)
              )
            ) else (
              some (.brk false)
            )
          ) : Option (Out Bool (Out (Bool × Bool × Str × (List Linear)) (Stp (Str × (List Linear)) (Str × (List Linear)) (Shape × Int))))).bind (aft fun u483 =>
            (linear_ParseT (y19.getD i241 [])).bind fun y498 =>
            ((
              bif (y498.2 == 0) then (
                some (.brk ())
              ) else (
                bif (y4.1 == []) then (
                  some (.brk ())
                ) else (
                  some (.ret (.ret (.ret ((Shape.mk [] []), 6))))
                )
              )
            ) : Option (Out Unit (Out (Bool × Bool × Str × (List Linear)) (Stp (Str × (List Linear)) (Str × (List Linear)) (Shape × Int))))).bind (aft fun u512 =>
              bif (y4.1 == []) then (
                some (.brk (u483, false, s240.1, s240.2))
              ) else (
                grd ((s240.2.length + 1) * 32 ≤ 140737488355328) <|
                some (.brk (u483, false, s240.1, (s240.2 ++ [y498.1])))
              )
            )
          )
        ) : Option (Out (Bool × Bool × Str × (List Linear)) (Stp (Str × (List Linear)) (Str × (List Linear)) (Shape × Int)))).bind (aft fun u471 =>
          some (.go (u471.2.2.1, u471.2.2.2))
        )
      ) (fun i241 s240 => (s240.1, s240.2)) (y19.length - 0) 0 ([], [])).bind <| aft fun u549 =>
      (shape_Valid (Shape.mk u549.1 u549.2)).bind fun y552 =>
      bif y552 then (
        (shape_text (Shape.mk u549.1 u549.2)).bind fun y566 =>
        bif (y566 == x0) then (
          some ((Shape.mk u549.1 u549.2), 0)
        ) else (
          some ((Shape.mk [] []), 6)
        )
      ) else (
        some ((Shape.mk [] []), 6)
      )
    ) else (
      some ((Shape.mk [] []), 6)
    )
  ) else (
    some ((Shape.mk [] []), 6)
  )
theorem shape_Parse_tw : shape_Parse = shape_ParseT := by
  funext x0; unfold shape_Parse shape_ParseT
  simp only [sum_T, sum_T2, clone_T, linear_Subst_tw, shape_clones_tw, shape_made_tw, shape_Subst_tw, linear_Parse_tw]
noncomputable def law11_awakeT  : Option Bool :=
  (law11_dim 1 [110] 1).bind fun y1 =>
  (law11_dim 0 [] 3).bind fun y4 =>
  (shape_Print (Shape.mk [114] [y1, y4])).bind fun y7 =>
  (law11_dim 1 [109] 0).bind fun y10 =>
  (law11_dim 2 [107] 0).bind fun y13 =>
  (shape_SubstT (Shape.mk [114] [y1, y4]) [(Bind.mk 2 [114] (Linear.mk 0 []) (Shape.mk [] [y10]) []), (Bind.mk 1 [110] y13 (Shape.mk [] []) [])]).bind fun y16 =>
  (shape_Print y16.1).bind fun y19 =>
  (shape_ParseT y19.1).bind fun y22 =>
  (shape_Eval y16.1 [(Value.mk [107] 2), (Value.mk [109] 7)]).bind fun y25 =>
  bif (y7.2 == 0) then (
    bif (y16.2 == 0) then (
      bif (y19.2 == 0) then (
        bif (y22.2 == 0) then (
          bif (y25.2 == 0) then (
            bif (y7.1 == [91, 114, 46, 46, 44, 32, 110, 43, 49, 44, 32, 51, 93]) then (
              bif (y19.1 == [91, 109, 44, 32, 50, 107, 43, 49, 44, 32, 51, 93]) then (
                (shape_Equal y16.1 y22.1).bind fun y259 =>
                bif y259 then (
                  (ref11_SameInts y25.1 [7, 5, 3]).bind fun y276 =>
                  bif y276 then (
                    (shape_Valid (Shape.mk [114] [y1, y4])).bind fun y286 =>
                    some y286
                  ) else (
                    some false
                  )
                ) else (
                  some false
                )
              ) else (
                some false
              )
            ) else (
              some false
            )
          ) else (
            some false
          )
        ) else (
          some false
        )
      ) else (
        some false
      )
    ) else (
      some false
    )
  ) else (
    some false
  )
theorem law11_awake_tw : law11_awake = law11_awakeT := by
  unfold law11_awake law11_awakeT
  simp only [sum_T, sum_T2, clone_T, linear_Subst_tw, shape_clones_tw, shape_made_tw, shape_Subst_tw, linear_Parse_tw, shape_Parse_tw]
theorem law11_awake_true : law11_awake = some true := by
  rw [law11_awake_tw]
  kernel_rfl
end Go.Proofs.YtjfpcjnopbfekaaGreatDoor

/- PLAIN LAWS: values of linear expressions, as a program that substitutes and evaluates has them. -/
namespace Go.Sh
section
variable {α σ ε ρ : Type}
/-- A loop over a list. -/
def loopL (g : α → σ → Stp σ ε ρ) (fin : σ → ε) : List α → σ → Out ε ρ
  | [], s => .brk (fin s)
  | x :: l, s => match g x s with | .go s' => loopL g fin l s' | .brk e => .brk e | .ret r => .ret r
theorem cnt_list {body : Nat → σ → Option (Stp σ ε ρ)} {fin : Nat → σ → ε} {f : σ → ε} (d : α) (l : List α) (g : α → σ → Stp σ ε ρ) (I : Nat → σ → Prop) (hf : ∀ i s, fin i s = f s) :
    ∀ (i : Nat) (s : σ), I i s → (∀ j s, i ≤ j → j < l.length → I j s → body j s = some (g (l.getD j d) s) ∧ ∀ s', g (l.getD j d) s = .go s' → I (j + 1) s') →
    cnt body fin (l.length - i) i s = some (loopL g f (l.drop i) s) := by
  intro i s hI h
  by_cases hi : i < l.length
  · obtain ⟨k, hk⟩ : ∃ k, l.length - i = k + 1 := ⟨l.length - i - 1, by omega⟩
    obtain ⟨h1, h2⟩ := h i s (Nat.le_refl _) hi hI
    have hx : l.getD i d = l[i] := by simp [List.getD_eq_getElem?_getD, List.getElem?_eq_getElem hi]
    rw [hx] at h1 h2
    rw [hk, List.drop_eq_getElem_cons hi]
    simp only [cnt, h1, Option.bind_some, loopL]
    cases hg : g l[i] s with
    | go s' =>
      have ih := cnt_list d l g I hf (i + 1) s' (h2 s' hg) (fun j s h1 h2 => h j s (by omega) h2)
      rw [show l.length - (i + 1) = k by omega] at ih
      exact ih
    | brk e => rfl
    | ret r => rfl
  · rw [show l.length - i = 0 by omega, List.drop_eq_nil_of_le (by omega)]
    simp [cnt, loopL, hf]
  termination_by i => l.length - i
theorem cnt_list0 {body : Nat → σ → Option (Stp σ ε ρ)} {fin : Nat → σ → ε} {f : σ → ε} (d : α) (l : List α) (g : α → σ → Stp σ ε ρ) (I : Nat → σ → Prop) (hf : ∀ i s, fin i s = f s) (s : σ) (hI : I 0 s)
    (h : ∀ j s, j < l.length → I j s → body j s = some (g (l.getD j d) s) ∧ ∀ s', g (l.getD j d) s = .go s' → I (j + 1) s') :
    cnt body fin (l.length - 0) 0 s = some (loopL g f l s) := by
  have := cnt_list d l g I hf 0 s hI (fun j s _ h1 h2 => h j s h1 h2)
  simpa using this
/-- Each item is tried, and appended. -/
theorem loop_map {β : Type} (p : α → Bool) (f : α → β) (r : α → ρ) : ∀ (l : List α) (acc : List β),
    loopL (σ := List β) (ε := List β) (fun x acc => bif p x then .go (acc ++ [f x]) else .ret (r x)) (fun s => s) l acc = .brk (acc ++ l.map f) ∧ l.all p = true ∨
    ∃ x ∈ l, p x = false ∧ loopL (σ := List β) (ε := List β) (fun x acc => bif p x then .go (acc ++ [f x]) else .ret (r x)) (fun s => s) l acc = .ret (r x)
  | [], acc => .inl ⟨by simp [loopL], rfl⟩
  | x :: l, acc => by
    cases hp : p x with
    | false => exact .inr ⟨x, by simp, hp, by simp [loopL, hp]⟩
    | true =>
      simp only [loopL, hp, cond_true]
      rcases loop_map p f r l (acc ++ [f x]) with ⟨h1, h2⟩ | ⟨y, h1, h2, h3⟩
      · exact .inl ⟨by rw [h1]; simp, by rw [List.all_cons, hp, h2]; rfl⟩
      · exact .inr ⟨y, by simp [h1], h2, h3⟩
theorem idxOf_pos (p : α → Bool) (d : α) : ∀ l : List α, 0 ≤ idxOf p l → (idxOf p l).toNat < l.length ∧ p (l.getD (idxOf p l).toNat d) = true
  | [], h => by simp [idxOf] at h
  | x :: l, h => by
    cases hp : p x with
    | true => simp [idxOf, hp]
    | false =>
      have hge := idxOf_ge p l
      simp only [idxOf, hp, cond_false] at h ⊢
      by_cases hm : idxOf p l = -1
      · rw [hm] at h; simp at h
      · have e : (idxOf p l == -1) = false := by simpa using hm
        rw [e, cond_false]
        obtain ⟨h1, h2⟩ := idxOf_pos p d l (by omega)
        have e2 : (idxOf p l + 1).toNat = (idxOf p l).toNat + 1 := by omega
        rw [e2]
        exact ⟨by simp; omega, by simpa using h2⟩
theorem idxOf_lt (p : α → Bool) (d : α) (l : List α) : idxOf p l < (l.length : Int) := by
  by_cases h : 0 ≤ idxOf p l
  · have := (idxOf_pos p d l h).1; omega
  · omega
end
end Go.Sh
namespace Go.Proofs.YtjfpcjnopbfekaaGreatDoor
open Go.Ab Go.Sh
/-! ### values -/
/-! ### linear forms -/
def linT (f : Str → Int) : List Coef → Int
  | [] => 0
  | t :: ts => t.C * f t.Var + linT f ts
def lin (f : Str → Int) (l : Linear) : Int := l.Const + linT f l.Terms
theorem prod_bound {a b A B : Int} (h1 : -A ≤ a) (h2 : a ≤ A) (h3 : -B ≤ b) (h4 : b ≤ B) : -(A * B) ≤ a * b ∧ a * b ≤ A * B := by
  have hA : 0 ≤ A := by omega
  have hB : 0 ≤ B := by omega
  have hn : (a * b).natAbs ≤ A.natAbs * B.natAbs := by rw [Int.natAbs_mul]; exact Nat.mul_le_mul (by omega) (by omega)
  have e : ((A.natAbs * B.natAbs : Nat) : Int) = A * B := by rw [Int.natCast_mul]; congr 1 <;> omega
  omega
theorem validL_C {l : Linear} (h : validL l = true) : ∀ t ∈ l.Terms, (-1000000 ≤ t.C ∧ t.C ≤ 1000000) ∧ nameS t.Var = true := by
  intro t ht
  obtain ⟨j, hj, rfl⟩ := List.getElem_of_mem ht
  simp only [validL, Bool.and_eq_true, List.all_eq_true] at h
  have := h.1 j (by simpa using hj)
  have e : tAt l j = l.Terms[j] := by simp [tAt, List.getD_eq_getElem?_getD, List.getElem?_eq_getElem hj]
  simp only [validP, e, Bool.and_eq_true, inS, decide_eq_true_eq] at this
  exact ⟨this.2.2.1, this.1⟩
theorem validL_K {l : Linear} (h : validL l = true) : -1000000 ≤ l.Const ∧ l.Const ≤ 1000000 := by
  simp only [validL, Bool.and_eq_true, inS, decide_eq_true_eq] at h
  exact h.2.1
theorem name_len {s : Str} (h : nameS s = true) : s.length ≤ 30 := by
  cases s with
  | nil => simp
  | cons c r =>
    simp only [nameS] at h
    cases hc : c == 95
    · simp only [hc, cond_false, Bool.and_eq_true, decide_eq_true_eq] at h
      simp; omega
    · simp only [hc, cond_true, Bool.and_eq_true, decide_eq_true_eq] at h
      simp; omega
theorem okL_valid {l : Linear} (h : validL l = true) : okL l :=
  ⟨by have := validL_len h; omega, fun t ht => by have := name_len (validL_C h t ht).2; omega⟩
end Go.Proofs.YtjfpcjnopbfekaaGreatDoor

/- PLAIN LAWS: sums by name, and substitution, as linear forms. -/
namespace Go.Sh
def linM (f : Str → Int) : List (Str × Int) → Int
  | [] => 0
  | (k, c) :: m => c * f k + linM f m
theorem mput_lin (f : Str → Int) (x : Str) (v : Int) : ∀ m : List (Str × Int), linM f (mput x v m) = linM f m + (v - mget 0 x m) * f x
  | [] => by simp [mput, mget, linM]
  | (k, u) :: m => by
    by_cases h : k = x
    · subst h
      simp only [mput, mget, if_pos, linM]
      rw [Int.sub_mul]; omega
    · simp only [mput, mget, if_neg h, linM]
      rw [mput_lin f x v m]; omega
theorem mget_mput (x y : Str) (v : Int) : ∀ m : List (Str × Int), mget 0 y (mput x v m) = if x = y then v else mget 0 y m
  | [] => by simp [mput, mget]
  | (k, u) :: m => by
    by_cases h : k = x
    · subst h
      simp only [mput, mget, if_pos]
      by_cases h2 : k = y
      · simp [h2]
      · simp [h2]
    · simp only [mput, if_neg h, mget]
      rw [mget_mput x y v m]
      by_cases h2 : k = y
      · subst h2; simp [Ne.symm h]
      · simp [h2]
theorem mput_keys (x : Str) (v : Int) : ∀ m : List (Str × Int), (mput x v m).map (·.1) = if x ∈ m.map (·.1) then m.map (·.1) else m.map (·.1) ++ [x]
  | [] => by simp [mput]
  | (k, u) :: m => by
    by_cases h : k = x
    · subst h; simp [mput]
    · simp only [mput, if_neg h, List.map_cons, mput_keys x v m, List.mem_cons, Ne.symm h, false_or]
      split <;> simp
/-- A map of few names with numbers that are not great. -/
structure Sm (B : Int) (K : Nat) (m : List (Str × Int)) : Prop where
  bd : ∀ x, -B ≤ mget 0 x m ∧ mget 0 x m ≤ B
  len : m.length ≤ K
  nd : (m.map (·.1)).Nodup
  key : ∀ x ∈ m.map (·.1), x.length ≤ 1000000
theorem Sm.nil : Sm 0 0 [] := ⟨fun x => by simp [mget], by simp, by simp, by simp⟩
theorem Sm.put {B : Int} {K : Nat} {m : List (Str × Int)} (h : Sm B K m) {x : Str} {v : Int} {B' : Int} (hx : x.length ≤ 1000000) (hB : B ≤ B') (h1 : -B' ≤ v) (h2 : v ≤ B') : Sm B' (K + 1) (mput x v m) := by
  refine ⟨fun y => ?_, ?_, ?_, fun y hy => ?_⟩
  · rw [mget_mput]
    split
    · exact ⟨h1, h2⟩
    · have := h.bd y; omega
  · have e := congrArg List.length (mput_keys x v m)
    have := h.len
    split at e <;> simp at e <;> omega
  · rw [mput_keys]
    split
    · exact h.nd
    · rename_i hn
      rw [List.nodup_append]
      exact ⟨h.nd, by simp, fun a ha b hb => by
        have : b = x := by simpa using hb
        subst this; intro e; subst e; exact hn ha⟩
  · rw [mput_keys] at hy
    split at hy
    · exact h.key y hy
    · rcases List.mem_append.1 hy with hy | hy
      · exact h.key y hy
      · have : y = x := by simpa using hy
        subst this; exact hx
theorem Sm.mono {B B' : Int} {K K' : Nat} {m : List (Str × Int)} (h : Sm B K m) (h1 : B ≤ B') (h2 : K ≤ K') : Sm B' K' m :=
  ⟨fun x => by have := h.bd x; omega, by have := h.len; omega, h.nd, h.key⟩
theorem nodupB_of : ∀ {l : List Str}, l.Nodup → nodupB l = true
  | [], _ => rfl
  | x :: l, h => by
    rw [List.nodup_cons] at h
    simp only [nodupB, Bool.and_eq_true, Bool.not_eq_true', List.any_eq_false, beq_iff_eq]
    exact ⟨fun y hy e => h.1 (e ▸ hy), nodupB_of h.2⟩
end Go.Sh
namespace Go.Proofs.YtjfpcjnopbfekaaGreatDoor
open Go.Ab Go.Sh
theorem sm_good {B : Int} {K : Nat} {m : List (Str × Int)} (h : Sm B K m) (hK : K ≤ 1000) : goodM m = true := by
  simp only [goodM, Bool.and_eq_true, decide_eq_true_eq, List.all_eq_true]
  refine ⟨nodupB_of h.nd, by have := h.len; omega, fun e he => h.key e.1 (List.mem_map.2 ⟨e, he, rfl⟩)⟩
/-- To add k times an expression, term by term. -/
def addG (k : Int) (t : Coef) (m : List (Str × Int)) : List (Str × Int) := mput t.Var (w64 ((mget 0 t.Var m) + (w64 (k * t.C)))) m
def addM (l : Linear) (k : Int) (n : Int) (m : List (Str × Int)) : Int × List (Str × Int) := (w64 (n + w64 (k * l.Const)), l.Terms.foldl (fun m t => addG k t m) m)
theorem linear_sum_add_eq (l : Linear) (k n : Int) (m : List (Str × Int)) : linear_sum_add l k n m = some (addM l k n m) := by
  unfold linear_sum_add
  obtain ⟨s', e1, e2, _⟩ := cnt_go (σ := List (Str × Int)) (ε := (Int × (List (Str × Int)))) (ρ := (Int × (List (Str × Int)))) (fin := fun _ s41 => ((w64 (n + (w64 (k * l.Const)))), s41))
    (body := fun i42 s41 =>
    some (.go (mput ((l.Terms.getD i42 ⟨[], 0⟩).Var) (w64 ((mget 0 ((l.Terms.getD i42 ⟨[], 0⟩).Var) s41) + (w64 (k * ((l.Terms.getD i42 ⟨[], 0⟩).C))))) s41)))
    (fun j m => addG k (l.Terms.getD j ⟨[], 0⟩) m) (fun _ _ => True) (l.Terms.length - 0) 0 m trivial (fun j s _ _ _ => ⟨rfl, trivial⟩)
  rw [e1]
  simp only [Option.bind_some, Sh.aft, addM, Option.some.injEq]
  rw [e2]
  have := foldl_getD (fun (m : List (Str × Int)) (t : Coef) => addG k t m) ⟨[], 0⟩ l.Terms 0 m
  rw [this]; rfl
theorem mul_swap (a b c : Int) : a * b * c = a * (b * c) := Int.mul_assoc a b c
/-- What adding k times an expression does, as a linear form. -/
theorem foldl_sm (f : Str → Int) (k : Int) (hk : -1000000 ≤ k ∧ k ≤ 1000000) : ∀ (ts : List Coef) (m : List (Str × Int)) (B : Int) (K : Nat), (∀ t ∈ ts, (-1000000 ≤ t.C ∧ t.C ≤ 1000000) ∧ t.Var.length ≤ 1000000) →
    Sm B K m → 0 ≤ B → B + (ts.length : Int) * 1000000000000 ≤ 9000000000000000000 →
    Sm (B + (ts.length : Int) * 1000000000000) (K + ts.length) (ts.foldl (fun m t => addG k t m) m) ∧ linM f (ts.foldl (fun m t => addG k t m) m) = linM f m + k * linT f ts
  | [], m, B, K, _, hs, _, _ => ⟨by simpa using hs, by simp [linT]⟩
  | t :: ts, m, B, K, hC, hs, hB, hle => by
    obtain ⟨⟨c1, c2⟩, hv⟩ := hC t (by simp)
    obtain ⟨b1, b2⟩ := prod_bound hk.1 hk.2 c1 c2
    have hlen : (((t :: ts).length : Nat) : Int) = (ts.length : Int) + 1 := by simp
    rw [hlen] at hle
    have hle' : B + ((ts.length : Int) * 1000000000000 + 1000000000000) ≤ 9000000000000000000 := by
      rw [Int.add_mul] at hle; omega
    have hp : 0 ≤ (ts.length : Int) * 1000000000000 := by omega
    obtain ⟨m1, m2⟩ := hs.bd t.Var
    have e : addG k t m = mput t.Var (mget 0 t.Var m + k * t.C) m := by
      unfold addG
      rw [w64_id (n := k * t.C) (by unfold I64; omega), w64_id (by unfold I64; omega)]
    have hs1 := hs.put (v := mget 0 t.Var m + k * t.C) (B' := B + 1000000000000) hv (by omega) (by omega) (by omega)
    rw [← e] at hs1
    obtain ⟨g1, g2⟩ := foldl_sm f k hk ts (addG k t m) (B + 1000000000000) (K + 1) (fun x hx => hC x (by simp [hx])) hs1 (by omega) (by omega)
    rw [List.foldl_cons, hlen]
    refine ⟨?_, ?_⟩
    · have e1 : B + 1000000000000 + (ts.length : Int) * 1000000000000 = B + ((ts.length : Int) + 1) * 1000000000000 := by rw [Int.add_mul]; omega
      have e2 : K + 1 + ts.length = K + (t :: ts).length := by simp; omega
      rw [← e1, ← e2]; exact g1
    · rw [g2, e, mput_lin]
      simp only [linT]
      rw [Int.mul_add, show mget 0 t.Var m + k * t.C - mget 0 t.Var m = k * t.C by omega, mul_swap]; omega
/-! ### what a sum is -/
theorem linT_perm (f : Str → Int) {a b : List Coef} (h : a.Perm b) : linT f a = linT f b := by
  induction h with
  | nil => rfl
  | cons x _ ih => simp only [linT, ih]
  | swap x y l => simp only [linT]; omega
  | trans _ _ h1 h2 => exact h1.trans h2
theorem mget_skip {k x : Str} {u : Int} {m : List (Str × Int)} (h : k ≠ x) : mget 0 x ((k, u) :: m) = mget 0 x m := by simp [mget, h]
theorem names_sub (m : List (Str × Int)) {x : Str} (h : x ∈ namesOf m) : x ∈ m.map (·.1) := by
  unfold namesOf at h
  obtain ⟨e, he, rfl⟩ := List.mem_map.1 h
  exact List.mem_map.2 ⟨e, (List.mem_filter.1 he).1, rfl⟩
theorem names_lin (f : Str → Int) : ∀ m : List (Str × Int), (m.map (·.1)).Nodup → linT f ((namesOf m).map fun k => Coef.mk k (mget 0 k m)) = linM f m
  | [], _ => rfl
  | (k, u) :: m, h => by
    rw [List.map_cons, List.nodup_cons] at h
    have ih := names_lin f m h.2
    have hskip : (namesOf m).map (fun x => Coef.mk x (mget 0 x ((k, u) :: m))) = (namesOf m).map fun x => Coef.mk x (mget 0 x m) := by
      refine List.map_congr_left fun x hx => ?_
      rw [mget_skip fun e => h.1 (by subst e; exact names_sub m hx)]
    by_cases hu : u = 0
    · subst hu
      have e : namesOf ((k, (0 : Int)) :: m) = namesOf m := by simp [namesOf]
      rw [e, hskip, ih]; simp [linM]
    · have e : namesOf ((k, u) :: m) = k :: namesOf m := by simp [namesOf, hu]
      rw [e, List.map_cons, hskip]
      simp only [linT, ih, linM]
      simp [mget]
theorem endSum_ok {n : Int} {m : List (Str × Int)} {B : Int} {K : Nat} (hs : Sm B K m) (f : Str → Int) (h : (endSum n m (sortI (namesOf m))).2 = 0) : validL (endSum n m (sortI (namesOf m))).1 = true ∧ lin f (endSum n m (sortI (namesOf m))).1 = n + linM f m := by
  unfold endSum at h ⊢
  cases hv : validL (Linear.mk n ((sortI (namesOf m)).map fun k => Coef.mk k (mget 0 k m))) with
  | false => rw [hv] at h; simp at h
  | true =>
    simp only [cond_true, lin]
    refine ⟨hv, ?_⟩
    rw [linT_perm f ((sortI_perm (namesOf m)).map _), names_lin f m hs.nd]
/-! ### substitution -/
def sbG (bs : List Bind) (t : Coef) (s : Int × List (Str × Int)) : Stp (Int × List (Str × Int)) (Int × List (Str × Int)) (Linear × Int) :=
  bif decide (idxOf (isB 1 t.Var) bs < 0) then .go (s.1, mput t.Var (w64 (mget 0 t.Var s.2 + t.C)) s.2) else
  bif validL (bs.getD (idxOf (isB 1 t.Var) bs).toNat bd0).Dim then .go (addM (bs.getD (idxOf (isB 1 t.Var) bs).toNat bd0).Dim t.C s.1 s.2) else .ret ((Linear.mk 0 []), 1)
/-- What a variable stands for. -/
def sv (bs : List Bind) (f : Str → Int) (v : Str) : Int := bif decide (idxOf (isB 1 v) bs < 0) then f v else lin f (bs.getD (idxOf (isB 1 v) bs).toNat bd0).Dim
theorem bind_find (bs : List Bind) (v : Str) (c : Int) : slices_IndexFunc_api_Bind_2 bs v c = some (idxOf (isB 1 v) bs) := by
  unfold slices_IndexFunc_api_Bind_2
  rw [cnt_find (f := fun j => ((j : Nat) : Int)) (fun j => isB 1 v (bs.getD j bd0)) _ _ () (fun j u _ _ => by
    unfold linear_Subst_1 isB
    simp only
    cases (bs.getD j bd0).Kind == 1
    · rfl
    · cases (bs.getD j bd0).Var == v <;> rfl)]
  exact find_out bs (isB 1 v) _ (find_idx0 (isB 1 v) bd0 bs)
def outS (o : Out (Int × List (Str × Int)) (Linear × Int)) : Linear × Int := match o with | .brk u => endSum u.1 u.2 (sortI (namesOf u.2)) | .ret r => r
def sbL (bs : List Bind) (l : Linear) : Linear × Int := bif validL l then outS (loopL (sbG bs) (fun s => s) l.Terms (l.Const, [])) else ((Linear.mk 0 []), 1)
def St (j : Nat) (c : Int) (s : Int × List (Str × Int)) : Prop := Sm ((j : Int) * 12000000000000) (12 * j) s.2 ∧ -(1000000 + (j : Int) * 1000000000000) ≤ s.1 ∧ s.1 ≤ 1000000 + (j : Int) * 1000000000000
theorem sbG_step (bs : List Bind) (f : Str → Int) (t : Coef) (c : Int) (j : Nat) (hj : j < 12) (ht : (-1000000 ≤ t.C ∧ t.C ≤ 1000000) ∧ nameS t.Var = true) (s s' : Int × List (Str × Int)) (hs : St j c s) (h : sbG bs t s = .go s') :
    St (j + 1) c s' ∧ s'.1 + linM f s'.2 = s.1 + linM f s.2 + t.C * sv bs f t.Var := by
  have hn := name_len ht.2
  have ej : ((j + 1 : Nat) : Int) * 12000000000000 = (j : Int) * 12000000000000 + 12000000000000 := by omega
  obtain ⟨h1, h2, h3⟩ := hs
  unfold sbG at h
  by_cases h0 : idxOf (isB 1 t.Var) bs < 0
  · rw [decide_eq_true h0, cond_true] at h
    have e : s' = (s.1, mput t.Var (w64 (mget 0 t.Var s.2 + t.C)) s.2) := by
      injection h with h; exact h.symm
    obtain ⟨m1, m2⟩ := h1.bd t.Var
    have hw : w64 (mget 0 t.Var s.2 + t.C) = mget 0 t.Var s.2 + t.C := w64_id (by unfold I64; omega)
    rw [hw] at e
    subst e
    refine ⟨⟨(h1.put (v := mget 0 t.Var s.2 + t.C) (B' := ((j + 1 : Nat) : Int) * 12000000000000) (by omega) (by omega) (by omega) (by omega)).mono (Int.le_refl _) (by omega), by simp only; omega, by simp only; omega⟩, ?_⟩
    simp only
    rw [mput_lin, show mget 0 t.Var s.2 + t.C - mget 0 t.Var s.2 = t.C by omega]
    simp only [sv, decide_eq_true h0, cond_true]; omega
  · rw [decide_eq_false h0, cond_false] at h
    generalize hD : (bs.getD (idxOf (isB 1 t.Var) bs).toNat bd0).Dim = D at h
    cases hv : validL D with
    | false => rw [hv, cond_false] at h; cases h
    | true =>
      rw [hv, cond_true] at h
      have e : s' = addM D t.C s.1 s.2 := by
        injection h with h; exact h.symm
      subst e
      obtain ⟨k1, k2⟩ := validL_K hv
      have hl := validL_len hv
      obtain ⟨b1, b2⟩ := prod_bound ht.1.1 ht.1.2 k1 k2
      obtain ⟨g1, g2⟩ := foldl_sm f t.C ht.1 D.Terms s.2 ((j : Int) * 12000000000000) (12 * j) (fun x hx => ⟨(validL_C hv x hx).1, by have := name_len (validL_C hv x hx).2; omega⟩) h1 (by omega) (by omega)
      have hw : w64 (s.1 + w64 (t.C * D.Const)) = s.1 + t.C * D.Const := by
        rw [w64_id (n := t.C * D.Const) (by unfold I64; omega), w64_id (by unfold I64; omega)]
      refine ⟨⟨g1.mono (by omega) (by omega), ?_, ?_⟩, ?_⟩
      · simp only [addM, hw]; omega
      · simp only [addM, hw]; omega
      · simp only [addM, hw, g2, sv, decide_eq_false h0, cond_false, hD, lin]
        rw [Int.mul_add]; omega
theorem sb_loop (bs : List Bind) (f : Str → Int) (c : Int) (ts : List Coef) : ∀ (j : Nat) (s : Int × List (Str × Int)), j + ts.length ≤ 12 → (∀ t ∈ ts, (-1000000 ≤ t.C ∧ t.C ≤ 1000000) ∧ nameS t.Var = true) → St j c s →
    (∃ u, loopL (sbG bs) (fun s => s) ts s = .brk u ∧ St (j + ts.length) c u ∧ u.1 + linM f u.2 = s.1 + linM f s.2 + linT (sv bs f) ts) ∨ loopL (sbG bs) (fun s => s) ts s = .ret ((Linear.mk 0 []), 1) := by
  induction ts with
  | nil => exact fun j s _ _ hs => .inl ⟨s, rfl, hs, by simp [linT]⟩
  | cons t ts ih =>
    intro j s hj hC hs
    have hj' : j + 1 + ts.length ≤ 12 := by simp at hj; omega
    have hret : ∀ r, sbG bs t s = .ret r → r = ((Linear.mk 0 []), 1) := by
      intro r hg
      unfold sbG at hg
      cases h1 : decide (idxOf (isB 1 t.Var) bs < 0) <;> cases h2 : validL (bs.getD (idxOf (isB 1 t.Var) bs).toNat bd0).Dim <;> rw [h1, h2] at hg <;> first | (injection hg with hg; exact hg.symm) | cases hg
    have hbrk : ∀ e, sbG bs t s ≠ .brk e := by
      intro e hg
      unfold sbG at hg
      cases h1 : decide (idxOf (isB 1 t.Var) bs < 0) <;> cases h2 : validL (bs.getD (idxOf (isB 1 t.Var) bs).toNat bd0).Dim <;> rw [h1, h2] at hg <;> cases hg
    have hgo := fun s' => sbG_step bs f t c j (by simp at hj; omega) (hC t (by simp)) s s'
    simp only [loopL]
    generalize sbG bs t s = R at hret hbrk hgo
    cases R with
    | go s' =>
      obtain ⟨h1, h2⟩ := hgo s' hs rfl
      rcases ih (j + 1) s' hj' (fun x hx => hC x (by simp [hx])) h1 with ⟨u, e1, e2, e3⟩ | e
      · refine .inl ⟨u, e1, ?_, ?_⟩
        · rw [show j + (t :: ts).length = j + 1 + ts.length by simp; omega]; exact e2
        · rw [e3, h2]; simp only [linT]; omega
      · exact .inr e
    | brk e => exact absurd rfl (hbrk e)
    | ret r => exact .inr (by rw [hret r rfl])
theorem St0 (l : Linear) (h : validL l = true) : St 0 l.Const (l.Const, []) := by
  obtain ⟨k1, k2⟩ := validL_K h
  exact ⟨Sm.nil, by simp only; omega, by simp only; omega⟩
theorem linear_Subst_eq (l : Linear) (bs : List Bind) (h : okL l) (hb : ∀ b ∈ bs, okB b) : linear_Subst l bs = some (sbL bs l) := by
  unfold linear_Subst sbL
  rw [linear_Valid_eq l h.1 h.2]
  simp only [Option.bind_some]
  cases hv : validL l with
  | false => rfl
  | true =>
    simp only [cond_true]
    rw [cnt_list0 (fin := fun _ s => (s.1, s.2)) (f := fun s => s) ⟨[], 0⟩ l.Terms (sbG bs) (fun _ _ => True) (fun _ _ => rfl) (l.Const, []) trivial (fun j s hj _ => ⟨by
      rw [bind_find]
      simp only [Option.bind_some, sbG]
      generalize ht : l.Terms.getD j ⟨[], 0⟩ = t
      by_cases h0 : idxOf (isB 1 t.Var) bs < 0
      · rw [decide_eq_true h0]; rfl
      · rw [decide_eq_false h0]
        simp only [cond_false]
        rw [grd_pos ⟨by omega, idxOf_lt _ bd0 _⟩]
        have hk := okB_getD hb (idxOf (isB 1 t.Var) bs).toNat
        rw [eta_L, linear_Valid_eq _ hk.2.1.1 hk.2.1.2]
        simp only [Option.bind_some]
        cases validL (bs.getD (idxOf (isB 1 t.Var) bs).toNat bd0).Dim with
        | false => rfl
        | true => simp only [cond_true]; rw [linear_sum_add_eq]; rfl, fun _ _ => trivial⟩)]
    rcases sb_loop bs (fun _ => 0) l.Const l.Terms 0 (l.Const, []) (by have := validL_len hv; omega) (validL_C hv) (St0 l hv) with ⟨u, e1, e2, _⟩ | e
    · rw [e1]
      simp only [Option.bind_some, Sh.aft, outS]
      rw [sum_result_eq u.1 u.2 (sm_good e2.1 (by have := validL_len hv; omega))]
      rfl
    · rw [e]; rfl
theorem sbL_ok {bs : List Bind} {l : Linear} (h : (sbL bs l).2 = 0) (f : Str → Int) : validL l = true ∧ validL (sbL bs l).1 = true ∧ lin f (sbL bs l).1 = lin (sv bs f) l := by
  cases hv : validL l with
  | false => unfold sbL at h; rw [hv] at h; simp at h
  | true =>
    unfold sbL at h ⊢
    rw [hv, cond_true] at h ⊢
    rcases sb_loop bs f l.Const l.Terms 0 (l.Const, []) (by have := validL_len hv; omega) (validL_C hv) (St0 l hv) with ⟨u, e1, e2, e3⟩ | e
    · rw [e1] at h ⊢
      simp only [outS] at h ⊢
      obtain ⟨g1, g2⟩ := endSum_ok e2.1 f h
      refine ⟨by simp, g1, ?_⟩
      rw [g2, e3]; simp only [linM, lin]; omega
    · rw [e] at h; simp [outS] at h
end Go.Proofs.YtjfpcjnopbfekaaGreatDoor

/- PLAIN LAWS: shapes substituted and evaluated; the statement ShapeValues. -/
namespace Go.Sh
theorem loop_snoc {α ρ : Type} : ∀ (l acc : List α), loopL (ρ := ρ) (fun x acc => Stp.go (acc ++ [x])) (fun s => s) l acc = .brk (acc ++ l)
  | [], acc => by simp [loopL]
  | x :: l, acc => by simp only [loopL]; rw [loop_snoc l]; simp
end Go.Sh
namespace Go.Proofs.YtjfpcjnopbfekaaGreatDoor
open Go.Ab Go.Sh
theorem shape_clones_eq (ls : List Linear) (h : ∀ l ∈ ls, okL l) (hl : ls.length ≤ 1000000) : shape_clones ls = some ls := by
  unfold shape_clones
  rw [cnt_list0 (fin := fun _ s => s) (f := fun s => s) ⟨0, []⟩ ls (fun x acc => Stp.go (acc ++ [x])) (fun j s => s.length = j) (fun _ _ => rfl) [] rfl (fun j s hj hI => ⟨by
    rw [clone_eq _ (okL_getD h j).1]
    simp only [Option.bind_some]
    rw [grd_pos (by omega)], fun s' e => by injection e with e; subst e; simp [hI]⟩)]
  rw [loop_snoc]; simp [aftE]
theorem shape_made_eq (row : Str) (ls : List Linear) (h : ∀ l ∈ ls, okL l) : shape_made row ls = some (bif decide (ls.length ≤ 6) then (Shape.mk row ls, 0) else (Shape.mk [] [], 3)) := by
  unfold shape_made
  by_cases h6 : ls.length ≤ 6
  · rw [decide_eq_true h6, decide_eq_false (by omega), cond_false, shape_clones_eq ls h (by omega)]; rfl
  · rw [decide_eq_false h6, decide_eq_true (by omega)]; rfl
def rowOf (bs : List Bind) (s : Shape) : Str × List Linear :=
  bif (bif s.Row.isEmpty then false else decide (idxOf (isB 2 s.Row) bs ≥ 0)) then ((bs.getD (idxOf (isB 2 s.Row) bs).toNat bd0).Row.Row, (bs.getD (idxOf (isB 2 s.Row) bs).toNat bd0).Row.Dims) else (s.Row, [])
def sbD (bs : List Bind) (s : Shape) : Out (List Linear) (Shape × Int) :=
  loopL (fun x acc => bif (sbL bs x).2 == 0 then .go (acc ++ [(sbL bs x).1]) else .ret (Shape.mk [] [], (sbL bs x).2)) (fun s => s) s.Dims (rowOf bs s).2
def sbO (row : Str) (o : Out (List Linear) (Shape × Int)) : Shape × Int := match o with | .brk ds => (bif decide (ds.length ≤ 6) then (Shape.mk row ds, 0) else (Shape.mk [] [], 3)) | .ret r => r
def sbS (bs : List Bind) (s : Shape) : Shape × Int := bif validS s then (bif validBs bs then sbO (rowOf bs s).1 (sbD bs s) else (Shape.mk [] [], 1)) else (Shape.mk [] [], 1)
theorem sbD_cases (bs : List Bind) (s : Shape) : (sbD bs s = .brk ((rowOf bs s).2 ++ s.Dims.map fun d => (sbL bs d).1) ∧ ∀ d ∈ s.Dims, (sbL bs d).2 = 0) ∨ ∃ d ∈ s.Dims, (sbL bs d).2 ≠ 0 ∧ sbD bs s = .ret (Shape.mk [] [], (sbL bs d).2) := by
  unfold sbD
  rcases loop_map (ρ := Shape × Int) (fun d => (sbL bs d).2 == 0) (fun d => (sbL bs d).1) (fun d => (Shape.mk [] [], (sbL bs d).2)) s.Dims (rowOf bs s).2 with ⟨h1, h2⟩ | ⟨d, h1, h2, h3⟩
  · exact .inl ⟨h1, fun d hd => by simpa using List.all_eq_true.1 h2 d hd⟩
  · exact .inr ⟨d, h1, by simpa using h2, h3⟩
theorem rowOf_ok (bs : List Bind) (s : Shape) (hs : okS s) (hb : ∀ b ∈ bs, okB b ∧ b.Row.Dims.length ≤ 8) : (rowOf bs s).1.length ≤ 1000000 ∧ (∀ l ∈ (rowOf bs s).2, okL l) ∧ (rowOf bs s).2.length ≤ 8 := by
  unfold rowOf
  cases (bif s.Row.isEmpty then false else decide (idxOf (isB 2 s.Row) bs ≥ 0))
  · exact ⟨hs.1, fun l hl => by simp at hl, by simp⟩
  · have h1 := okB_getD (fun b hb' => (hb b hb').1) (idxOf (isB 2 s.Row) bs).toNat
    refine ⟨h1.2.2.1, h1.2.2.2, ?_⟩
    simp only [cond_true]
    rw [List.getD_eq_getElem?_getD]
    cases hx : bs[(idxOf (isB 2 s.Row) bs).toNat]? with
    | none => simp
    | some b => exact (hb b (List.mem_of_getElem? hx)).2
theorem sbD_ok (bs : List Bind) (s : Shape) (hs : okS s) (hb : ∀ b ∈ bs, okB b ∧ b.Row.Dims.length ≤ 8) {ds : List Linear} (h : sbD bs s = .brk ds) : ∀ l ∈ ds, okL l := by
  rcases sbD_cases bs s with ⟨e, h2⟩ | ⟨d, _, _, e⟩
  · rw [e] at h
    injection h with h
    subst h
    intro l hl
    rcases List.mem_append.1 hl with hl | hl
    · exact (rowOf_ok bs s hs hb).2.1 l hl
    · obtain ⟨d, hd, rfl⟩ := List.mem_map.1 hl
      exact okL_valid (sbL_ok (h2 d hd) (fun _ => 0)).2.1
  · rw [e] at h; cases h
theorem shape_Subst_eq (s : Shape) (bs : List Bind) (hs : okS s) (hb : ∀ b ∈ bs, okB b ∧ b.Row.Dims.length ≤ 8) : shape_Subst s bs = some (sbS bs s) := by
  have hb1 : ∀ b ∈ bs, okB b := fun b h => (hb b h).1
  unfold shape_Subst sbS
  rw [shape_Valid_eq s hs, shape_ValidBinds_eq bs hb1]
  simp only [Option.bind_some]
  cases hv : validS s with
  | false => rfl
  | true =>
    cases hvb : validBs bs with
    | false => rfl
    | true =>
      simp only [cond_true]
      rw [shape_find_eq]
      simp only [Option.bind_some]
      rw [nil_beq]
      have hr := rowOf_ok bs s hs hb
      have hrow : ((bif s.Row.isEmpty then some false else some (decide (idxOf (isB 2 s.Row) bs ≥ 0)) : Option Bool).bind fun v25 =>
      ((
        bif v25 then (
          grd (0 ≤ idxOf (isB 2 s.Row) bs ∧ idxOf (isB 2 s.Row) bs < (bs.length : Int)) <|
          (shape_clones (((bs.getD (idxOf (isB 2 s.Row) bs).toNat (⟨0, [], ⟨0, []⟩, ⟨[], []⟩, []⟩)).Row).Dims)).bind fun y53 =>
          some ((((bs.getD (idxOf (isB 2 s.Row) bs).toNat (⟨0, [], ⟨0, []⟩, ⟨[], []⟩, []⟩)).Row).Row), y53)
        ) else (
          some (s.Row, [])
        )
      ) : Option (Str × (List Linear)))) = some (rowOf bs s) := by
        unfold rowOf at hr ⊢
        cases hre : s.Row.isEmpty with
        | true => rfl
        | false =>
          simp only [hre, cond_false, Option.bind_some] at hr ⊢
          by_cases h0 : idxOf (isB 2 s.Row) bs ≥ 0
          · rw [decide_eq_true h0] at hr ⊢
            simp only [cond_true] at hr ⊢
            rw [grd_pos ⟨h0, idxOf_lt _ bd0 _⟩, shape_clones_eq _ hr.2.1 (by omega)]; rfl
          · rw [decide_eq_false h0]; rfl
      have key : ∀ (k : Str × List Linear → Option (Shape × Int)), ((bif s.Row.isEmpty then some false else some (decide (idxOf (isB 2 s.Row) bs ≥ 0)) : Option Bool).bind fun v25 =>
      ((
        bif v25 then (
          grd (0 ≤ idxOf (isB 2 s.Row) bs ∧ idxOf (isB 2 s.Row) bs < (bs.length : Int)) <|
          (shape_clones (((bs.getD (idxOf (isB 2 s.Row) bs).toNat (⟨0, [], ⟨0, []⟩, ⟨[], []⟩, []⟩)).Row).Dims)).bind fun y53 =>
          some ((((bs.getD (idxOf (isB 2 s.Row) bs).toNat (⟨0, [], ⟨0, []⟩, ⟨[], []⟩, []⟩)).Row).Row), y53)
        ) else (
          some (s.Row, [])
        )
      ) : Option (Str × (List Linear))).bind k) = k (rowOf bs s) := by
        intro k
        rw [← Option.bind_assoc, hrow]; rfl
      refine (key _).trans ?_
      have hd6 := (validS_dims hv).1
      rw [cnt_list0 (fin := fun _ s => s) (f := fun s => s) ⟨0, []⟩ s.Dims (fun x acc => bif (sbL bs x).2 == 0 then .go (acc ++ [(sbL bs x).1]) else .ret (Shape.mk [] [], (sbL bs x).2)) (fun j acc => acc.length ≤ 8 + j) (fun _ _ => rfl) (rowOf bs s).2 hr.2.2 (fun j acc hj hI => ⟨by
        rw [eta_L, linear_Subst_eq _ bs (okL_getD hs.2 j) hb1]
        simp only [Option.bind_some]
        cases (sbL bs (s.Dims.getD j ⟨0, []⟩)).2 == 0
        · rfl
        · simp only [cond_true]; rw [grd_pos (by omega)], fun s' e => by
        cases hz : (sbL bs (s.Dims.getD j ⟨0, []⟩)).2 == 0
        · rw [hz] at e; cases e
        · rw [hz, cond_true] at e; injection e with e; subst e; simp; omega⟩)]
      show ((some (sbD bs s)).bind (Sh.aft fun u140 => (shape_made (rowOf bs s).1 u140).bind fun y143 => some (y143.1, y143.2))) = _
      cases hD : sbD bs s with
      | ret r => rfl
      | brk ds =>
        simp only [Option.bind_some, Sh.aft, sbO]
        rw [shape_made_eq _ ds (sbD_ok bs s hs hb hD)]; rfl
theorem sbS_ok (bs : List Bind) (s : Shape) (hs : okS s) (hb : ∀ b ∈ bs, okB b ∧ b.Row.Dims.length ≤ 8) : okS (sbS bs s).1 := by
  have h0 : okS (Shape.mk [] []) := ⟨by simp, fun l hl => by simp at hl⟩
  unfold sbS
  cases validS s with
  | false => exact h0
  | true =>
    cases validBs bs with
    | false => exact h0
    | true =>
      simp only [cond_true]
      cases hD : sbD bs s with
      | ret r =>
        rcases sbD_cases bs s with ⟨e, h2⟩ | ⟨d, _, _, e⟩
        · rw [e] at hD; cases hD
        · rw [e] at hD; injection hD with hD; subst hD; exact h0
      | brk ds =>
        simp only [sbO]
        cases decide (ds.length ≤ 6)
        · exact h0
        · exact ⟨(rowOf_ok bs s hs hb).1, sbD_ok bs s hs hb hD⟩
/-! ### evaluating -/
/-! ### the variables of a shape without a row -/
/-! ### the statement -/
theorem linT_congr {f g : Str → Int} : ∀ (ts : List Coef), (∀ t ∈ ts, f t.Var = g t.Var) → linT f ts = linT g ts
  | [], _ => rfl
  | t :: ts, h => by simp only [linT]; rw [h t (by simp), linT_congr ts fun x hx => h x (by simp [hx])]
end Go.Proofs.YtjfpcjnopbfekaaGreatDoor

/- PLAIN LAWS: texts of linear expressions and of shapes. -/
namespace Go.Sh
theorem foldl_go {α σ ε ρ : Type} (g : σ → α → σ) : ∀ (l : List α) (s : σ), loopL (ε := σ) (ρ := ρ) (fun x s => Stp.go (g s x)) (fun s => s) l s = .brk (l.foldl g s)
  | [], s => rfl
  | x :: l, s => by simp only [loopL]; rw [foldl_go (ε := ε) g l]; rfl
end Go.Sh
namespace Go.Proofs.YtjfpcjnopbfekaaGreatDoor
open Go.Ab Go.Sh
/-! ### the text of a linear expression -/
end Go.Proofs.YtjfpcjnopbfekaaGreatDoor

/- PLAIN LAWS: the program's texts, and those of shapes. -/
namespace Go.Proofs.YtjfpcjnopbfekaaGreatDoor
open Go.Ab Go.Sh
/-! ### the text of a shape -/
end Go.Proofs.YtjfpcjnopbfekaaGreatDoor

/- PLAIN LAWS: what the program reads: spaces, signs, names, numbers, items. -/
namespace Go.Sh
/-- Few names, none twice. -/
structure Gm (K : Nat) (m : List (Str × Int)) : Prop where
  len : m.length ≤ K
  nd : (m.map (·.1)).Nodup
  key : ∀ x ∈ m.map (·.1), x.length ≤ 1000000
theorem Gm.nil : Gm 0 [] := ⟨by simp, by simp, by simp⟩
theorem Gm.put {K : Nat} {m : List (Str × Int)} (h : Gm K m) {x : Str} (v : Int) (hx : x.length ≤ 1000000) : Gm (K + 1) (mput x v m) := by
  refine ⟨?_, ?_, fun y hy => ?_⟩
  · have e := congrArg List.length (mput_keys x v m)
    have := h.len
    split at e <;> simp at e <;> omega
  · rw [mput_keys]
    split
    · exact h.nd
    · rename_i hn
      rw [List.nodup_append]
      exact ⟨h.nd, by simp, fun a ha b hb => by
        have : b = x := by simpa using hb
        subst this; intro e; subst e; exact hn ha⟩
  · rw [mput_keys] at hy
    split at hy
    · exact h.key y hy
    · rcases List.mem_append.1 hy with hy | hy
      · exact h.key y hy
      · have : y = x := by simpa using hy
        subst this; exact hx
theorem Gm.mono {K K' : Nat} {m : List (Str × Int)} (h : Gm K m) (h1 : K ≤ K') : Gm K' m := ⟨by have := h.len; omega, h.nd, h.key⟩
end Go.Sh
namespace Go.Proofs.YtjfpcjnopbfekaaGreatDoor
open Go.Ab Go.Sh
/-! ### reading ends -/
end Go.Proofs.YtjfpcjnopbfekaaGreatDoor

/- PLAIN LAWS: what the program prints, it reads. -/
namespace Go.Sh
theorem bl_irrefl : ∀ x : Str, Op.bytesLess x x = false
  | [] => rfl
  | a :: x => by simp [Op.bytesLess, bl_irrefl x]
theorem bl_trans : ∀ x y z : Str, Op.bytesLess x y = true → Op.bytesLess y z = true → Op.bytesLess x z = true
  | _, [], _, h, _ => by simp [Op.bytesLess] at h
  | _, _ :: _, [], _, h => by simp [Op.bytesLess] at h
  | [], _ :: _, _ :: _, _, _ => rfl
  | a :: x, b :: y, c :: z, h1, h2 => by
    simp only [Op.bytesLess, Bool.or_eq_true, Bool.and_eq_true, decide_eq_true_eq, beq_iff_eq] at h1 h2 ⊢
    rcases h1 with h1 | ⟨rfl, h1⟩
    · rcases h2 with h2 | ⟨rfl, h2⟩
      · exact .inl (UInt8.lt_trans h1 h2)
      · exact .inl h1
    · rcases h2 with h2 | ⟨rfl, h2⟩
      · exact .inl h2
      · exact .inr ⟨rfl, bl_trans x y z h1 h2⟩
theorem bl_lt : ∀ x y : Str, x < y ↔ Op.bytesLess x y = true
  | x, [] => by simp [Op.bytesLess]
  | [], b :: y => by simp [Op.bytesLess]
  | a :: x, b :: y => by
    rw [List.cons_lt_cons_iff, bl_lt x y]
    simp only [Op.bytesLess, Bool.or_eq_true, Bool.and_eq_true, decide_eq_true_eq, beq_iff_eq]
theorem bl_le {x y : Str} (h : Op.bytesLess x y = true) : leS x y = true := by
  simp only [leS, decide_eq_true_eq]
  show ¬ y < x
  rw [bl_lt]
  intro h2
  have := bl_trans _ _ _ h h2
  rw [bl_irrefl] at this; cases this
end Go.Sh
namespace Go.Proofs.YtjfpcjnopbfekaaGreatDoor
open Go.Ab Go.Sh
/-! ### the loop -/
/-! ### what comes of it -/
theorem valid_pair {l : Linear} (h : validL l = true) : (l.Terms.map (·.Var)).Pairwise (fun a b => Op.bytesLess a b = true) := by
  have hadj : ∀ j, 0 < j → (hj : j < l.Terms.length) → Op.bytesLess (l.Terms[j - 1]'(by omega)).Var l.Terms[j].Var = true := by
    intro j h0 hj
    simp only [validL, Bool.and_eq_true, List.all_eq_true] at h
    have := h.1 j (by simpa using hj)
    have e : tAt l j = l.Terms[j] := by simp [tAt, List.getD_eq_getElem?_getD, List.getElem?_eq_getElem hj]
    have e' : tAt l (j - 1) = l.Terms[j - 1]'(by omega) := by simp [tAt, List.getD_eq_getElem?_getD, List.getElem?_eq_getElem (show j - 1 < l.Terms.length by omega)]
    simp only [validP, e, e', Bool.and_eq_true, Bool.or_eq_true, Bool.not_eq_true', decide_eq_false_iff_not] at this
    rcases this.2.2.2 with h | h
    · omega
    · exact h
  have hall : ∀ (n i : Nat) (hi : i + n + 1 < l.Terms.length), Op.bytesLess (l.Terms[i]'(by omega)).Var l.Terms[i + n + 1].Var = true := by
    intro n
    induction n with
    | zero => intro i hi; exact hadj (i + 1) (by omega) hi
    | succ n ih =>
      intro i hi
      exact bl_trans _ _ _ (ih i (by omega)) (hadj (i + (n + 1) + 1) (by omega) hi)
  rw [List.pairwise_iff_getElem]
  intro i j hi hj hij
  simp only [List.getElem_map]
  simp only [List.length_map] at hi hj
  have := hall (j - i - 1) i (by omega)
  have e : i + (j - i - 1) + 1 = j := by omega
  simp only [e] at this
  exact this
end Go.Proofs.YtjfpcjnopbfekaaGreatDoor

/- PLAIN LAWS: what the reference reads: places as what is left of the text. -/
namespace Go.Sh
def Sfx (x s : Str) : Prop := ∃ p, x = p ++ s
def pos (x s : Str) : Int := ((x.length - s.length : Nat) : Int)
theorem Sfx.len {x s : Str} (h : Sfx x s) : s.length ≤ x.length := by obtain ⟨p, rfl⟩ := h; simp
theorem Sfx.drop {x s : Str} (h : Sfx x s) : x.drop (x.length - s.length) = s := by
  obtain ⟨p, rfl⟩ := h
  simp
theorem Sfx.refl (x : Str) : Sfx x x := ⟨[], rfl⟩
theorem Sfx.trans {x s r : Str} (h : Sfx x s) (h2 : Sfx s r) : Sfx x r := by
  obtain ⟨p, rfl⟩ := h
  obtain ⟨q, rfl⟩ := h2
  exact ⟨p ++ q, by simp⟩
theorem Sfx.succ {x s : Str} {c : UInt8} (h : Sfx x (c :: s)) : pos x (c :: s) + 1 = pos x s := by
  have := h.len
  unfold pos
  simp at this ⊢; omega
end Go.Sh
namespace Go.Proofs.YtjfpcjnopbfekaaGreatDoor
open Go.Ab Go.Sh
/-! ### runs -/
/-! ### items -/
end Go.Proofs.YtjfpcjnopbfekaaGreatDoor

/- PLAIN LAWS: the reference's sums of terms, and its reading of linear expressions. -/
namespace Go.Proofs.YtjfpcjnopbfekaaGreatDoor
open Go.Ab Go.Sh
def plG (v : Str) (c : Int) (t : Coef) (s : Bool × List Coef) : Bool × List Coef :=
  let ins := !s.1 && !(Op.bytesLess t.Var v || t.Var == v)
  let out := bif ins then s.2 ++ [Coef.mk v c] else s.2
  (bif t.Var == v then true else (s.1 || ins), out ++ [Coef.mk t.Var (bif t.Var == v then w64 (t.C + c) else t.C)])
def nz (t : Coef) : Bool := !(t.C == 0)
def plusL (ts : List Coef) (v : Str) (c : Int) : List Coef :=
  let r := ts.foldl (fun s t => plG v c t s) (false, [])
  bif r.1 then r.2 else r.2 ++ [Coef.mk v c]
def plusT (ts : List Coef) (v : Str) (c : Int) : List Coef := (plusL ts v c).filter nz
theorem plG_put (v : Str) (c : Int) : ∀ (ts : List Coef) (s : Bool × List Coef), s.1 = true → (ts.foldl (fun s t => plG v c t s) s).1 = true
  | [], s, h => h
  | t :: ts, s, h => by
    rw [List.foldl_cons]
    refine plG_put v c ts _ ?_
    unfold plG
    simp only [h]
    cases t.Var == v <;> rfl
theorem plG_len (v : Str) (c : Int) : ∀ (ts : List Coef) (s : Bool × List Coef), (ts.foldl (fun s t => plG v c t s) s).2.length ≤ s.2.length + ts.length + (bif s.1 then 0 else (bif (ts.foldl (fun s t => plG v c t s) s).1 then 1 else 0))
  | [], s => by simp
  | t :: ts, s => by
    have ih := plG_len v c ts (plG v c t s)
    have hp := plG_put v c ts (plG v c t s)
    rw [List.foldl_cons]
    generalize ts.foldl (fun s t => plG v c t s) (plG v c t s) = r at ih hp ⊢
    obtain ⟨s1, s2⟩ := s
    unfold plG at ih hp
    cases s1 <;> cases h1 : Op.bytesLess t.Var v <;> cases h2 : t.Var == v <;> cases hr : r.1 <;> simp [h1, h2, hr] at ih hp ⊢ <;> omega
theorem plusL_len (ts : List Coef) (v : Str) (c : Int) : (plusL ts v c).length ≤ ts.length + 1 := by
  have := plG_len v c ts (false, [])
  unfold plusL
  simp only at this ⊢
  cases hr : (ts.foldl (fun s t => plG v c t s) (false, [])).1 with
  | true => rw [hr] at this; simp at this ⊢; omega
  | false => rw [hr] at this; simp at this ⊢; omega
theorem plusT_len (ts : List Coef) (v : Str) (c : Int) : (plusT ts v c).length ≤ ts.length + 1 := Nat.le_trans (List.length_filter_le _ _) (plusL_len ts v c)
def cpBody (s232 : Int × Int × List Coef) : Option (Stp (Int × Int × (List Coef)) (Int × (List Coef)) Empty) :=
    bif decide (s232.2.1 < ((s232.2.2.length : Nat) : Int)) then (
      grd (0 ≤ s232.2.1 ∧ s232.2.1 < (s232.2.2.length : Int)) <|
      grd (s232.2.1.toNat < s232.2.2.length) <|
      ((
        bif (((s232.2.2.getD s232.2.1.toNat ⟨[], 0⟩).C) == 0) then (
          some (s232.1, false, s232.2.2)
        ) else (
          grd (0 ≤ s232.1 ∧ s232.1 < (s232.2.2.length : Int)) <|
          grd (s232.1.toNat < s232.2.2.length) <|
          some ((w64 (s232.1 + 1)), true, (s232.2.2.set s232.1.toNat (Coef.mk ((s232.2.2.getD s232.2.1.toNat ⟨[], 0⟩).Var) ((s232.2.2.getD s232.2.1.toNat ⟨[], 0⟩).C))))
        )
      ) : Option (Int × Bool × (List Coef))).bind fun v284 =>
      some (.go (v284.1, (w64 (s232.2.1 + 1)), v284.2.2))
    ) else (
      some (.brk (s232.1, s232.2.2))
    )
theorem comp_loop (o : List Coef) (ho : o.length ≤ 1000000) : ∀ (n i k : Nat) (l : List Coef) (N : Nat), i + n = o.length → n < N → l.length = o.length → k = ((o.take i).filter nz).length → l.take k = (o.take i).filter nz → l.drop i = o.drop i → k ≤ i →
    ∃ l', whl cpBody N ((k : Int), (i : Int), l) = some (.brk (((o.filter nz).length : Int), l')) ∧ l'.take (o.filter nz).length = o.filter nz ∧ l'.length = o.length
  | 0, i, k, l, N, h1, h2, h3, h4, h5, h6, h7 => by
    obtain ⟨N', rfl⟩ : ∃ j, N = j + 1 := ⟨N - 1, by omega⟩
    have hi : i = o.length := by omega
    rw [hi, List.take_length] at h4 h5
    refine ⟨l, ?_, by rw [← h4]; exact h5, h3⟩
    simp only [whl, cpBody]
    rw [decide_eq_false (by omega), ← h4]; rfl
  | n + 1, i, k, l, N, h1, h2, h3, h4, h5, h6, h7 => by
    obtain ⟨N', rfl⟩ : ∃ j, N = j + 1 := ⟨N - 1, by omega⟩
    have hio : i < o.length := by omega
    have hil : i < l.length := by omega
    have hget : l[i] = o[i] := by
      have e1 := List.drop_eq_getElem_cons hil
      have e2 := List.drop_eq_getElem_cons hio
      rw [h6, e2] at e1
      injection e1 with e1 _
      exact e1.symm
    have hD : l.getD i ⟨[], 0⟩ = o[i] := by rw [List.getD_eq_getElem?_getD, List.getElem?_eq_getElem hil]; exact hget
    have ht : o.take (i + 1) = o.take i ++ [o[i]] := by rw [List.take_add_one]; simp [List.getElem?_eq_getElem hio]
    have hdrop : l.drop (i + 1) = o.drop (i + 1) := by
      have := congrArg (List.drop 1) h6
      simpa [List.drop_drop, Nat.add_comm] using this
    simp only [whl]
    have hb : cpBody ((k : Int), (i : Int), l) = some (.go (bif nz o[i] then (((k + 1 : Nat) : Int), ((i + 1 : Nat) : Int), l.set k o[i]) else ((k : Int), ((i + 1 : Nat) : Int), l))) := by
      unfold cpBody
      simp only
      rw [decide_eq_true (by omega)]
      simp only [cond_true, Int.toNat_natCast]
      rw [grd_pos ⟨by omega, by omega⟩, grd_pos (by omega), hD, w64_id (n := ((i : Int) + 1)) (by unfold I64; omega)]
      unfold nz
      cases o[i].C == 0 with
      | true => rfl
      | false =>
        simp only [cond_false, Bool.not_false, cond_true]
        rw [grd_pos ⟨by omega, by omega⟩, grd_pos (by omega), w64_id (by unfold I64; omega)]
        rfl
    rw [hb]
    simp only [Option.bind_some, stp]
    cases hz : nz o[i] with
    | false =>
      simp only [cond_false]
      have hf : (o.take (i + 1)).filter nz = (o.take i).filter nz := by rw [ht, List.filter_append]; simp [hz]
      exact comp_loop o ho n (i + 1) k l N' (by omega) (by omega) h3 (by rw [hf]; exact h4) (by rw [hf]; exact h5) hdrop (by omega)
    | true =>
      simp only [cond_true]
      have hf : (o.take (i + 1)).filter nz = (o.take i).filter nz ++ [o[i]] := by rw [ht, List.filter_append]; simp [hz]
      refine comp_loop o ho n (i + 1) (k + 1) (l.set k o[i]) N' (by omega) (by omega) (by simp [h3]) (by rw [hf]; simp [h4]) ?_ ?_ (by omega)
      · rw [hf, ← h5]
        have hk : k < l.length := by omega
        rw [List.take_add_one]
        simp [List.getElem?_set_self, hk, List.take_set_of_le]
      · rw [List.drop_set_of_lt (by omega)]; exact hdrop
theorem plus_eq (l : Linear) (v : Str) (c : Int) (h : l.Terms.length ≤ 10000) : ref04_Plus l v c = some (Linear.mk l.Const (plusT l.Terms v c)) := by
  unfold ref04_Plus
  rw [cnt_list0 (fin := fun _ s => (s.1, s.2)) (f := fun s => s) ⟨[], 0⟩ l.Terms (fun t s => Stp.go (plG v c t s)) (fun j s => s.2.length ≤ 2 * j) (fun _ _ => rfl) (false, []) (by simp) (fun j s hj hI => by
    generalize l.Terms.getD j ⟨[], 0⟩ = t
    obtain ⟨s1, s2⟩ := s
    simp only at hI
    refine ⟨?_, fun s' e => ?_⟩
    · unfold plG
      simp only
      cases s1 with
      | true =>
        simp only [cond_true, cond_false, Option.bind_some]
        cases t.Var == v with
        | true =>
          simp only [cond_true, Option.bind_some]
          rw [grd_pos (by omega)]; rfl
        | false =>
          simp only [cond_false, Option.bind_some]
          rw [grd_pos (by omega)]; rfl
      | false =>
        simp only [cond_false, Option.bind_some, Bool.not_false, Bool.true_and, Bool.false_or]
        cases (!(Op.bytesLess t.Var v || t.Var == v)) with
        | true =>
          simp only [cond_true]
          rw [grd_pos (by omega)]
          simp only [Option.bind_some]
          cases t.Var == v with
          | true =>
            simp only [cond_true, Option.bind_some]
            rw [grd_pos (by simp; omega)]
          | false =>
            simp only [cond_false, Option.bind_some]
            rw [grd_pos (by simp; omega)]
        | false =>
          simp only [cond_false, Option.bind_some]
          cases t.Var == v with
          | true =>
            simp only [cond_true, Option.bind_some]
            rw [grd_pos (by omega)]
          | false =>
            simp only [cond_false, Option.bind_some]
            rw [grd_pos (by omega)]
    · injection e with e
      subst e
      unfold plG
      simp only
      cases (!s1 && !(Op.bytesLess t.Var v || t.Var == v)) <;> simp <;> omega)]
  rw [foldl_go (α := Coef) (ε := Bool × List Coef) (fun s t => plG v c t s)]
  simp only [Option.bind_some, aftE]
  have hl := plusL_len l.Terms v c
  have hl2 := plG_len v c l.Terms (false, [])
  have hpl : ((bif (l.Terms.foldl (fun s t => plG v c t s) (false, [])).1 then some (l.Terms.foldl (fun s t => plG v c t s) (false, [])).2 else grd (((l.Terms.foldl (fun s t => plG v c t s) (false, [])).2.length + 1) * 24 ≤ 140737488355328) <| some ((l.Terms.foldl (fun s t => plG v c t s) (false, [])).2 ++ [Coef.mk v c])) : Option (List Coef)) = some (plusL l.Terms v c) := by
    unfold plusL
    simp only
    cases hr : (l.Terms.foldl (fun s t => plG v c t s) (false, [])).1 with
    | true => rfl
    | false =>
      rw [hr] at hl2
      simp at hl2
      simp only [cond_false]
      rw [grd_pos (by omega)]
  refine (congrArg (fun o => Option.bind o _) hpl).trans ?_
  simp only [Option.bind_some]
  obtain ⟨l', e1, e2, e3⟩ := comp_loop (plusL l.Terms v c) (by omega) (plusL l.Terms v c).length 0 0 (plusL l.Terms v c) 4294967296 (by omega) (by omega) rfl (by simp) (by simp) rfl (by omega)
  have hfl := List.length_filter_le nz (plusL l.Terms v c)
  refine (congrArg (fun o : Option (Out (Int × List Coef) Empty) => Option.bind o _) e1).trans ?_
  simp only [Option.bind_some, aftE]
  rw [grd_pos ⟨by omega, by omega⟩, Int.toNat_natCast, e2]
  rfl
/-! ### reading -/
def limS (l : Linear) : Linear × Int := bif validL l then (l, 0) else (Linear.mk 0 [], 3)
theorem limited_eq (l : Linear) : ref04_limited l = some (limS l) := by
  unfold ref04_limited limS
  rw [ref04_Valid_eq]
  simp only [Option.bind_some]
  cases validL l <;> rfl
end Go.Proofs.YtjfpcjnopbfekaaGreatDoor

/- PLAIN LAWS: what is printed, the reference reads. -/
namespace Go.Proofs.YtjfpcjnopbfekaaGreatDoor
open Go.Ab Go.Sh
end Go.Proofs.YtjfpcjnopbfekaaGreatDoor

/- PLAIN LAWS: terms in order of their names; the reference's sums keep them so. -/
namespace Go.Proofs.YtjfpcjnopbfekaaGreatDoor
open Go.Ab Go.Sh
def Srt (ts : List Coef) : Prop := ts.Pairwise (fun a b => Op.bytesLess a.Var b.Var = true)
def Nz (ts : List Coef) : Prop := ∀ t ∈ ts, t.C ≠ 0
def ind (v : Str) (x : Str) : Int := if x = v then 1 else 0
theorem ind_none (v : Str) : ∀ ts : List Coef, (∀ t ∈ ts, t.Var ≠ v) → linT (ind v) ts = 0
  | [], _ => rfl
  | t :: ts, h => by
    simp only [linT, ind, if_neg (h t (by simp)), Int.mul_zero, Int.zero_add]
    exact ind_none v ts fun x hx => h x (by simp [hx])
theorem bl_ne {x y : Str} (h : Op.bytesLess x y = true) : x ≠ y := fun e => by rw [e, bl_irrefl] at h; cases h
theorem bl_tri (x y : Str) : Op.bytesLess x y = true ∨ x = y ∨ Op.bytesLess y x = true := by
  rcases Bool.eq_false_or_eq_true (Op.bytesLess x y) with h | h
  · exact .inl h
  · rcases Bool.eq_false_or_eq_true (Op.bytesLess y x) with h' | h'
    · exact .inr (.inr h')
    · refine .inr (.inl ?_)
      have h1 : ¬ x < y := fun e => by rw [bl_lt, h] at e; cases e
      have h2 : ¬ y < x := fun e => by rw [bl_lt, h'] at e; cases e
      exact List.le_antisymm (List.not_lt.1 h2) (List.not_lt.1 h1)
theorem lin_uniq : ∀ a b : List Coef, Srt a → Nz a → Srt b → Nz b → (∀ f, linT f a = linT f b) → a = b
  | [], [], _, _, _, _, _ => rfl
  | [], t :: ts, _, _, h1, h2, h => by
    have := h (ind t.Var)
    simp only [linT] at this
    rw [ind_none t.Var ts fun x hx => Ne.symm (bl_ne ((List.pairwise_cons.1 h1).1 x hx))] at this
    simp only [ind, if_pos, Int.mul_one, Int.add_zero] at this
    exact absurd this.symm (h2 t (by simp))
  | t :: ts, [], h1, h2, _, _, h => by
    have := h (ind t.Var)
    simp only [linT] at this
    rw [ind_none t.Var ts fun x hx => Ne.symm (bl_ne ((List.pairwise_cons.1 h1).1 x hx))] at this
    simp only [ind, if_pos, Int.mul_one, Int.add_zero] at this
    exact absurd this (h2 t (by simp))
  | t :: ts, u :: us, h1, h2, h3, h4, h => by
    have ht := List.pairwise_cons.1 h1
    have hu := List.pairwise_cons.1 h3
    have et : linT (ind t.Var) ts = 0 := ind_none t.Var ts fun x hx => Ne.symm (bl_ne (ht.1 x hx))
    have eu : linT (ind u.Var) us = 0 := ind_none u.Var us fun x hx => Ne.symm (bl_ne (hu.1 x hx))
    have i1 := h (ind t.Var)
    have i2 := h (ind u.Var)
    simp only [linT] at i1 i2
    rcases bl_tri t.Var u.Var with hl | he | hl
    · have z : linT (ind t.Var) us = 0 := ind_none t.Var us fun x hx => Ne.symm (bl_ne (bl_trans _ _ _ hl (hu.1 x hx)))
      rw [et, z] at i1
      simp only [ind, if_pos, if_neg (Ne.symm (bl_ne hl)), Int.mul_one, Int.mul_zero, Int.add_zero] at i1
      exact absurd i1 (h2 t (by simp))
    · rw [et, he, eu] at i1
      simp only [ind, if_pos, Int.mul_one, Int.add_zero] at i1
      have e : t = u := by
        obtain ⟨tv, tc⟩ := t
        obtain ⟨uv, uc⟩ := u
        simp only at he i1
        rw [he, i1]
      subst e
      rw [lin_uniq ts us ht.2 (fun x hx => h2 x (by simp [hx])) hu.2 (fun x hx => h4 x (by simp [hx])) fun f => by
        have := h f
        simp only [linT] at this
        omega]
    · have z : linT (ind u.Var) ts = 0 := ind_none u.Var ts fun x hx => Ne.symm (bl_ne (bl_trans _ _ _ hl (ht.1 x hx)))
      rw [eu, z] at i2
      simp only [ind, if_pos, if_neg (Ne.symm (bl_ne hl)), Int.mul_one, Int.mul_zero, Int.add_zero] at i2
      exact absurd i2.symm (h4 u (by simp))
/-! ### to put a term where it belongs -/
def insT (v : Str) (c : Int) : List Coef → List Coef
  | [] => [Coef.mk v c]
  | t :: ts => if t.Var = v then Coef.mk v (t.C + c) :: ts else bif Op.bytesLess t.Var v then t :: insT v c ts else Coef.mk v c :: t :: ts
theorem plG_done (v : Str) (c : Int) : ∀ (ts o : List Coef), (∀ t ∈ ts, t.Var ≠ v) → ts.foldl (fun s t => plG v c t s) (true, o) = (true, o ++ ts)
  | [], o, _ => by simp
  | t :: ts, o, h => by
    have e : plG v c t (true, o) = (true, o ++ [t]) := by
      unfold plG
      simp only [beq_eq_false_iff_ne.2 (h t (by simp)), Bool.not_true, Bool.false_and, cond_false, Bool.or_false]
    rw [List.foldl_cons, e, plG_done v c ts _ fun x hx => h x (by simp [hx])]
    simp
theorem plG_ins (v : Str) (c : Int) : ∀ (ts o : List Coef), Srt ts → (∀ t ∈ ts, w64 (t.C + c) = t.C + c) →
    (bif (ts.foldl (fun s t => plG v c t s) (false, o)).1 then (ts.foldl (fun s t => plG v c t s) (false, o)).2 else (ts.foldl (fun s t => plG v c t s) (false, o)).2 ++ [Coef.mk v c]) = o ++ insT v c ts
  | [], o, _, _ => by simp [insT]
  | t :: ts, o, hs, hw => by
    have ht := List.pairwise_cons.1 hs
    rw [List.foldl_cons]
    by_cases hv : t.Var = v
    · have e : plG v c t (false, o) = (true, o ++ [Coef.mk v (t.C + c)]) := by
        unfold plG
        simp only [hv, beq_self_eq_true, Bool.or_true, Bool.not_true, Bool.and_false, cond_false, cond_true, hw t (by simp)]
      rw [e, plG_done v c ts _ fun x hx => Ne.symm (bl_ne (hv ▸ ht.1 x hx))]
      simp [insT, hv]
    · cases hl : Op.bytesLess t.Var v with
      | true =>
        have e : plG v c t (false, o) = (false, o ++ [t]) := by
          unfold plG
          simp only [beq_eq_false_iff_ne.2 hv, hl, Bool.true_or, Bool.not_true, Bool.and_false, cond_false, Bool.or_self]
        rw [e, plG_ins v c ts _ ht.2 fun x hx => hw x (by simp [hx])]
        simp [insT, hv, hl]
      | false =>
        have hvl : Op.bytesLess v t.Var = true := by
          rcases bl_tri t.Var v with h | h | h
          · rw [h] at hl; cases hl
          · exact absurd h hv
          · exact h
        have e : plG v c t (false, o) = (true, o ++ [Coef.mk v c] ++ [t]) := by
          unfold plG
          simp only [beq_eq_false_iff_ne.2 hv, hl, Bool.or_self, Bool.not_false, Bool.and_self, cond_false, cond_true, Bool.or_true]
        rw [e, plG_done v c ts _ fun x hx => Ne.symm (bl_ne (bl_trans _ _ _ hvl (ht.1 x hx)))]
        simp [insT, hv, hl]
theorem plusT_ins {ts : List Coef} (v : Str) (c : Int) (hs : Srt ts) (hw : ∀ t ∈ ts, w64 (t.C + c) = t.C + c) : plusT ts v c = (insT v c ts).filter nz := by
  have := plG_ins v c ts [] hs hw
  unfold plusT plusL
  simp only
  rw [this]; simp
theorem insT_lin (f : Str → Int) (v : Str) (c : Int) : ∀ ts : List Coef, linT f (insT v c ts) = linT f ts + c * f v
  | [] => by simp [insT, linT]
  | t :: ts => by
    unfold insT
    by_cases hv : t.Var = v
    · rw [if_pos hv]
      simp only [linT, hv]
      rw [Int.add_mul]; omega
    · rw [if_neg hv]
      cases Op.bytesLess t.Var v
      · simp only [cond_false, linT]; omega
      · simp only [cond_true, linT, insT_lin f v c ts]; omega
theorem insT_mem (v : Str) (c : Int) : ∀ (ts : List Coef) (x : Coef), x ∈ insT v c ts → x ∈ ts ∨ (x.Var = v ∧ (x.C = c ∨ ∃ t ∈ ts, x.C = t.C + c))
  | [], x, h => by
    have : x = Coef.mk v c := by simpa [insT] using h
    subst this; exact .inr ⟨rfl, .inl rfl⟩
  | t :: ts, x, h => by
    unfold insT at h
    by_cases hv : t.Var = v
    · rw [if_pos hv] at h
      rcases List.mem_cons.1 h with rfl | h
      · exact .inr ⟨rfl, .inr ⟨t, by simp, rfl⟩⟩
      · exact .inl (by simp [h])
    · rw [if_neg hv] at h
      cases hl : Op.bytesLess t.Var v with
      | true =>
        rw [hl, cond_true] at h
        rcases List.mem_cons.1 h with rfl | h
        · exact .inl (by simp)
        · rcases insT_mem v c ts x h with h | ⟨h1, h2⟩
          · exact .inl (by simp [h])
          · refine .inr ⟨h1, h2.imp id ?_⟩
            rintro ⟨y, hy, e⟩; exact ⟨y, by simp [hy], e⟩
      | false =>
        rw [hl, cond_false] at h
        rcases List.mem_cons.1 h with rfl | h
        · exact .inr ⟨rfl, .inl rfl⟩
        · exact .inl h
theorem insT_len (v : Str) (c : Int) : ∀ ts : List Coef, (insT v c ts).length ≤ ts.length + 1
  | [] => by simp [insT]
  | t :: ts => by
    have := insT_len v c ts
    unfold insT
    by_cases hv : t.Var = v
    · rw [if_pos hv]; simp
    · rw [if_neg hv]
      cases Op.bytesLess t.Var v
      · simp
      · simp only [cond_true, List.length_cons]; omega
theorem insT_srt (v : Str) (c : Int) : ∀ ts : List Coef, Srt ts → Srt (insT v c ts)
  | [], _ => by simp [insT, Srt]
  | t :: ts, hs => by
    have ht := List.pairwise_cons.1 hs
    unfold insT
    by_cases hv : t.Var = v
    · rw [if_pos hv]
      exact List.pairwise_cons.2 ⟨fun x hx => by have := ht.1 x hx; rw [hv] at this; exact this, ht.2⟩
    · rw [if_neg hv]
      cases hl : Op.bytesLess t.Var v with
      | true =>
        rw [cond_true]
        refine List.pairwise_cons.2 ⟨fun x hx => ?_, insT_srt v c ts ht.2⟩
        rcases insT_mem v c ts x hx with h | ⟨h, _⟩
        · exact ht.1 x h
        · rw [h]; exact hl
      | false =>
        have hvl : Op.bytesLess v t.Var = true := by
          rcases bl_tri t.Var v with h | h | h
          · rw [h] at hl; cases hl
          · exact absurd h hv
          · exact h
        rw [cond_false]
        refine List.pairwise_cons.2 ⟨fun x hx => ?_, hs⟩
        rcases List.mem_cons.1 hx with rfl | hx
        · exact hvl
        · exact bl_trans _ _ _ hvl (ht.1 x hx)
theorem nz_lin (f : Str → Int) : ∀ ts : List Coef, linT f (ts.filter nz) = linT f ts
  | [] => rfl
  | t :: ts => by
    rw [List.filter_cons]
    cases h : nz t with
    | true => simp only [if_pos, linT, nz_lin f ts]
    | false =>
      have h0 : t.C = 0 := by simpa [nz] using h
      simp only [Bool.false_eq_true, if_false, linT, nz_lin f ts, h0]; omega
/-- Few terms in order, none zero, no number great. -/
structure RB (B : Int) (K : Nat) (ts : List Coef) : Prop where
  srt : Srt ts
  nz : Nz ts
  bd : ∀ t ∈ ts, -B ≤ t.C ∧ t.C ≤ B
  len : ts.length ≤ K
theorem RB.nil : RB 0 0 [] := ⟨List.Pairwise.nil, (fun t h => by simp at h), (fun t h => by simp at h), Nat.le_refl _⟩
theorem RB.mono {B B' : Int} {K K' : Nat} {ts : List Coef} (h : RB B K ts) (h1 : B ≤ B') (h2 : K ≤ K') : RB B' K' ts :=
  ⟨h.srt, h.nz, fun t ht => by have := h.bd t ht; omega, Nat.le_trans h.len h2⟩
theorem RB.plus {B : Int} {K : Nat} {ts : List Coef} (h : RB B K ts) (v : Str) {c A : Int} (hB : 0 ≤ B) (h1 : -A ≤ c) (h2 : c ≤ A) (hle : B + A ≤ 9000000000000000000) :
    RB (B + A) (K + 1) (plusT ts v c) ∧ ∀ f, linT f (plusT ts v c) = linT f ts + c * f v := by
  have hw : ∀ t ∈ ts, w64 (t.C + c) = t.C + c := fun t ht => by
    have := h.bd t ht
    exact w64_id (by unfold I64; omega)
  rw [plusT_ins v c h.srt hw]
  refine ⟨⟨(insT_srt v c ts h.srt).filter _, fun t ht => ?_, fun t ht => ?_, ?_⟩, fun f => ?_⟩
  · have := (List.mem_filter.1 ht).2
    simpa [YtjfpcjnopbfekaaGreatDoor.nz] using this
  · rcases insT_mem v c ts t (List.mem_filter.1 ht).1 with h3 | ⟨_, h3 | ⟨u, hu, h3⟩⟩
    · have := h.bd t h3; omega
    · omega
    · have := h.bd u hu; omega
  · have := List.length_filter_le Go.Proofs.YtjfpcjnopbfekaaGreatDoor.nz (insT v c ts)
    have := insT_len v c ts
    have := h.len
    omega
  · rw [nz_lin, insT_lin]
end Go.Proofs.YtjfpcjnopbfekaaGreatDoor

/- PLAIN LAWS: what a sum by name leaves is what the reference's sum in order leaves; substitution of both. -/
namespace Go.Proofs.YtjfpcjnopbfekaaGreatDoor
open Go.Ab Go.Sh
theorem mget_mem {m : List (Str × Int)} : (m.map (·.1)).Nodup → ∀ {e : Str × Int}, e ∈ m → mget 0 e.1 m = e.2 := by
  induction m with
  | nil => intro _ e h; cases h
  | cons p m ih =>
    obtain ⟨k, u⟩ := p
    intro h e he
    rw [List.map_cons, List.nodup_cons] at h
    rcases List.mem_cons.1 he with rfl | he
    · simp [mget]
    · have hne : k ≠ e.1 := fun e2 => h.1 (by rw [e2]; exact List.mem_map.2 ⟨e, he, rfl⟩)
      simp only [mget, if_neg hne]
      exact ih h.2 he
/-- The terms that a sum by name has. -/
def rawT (m : List (Str × Int)) : List Coef := (sortI (namesOf m)).map fun k => Coef.mk k (mget 0 k m)
theorem names_nodup {m : List (Str × Int)} (h : (m.map (·.1)).Nodup) : (namesOf m).Nodup := List.Nodup.sublist (List.Sublist.map _ List.filter_sublist) h
theorem rawT_ok {m : List (Str × Int)} (h : (m.map (·.1)).Nodup) : Srt (rawT m) ∧ Nz (rawT m) ∧ ∀ f, linT f (rawT m) = linM f m := by
  refine ⟨?_, fun t ht => ?_, fun f => ?_⟩
  · have h1 := sortI_sorted (namesOf m)
    have h2 : (sortI (namesOf m)).Nodup := (sortI_perm (namesOf m)).nodup_iff.2 (names_nodup h)
    unfold Srt rawT
    rw [List.pairwise_map]
    refine (h1.and h2).imp fun {a b} hab => ?_
    rcases bl_tri a b with hl | he | hl
    · exact hl
    · exact absurd he hab.2
    · exact absurd (leS_anti _ _ hab.1 (bl_le hl)) hab.2
  · unfold rawT at ht
    obtain ⟨k, hk, rfl⟩ := List.mem_map.1 ht
    have hk := (sortI_perm (namesOf m)).mem_iff.1 hk
    unfold namesOf at hk
    obtain ⟨e, he, rfl⟩ := List.mem_map.1 hk
    obtain ⟨he1, he2⟩ := List.mem_filter.1 he
    show mget 0 e.1 m ≠ 0
    rw [mget_mem h he1]
    simpa using he2
  · unfold rawT
    rw [linT_perm f ((sortI_perm (namesOf m)).map _), names_lin f m h]
theorem endSum_raw (n : Int) (m : List (Str × Int)) : endSum n m (sortI (namesOf m)) = limS (Linear.mk n (rawT m)) := rfl
theorem valid_srt {l : Linear} (h : validL l = true) : Srt l.Terms := by
  have := valid_pair h
  rw [List.pairwise_map] at this
  exact this
theorem valid_nz {l : Linear} (h : validL l = true) : Nz l.Terms := by
  intro t ht
  obtain ⟨j, hj, rfl⟩ := List.getElem_of_mem ht
  simp only [validL, Bool.and_eq_true, List.all_eq_true] at h
  have := h.1 j (by simpa using hj)
  have e : tAt l j = l.Terms[j] := by simp [tAt, List.getD_eq_getElem?_getD, List.getElem?_eq_getElem hj]
  simp only [validP, e, Bool.and_eq_true, Bool.not_eq_true', beq_eq_false_iff_ne] at this
  exact this.2.1
theorem lin0 : ∀ ts : List Coef, linT (fun _ => 0) ts = 0
  | [] => rfl
  | t :: ts => by simp only [linT, lin0 ts]; omega
theorem linM0 : ∀ m : List (Str × Int), linM (fun _ => 0) m = 0
  | [] => rfl
  | (k, c) :: m => by simp only [linM, linM0 m]; omega
/-- A sum by name and a sum in order that are the same linear form. -/
theorem raw_same {n n' : Int} {m : List (Str × Int)} {ts : List Coef} (h : (m.map (·.1)).Nodup) (h1 : Srt ts) (h2 : Nz ts) (hf : ∀ f, n + linM f m = n' + linT f ts) : limS (Linear.mk n (rawT m)) = limS (Linear.mk n' ts) := by
  obtain ⟨r1, r2, r3⟩ := rawT_ok h
  have e : n = n' := by have := hf (fun _ => 0); rw [linM0, lin0] at this; omega
  have e2 : rawT m = ts := lin_uniq _ _ r1 r2 h1 h2 fun f => by
    have := hf f
    rw [r3 f]; omega
  rw [e, e2]
/-! ### the reference's sums -/
def timesL (n : Int) (ts : List Coef) (x : Linear) (k : Int) : Int × List Coef := (w64 (n + w64 (k * x.Const)), x.Terms.foldl (fun ts t => plusT ts t.Var (w64 (k * t.C))) ts)
theorem times_rb (k : Int) (hk : -1000000 ≤ k ∧ k ≤ 1000000) : ∀ (xs : List Coef) (ts : List Coef) (B : Int) (K : Nat), (∀ t ∈ xs, -1000000 ≤ t.C ∧ t.C ≤ 1000000) → RB B K ts → 0 ≤ B → B + (xs.length : Int) * 1000000000000 ≤ 9000000000000000000 →
    RB (B + (xs.length : Int) * 1000000000000) (K + xs.length) (xs.foldl (fun ts t => plusT ts t.Var (w64 (k * t.C))) ts) ∧ ∀ f, linT f (xs.foldl (fun ts t => plusT ts t.Var (w64 (k * t.C))) ts) = linT f ts + k * linT f xs
  | [], ts, B, K, _, h, _, _ => ⟨by simpa using h, fun f => by simp [linT]⟩
  | x :: xs, ts, B, K, hC, h, hB, hle => by
    obtain ⟨c1, c2⟩ := hC x (by simp)
    obtain ⟨b1, b2⟩ := prod_bound hk.1 hk.2 c1 c2
    have hlen : (((x :: xs).length : Nat) : Int) = (xs.length : Int) + 1 := by simp
    rw [hlen] at hle
    have hle' : B + ((xs.length : Int) * 1000000000000 + 1000000000000) ≤ 9000000000000000000 := by
      rw [Int.add_mul] at hle; omega
    have hp : 0 ≤ (xs.length : Int) * 1000000000000 := by omega
    have e : w64 (k * x.C) = k * x.C := w64_id (by unfold I64; omega)
    obtain ⟨p1, p2⟩ := h.plus x.Var (c := k * x.C) (A := 1000000000000) hB (by omega) (by omega) (by omega)
    obtain ⟨g1, g2⟩ := times_rb k hk xs (plusT ts x.Var (k * x.C)) (B + 1000000000000) (K + 1) (fun y hy => hC y (by simp [hy])) p1 (by omega) (by omega)
    rw [List.foldl_cons, e, hlen]
    refine ⟨?_, fun f => ?_⟩
    · have e1 : B + 1000000000000 + (xs.length : Int) * 1000000000000 = B + ((xs.length : Int) + 1) * 1000000000000 := by rw [Int.add_mul]; omega
      have e2 : K + 1 + xs.length = K + (x :: xs).length := by simp; omega
      rw [← e1, ← e2]; exact g1
    · rw [g2 f, p2 f]
      simp only [linT]
      rw [Int.mul_add, mul_swap]; omega
/-- What the reference puts for a variable. -/
def bdR (bs : List Bind) (v : Str) : Linear := bif decide (idxOf (isB 1 v) bs < 0) then Linear.mk 0 [Coef.mk v 1] else (bs.getD (idxOf (isB 1 v) bs).toNat bd0).Dim
def rG (bs : List Bind) (t : Coef) (s : Int × List Coef) : Stp (Int × List Coef) (Int × List Coef) (Linear × Int) :=
  bif validL (bdR bs t.Var) then .go (timesL s.1 s.2 (bdR bs t.Var) t.C) else .ret (Linear.mk 0 [], 1)
theorem valid_var {v : Str} (h : nameS v = true) : validL (Linear.mk 0 [Coef.mk v 1]) = true := by
  have e : tAt (Linear.mk 0 [Coef.mk v 1]) 0 = Coef.mk v 1 := rfl
  unfold validL
  simp only [List.length_cons, List.length_nil]
  simp [validP, e, h, inS]
/-- The state of the reference's loop. -/
def Rt (j : Nat) (s : Int × List Coef) : Prop := RB ((j : Int) * 12000000000000) (12 * j) s.2 ∧ -(1000000 + (j : Int) * 1000000000000) ≤ s.1 ∧ s.1 ≤ 1000000 + (j : Int) * 1000000000000
theorem rG_step (bs : List Bind) (t : Coef) (j : Nat) (hj : j < 12) (ht : (-1000000 ≤ t.C ∧ t.C ≤ 1000000) ∧ nameS t.Var = true) (s s' : Int × List Coef) (hs : Rt j s) (h : rG bs t s = .go s') :
    Rt (j + 1) s' ∧ ∀ f, s'.1 + linT f s'.2 = s.1 + linT f s.2 + t.C * sv bs f t.Var := by
  have ej : ((j + 1 : Nat) : Int) * 12000000000000 = (j : Int) * 12000000000000 + 12000000000000 := by omega
  obtain ⟨h1, h2, h3⟩ := hs
  have esv : ∀ f, lin f (bdR bs t.Var) = sv bs f t.Var := fun f => by
    unfold bdR sv
    cases decide (idxOf (isB 1 t.Var) bs < 0)
    · rfl
    · simp [lin, linT]
  unfold rG at h
  generalize bdR bs t.Var = D at h esv
  cases hv : validL D with
  | false => rw [hv, cond_false] at h; cases h
  | true =>
    rw [hv, cond_true] at h
    have e : s' = timesL s.1 s.2 D t.C := by injection h with h; exact h.symm
    subst e
    obtain ⟨k1, k2⟩ := validL_K hv
    have hl := validL_len hv
    obtain ⟨b1, b2⟩ := prod_bound ht.1.1 ht.1.2 k1 k2
    obtain ⟨g1, g2⟩ := times_rb t.C ht.1 D.Terms s.2 ((j : Int) * 12000000000000) (12 * j) (fun x hx => (validL_C hv x hx).1) h1 (by omega) (by omega)
    have hw : w64 (s.1 + w64 (t.C * D.Const)) = s.1 + t.C * D.Const := by
      rw [w64_id (n := t.C * D.Const) (by unfold I64; omega), w64_id (by unfold I64; omega)]
    refine ⟨⟨g1.mono (by omega) (by omega), ?_, ?_⟩, fun f => ?_⟩
    · simp only [timesL, hw]; omega
    · simp only [timesL, hw]; omega
    · simp only [timesL, hw, g2 f]
      rw [← esv f]
      simp only [lin]
      rw [Int.mul_add]; omega
/-- Both loops. -/
theorem both_loop (bs : List Bind) (c : Int) (ts : List Coef) : ∀ (j : Nat) (s : Int × List (Str × Int)) (s' : Int × List Coef), j + ts.length ≤ 12 → (∀ t ∈ ts, (-1000000 ≤ t.C ∧ t.C ≤ 1000000) ∧ nameS t.Var = true) → St j c s → Rt j s' → (∀ f, s.1 + linM f s.2 = s'.1 + linT f s'.2) →
    (∃ u u', loopL (sbG bs) (fun s => s) ts s = .brk u ∧ loopL (rG bs) (fun s => s) ts s' = .brk u' ∧ St (j + ts.length) c u ∧ Rt (j + ts.length) u' ∧ ∀ f, u.1 + linM f u.2 = u'.1 + linT f u'.2) ∨ (loopL (sbG bs) (fun s => s) ts s = .ret (Linear.mk 0 [], 1) ∧ loopL (rG bs) (fun s => s) ts s' = .ret (Linear.mk 0 [], 1)) := by
  induction ts with
  | nil => exact fun j s s' _ _ h1 h2 h3 => .inl ⟨s, s', rfl, rfl, h1, h2, h3⟩
  | cons t ts ih =>
    intro j s s' hj hC hs hs' hf
    have hj' : j + 1 + ts.length ≤ 12 := by simp at hj; omega
    have ht := hC t (by simp)
    have g1 := fun f u => sbG_step bs f t c j (by simp at hj; omega) ht s u hs
    have g2 := fun u => rG_step bs t j (by simp at hj; omega) ht s' u hs'
    have hcase : (∃ u u', sbG bs t s = .go u ∧ rG bs t s' = .go u') ∨ (sbG bs t s = .ret (Linear.mk 0 [], 1) ∧ rG bs t s' = .ret (Linear.mk 0 [], 1)) := by
      unfold sbG rG bdR
      cases h0 : decide (idxOf (isB 1 t.Var) bs < 0) with
      | true =>
        simp only [cond_true, valid_var ht.2]
        exact .inl ⟨_, _, rfl, rfl⟩
      | false =>
        simp only [cond_false]
        cases validL (bs.getD (idxOf (isB 1 t.Var) bs).toNat bd0).Dim with
        | false => exact .inr ⟨rfl, rfl⟩
        | true => exact .inl ⟨_, _, rfl, rfl⟩
    simp only [loopL]
    rcases hcase with ⟨u, u', e1, e2⟩ | ⟨e1, e2⟩
    · rw [e1, e2]
      have k1 := fun f => g1 f u e1
      obtain ⟨k2, k3⟩ := g2 u' e2
      rcases ih (j + 1) u u' hj' (fun x hx => hC x (by simp [hx])) (k1 (fun _ => 0)).1 k2 (fun f => by have := (k1 f).2; have := k3 f; have := hf f; omega) with ⟨v, v', a1, a2, a3, a4, a5⟩ | ⟨a1, a2⟩
      · refine .inl ⟨v, v', a1, a2, ?_, ?_, a5⟩
        · rw [show j + (t :: ts).length = j + 1 + ts.length by simp; omega]; exact a3
        · rw [show j + (t :: ts).length = j + 1 + ts.length by simp; omega]; exact a4
      · exact .inr ⟨a1, a2⟩
    · rw [e1, e2]; exact .inr ⟨rfl, rfl⟩
def outT (o : Out (Int × List Coef) (Linear × Int)) : Linear × Int := match o with | .brk u => limS (Linear.mk u.1 u.2) | .ret r => r
theorem ref_sub (bs : List Bind) (l : Linear) (h : validL l = true) : outT (loopL (rG bs) (fun s => s) l.Terms (l.Const, [])) = sbL bs l ∧ (∀ u, loopL (rG bs) (fun s => s) l.Terms (l.Const, []) = .brk u → u.2.length ≤ 144) := by
  obtain ⟨k1, k2⟩ := validL_K h
  have hl := validL_len h
  have h0 : Rt 0 (l.Const, []) := ⟨RB.nil, by simp only; omega, by simp only; omega⟩
  unfold sbL
  rw [h, cond_true]
  rcases both_loop bs l.Const l.Terms 0 (l.Const, []) (l.Const, []) (by omega) (validL_C h) (St0 l h) h0 (fun f => rfl) with ⟨u, u', e1, e2, e3, e4, e5⟩ | ⟨e1, e2⟩
  · rw [e1, e2]
    refine ⟨?_, fun w hw => ?_⟩
    · simp only [outS, outT]
      rw [endSum_raw]
      exact (raw_same e3.1.nd e4.1.srt e4.1.nz e5).symm
    · injection hw with hw
      subst hw
      have := e4.1.len
      omega
  · rw [e1, e2]
    exact ⟨rfl, fun w hw => by cases hw⟩
/-- Nothing is put for any variable. -/
theorem sbL_nil {l : Linear} (h : validL l = true) : sbL [] l = (l, 0) := by
  have hl := validL_len h
  unfold sbL
  rw [h, cond_true]
  have key := fun f => sb_loop [] f l.Const l.Terms 0 (l.Const, []) (by omega) (validL_C h) (St0 l h)
  have hgo : ∀ (ts : List Coef) s, ∃ u, loopL (sbG []) (fun s => s) ts s = .brk u := by
    intro ts
    induction ts with
    | nil => exact fun s => ⟨s, rfl⟩
    | cons t ts ih =>
      intro s
      simp only [loopL]
      have e : ∃ u, sbG [] t s = .go u := by
        unfold sbG
        have : decide (idxOf (isB 1 t.Var) [] < 0) = true := by simp [idxOf]
        rw [this]
        exact ⟨_, rfl⟩
      obtain ⟨u, e⟩ := e
      rw [e]; exact ih u
  obtain ⟨u, hu⟩ := hgo l.Terms (l.Const, [])
  rw [hu]
  simp only [outS]
  rw [endSum_raw]
  have hk : ∀ f, u.1 + linM f u.2 = l.Const + linT f l.Terms := fun f => by
    rcases key f with ⟨w, e1, _, e3⟩ | e
    · rw [hu] at e1
      injection e1 with e1
      subst e1
      rw [e3]
      simp only [linM]
      have : linT (sv [] f) l.Terms = linT f l.Terms := linT_congr l.Terms fun t _ => by
        unfold sv
        have : decide (idxOf (isB 1 t.Var) [] < 0) = true := by simp [idxOf]
        rw [this]; rfl
      rw [this]; omega
    · rw [hu] at e; cases e
  have hnd : (u.2.map (·.1)).Nodup := by
    rcases key (fun _ => 0) with ⟨w, e1, e2, _⟩ | e
    · rw [hu] at e1; injection e1 with e1; subst e1; exact e2.1.nd
    · rw [hu] at e; cases e
  rw [raw_same hnd (valid_srt h) (valid_nz h) hk]
  unfold limS
  rw [eta_L, h]; rfl
end Go.Proofs.YtjfpcjnopbfekaaGreatDoor

/- PLAIN LAWS: shapes joined, split and substituted. -/
namespace Go.Proofs.YtjfpcjnopbfekaaGreatDoor
open Go.Ab Go.Sh
/-- A list of dimensions behind another one. -/
def joinS (row : Str) (ds : List Linear) : Shape × Int := bif decide (ds.length ≤ 6) then (Shape.mk row ds, 0) else (Shape.mk [] [], 3)
def catS (a b : Shape) : Shape × Int := bif validS a && validS b then (bif b.Row.isEmpty then joinS a.Row (a.Dims ++ b.Dims) else (Shape.mk [] [], 13)) else (Shape.mk [] [], 1)
theorem validS_iff {s : Shape} : validS s = true ↔ (∀ d ∈ s.Dims, validL d = true) ∧ s.Dims.length ≤ 6 ∧ (s.Row.isEmpty = true ∨ nameS s.Row = true) := by
  simp [validS]
theorem catS_ok {a b : Shape} (h : (catS a b).2 = 0) : validS a = true ∧ validS b = true ∧ b.Row = [] ∧ (a.Dims ++ b.Dims).length ≤ 6 ∧ catS a b = (Shape.mk a.Row (a.Dims ++ b.Dims), 0) ∧ validS (Shape.mk a.Row (a.Dims ++ b.Dims)) = true := by
  unfold catS joinS at h ⊢
  cases h1 : validS a with
  | false => rw [h1] at h; simp at h
  | true =>
    cases h2 : validS b with
    | false => rw [h1, h2] at h; simp at h
    | true =>
      cases h3 : b.Row.isEmpty with
      | false => rw [h1, h2, h3] at h; simp at h
      | true =>
        rw [h1, h2, h3] at h
        simp only [Bool.and_self, cond_true] at h ⊢
        cases h4 : decide ((a.Dims ++ b.Dims).length ≤ 6) with
        | false => rw [h4] at h; simp at h
        | true =>
          have h4' : (a.Dims ++ b.Dims).length ≤ 6 := of_decide_eq_true h4
          refine ⟨trivial, trivial, by simpa using h3, h4', rfl, ?_⟩
          obtain ⟨a1, a2, a3⟩ := validS_iff.1 h1
          obtain ⟨b1, b2, b3⟩ := validS_iff.1 h2
          refine validS_iff.2 ⟨fun d hd => ?_, h4', a3⟩
          rcases List.mem_append.1 hd with hd | hd
          · exact a1 d hd
          · exact b1 d hd
theorem catS_of {a b : Shape} (h1 : validS a = true) (h2 : validS b = true) (h3 : b.Row = []) : catS a b = joinS a.Row (a.Dims ++ b.Dims) := by
  unfold catS
  rw [h1, h2, h3]; rfl
/-! ### substitution -/
theorem rowOf_nil (s : Shape) : rowOf [] s = (s.Row, []) := by
  unfold rowOf
  have : decide (idxOf (isB 2 s.Row) [] ≥ 0) = false := by simp [idxOf]
  rw [this]
  cases s.Row.isEmpty <;> rfl
theorem sub_nil (s : Shape) : sbS [] s = bif validS s then (s, 0) else (Shape.mk [] [], 1) := by
  unfold sbS
  cases hv : validS s with
  | false => rfl
  | true =>
    obtain ⟨a1, a2, a3⟩ := validS_iff.1 hv
    have hb : validBs [] = true := rfl
    rw [hb]
    simp only [cond_true]
    have hm : (s.Dims.map fun d => (sbL [] d).1) = s.Dims := by
      have : (s.Dims.map fun d => (sbL [] d).1) = s.Dims.map id := List.map_congr_left fun d hd => by rw [sbL_nil (a1 d hd)]; rfl
      rw [this, List.map_id]
    rcases sbD_cases [] s with ⟨e, _⟩ | ⟨d, hd, h3, _⟩
    · rw [e, rowOf_nil, hm]
      simp only [sbO, List.nil_append]
      rw [decide_eq_true a2]; rfl
    · rw [sbL_nil (a1 d hd)] at h3; exact absurd rfl h3
theorem sbS_gen {bs : List Bind} {s : Shape} (h : (sbS bs s).2 = 0) : validS s = true ∧ validBs bs = true ∧ (∀ d ∈ s.Dims, (sbL bs d).2 = 0) ∧ ((rowOf bs s).2 ++ s.Dims.map fun d => (sbL bs d).1).length ≤ 6 ∧ sbS bs s = (Shape.mk (rowOf bs s).1 ((rowOf bs s).2 ++ s.Dims.map fun d => (sbL bs d).1), 0) := by
  unfold sbS at h ⊢
  cases hv : validS s with
  | false => rw [hv] at h; simp at h
  | true =>
    cases hb : validBs bs with
    | false => rw [hv, hb] at h; simp at h
    | true =>
      rw [hv, hb] at h
      simp only [cond_true] at h ⊢
      rcases sbD_cases bs s with ⟨e, h2⟩ | ⟨d, _, h3, e⟩
      · rw [e] at h ⊢
        simp only [sbO] at h ⊢
        cases h6 : decide (((rowOf bs s).2 ++ s.Dims.map fun d => (sbL bs d).1).length ≤ 6) with
        | false => rw [h6] at h; simp at h
        | true => exact ⟨trivial, trivial, h2, of_decide_eq_true h6, rfl⟩
      · rw [e] at h; exact absurd h h3
theorem sbS_of {bs : List Bind} {s : Shape} (h1 : validS s = true) (h2 : validBs bs = true) (h3 : ∀ d ∈ s.Dims, (sbL bs d).2 = 0) : sbS bs s = joinS (rowOf bs s).1 ((rowOf bs s).2 ++ s.Dims.map fun d => (sbL bs d).1) := by
  unfold sbS
  rw [h1, h2]
  simp only [cond_true]
  rcases sbD_cases bs s with ⟨e, _⟩ | ⟨d, hd, h4, _⟩
  · rw [e]; rfl
  · exact absurd (h3 d hd) h4
theorem validBs_at {bs : List Bind} (h : validBs bs = true) {j : Nat} (hj : j < bs.length) : validB (bs.getD j bd0) = true := by
  simp only [validBs, List.all_eq_true] at h
  have := h j (by simpa using hj)
  simp only [validBP, Bool.and_eq_true] at this
  exact this.1
theorem rowOf_valid {bs : List Bind} {s : Shape} (hv : validS s = true) (hb : validBs bs = true) : (∀ d ∈ (rowOf bs s).2, validL d = true) ∧ ((rowOf bs s).1.isEmpty = true ∨ nameS (rowOf bs s).1 = true) := by
  unfold rowOf
  cases hr : s.Row.isEmpty with
  | true =>
    simp only [cond_true, cond_false]
    exact ⟨fun d hd => by simp at hd, .inl hr⟩
  | false =>
    simp only [cond_false]
    by_cases h0 : idxOf (isB 2 s.Row) bs ≥ 0
    · rw [decide_eq_true h0]
      simp only [cond_true]
      obtain ⟨h1, h2⟩ := idxOf_pos (isB 2 s.Row) bd0 bs h0
      have h3 := validBs_at hb h1
      generalize bs.getD (idxOf (isB 2 s.Row) bs).toNat bd0 = b at h2 h3
      simp only [isB, Bool.and_eq_true, beq_iff_eq] at h2
      unfold validB at h3
      have k1 : (b.Kind == 1) = false := by rw [h2.1]; rfl
      have k2 : (b.Kind == 2) = true := by rw [h2.1]; rfl
      rw [k1, k2] at h3
      simp only [cond_true, cond_false, Bool.and_eq_true] at h3
      obtain ⟨a1, _, a3⟩ := validS_iff.1 h3.2.1
      exact ⟨a1, a3⟩
    · rw [decide_eq_false h0]
      simp only [cond_false]
      exact ⟨fun d hd => by simp at hd, (validS_iff.1 hv).2.2⟩
theorem sbS_valid {bs : List Bind} {s : Shape} (h : (sbS bs s).2 = 0) : validS (sbS bs s).1 = true := by
  obtain ⟨h1, h2, h3, h4, e⟩ := sbS_gen h
  rw [e]
  obtain ⟨r1, r2⟩ := rowOf_valid h1 h2
  refine validS_iff.2 ⟨fun d hd => ?_, h4, r2⟩
  rcases List.mem_append.1 hd with hd | hd
  · exact r1 d hd
  · obtain ⟨x, hx, rfl⟩ := List.mem_map.1 hd
    exact (sbL_ok (h3 x hx) (fun _ => 0)).2.1
/-- Substituting in what is joined is joining what was substituted in. -/
theorem sub_cat {bs : List Bind} {a b : Shape} (h1 : (sbS bs a).2 = 0) (h2 : (catS a b).2 = 0) (h3 : (sbS bs b).2 = 0) : sbS bs (catS a b).1 = catS (sbS bs a).1 (sbS bs b).1 := by
  obtain ⟨c1, c2, c3, c4, c5, c6⟩ := catS_ok h2
  obtain ⟨a1, a2, a3, a4, a5⟩ := sbS_gen h1
  obtain ⟨b1, b2, b3, b4, b5⟩ := sbS_gen h3
  have va := sbS_valid h1
  have vb := sbS_valid h3
  have rb : rowOf bs b = ([], []) := by
    unfold rowOf; rw [c3]; rfl
  have ra : rowOf bs (Shape.mk a.Row (a.Dims ++ b.Dims)) = rowOf bs a := rfl
  rw [a5] at va ⊢
  rw [b5, rb] at vb ⊢
  rw [c5, catS_of va vb rfl]
  rw [sbS_of c6 a2 fun d hd => by
    rcases List.mem_append.1 hd with hd | hd
    · exact a3 d hd
    · exact b3 d hd, ra]
  simp only [List.map_append, List.append_assoc, List.nil_append]
end Go.Proofs.YtjfpcjnopbfekaaGreatDoor

/- PLAIN LAWS: the statements ShapeSubst and ShapeConcat: what the walked functions are. -/
namespace Go.Proofs.YtjfpcjnopbfekaaGreatDoor
open Go.Ab Go.Sh
theorem bound_out (bs : List Bind) (p : Bind → Bool) : ∀ x : Option Nat, (match x with | some j => ((j : Nat) : Int) | none => -1) = idxOf p bs →
    ((some (match x with | some j => Out.ret ((bs.getD j bd0).Dim, true) | none => Out.brk ()) : Option (Out Unit (Linear × Bool))).bind (Sh.aft fun _ => some ((Linear.mk 0 []), false))) = some (bif decide (idxOf p bs < 0) then ((Linear.mk 0 []), false) else ((bs.getD (idxOf p bs).toNat bd0).Dim, true))
  | none, hx => by rw [← hx]; rfl
  | some j, hx => by
    have hx : ((j : Nat) : Int) = idxOf p bs := hx
    rw [← hx, decide_eq_false (by omega)]; rfl
theorem ref04_bound_eq (bs : List Bind) (v : Str) : ref04_bound bs v = some (bif decide (idxOf (isB 1 v) bs < 0) then ((Linear.mk 0 []), false) else ((bs.getD (idxOf (isB 1 v) bs).toNat bd0).Dim, true)) := by
  unfold ref04_bound
  rw [cnt_find (f := fun j => ((bs.getD j bd0).Dim, true)) (fun j => isB 1 v (bs.getD j bd0)) _ _ () (fun j u _ _ => by
    unfold isB
    cases (bs.getD j bd0).Kind == 1
    · rfl
    · cases (bs.getD j bd0).Var == v <;> rfl)]
  exact bound_out bs (isB 1 v) _ (find_idx0 (isB 1 v) bd0 bs)
theorem ref04_Var_eq (v : Str) : ref04_Var v = some (Linear.mk 0 [Coef.mk v 1]) := by
  unfold ref04_Var; rfl
theorem foldl_plus_len (k : Int) : ∀ (xs ts : List Coef), (xs.foldl (fun ts t => plusT ts t.Var (w64 (k * t.C))) ts).length ≤ ts.length + xs.length
  | [], ts => by simp
  | x :: xs, ts => by
    have h1 := foldl_plus_len k xs (plusT ts x.Var (w64 (k * x.C)))
    have h2 := plusT_len ts x.Var (w64 (k * x.C))
    simp only [List.foldl_cons, List.length_cons]; omega
theorem loop_go {α σ ρ : Type} (g : α → σ → σ) : ∀ (l : List α) (s : σ), loopL (ε := σ) (ρ := ρ) (fun x s => Stp.go (g x s)) (fun s => s) l s = .brk (l.foldl (fun s x => g x s) s)
  | [], s => rfl
  | x :: l, s => by simp only [loopL, List.foldl_cons]; exact loop_go g l (g x s)
theorem foldl_pair {α β γ : Type} (g : β → α → β) (a : γ) : ∀ (l : List α) (b : β), l.foldl (fun (s : γ × β) x => (s.1, g s.2 x)) (a, b) = (a, l.foldl g b)
  | [], b => rfl
  | x :: l, b => by simp only [List.foldl_cons]; exact foldl_pair g a l (g b x)
theorem ref04_Times_eq (l x : Linear) (k : Int) (h1 : l.Terms.length ≤ 1000) (h2 : x.Terms.length ≤ 1000) : ref04_Times l x k = some (Linear.mk (timesL l.Const l.Terms x k).1 (timesL l.Const l.Terms x k).2) := by
  unfold ref04_Times
  rw [grd_pos (by omega)]
  rw [cnt_list0 (fin := fun _ s => (s.1, s.2)) (f := fun s => s) ⟨[], 0⟩ x.Terms (fun t s => Stp.go (s.1, plusT s.2 t.Var (w64 (k * t.C)))) (fun j s => s.2.length ≤ 1000 + j) (fun _ _ => rfl) _ (by simpa using h1) (fun j s hj hI => ⟨by
    rw [plus_eq _ _ _ (by simp only; omega)]; rfl, fun s' e => by
    injection e with e
    subst e
    have := plusT_len s.2 (x.Terms.getD j ⟨[], 0⟩).Var (w64 (k * (x.Terms.getD j ⟨[], 0⟩).C))
    simp only; omega⟩)]
  rw [loop_go (fun (t : Coef) (s : Int × List Coef) => (s.1, plusT s.2 t.Var (w64 (k * t.C)))), foldl_pair (fun ts (t : Coef) => plusT ts t.Var (w64 (k * t.C)))]
  rfl
theorem timesL_len (n : Int) (ts : List Coef) (x : Linear) (k : Int) : (timesL n ts x k).2.length ≤ ts.length + x.Terms.length := foldl_plus_len k x.Terms ts
theorem ref04_Subst_eq (l : Linear) (bs : List Bind) : ref04_Subst l bs = some (sbL bs l) := by
  unfold ref04_Subst
  rw [ref04_Valid_eq]
  simp only [Option.bind_some]
  cases hv : validL l with
  | false => unfold sbL; rw [hv]; rfl
  | true =>
    simp only [cond_true]
    have hl := validL_len hv
    rw [cnt_list0 (fin := fun _ s => (s.1, s.2)) (f := fun s => s) ⟨[], 0⟩ l.Terms (rG bs) (fun j s => s.2.length ≤ 12 * j) (fun _ _ => rfl) (l.Const, []) (by simp) (fun j s hj hI => by
      rw [ref04_bound_eq]
      generalize l.Terms.getD j ⟨[], 0⟩ = t
      have hb : ∀ (o : Option (Stp (Int × List Coef) (Int × List Coef) (Linear × Int))), o = some (rG bs t s) → (o = some (rG bs t s) ∧ ∀ s', rG bs t s = .go s' → s'.2.length ≤ 12 * (j + 1)) := fun o ho => ⟨ho, fun s' e => by
        unfold rG at e
        cases hw : validL (bdR bs t.Var) with
        | false => rw [hw] at e; cases e
        | true =>
          rw [hw, cond_true] at e
          injection e with e
          subst e
          have := timesL_len s.1 s.2 (bdR bs t.Var) t.C
          have := validL_len hw
          omega⟩
      refine hb _ ?_
      have hlen : ∀ D : Linear, validL D = true → ref04_Times (Linear.mk s.1 s.2) D t.C = some (Linear.mk (timesL s.1 s.2 D t.C).1 (timesL s.1 s.2 D t.C).2) := fun D hD => by
        have := validL_len hD
        exact ref04_Times_eq _ D t.C (by simp only; omega) (by omega)
      simp only [Option.bind_some, rG, bdR]
      cases h0 : decide (idxOf (isB 1 t.Var) bs < 0) with
      | true =>
        simp only [cond_true, cond_false]
        rw [ref04_Var_eq]
        simp only [Option.bind_some]
        rw [ref04_Valid_eq]
        simp only [Option.bind_some]
        cases hw : validL (Linear.mk 0 [Coef.mk t.Var 1]) with
        | false => rfl
        | true => simp only [cond_true]; rw [hlen _ hw]; rfl
      | false =>
        simp only [cond_true, cond_false, Option.bind_some]
        generalize (bs.getD (idxOf (isB 1 t.Var) bs).toNat bd0).Dim = D at *
        rw [eta_L, ref04_Valid_eq]
        simp only [Option.bind_some]
        cases hw : validL D with
        | false => rfl
        | true => simp only [cond_true]; rw [hlen _ hw]; rfl)]
    obtain ⟨h1, h2⟩ := ref_sub bs l hv
    rw [← h1]
    generalize loopL (rG bs) (fun s => s) l.Terms (l.Const, []) = o
    cases o with
    | ret r => rfl
    | brk u =>
      simp only [Option.bind_some, Sh.aft, outT]
      rw [limited_eq]; rfl
/-! ### shapes -/
theorem ref11_join_eq (row : Str) (a b : List Linear) (ha : a.length ≤ 1000000) (hb : b.length ≤ 1000000) : ref11_join row a b = some (joinS row (a ++ b)) := by
  unfold ref11_join joinS
  rw [w64_id (by unfold I64; omega)]
  by_cases h : (a ++ b).length ≤ 6
  · rw [decide_eq_true h]
    simp only [List.length_append] at h
    rw [decide_eq_false (by omega)]
    simp only [cond_false, cond_true]
    rw [grd_pos (by omega), grd_pos (by omega)]
  · rw [decide_eq_false h]
    simp only [List.length_append] at h
    rw [decide_eq_true (by omega)]; rfl
theorem ref11_Subst_eq (s : Shape) (bs : List Bind) (hb : ∀ b ∈ bs, b.Row.Dims.length ≤ 8) : ref11_Subst s bs = some (sbS bs s) := by
  unfold ref11_Subst
  rw [ref11_Valid_eq, ref11_ValidBinds_eq]
  simp only [Option.bind_some]
  unfold sbS
  cases hv : validS s with
  | false => rfl
  | true =>
    cases hvb : validBs bs with
    | false => rfl
    | true =>
      simp only [cond_true]
      have hd6 := (validS_dims hv).1
      rw [cnt_list0 (fin := fun _ s => s) (f := fun s => s) ⟨0, []⟩ s.Dims (fun x acc => bif (sbL bs x).2 == 0 then .go (acc ++ [(sbL bs x).1]) else .ret (Shape.mk [] [], (sbL bs x).2)) (fun j acc => acc.length ≤ j) (fun _ _ => rfl) [] (by simp) (fun j acc hj hI => ⟨by
        rw [eta_L, ref04_Subst_eq]
        simp only [Option.bind_some]
        cases (sbL bs (s.Dims.getD j ⟨0, []⟩)).2 == 0
        · rfl
        · simp only [cond_true]; rw [grd_pos (by omega)], fun s' e => by
        cases hz : (sbL bs (s.Dims.getD j ⟨0, []⟩)).2 == 0
        · rw [hz] at e; cases e
        · rw [hz, cond_true] at e; injection e with e; subst e; simp; omega⟩)]
      have hp := loop_map (ρ := Shape × Int) (fun d => (sbL bs d).2 == 0) (fun d => (sbL bs d).1) (fun d => (Shape.mk [] [], (sbL bs d).2)) s.Dims
      unfold sbD
      have hr8 : (rowOf bs s).2.length ≤ 8 := by
        unfold rowOf
        cases (bif s.Row.isEmpty then false else decide (idxOf (isB 2 s.Row) bs ≥ 0))
        · simp
        · simp only [cond_true]
          rw [List.getD_eq_getElem?_getD]
          cases hx : bs[(idxOf (isB 2 s.Row) bs).toNat]? with
          | none => simp
          | some b => exact hb b (List.mem_of_getElem? hx)
      rcases hp [] with ⟨e1, e2⟩ | ⟨d, d1, d2, d3⟩
      · rcases hp (rowOf bs s).2 with ⟨f1, _⟩ | ⟨d, d1, d2, _⟩
        · rw [e1, f1]
          simp only [Option.bind_some, Sh.aft, List.nil_append, sbO]
          rw [ref11_Find_eq, nil_beq]
          simp only [Option.bind_some]
          have hm : (s.Dims.map fun d => (sbL bs d).1).length ≤ 6 := by simpa using hd6
          unfold rowOf at hr8 ⊢
          cases hre : s.Row.isEmpty with
          | true =>
            simp only [cond_true, cond_false, Option.bind_some]
            rw [ref11_join_eq _ _ _ (by simp) (by omega)]; rfl
          | false =>
            rw [hre] at hr8
            simp only [cond_false, Option.bind_some] at hr8 ⊢
            by_cases h0 : idxOf (isB 2 s.Row) bs ≥ 0
            · rw [decide_eq_true h0] at hr8 ⊢
              rw [decide_eq_false (show ¬ idxOf (isB 2 s.Row) bs < 0 by omega)]
              simp only [cond_true, cond_false] at hr8 ⊢
              rw [grd_pos ⟨h0, idxOf_lt _ bd0 _⟩, ref11_join_eq _ _ _ (Nat.le_trans hr8 (by decide)) (by omega)]; rfl
            · rw [decide_eq_false h0, decide_eq_true (show idxOf (isB 2 s.Row) bs < 0 by omega)]
              simp only [cond_true, cond_false]
              rw [ref11_join_eq _ _ _ (by simp) (by omega)]; rfl
        · have := List.all_eq_true.1 e2 d d1
          rw [this] at d2; cases d2
      · rw [d3]
        rcases hp (rowOf bs s).2 with ⟨_, f2⟩ | ⟨x, x1, x2, x3⟩
        · have := List.all_eq_true.1 f2 d d1
          rw [this] at d2; cases d2
        · rw [x3]
          simp only [Option.bind_some, Sh.aft, sbO, Option.some.injEq]
          have g : ∀ (l acc acc' : List Linear) (r r' : Shape × Int), loopL (σ := List Linear) (ε := List Linear) (fun x acc => bif (sbL bs x).2 == 0 then .go (acc ++ [(sbL bs x).1]) else .ret (Shape.mk [] [], (sbL bs x).2)) (fun s => s) l acc = .ret r → loopL (σ := List Linear) (ε := List Linear) (fun x acc => bif (sbL bs x).2 == 0 then .go (acc ++ [(sbL bs x).1]) else .ret (Shape.mk [] [], (sbL bs x).2)) (fun s => s) l acc' = .ret r' → r = r' := by
            intro l
            induction l with
            | nil => intro acc acc' r r' h; cases h
            | cons y l ih =>
              intro acc acc' r r' h h'
              simp only [loopL] at h h'
              cases hz : (sbL bs y).2 == 0 with
              | true =>
                rw [hz] at h h'
                exact ih _ _ _ _ h h'
              | false =>
                rw [hz] at h h'
                simp only [cond_false] at h h'
                injection h with h
                injection h' with h'
                rw [← h, ← h']
          exact g _ _ _ _ _ d3 x3
theorem lib_ConcatL_eq (a b : List Linear) (ha : a.length ≤ 1000000) (hb : b.length ≤ 1000000) : lib_ConcatL [a, b] = some (a ++ b) := by
  unfold lib_ConcatL
  have e : [a, b].flatten = a ++ b := by simp
  rw [e, grd_pos (by simp only [List.length_append, List.length_cons, List.length_nil]; omega)]
theorem shape_Concat_eq (a b : Shape) (ha : okS a) (hb : okS b) (la : a.Dims.length ≤ 1000) (lb : b.Dims.length ≤ 1000) : shape_Concat a b = some (catS a b) := by
  unfold shape_Concat catS
  rw [shape_Valid_eq a ha, shape_Valid_eq b hb, nil_beq]
  simp only [Option.bind_some]
  cases validS a with
  | false => rfl
  | true =>
    cases validS b with
    | false => rfl
    | true =>
      cases b.Row.isEmpty with
      | false => rfl
      | true =>
        simp only [cond_true, Bool.and_self]
        rw [lib_ConcatL_eq _ _ (by omega) (by omega)]
        simp only [Option.bind_some]
        rw [shape_made_eq _ _ fun l hl => by
          rcases List.mem_append.1 hl with hl | hl
          · exact ha.2 l hl
          · exact hb.2 l hl]
        rfl
theorem catS_oks (a b : Shape) (ha : okS a) (hb : okS b) : okS (catS a b).1 ∧ (catS a b).1.Dims.length ≤ 1000 := by
  have h0 : okS (Shape.mk [] []) := ⟨by simp, fun l hl => by simp at hl⟩
  unfold catS joinS
  cases validS a && validS b
  · exact ⟨h0, by simp⟩
  · cases b.Row.isEmpty
    · exact ⟨h0, by simp⟩
    · simp only [cond_true]
      cases h : decide ((a.Dims ++ b.Dims).length ≤ 6)
      · exact ⟨h0, by simp⟩
      · have := of_decide_eq_true h
        refine ⟨⟨ha.1, fun l hl => ?_⟩, by simp only [cond_true]; omega⟩
        rcases List.mem_append.1 hl with hl | hl
        · exact ha.2 l hl
        · exact hb.2 l hl
theorem sbS_len (bs : List Bind) (s : Shape) : (sbS bs s).1.Dims.length ≤ 6 := by
  cases h : (sbS bs s).2 == 0 with
  | true =>
    obtain ⟨_, _, _, h4, e⟩ := sbS_gen (by simpa using h)
    rw [e]; exact h4
  | false =>
    unfold sbS at h ⊢
    cases hv : validS s with
    | false => simp
    | true =>
      cases hb : validBs bs with
      | false => simp
      | true =>
        rw [hv, hb] at h
        simp only [cond_true] at h ⊢
        rcases sbD_cases bs s with ⟨e, _⟩ | ⟨d, _, _, e⟩
        · rw [e] at h ⊢
          simp only [sbO] at h ⊢
          cases h6 : decide (((rowOf bs s).2 ++ s.Dims.map fun d => (sbL bs d).1).length ≤ 6) with
          | false => simp
          | true => exact of_decide_eq_true h6
        · rw [e]; simp [sbO]
/-- The statement ShapeSubst. -/
theorem subst_law (x0 x1 : Shape) (x2 : List Bind) : law11_ShapeSubst x0 x1 x2 = some true := by
  unfold law11_ShapeSubst
  rw [law11_awake_true, ref11_Few_eq, ref11_Few_eq, ref11_FewBinds_eq]
  simp only [Option.bind_some, cond_true]
  cases h0 : fewS x0 with
  | false => rfl
  | true =>
    cases h1 : fewS x1 with
    | false => rfl
    | true =>
      cases h2 : fewBs x2 with
      | false => rfl
      | true =>
        simp only [cond_true]
        have k0 := okS_few h0
        have k1 := okS_few h1
        have l0 : x0.Dims.length ≤ 1000 := by
          simp only [fewS, Bool.and_eq_true, decide_eq_true_eq] at h0; omega
        have l1 : x1.Dims.length ≤ 1000 := by
          simp only [fewS, Bool.and_eq_true, decide_eq_true_eq] at h1; omega
        have k2 : ∀ b ∈ x2, okB b ∧ b.Row.Dims.length ≤ 8 := by
          simp only [fewBs, Bool.and_eq_true, List.all_eq_true] at h2
          intro b hb
          refine ⟨okB_few (h2.1 b hb), ?_⟩
          have := h2.1 b hb
          simp only [fewB, fewS, Bool.and_eq_true, decide_eq_true_eq] at this
          omega
        have kc := catS_oks x0 x1 k0 k1
        rw [shape_Subst_eq x0 x2 k0 k2, ref11_Subst_eq x0 x2 fun b hb => (k2 b hb).2, shape_Subst_eq x0 [] k0 (fun b hb => by simp at hb), shape_Concat_eq x0 x1 k0 k1 l0 l1, shape_Subst_eq x1 x2 k1 k2, ref11_Valid_eq]
        simp only [Option.bind_some, beq_self_eq_true, cond_true]
        rw [ref11_Equal_eq]
        simp only [Option.bind_some, decide_true, cond_true]
        have hrest : ∀ (o : Option Bool), ((some (Out.brk ()) : Option (Out Unit Bool)).bind (Sh.aft fun _ => o)) = o := fun o => rfl
        have hlast : (bif (sbS x2 x0).2 == 0 then (bif (catS x0 x1).2 == 0 then (bif (sbS x2 x1).2 == 0 then
            ((shape_Subst (catS x0 x1).1 x2).bind fun y262 => (shape_Concat (sbS x2 x0).1 (sbS x2 x1).1).bind fun y265 => bif (y262.2 == y265.2) then ((ref11_Equal y262.1 y265.1).bind fun y275 => some y275) else some false)
            else some true) else some true) else some true) = some true := by
          cases c1 : (sbS x2 x0).2 == 0 with
          | false => rfl
          | true =>
            cases c2 : (catS x0 x1).2 == 0 with
            | false => rfl
            | true =>
              cases c3 : (sbS x2 x1).2 == 0 with
              | false => rfl
              | true =>
                simp only [cond_true]
                have := sbS_len x2 x0
                have := sbS_len x2 x1
                rw [shape_Subst_eq _ x2 kc.1 k2, shape_Concat_eq _ _ (sbS_ok x2 x0 k0 k2) (sbS_ok x2 x1 k1 k2) (by omega) (by omega), sub_cat (by simpa using c1) (by simpa using c2) (by simpa using c3)]
                simp only [Option.bind_some, beq_self_eq_true, cond_true]
                rw [ref11_Equal_eq]; simp
        rw [sub_nil]
        cases hv : validS x0 with
        | true =>
          simp only [cond_true, beq_self_eq_true]
          rw [ref11_Equal_eq]
          simp only [Option.bind_some, decide_true, cond_true]
          exact hlast
        | false =>
          simp only [cond_false]
          exact hlast
end Go.Proofs.YtjfpcjnopbfekaaGreatDoor
