/- PLAIN LAWS, of no program: loops as searches through lists; numerals. -/
import Derived.Test.YtopejmjihbkieaaGreatDoorAbL
import Derived.Test.YtopejmjihbkieaaGreatDoorAbN
import Derived.Lib.ItoaNum
import Derived.Lib.ItoaMem
import Derived.Lib.AtoiAll
set_option linter.unusedSimpArgs false
set_option linter.unusedVariables false
namespace Go.Sh
open Go.Ab
section
variable {α σ ε ρ : Type}
theorem cnt_all {body : Nat → Unit → Option (Stp Unit ε ρ)} {fin : Nat → Unit → ε} {r : ρ} (p : Nat → Bool) : ∀ (k i : Nat) (u : Unit), (∀ j u, i ≤ j → j < i + k → body j u = some (bif p j then .go () else .ret r)) →
    cnt body fin k i u = some (bif (List.range' i k).all p then .brk (fin (i + k) ()) else .ret r)
  | 0, i, u, h => by simp [cnt]
  | k + 1, i, u, h => by
    simp only [cnt, h i u (Nat.le_refl _) (by omega), List.range'_succ, List.all_cons]
    cases hp : p i with
    | true =>
      simp only [cond_true, Option.bind_some, stp, Bool.true_and]
      rw [cnt_all p k (i + 1) () (fun j u h1 h2 => h j u (by omega) (by omega))]
      rw [show i + 1 + k = i + (k + 1) by omega]
    | false => simp [stp]
theorem cnt_find {body : Nat → Unit → Option (Stp Unit ε ρ)} {fin : Nat → Unit → ε} {f : Nat → ρ} (p : Nat → Bool) : ∀ (k i : Nat) (u : Unit), (∀ j u, i ≤ j → j < i + k → body j u = some (bif p j then .ret (f j) else .go ())) →
    cnt body fin k i u = some (match (List.range' i k).find? p with | some j => .ret (f j) | none => .brk (fin (i + k) ()))
  | 0, i, u, h => by simp [cnt]
  | k + 1, i, u, h => by
    simp only [cnt, h i u (Nat.le_refl _) (by omega), List.range'_succ, List.find?_cons]
    cases hp : p i with
    | false =>
      simp only [cond_false, Option.bind_some, stp]
      rw [cnt_find p k (i + 1) () (fun j u h1 h2 => h j u (by omega) (by omega))]
      rw [show i + 1 + k = i + (k + 1) by omega]
    | true => simp [stp]
/-- A loop that carries a state and goes on to the end. -/
theorem cnt_go {body : Nat → σ → Option (Stp σ ε ρ)} {fin : Nat → σ → ε} (g : Nat → σ → σ) (I : Nat → σ → Prop) : ∀ (k i : Nat) (s : σ), I i s → (∀ j s, i ≤ j → j < i + k → I j s → body j s = some (.go (g j s)) ∧ I (j + 1) (g j s)) →
    ∃ s', cnt body fin k i s = some (.brk (fin (i + k) s')) ∧ s' = (List.range' i k).foldl (fun s j => g j s) s ∧ I (i + k) s'
  | 0, i, s, hI, h => ⟨s, by simp [cnt], by simp, hI⟩
  | k + 1, i, s, hI, h => by
    obtain ⟨h1, h2⟩ := h i s (Nat.le_refl _) (by omega) hI
    obtain ⟨s', e1, e2, e3⟩ := cnt_go g I k (i + 1) (g i s) h2 (fun j s h1 h2 => h j s (by omega) (by omega))
    refine ⟨s', ?_, ?_, by rw [show i + (k + 1) = i + 1 + k by omega]; exact e3⟩
    · simp only [cnt, h1, Option.bind_some, stp]
      rw [e1, show i + 1 + k = i + (k + 1) by omega]
    · rw [e2, List.range'_succ]; rfl
theorem all_getD (q : α → Bool) (d : α) (l : List α) : ∀ (i : Nat), (List.range' i (l.length - i)).all (fun j => q (l.getD j d)) = (l.drop i).all q := by
  intro i
  by_cases h : i < l.length
  · obtain ⟨k, hk⟩ : ∃ k, l.length - i = k + 1 := ⟨l.length - i - 1, by omega⟩
    have ih := all_getD q d l (i + 1)
    rw [hk, List.range'_succ, List.all_cons, List.drop_eq_getElem_cons h, List.all_cons]
    rw [show l.length - (i + 1) = k by omega] at ih
    rw [ih]
    simp [List.getD_eq_getElem?_getD, List.getElem?_eq_getElem h]
  · rw [show l.length - i = 0 by omega, List.drop_eq_nil_of_le (by omega)]; rfl
  termination_by i => l.length - i
theorem all0 (q : α → Bool) (d : α) (l : List α) : (List.range' 0 (l.length - 0)).all (fun j => q (l.getD j d)) = l.all q := by
  have := all_getD q d l 0
  simpa using this
theorem foldl_getD {β : Type} (g : β → α → β) (d : α) (l : List α) : ∀ (i : Nat) (s : β), (List.range' i (l.length - i)).foldl (fun s j => g s (l.getD j d)) s = (l.drop i).foldl g s := by
  intro i s
  by_cases h : i < l.length
  · obtain ⟨k, hk⟩ : ∃ k, l.length - i = k + 1 := ⟨l.length - i - 1, by omega⟩
    have ih := foldl_getD g d l (i + 1) (g s (l.getD i d))
    rw [hk, List.range'_succ, List.foldl_cons, List.drop_eq_getElem_cons h, List.foldl_cons]
    rw [show l.length - (i + 1) = k by omega] at ih
    rw [ih]
    simp [List.getD_eq_getElem?_getD, List.getElem?_eq_getElem h]
  · rw [show l.length - i = 0 by omega, List.drop_eq_nil_of_le (by omega)]; rfl
  termination_by i => l.length - i
/-- The first place at which p holds, or -1. -/
def idxOf (p : α → Bool) : List α → Int
  | [] => -1
  | x :: l => bif p x then 0 else (let r := idxOf p l; bif r == -1 then -1 else r + 1)
theorem idxOf_ge (p : α → Bool) : ∀ l : List α, -1 ≤ idxOf p l
  | [] => by simp [idxOf]
  | x :: l => by
    have := idxOf_ge p l
    simp only [idxOf]
    cases p x
    · cases h : idxOf p l == -1
      · simp; omega
      · simp
    · simp
theorem idxOf_neg (p : α → Bool) : ∀ l : List α, (idxOf p l < 0) ↔ l.any p = false
  | [] => by simp [idxOf]
  | x :: l => by
    have h1 := idxOf_ge p l
    have h2 := idxOf_neg p l
    simp only [idxOf, List.any_cons]
    cases hp : p x
    · cases h : idxOf p l == -1
      · have : idxOf p l ≠ -1 := by simpa using h
        simp only [cond_false, Bool.false_or]
        rw [← h2]; omega
      · have : idxOf p l = -1 := by simpa using h
        simp only [cond_false, cond_true, Bool.false_or]
        rw [← h2]; omega
    · simp
theorem find_idx (p : α → Bool) (d : α) (l : List α) : ∀ (i : Nat), (match (List.range' i (l.length - i)).find? (fun j => p (l.getD j d)) with | some j => ((j : Nat) : Int) | none => -1) = (bif idxOf p (l.drop i) == -1 then -1 else idxOf p (l.drop i) + i) := by
  intro i
  by_cases h : i < l.length
  · obtain ⟨k, hk⟩ : ∃ k, l.length - i = k + 1 := ⟨l.length - i - 1, by omega⟩
    have ih := find_idx p d l (i + 1)
    rw [hk, List.range'_succ, List.find?_cons, List.drop_eq_getElem_cons h]
    rw [show l.length - (i + 1) = k by omega] at ih
    have e : l.getD i d = l[i] := by simp [List.getD_eq_getElem?_getD, List.getElem?_eq_getElem h]
    rw [e]
    simp only [idxOf]
    cases hp : p l[i]
    · simp only [cond_false]
      rw [ih]
      cases hq : idxOf p (l.drop (i + 1)) == -1
      · have h3 : idxOf p (l.drop (i + 1)) ≠ -1 := by simpa using hq
        have h4 := idxOf_ge p (l.drop (i + 1))
        simp only [cond_false]
        have : ((idxOf p (l.drop (i + 1)) + 1) == -1) = false := by simp; omega
        rw [this]; simp only [cond_false]
        omega
      · simp
    · simp
  · rw [show l.length - i = 0 by omega, List.drop_eq_nil_of_le (by omega)]; rfl
  termination_by i => l.length - i
theorem find_idx0 (p : α → Bool) (d : α) (l : List α) : (match (List.range' 0 (l.length - 0)).find? (fun j => p (l.getD j d)) with | some j => ((j : Nat) : Int) | none => -1) = idxOf p l := by
  rw [find_idx p d l 0]
  simp only [List.drop_zero]
  cases h : idxOf p l == -1
  · simp
  · have : idxOf p l = -1 := by simpa using h
    simp [this]
end

/-! ### numerals -/
def isDig (b : UInt8) : Bool := decide (48 ≤ b.toNat) && decide (b.toNat ≤ 57)
def valD (acc : Nat) (l : Str) : Nat := l.foldl (fun a c => a * 10 + (c.toNat - 48)) acc
theorem valD_snoc (acc : Nat) (l : Str) (c : UInt8) : valD acc (l ++ [c]) = valD acc l * 10 + (c.toNat - 48) := by simp [valD]
theorem parse_val : ∀ (l : Str) (acc : Nat), l.all isDig = true → (acc + 1) * 10 ^ l.length ≤ 10 ^ 18 → Lib.parseUint10 acc l = .ok (valD acc l)
  | [], acc, _, _ => rfl
  | c :: l, acc, h, hb => by
    simp only [List.all_cons, Bool.and_eq_true, isDig, decide_eq_true_eq] at h
    obtain ⟨⟨h1, h2⟩, h3⟩ := h
    have hp : 1 ≤ 10 ^ l.length := Nat.one_le_pow _ _ (by decide)
    have hb2 : (acc * 10 + 10) * 10 ^ l.length ≤ 10 ^ 18 := by
      have : (acc + 1) * 10 ^ (l.length + 1) = (acc * 10 + 10) * 10 ^ l.length := by rw [Nat.pow_succ]; rw [show (acc * 10 + 10) = (acc + 1) * 10 by omega, Nat.mul_assoc, Nat.mul_comm 10]
      rw [← this]; simpa using hb
    have hb3 : acc * 10 + 10 ≤ 10 ^ 18 := Nat.le_trans (Nat.le_mul_of_pos_right _ hp) hb2
    have e18 : (10 : Nat) ^ 18 = 1000000000000000000 := by decide
    rw [e18] at hb3
    simp only [Lib.parseUint10]
    rw [if_pos ⟨h1, h2⟩, if_neg (by omega), if_neg (by omega)]
    rw [parse_val l _ (by simpa [isDig] using h3) (Nat.le_trans (Nat.mul_le_mul_right _ (by omega)) hb2)]
    rfl
theorem dig_back {c : UInt8} (h : isDig c = true) : UInt8.ofNat (48 + (c.toNat - 48)) = c := by
  simp only [isDig, Bool.and_eq_true, decide_eq_true_eq] at h
  rw [show 48 + (c.toNat - 48) = c.toNat by omega]
  exact UInt8.ofNat_toNat
theorem snoc_rec {α : Type} {P : List α → Prop} (h0 : P []) (h1 : ∀ l c, P l → P (l ++ [c])) (l : List α) : P l := by
  have : ∀ m : List α, P m.reverse := by
    intro m
    induction m with
    | nil => exact h0
    | cons c m ih => simpa using h1 _ c ih
  simpa using this l.reverse
theorem dec_val (l : Str) : l.all isDig = true → l ≠ [] → l.head? ≠ some 48 → 1 ≤ valD 0 l ∧ Lib.decDigits (valD 0 l) = l := by
  refine snoc_rec (P := fun l => l.all isDig = true → l ≠ [] → l.head? ≠ some 48 → 1 ≤ valD 0 l ∧ Lib.decDigits (valD 0 l) = l) ?_ ?_ l
  · intro _ h; exact absurd rfl h
  · intro l c ih h _ hh
    rw [List.all_append, Bool.and_eq_true] at h
    have hc : isDig c = true := by simpa using h.2
    have hc' := hc
    simp only [isDig, Bool.and_eq_true, decide_eq_true_eq] at hc'
    rw [valD_snoc]
    by_cases hl : l = []
    · subst hl
      have hne : c ≠ 48 := by simpa using hh
      have : c.toNat ≠ 48 := fun e => hne (by rw [← UInt8.toNat_inj]; simpa using e)
      simp only [valD, List.foldl_nil, Nat.zero_mul, Nat.zero_add, List.nil_append]
      refine ⟨by omega, ?_⟩
      rw [Lib.decDigits_one (by omega), dig_back hc]
    · have hh2 : l.head? ≠ some 48 := by
        cases l with
        | nil => exact absurd rfl hl
        | cons x l => simpa using hh
      obtain ⟨i1, i2⟩ := ih h.1 hl hh2
      refine ⟨by omega, ?_⟩
      rw [Lib.decDigits, dif_neg (by omega), show (valD 0 l * 10 + (c.toNat - 48)) / 10 = valD 0 l by omega, i2, show (valD 0 l * 10 + (c.toNat - 48)) % 10 = c.toNat - 48 by omega, dig_back hc]
theorem dec_dig (u : Nat) : (Lib.decDigits u).all isDig = true ∧ (1 ≤ u → (Lib.decDigits u).head? ≠ some 48) ∧ Lib.decDigits u ≠ [] := by
  have key : ∀ i, i < 10 → isDig (UInt8.ofNat (48 + i)) = true := by decide
  have key2 : ∀ i, i < 10 → 1 ≤ i → UInt8.ofNat (48 + i) ≠ 48 := by decide
  by_cases h : u < 10
  · rw [Lib.decDigits_one h]
    exact ⟨by simp only [List.all_cons, List.all_nil, Bool.and_true]; exact key u h, fun h1 => by simpa using key2 u h h1, by simp⟩
  · have ih := dec_dig (u / 10)
    rw [Lib.decDigits, dif_neg h]
    refine ⟨by rw [List.all_append, ih.1]; simp only [List.all_cons, List.all_nil, Bool.and_true, Bool.true_and]; exact key (u % 10) (by omega), fun _ => ?_, by simp⟩
    have := ih.2.1 (by omega)
    cases hd : Lib.decDigits (u / 10) with
    | nil => exact absurd hd ih.2.2
    | cons x l => rw [hd] at this; simpa using this
  termination_by u
  decreasing_by omega
end Go.Sh
