/- Plain laws: what the walked functions compute answers as the statement says. -/
import Derived.Test.YtjfpcjnopbfekaaGreatDoorAbL
import Derived.Test.YtjfpcjnopbfekaaGreatDoorAbN
import Derived.Lib.ItoaNum
import Derived.Lib.ItoaMem
import Derived.Lib.AtoiAll
import Derived.Test.YtjfpcjnopbfekaaGreatDoorWalkcConcat
import Derived.Lib.AtoiAllCases
import Derived.Lib.ItoaLen
import Derived.Lib.SlTrimSet
import Derived.KernelRfl
set_option linter.unusedSimpArgs false
set_option linter.unusedVariables false
/- PLAIN LAWS, of no program: loops as searches through lists; numerals. -/
namespace Go.Sh
open Go.Ab
section
variable {α σ ε ρ : Type}
theorem cnt_all {body : Nat → Unit → Option (Stp Unit ε ρ)} {fin : Nat → Unit → ε} {r : ρ} (p : Nat → Bool) : ∀ (k i : Nat) (u : Unit), (∀ j u, i ≤ j → j < i + k → body j u = some (bif p j then .go () else .ret r)) →
    cnt body fin k i u = some (bif (List.range' i k).all p then .brk (fin (i + k) ()) else .ret r)
  | 0, i, u, h => by simp [cnt]
  | k + 1, i, u, h => by
    simp only [cnt, h i u (Nat.le_refl _) (by omega), List.range'_succ, List.all_cons]
    cases hp : p i with
    | true =>
      simp only [cond_true, Option.bind_some, stp, Bool.true_and]
      rw [cnt_all p k (i + 1) () (fun j u h1 h2 => h j u (by omega) (by omega))]
      rw [show i + 1 + k = i + (k + 1) by omega]
    | false => simp [stp]
theorem cnt_find {body : Nat → Unit → Option (Stp Unit ε ρ)} {fin : Nat → Unit → ε} {f : Nat → ρ} (p : Nat → Bool) : ∀ (k i : Nat) (u : Unit), (∀ j u, i ≤ j → j < i + k → body j u = some (bif p j then .ret (f j) else .go ())) →
    cnt body fin k i u = some (match (List.range' i k).find? p with | some j => .ret (f j) | none => .brk (fin (i + k) ()))
  | 0, i, u, h => by simp [cnt]
  | k + 1, i, u, h => by
    simp only [cnt, h i u (Nat.le_refl _) (by omega), List.range'_succ, List.find?_cons]
    cases hp : p i with
    | false =>
      simp only [cond_false, Option.bind_some, stp]
      rw [cnt_find p k (i + 1) () (fun j u h1 h2 => h j u (by omega) (by omega))]
      rw [show i + 1 + k = i + (k + 1) by omega]
    | true => simp [stp]
/-- A loop that carries a state and goes on to the end. -/
theorem cnt_go {body : Nat → σ → Option (Stp σ ε ρ)} {fin : Nat → σ → ε} (g : Nat → σ → σ) (I : Nat → σ → Prop) : ∀ (k i : Nat) (s : σ), I i s → (∀ j s, i ≤ j → j < i + k → I j s → body j s = some (.go (g j s)) ∧ I (j + 1) (g j s)) →
    ∃ s', cnt body fin k i s = some (.brk (fin (i + k) s')) ∧ s' = (List.range' i k).foldl (fun s j => g j s) s ∧ I (i + k) s'
  | 0, i, s, hI, h => ⟨s, by simp [cnt], by simp, hI⟩
  | k + 1, i, s, hI, h => by
    obtain ⟨h1, h2⟩ := h i s (Nat.le_refl _) (by omega) hI
    obtain ⟨s', e1, e2, e3⟩ := cnt_go g I k (i + 1) (g i s) h2 (fun j s h1 h2 => h j s (by omega) (by omega))
    refine ⟨s', ?_, ?_, by rw [show i + (k + 1) = i + 1 + k by omega]; exact e3⟩
    · simp only [cnt, h1, Option.bind_some, stp]
      rw [e1, show i + 1 + k = i + (k + 1) by omega]
    · rw [e2, List.range'_succ]; rfl
theorem all_getD (q : α → Bool) (d : α) (l : List α) : ∀ (i : Nat), (List.range' i (l.length - i)).all (fun j => q (l.getD j d)) = (l.drop i).all q := by
  intro i
  by_cases h : i < l.length
  · obtain ⟨k, hk⟩ : ∃ k, l.length - i = k + 1 := ⟨l.length - i - 1, by omega⟩
    have ih := all_getD q d l (i + 1)
    rw [hk, List.range'_succ, List.all_cons, List.drop_eq_getElem_cons h, List.all_cons]
    rw [show l.length - (i + 1) = k by omega] at ih
    rw [ih]
    simp [List.getD_eq_getElem?_getD, List.getElem?_eq_getElem h]
  · rw [show l.length - i = 0 by omega, List.drop_eq_nil_of_le (by omega)]; rfl
  termination_by i => l.length - i
theorem all0 (q : α → Bool) (d : α) (l : List α) : (List.range' 0 (l.length - 0)).all (fun j => q (l.getD j d)) = l.all q := by
  have := all_getD q d l 0
  simpa using this
theorem foldl_getD {β : Type} (g : β → α → β) (d : α) (l : List α) : ∀ (i : Nat) (s : β), (List.range' i (l.length - i)).foldl (fun s j => g s (l.getD j d)) s = (l.drop i).foldl g s := by
  intro i s
  by_cases h : i < l.length
  · obtain ⟨k, hk⟩ : ∃ k, l.length - i = k + 1 := ⟨l.length - i - 1, by omega⟩
    have ih := foldl_getD g d l (i + 1) (g s (l.getD i d))
    rw [hk, List.range'_succ, List.foldl_cons, List.drop_eq_getElem_cons h, List.foldl_cons]
    rw [show l.length - (i + 1) = k by omega] at ih
    rw [ih]
    simp [List.getD_eq_getElem?_getD, List.getElem?_eq_getElem h]
  · rw [show l.length - i = 0 by omega, List.drop_eq_nil_of_le (by omega)]; rfl
  termination_by i => l.length - i
/-- The first place at which p holds, or -1. -/
def idxOf (p : α → Bool) : List α → Int
  | [] => -1
  | x :: l => bif p x then 0 else (let r := idxOf p l; bif r == -1 then -1 else r + 1)
theorem idxOf_ge (p : α → Bool) : ∀ l : List α, -1 ≤ idxOf p l
  | [] => by simp [idxOf]
  | x :: l => by
    have := idxOf_ge p l
    simp only [idxOf]
    cases p x
    · cases h : idxOf p l == -1
      · simp; omega
      · simp
    · simp
theorem idxOf_neg (p : α → Bool) : ∀ l : List α, (idxOf p l < 0) ↔ l.any p = false
  | [] => by simp [idxOf]
  | x :: l => by
    have h1 := idxOf_ge p l
    have h2 := idxOf_neg p l
    simp only [idxOf, List.any_cons]
    cases hp : p x
    · cases h : idxOf p l == -1
      · have : idxOf p l ≠ -1 := by simpa using h
        simp only [cond_false, Bool.false_or]
        rw [← h2]; omega
      · have : idxOf p l = -1 := by simpa using h
        simp only [cond_false, cond_true, Bool.false_or]
        rw [← h2]; omega
    · simp
theorem find_idx (p : α → Bool) (d : α) (l : List α) : ∀ (i : Nat), (match (List.range' i (l.length - i)).find? (fun j => p (l.getD j d)) with | some j => ((j : Nat) : Int) | none => -1) = (bif idxOf p (l.drop i) == -1 then -1 else idxOf p (l.drop i) + i) := by
  intro i
  by_cases h : i < l.length
  · obtain ⟨k, hk⟩ : ∃ k, l.length - i = k + 1 := ⟨l.length - i - 1, by omega⟩
    have ih := find_idx p d l (i + 1)
    rw [hk, List.range'_succ, List.find?_cons, List.drop_eq_getElem_cons h]
    rw [show l.length - (i + 1) = k by omega] at ih
    have e : l.getD i d = l[i] := by simp [List.getD_eq_getElem?_getD, List.getElem?_eq_getElem h]
    rw [e]
    simp only [idxOf]
    cases hp : p l[i]
    · simp only [cond_false]
      rw [ih]
      cases hq : idxOf p (l.drop (i + 1)) == -1
      · have h3 : idxOf p (l.drop (i + 1)) ≠ -1 := by simpa using hq
        have h4 := idxOf_ge p (l.drop (i + 1))
        simp only [cond_false]
        have : ((idxOf p (l.drop (i + 1)) + 1) == -1) = false := by simp; omega
        rw [this]; simp only [cond_false]
        omega
      · simp
    · simp
  · rw [show l.length - i = 0 by omega, List.drop_eq_nil_of_le (by omega)]; rfl
  termination_by i => l.length - i
theorem find_idx0 (p : α → Bool) (d : α) (l : List α) : (match (List.range' 0 (l.length - 0)).find? (fun j => p (l.getD j d)) with | some j => ((j : Nat) : Int) | none => -1) = idxOf p l := by
  rw [find_idx p d l 0]
  simp only [List.drop_zero]
  cases h : idxOf p l == -1
  · simp
  · have : idxOf p l = -1 := by simpa using h
    simp [this]
end

/-! ### numerals -/
def isDig (b : UInt8) : Bool := decide (48 ≤ b.toNat) && decide (b.toNat ≤ 57)
def valD (acc : Nat) (l : Str) : Nat := l.foldl (fun a c => a * 10 + (c.toNat - 48)) acc
theorem valD_snoc (acc : Nat) (l : Str) (c : UInt8) : valD acc (l ++ [c]) = valD acc l * 10 + (c.toNat - 48) := by simp [valD]
theorem parse_val : ∀ (l : Str) (acc : Nat), l.all isDig = true → (acc + 1) * 10 ^ l.length ≤ 10 ^ 18 → Lib.parseUint10 acc l = .ok (valD acc l)
  | [], acc, _, _ => rfl
  | c :: l, acc, h, hb => by
    simp only [List.all_cons, Bool.and_eq_true, isDig, decide_eq_true_eq] at h
    obtain ⟨⟨h1, h2⟩, h3⟩ := h
    have hp : 1 ≤ 10 ^ l.length := Nat.one_le_pow _ _ (by decide)
    have hb2 : (acc * 10 + 10) * 10 ^ l.length ≤ 10 ^ 18 := by
      have : (acc + 1) * 10 ^ (l.length + 1) = (acc * 10 + 10) * 10 ^ l.length := by rw [Nat.pow_succ]; rw [show (acc * 10 + 10) = (acc + 1) * 10 by omega, Nat.mul_assoc, Nat.mul_comm 10]
      rw [← this]; simpa using hb
    have hb3 : acc * 10 + 10 ≤ 10 ^ 18 := Nat.le_trans (Nat.le_mul_of_pos_right _ hp) hb2
    have e18 : (10 : Nat) ^ 18 = 1000000000000000000 := by decide
    rw [e18] at hb3
    simp only [Lib.parseUint10]
    rw [if_pos ⟨h1, h2⟩, if_neg (by omega), if_neg (by omega)]
    rw [parse_val l _ (by simpa [isDig] using h3) (Nat.le_trans (Nat.mul_le_mul_right _ (by omega)) hb2)]
    rfl
theorem dig_back {c : UInt8} (h : isDig c = true) : UInt8.ofNat (48 + (c.toNat - 48)) = c := by
  simp only [isDig, Bool.and_eq_true, decide_eq_true_eq] at h
  rw [show 48 + (c.toNat - 48) = c.toNat by omega]
  exact UInt8.ofNat_toNat
theorem snoc_rec {α : Type} {P : List α → Prop} (h0 : P []) (h1 : ∀ l c, P l → P (l ++ [c])) (l : List α) : P l := by
  have : ∀ m : List α, P m.reverse := by
    intro m
    induction m with
    | nil => exact h0
    | cons c m ih => simpa using h1 _ c ih
  simpa using this l.reverse
theorem dec_val (l : Str) : l.all isDig = true → l ≠ [] → l.head? ≠ some 48 → 1 ≤ valD 0 l ∧ Lib.decDigits (valD 0 l) = l := by
  refine snoc_rec (P := fun l => l.all isDig = true → l ≠ [] → l.head? ≠ some 48 → 1 ≤ valD 0 l ∧ Lib.decDigits (valD 0 l) = l) ?_ ?_ l
  · intro _ h; exact absurd rfl h
  · intro l c ih h _ hh
    rw [List.all_append, Bool.and_eq_true] at h
    have hc : isDig c = true := by simpa using h.2
    have hc' := hc
    simp only [isDig, Bool.and_eq_true, decide_eq_true_eq] at hc'
    rw [valD_snoc]
    by_cases hl : l = []
    · subst hl
      have hne : c ≠ 48 := by simpa using hh
      have : c.toNat ≠ 48 := fun e => hne (by rw [← UInt8.toNat_inj]; simpa using e)
      simp only [valD, List.foldl_nil, Nat.zero_mul, Nat.zero_add, List.nil_append]
      refine ⟨by omega, ?_⟩
      rw [Lib.decDigits_one (by omega), dig_back hc]
    · have hh2 : l.head? ≠ some 48 := by
        cases l with
        | nil => exact absurd rfl hl
        | cons x l => simpa using hh
      obtain ⟨i1, i2⟩ := ih h.1 hl hh2
      refine ⟨by omega, ?_⟩
      rw [Lib.decDigits, dif_neg (by omega), show (valD 0 l * 10 + (c.toNat - 48)) / 10 = valD 0 l by omega, i2, show (valD 0 l * 10 + (c.toNat - 48)) % 10 = c.toNat - 48 by omega, dig_back hc]
theorem dec_dig (u : Nat) : (Lib.decDigits u).all isDig = true ∧ (1 ≤ u → (Lib.decDigits u).head? ≠ some 48) ∧ Lib.decDigits u ≠ [] := by
  have key : ∀ i, i < 10 → isDig (UInt8.ofNat (48 + i)) = true := by decide
  have key2 : ∀ i, i < 10 → 1 ≤ i → UInt8.ofNat (48 + i) ≠ 48 := by decide
  by_cases h : u < 10
  · rw [Lib.decDigits_one h]
    exact ⟨by simp only [List.all_cons, List.all_nil, Bool.and_true]; exact key u h, fun h1 => by simpa using key2 u h h1, by simp⟩
  · have ih := dec_dig (u / 10)
    rw [Lib.decDigits, dif_neg h]
    refine ⟨by rw [List.all_append, ih.1]; simp only [List.all_cons, List.all_nil, Bool.and_true, Bool.true_and]; exact key (u % 10) (by omega), fun _ => ?_, by simp⟩
    have := ih.2.1 (by omega)
    cases hd : Lib.decDigits (u / 10) with
    | nil => exact absurd hd ih.2.2
    | cons x l => rw [hd] at this; simpa using this
  termination_by u
  decreasing_by omega
end Go.Sh

/- PLAIN LAWS of layers 4 and 11: names, linear expressions, shapes. -/
namespace Go.Proofs.YtjfpcjnopbfekaaGreatDoor
open Go.Ab Go.Sh
theorem grd_pos {α : Type} {p : Prop} [Decidable p] {x : Option α} (h : p) : grd p x = x := if_pos h
theorem aft_bif {ε β : Type} {b : Bool} {e : ε} {r : β} {f : ε → Option β} : (some (bif b then Out.brk e else Out.ret r : Out ε β)).bind (aft f) = bif b then f e else some r := by cases b <;> rfl
theorem all_congr {p q : Nat → Bool} : ∀ (k i : Nat), (∀ j, i ≤ j → j < i + k → p j = q j) → (List.range' i k).all p = (List.range' i k).all q
  | 0, i, _ => rfl
  | k + 1, i, h => by
    rw [List.range'_succ, List.all_cons, List.all_cons, h i (Nat.le_refl _) (by omega), all_congr k (i + 1) (fun j h1 h2 => h j (by omega) (by omega))]
theorem u8_beq (c k : UInt8) (n : Int) (hk : (k.toNat : Int) = n) : ((c.toNat : Int) == n) = (c == k) := by
  rw [Bool.eq_iff_iff]
  simp only [beq_iff_eq, ← UInt8.toNat_inj]
  omega
def isLet (b : UInt8) : Bool := decide (97 ≤ b.toNat) && decide (b.toNat ≤ 122)
theorem ref04_digit_eq (x : UInt8) : ref04_digit x = some (isDig x) := by
  unfold ref04_digit isDig
  by_cases h : 48 ≤ x.toNat
  · rw [decide_eq_true (show (x.toNat : Int) ≥ 48 by omega), decide_eq_true h]
    simp only [cond_true, Bool.true_and, Option.some.injEq]
    rw [decide_eq_decide]; omega
  · rw [decide_eq_false (show ¬ (x.toNat : Int) ≥ 48 by omega), decide_eq_false h]; rfl
theorem ref04_letter_eq (x : UInt8) : ref04_letter x = some (isLet x) := by
  unfold ref04_letter isLet
  by_cases h : 97 ≤ x.toNat
  · rw [decide_eq_true (show (x.toNat : Int) ≥ 97 by omega), decide_eq_true h]
    simp only [cond_true, Bool.true_and, Option.some.injEq]
    rw [decide_eq_decide]; omega
  · rw [decide_eq_false (show ¬ (x.toNat : Int) ≥ 97 by omega), decide_eq_false h]; rfl
/-- Is it a variable? -/
def nameS : Str → Bool
  | [] => false
  | c :: r => bif c == 95 then (decide (1 ≤ r.length) && (decide (r.length ≤ 9) && (!(r.getD 0 0 == 48) && r.all isDig))) else (decide (r.length ≤ 29) && (isLet c && r.all (fun b => isLet b || isDig b)))
theorem ref04_Name_eq (s : Str) : ref04_Name s = some (nameS s) := by
  cases s with
  | nil => rfl
  | cons c r =>
    unfold ref04_Name
    have e1 : ((((c :: r).length : Nat) : Int) == 0) = false := by simp; omega
    rw [e1]
    simp only [cond_false]
    have e95 : ((((c :: r).getD 0 0).toNat : Int) == 95) = (c == 95) := by rw [List.getD_cons_zero]; exact u8_beq c 95 95 rfl
    by_cases h30 : r.length ≤ 29
    · rw [decide_eq_false (show ¬ (((c :: r).length : Nat) : Int) > 30 by simp; omega)]
      simp only [cond_false]
      rw [grd_pos (by simp), e95]
      simp only [nameS]
      cases hc : c == 95 with
      | true =>
        simp only [cond_true]
        by_cases h1 : 1 ≤ r.length
        · rw [decide_eq_false (show ¬ (((c :: r).length : Nat) : Int) < 2 by simp; omega), decide_eq_true h1]
          simp only [cond_false, Bool.true_and]
          by_cases h9 : r.length ≤ 9
          · rw [decide_eq_false (show ¬ (((c :: r).length : Nat) : Int) > 10 by simp; omega), decide_eq_true h9]
            simp only [cond_false, Bool.true_and]
            rw [grd_pos (by simp; omega)]
            have e48 : ((((c :: r).getD 1 0).toNat : Int) == 48) = (r.getD 0 0 == 48) := by rw [List.getD_cons_succ]; exact u8_beq _ 48 48 rfl
            rw [e48]
            cases hd : r.getD 0 0 == 48 with
            | true => simp
            | false =>
              simp only [cond_false, Bool.not_false, Bool.true_and]
              rw [cnt_all (fun j => isDig ((c :: r).getD j 0)) _ _ () (fun j u _ _ => by rw [ref04_digit_eq]; cases isDig ((c :: r).getD j 0) <;> rfl), aft_bif, all_getD isDig 0 (c :: r) 1]
              simp only [List.drop_succ_cons, List.drop_zero]
              cases r.all isDig <;> rfl
          · rw [decide_eq_true (show (((c :: r).length : Nat) : Int) > 10 by simp; omega), decide_eq_false h9]; simp
        · rw [decide_eq_true (show (((c :: r).length : Nat) : Int) < 2 by simp; omega), decide_eq_false h1]; simp
      | false =>
        simp only [cond_false]
        rw [decide_eq_true h30]
        rw [cnt_all (fun j => isLet ((c :: r).getD j 0) || (!(((j : Nat) : Int) == 0) && isDig ((c :: r).getD j 0))) _ _ () (fun j u _ _ => by
          rw [ref04_letter_eq, ref04_digit_eq]
          cases isLet ((c :: r).getD j 0) <;> cases isDig ((c :: r).getD j 0) <;> cases ((j : Nat) : Int) == 0 <;> rfl), aft_bif]
        have e : (List.range' 0 ((c :: r).length - 0)).all (fun j => isLet ((c :: r).getD j 0) || (!(((j : Nat) : Int) == 0) && isDig ((c :: r).getD j 0))) = (isLet c && r.all (fun b => isLet b || isDig b)) := by
          rw [show (c :: r).length - 0 = r.length + 1 by simp, List.range'_succ, List.all_cons]
          have e0 : (isLet ((c :: r).getD 0 0) || (!(((0 : Nat) : Int) == 0) && isDig ((c :: r).getD 0 0))) = isLet c := by simp
          rw [e0]
          congr 1
          rw [all_congr (q := fun j => (fun b => isLet b || isDig b) ((c :: r).getD j 0)) _ _ (fun j h1 _ => by
            have : (((j : Nat) : Int) == 0) = false := by simp; omega
            simp only [this, Bool.not_false, Bool.true_and])]
          have := all_getD (fun b => isLet b || isDig b) 0 (c :: r) 1
          simpa using this
        rw [e]
        simp only [Bool.true_and]
        cases isLet c && r.all (fun b => isLet b || isDig b) <;> rfl
    · rw [decide_eq_true (show (((c :: r).length : Nat) : Int) > 30 by simp; omega)]
      simp only [cond_true, nameS]
      rw [decide_eq_false h30]
      have : ¬ r.length ≤ 9 := by omega
      rw [decide_eq_false this]
      cases c == 95 <;> simp
theorem strings_HasPrefix1 (s : Str) (c : UInt8) : strings_HasPrefix s [c] = some (match s with | [] => false | x :: _ => x == c) := by
  unfold strings_HasPrefix internal_stringslite_HasPrefix
  cases s with
  | nil => rfl
  | cons x l =>
    rw [decide_eq_true (by simp; omega)]
    simp only [cond_true]
    rw [grd_pos (by simp)]
    simp
theorem atoi_dig {r : Str} (h0 : r ≠ []) (h : r.all isDig = true) (hl : r.length ≤ 9) : Lib.atoiAll r = .ok (valD 0 r : Int) ∧ valD 0 r < 10000000000 := by
  cases r with
  | nil => exact absurd rfl h0
  | cons c r =>
    have hc : isDig c = true := by simp only [List.all_cons, Bool.and_eq_true] at h; exact h.1
    have hc2 := hc
    simp only [isDig, Bool.and_eq_true, decide_eq_true_eq] at hc2
    have hp : (10 : Nat) ^ (c :: r).length ≤ 10 ^ 9 := Nat.pow_le_pow_right (by decide) hl
    have hv := parse_val (c :: r) 0 h (by
      rw [Nat.zero_add, Nat.one_mul]
      exact Nat.le_trans hp (by decide))
    have hb : ∀ (l : Str) (a : Nat), l.all isDig = true → valD a l + 1 ≤ (a + 1) * 10 ^ l.length := by
      intro l
      induction l with
      | nil => intro a _; simp [valD]
      | cons x l ih =>
        intro a hx
        simp only [List.all_cons, Bool.and_eq_true, isDig, decide_eq_true_eq] at hx
        have := ih (a * 10 + (x.toNat - 48)) (by simpa [isDig] using hx.2)
        have e : valD a (x :: l) = valD (a * 10 + (x.toNat - 48)) l := rfl
        rw [e]
        refine Nat.le_trans this ?_
        rw [List.length_cons, Nat.pow_succ, Nat.mul_comm (10 ^ l.length) 10, ← Nat.mul_assoc]
        exact Nat.mul_le_mul_right _ (by omega)
    have hlt := hb (c :: r) 0 h
    rw [Nat.zero_add, Nat.one_mul] at hlt
    have h9 : (10 : Nat) ^ 9 = 1000000000 := by decide
    rw [h9] at hp
    refine ⟨?_, by omega⟩
    rw [Lib.atoiAll_plain c r (by omega) (by omega)]
    have : Lib.parseMag (c :: r) = .ok (valD 0 (c :: r)) := by unfold Lib.parseMag; rw [if_neg (by simp)]; exact hv
    rw [this]
    simp only [Lib.signless]
    rw [if_neg (by omega)]
theorem linear_Name_eq (s : Str) (hs : s.length ≤ 1000000) : linear_Name s = some (nameS s) := by
  unfold linear_Name
  rw [strings_HasPrefix1]
  cases s with
  | nil => rfl
  | cons c r =>
    simp only [Option.bind_some, nameS]
    have hr : r.length ≤ 1000000 := by simp at hs; omega
    cases hc : c == 95 with
    | true =>
      simp only [cond_true]
      rw [grd_pos (by simp)]
      simp only [List.drop_succ_cons, List.drop_zero, lib_Atoi]
      rw [grd_pos (by omega)]
      simp only [Option.bind_some]
      by_cases h9 : r.length ≤ 9
      · by_cases h1 : 1 ≤ r.length
        · rw [decide_eq_true h1, decide_eq_true h9]
          simp only [Bool.true_and]
          have hne : r ≠ [] := by intro e; subst e; simp at h1
          have hhd : (r.getD 0 0 == 48) = decide (r.head? = some 48) := by
            cases r with
            | nil => exact absurd rfl hne
            | cons x l => simp; rw [Bool.eq_iff_iff]; simp
          -- the answer of the program: is it its numeral?
          have key : ∀ v : Int, 0 < v → v ≤ 9223372036854775807 → lib_Itoa v = some (Lib.decDigits v.toNat) ∨ True := fun _ _ _ => .inr trivial
          by_cases hall : r.all isDig = true
          · obtain ⟨a1, a2⟩ := atoi_dig hne hall h9
            simp only [atoiR, a1, cond_true]
            by_cases h48 : r.head? = some 48
            · -- a leading zero: another numeral
              rw [hhd, decide_eq_true h48]
              simp only [Bool.not_true, Bool.false_and]
              by_cases hz : valD 0 r = 0
              · rw [hz]; rfl
              · rw [decide_eq_true (by omega : (valD 0 r : Int) > 0), decide_eq_true (by simp; omega : (((c :: r).length : Nat) : Int) ≤ 10)]
                simp only [cond_true, lib_Itoa]
                have hlen : (Lib.itoa (valD 0 r : Int)).length ≤ 21 := Lib.itoa_length_le _ (by omega) (by omega)
                rw [grd_pos ⟨by omega, by omega, by omega⟩]
                simp only [Option.bind_some, Option.some.injEq]
                rw [Lib.itoa_nonneg, beq_eq_false_iff_ne]
                intro e
                exact (dec_dig (valD 0 r)).2.1 (by omega) (by rw [e]; exact h48)
            · obtain ⟨d1, d2⟩ := dec_val r hall hne h48
              rw [hhd, decide_eq_false h48, hall]
              simp only [Bool.not_false, Bool.true_and]
              rw [decide_eq_true (by omega : (valD 0 r : Int) > 0), decide_eq_true (by simp; omega : (((c :: r).length : Nat) : Int) ≤ 10)]
              simp only [cond_true, lib_Itoa]
              have hlen : (Lib.itoa (valD 0 r : Int)).length ≤ 21 := Lib.itoa_length_le _ (by omega) (by omega)
              rw [grd_pos ⟨by omega, by omega, by omega⟩]
              simp only [Option.bind_some, Option.some.injEq]
              rw [Lib.itoa_nonneg, d2]; simp
          · have hall : r.all isDig = false := by simpa using hall
            rw [hall]
            simp only [Bool.and_false]
            cases ha : Lib.atoiAll r with
            | ok v =>
              simp only [atoiR, ha, cond_true]
              by_cases hv : v > 0
              · rw [decide_eq_true hv, decide_eq_true (by simp; omega : (((c :: r).length : Nat) : Int) ≤ 10)]
                simp only [cond_true, lib_Itoa]
                have hvb : v ≤ 9223372036854775807 := by
                  cases r with
                  | nil => exact absurd rfl hne
                  | cons x l =>
                    unfold Lib.atoiAll at ha
                    simp only at ha
                    split at ha
                    · cases ha
                    · cases ha
                    · split at ha
                      · cases ha
                      · split at ha
                        · cases ha
                        · rename_i h1 h2
                          simp only [Lib.NumEnd.ok.injEq] at ha
                          rw [← ha]
                          split
                          · omega
                          · rename_i h3
                            have := h1
                            simp only [h3, not_false_eq_true, true_and] at this
                            omega
                have hlen : (Lib.itoa v).length ≤ 21 := Lib.itoa_length_le _ (by omega) hvb
                rw [grd_pos ⟨by omega, hvb, by omega⟩]
                simp only [Option.bind_some, Option.some.injEq]
                rw [beq_eq_false_iff_ne]
                intro e
                have : (Lib.itoa v).all isDig = true := by
                  unfold Lib.itoa
                  rw [if_neg (by omega)]; exact (dec_dig _).1
                rw [e, hall] at this; cases this
              · rw [decide_eq_false hv]; rfl
            | range => simp [atoiR, ha]
            | _ => simp [atoiR, ha]
        · have : r = [] := List.eq_nil_of_length_eq_zero (by omega)
          subst this
          rfl
      · rw [decide_eq_false h9, decide_eq_false (by simp; omega : ¬ (((c :: r).length : Nat) : Int) ≤ 10)]
        simp only [cond_false, Bool.false_and, Bool.and_false]
        cases (atoiR r).2 <;> cases decide ((atoiR r).1 > 0) <;> rfl
    | false =>
      simp only [cond_false]
      rw [cnt_all (fun j => isLet ((c :: r).getD j 0) || (!(((j : Nat) : Int) == 0) && isDig ((c :: r).getD j 0))) _ _ () (fun j u _ _ => by
        simp only [isLet, isDig]
        generalize (c :: r).getD j 0 = x
        by_cases h1 : (x.toNat : Int) < 97
        · rw [decide_eq_true h1, decide_eq_false (show ¬ 97 ≤ x.toNat by omega)]
          simp only [cond_true, Bool.false_and, Bool.false_or]
          cases ((j : Nat) : Int) == 0
          · simp only [cond_false, Bool.not_false, Bool.true_and]
            by_cases h2 : (x.toNat : Int) < 48
            · rw [decide_eq_true h2, decide_eq_false (show ¬ 48 ≤ x.toNat by omega)]; rfl
            · rw [decide_eq_false h2, decide_eq_true (show 48 ≤ x.toNat by omega)]
              by_cases h3 : (x.toNat : Int) > 57
              · rw [decide_eq_true h3, decide_eq_false (show ¬ x.toNat ≤ 57 by omega)]; rfl
              · rw [decide_eq_false h3, decide_eq_true (show x.toNat ≤ 57 by omega)]; rfl
          · rfl
        · rw [decide_eq_false h1, decide_eq_true (show 97 ≤ x.toNat by omega)]
          simp only [cond_false, Bool.true_and]
          by_cases h2 : (x.toNat : Int) > 122
          · rw [decide_eq_true h2, decide_eq_false (show ¬ x.toNat ≤ 122 by omega), decide_eq_false (show ¬ x.toNat ≤ 57 by omega), decide_eq_false (show ¬ (x.toNat : Int) < 48 by omega), decide_eq_true (show (x.toNat : Int) > 57 by omega)]
            cases ((j : Nat) : Int) == 0 <;> simp [Sh.aft]
          · rw [decide_eq_false h2, decide_eq_true (show x.toNat ≤ 122 by omega)]; simp [Sh.aft]), aft_bif]
      have e : (List.range' 0 ((c :: r).length - 0)).all (fun j => isLet ((c :: r).getD j 0) || (!(((j : Nat) : Int) == 0) && isDig ((c :: r).getD j 0))) = (isLet c && r.all (fun b => isLet b || isDig b)) := by
        rw [show (c :: r).length - 0 = r.length + 1 by simp, List.range'_succ, List.all_cons]
        have e0 : (isLet ((c :: r).getD 0 0) || (!(((0 : Nat) : Int) == 0) && isDig ((c :: r).getD 0 0))) = isLet c := by simp
        rw [e0]
        congr 1
        rw [all_congr (q := fun j => (fun b => isLet b || isDig b) ((c :: r).getD j 0)) _ _ (fun j h1 _ => by
          have : (((j : Nat) : Int) == 0) = false := by simp; omega
          simp only [this, Bool.not_false, Bool.true_and])]
        have := all_getD (fun b => isLet b || isDig b) 0 (c :: r) 1
        simpa using this
      rw [e]
      have e2 : ((c :: r) == []) = false := rfl
      rw [e2]
      simp only [cond_false]
      by_cases h30 : r.length ≤ 29
      · rw [decide_eq_true h30, decide_eq_true (by simp; omega : (((c :: r).length : Nat) : Int) ≤ 30)]
        cases isLet c && r.all (fun b => isLet b || isDig b) <;> rfl
      · rw [decide_eq_false h30, decide_eq_false (by simp; omega : ¬ (((c :: r).length : Nat) : Int) ≤ 30)]
        cases isLet c && r.all (fun b => isLet b || isDig b) <;> rfl
end Go.Proofs.YtjfpcjnopbfekaaGreatDoor

/- PLAIN LAWS: validity. -/
namespace Go.Proofs.YtjfpcjnopbfekaaGreatDoor
open Go.Ab Go.Sh
def inS (n : Int) : Bool := decide (-1000000 ≤ n) && decide (n ≤ 1000000)
theorem linear_in_eq (n : Int) : linear_in n = some (inS n) := by
  unfold linear_in inS
  by_cases h : n ≥ -1000000
  · rw [decide_eq_true h]; rfl
  · rw [decide_eq_false h]; rfl
theorem ref04_small_eq (n : Int) : ref04_small n = some (inS n) := by
  unfold ref04_small inS
  by_cases h : n ≥ -1000000
  · rw [decide_eq_true h]; rfl
  · rw [decide_eq_false h]; rfl
def tAt (l : Linear) (j : Nat) : Coef := l.Terms.getD j ⟨[], 0⟩
def validP (l : Linear) (j : Nat) : Bool := nameS (tAt l j).Var && (!((tAt l j).C == 0) && (inS (tAt l j).C && (!decide (((j : Nat) : Int) > 0) || Op.bytesLess (tAt l (j - 1)).Var (tAt l j).Var)))
def validL (l : Linear) : Bool := (List.range' 0 (l.Terms.length - 0)).all (validP l) && (inS l.Const && decide (l.Terms.length ≤ 12))
theorem w64_pred {j : Nat} (h : 0 < j) (h2 : j ≤ 9223372036854775807) : w64 (((j : Nat) : Int) - 1) = ((j - 1 : Nat) : Int) := by
  rw [w64_id (by unfold I64; omega)]; omega
theorem getD_le {l : List Coef} {n : Nat} (h : ∀ t ∈ l, t.Var.length ≤ n) (j : Nat) : (l.getD j ⟨[], 0⟩).Var.length ≤ n := by
  rw [List.getD_eq_getElem?_getD]
  cases h1 : l[j]? with
  | none => simp
  | some x => exact h x (List.mem_of_getElem? h1)
theorem linear_Valid_eq (l : Linear) (h1 : l.Terms.length ≤ 1000000) (h2 : ∀ t ∈ l.Terms, t.Var.length ≤ 1000000) : linear_Valid l = some (validL l) := by
  unfold linear_Valid
  rw [cnt_all (validP l) _ _ () (fun j u _ hj => by
    rw [linear_Name_eq _ (getD_le h2 j), linear_in_eq]
    simp only [validP, tAt, Option.bind_some]
    cases nameS (l.Terms.getD j ⟨[], 0⟩).Var
    · rfl
    · cases (l.Terms.getD j ⟨[], 0⟩).C == 0
      · cases inS (l.Terms.getD j ⟨[], 0⟩).C
        · rfl
        · by_cases hp : 0 < j
          · rw [decide_eq_true (show ((j : Nat) : Int) > 0 by omega), w64_pred hp (by omega)]
            rw [grd_pos (by omega)]
            simp only [Int.toNat_natCast, cond_true, cond_false, Bool.not_true, Bool.false_or, Bool.true_and, Bool.not_false]
            cases Op.bytesLess (l.Terms.getD (j - 1) ⟨[], 0⟩).Var (l.Terms.getD j ⟨[], 0⟩).Var <;> rfl
          · rw [decide_eq_false (show ¬ ((j : Nat) : Int) > 0 by omega)]; rfl
      · rfl), aft_bif, linear_in_eq]
  unfold validL
  cases (List.range' 0 (l.Terms.length - 0)).all (validP l)
  · rfl
  · cases inS l.Const
    · rfl
    · simp only [cond_true, Option.bind_some, Bool.true_and, Option.some.injEq]
      rw [decide_eq_decide]; omega
theorem ref04_Valid_eq (l : Linear) : ref04_Valid l = some (validL l) := by
  unfold ref04_Valid
  rw [ref04_small_eq]
  unfold validL
  by_cases h12 : l.Terms.length ≤ 12
  · rw [decide_eq_false (show ¬ ((l.Terms.length : Nat) : Int) > 12 by omega), decide_eq_true h12]
    rw [cnt_all (validP l) _ _ () (fun j u _ hj => by
      rw [ref04_Name_eq, ref04_small_eq]
      simp only [validP, tAt, Option.bind_some]
      cases nameS (l.Terms.getD j ⟨[], 0⟩).Var
      · rfl
      · cases (l.Terms.getD j ⟨[], 0⟩).C == 0
        · cases inS (l.Terms.getD j ⟨[], 0⟩).C
          · rfl
          · by_cases hp : 0 < j
            · rw [decide_eq_true (show ((j : Nat) : Int) > 0 by omega), w64_pred hp (by omega)]
              rw [grd_pos (by omega)]
              simp only [Int.toNat_natCast, cond_true, cond_false, Bool.not_true, Bool.false_or, Bool.true_and, Bool.not_false]
              cases Op.bytesLess (l.Terms.getD (j - 1) ⟨[], 0⟩).Var (l.Terms.getD j ⟨[], 0⟩).Var <;> rfl
            · rw [decide_eq_false (show ¬ ((j : Nat) : Int) > 0 by omega)]; rfl
        · rfl), aft_bif]
    cases (List.range' 0 (l.Terms.length - 0)).all (validP l) <;> cases inS l.Const <;> rfl
  · rw [decide_eq_true (show ((l.Terms.length : Nat) : Int) > 12 by omega), decide_eq_false h12]
    cases (List.range' 0 (l.Terms.length - 0)).all (validP l) <;> cases inS l.Const <;> rfl

/-! ### what is small -/
def fewT (l : Linear) : Bool := l.Terms.all (fun t => decide (t.Var.length ≤ 35)) && decide (l.Terms.length ≤ 14)
theorem dec_gt {a b : Nat} : decide (((a : Nat) : Int) > (b : Int)) = !decide (a ≤ b) := by
  by_cases h : a ≤ b
  · rw [decide_eq_true h, decide_eq_false (by omega)]; rfl
  · rw [decide_eq_false h, decide_eq_true (by omega)]; rfl
theorem dec_le {a b : Nat} : decide (((a : Nat) : Int) ≤ (b : Int)) = decide (a ≤ b) := by rw [decide_eq_decide]; omega
theorem ref11_fewLinear_eq (l : Linear) : ref11_fewLinear l = some (fewT l) := by
  unfold ref11_fewLinear
  rw [cnt_all (fun j => (fun (t : Coef) => decide (t.Var.length ≤ 35)) (l.Terms.getD j ⟨[], 0⟩)) _ _ () (fun j u _ _ => by
    rw [show (35 : Int) = ((35 : Nat) : Int) from rfl, dec_gt]
    simp only
    cases decide ((l.Terms.getD j ⟨[], 0⟩).Var.length ≤ 35) <;> rfl), aft_bif, all0 (fun (t : Coef) => decide (t.Var.length ≤ 35))]
  unfold fewT
  rw [show (14 : Int) = ((14 : Nat) : Int) from rfl, dec_le]
  cases l.Terms.all (fun t => decide (t.Var.length ≤ 35)) <;> rfl
def fewS (s : Shape) : Bool := s.Dims.all fewT && (decide (s.Dims.length ≤ 8) && decide (s.Row.length ≤ 35))
theorem eta_L (l : Linear) : Linear.mk l.Const l.Terms = l := rfl
theorem ref11_Few_eq (s : Shape) : ref11_Few s = some (fewS s) := by
  unfold ref11_Few
  rw [cnt_all (fun j => fewT (s.Dims.getD j ⟨0, []⟩)) _ _ () (fun j u _ _ => by
    rw [eta_L, ref11_fewLinear_eq]
    simp only [Option.bind_some]
    cases fewT (s.Dims.getD j ⟨0, []⟩) <;> rfl), aft_bif, all0 fewT]
  unfold fewS
  rw [show (8 : Int) = ((8 : Nat) : Int) from rfl, dec_le, show (35 : Int) = ((35 : Nat) : Int) from rfl, dec_le]
  cases s.Dims.all fewT
  · rfl
  · cases decide (s.Dims.length ≤ 8) <;> rfl
/-! ### shapes -/
def validS (s : Shape) : Bool := s.Dims.all validL && (decide (s.Dims.length ≤ 6) && (s.Row.isEmpty || nameS s.Row))
theorem nil_beq (s : Str) : (s == []) = s.isEmpty := by cases s <;> rfl
theorem ref11_Valid_eq (s : Shape) : ref11_Valid s = some (validS s) := by
  unfold ref11_Valid
  rw [cnt_all (fun j => validL (s.Dims.getD j ⟨0, []⟩)) _ _ () (fun j u _ _ => by
    rw [eta_L, ref04_Valid_eq]
    simp only [Option.bind_some]
    cases validL (s.Dims.getD j ⟨0, []⟩) <;> rfl), aft_bif, all0 validL]
  unfold validS
  rw [show (6 : Int) = ((6 : Nat) : Int) from rfl, dec_le, nil_beq, ref04_Name_eq]
  cases s.Dims.all validL
  · rfl
  · cases decide (s.Dims.length ≤ 6)
    · rfl
    · cases s.Row.isEmpty <;> rfl
/-- What the program's functions ask for: no name too long. -/
def okL (l : Linear) : Prop := l.Terms.length ≤ 1000000 ∧ ∀ t ∈ l.Terms, t.Var.length ≤ 1000000
def okS (s : Shape) : Prop := s.Row.length ≤ 1000000 ∧ ∀ l ∈ s.Dims, okL l
theorem okL_few {l : Linear} (h : fewT l = true) : okL l := by
  simp only [fewT, Bool.and_eq_true, List.all_eq_true, decide_eq_true_eq] at h
  exact ⟨by omega, fun t ht => by have := h.1 t ht; omega⟩
theorem okS_few {s : Shape} (h : fewS s = true) : okS s := by
  simp only [fewS, Bool.and_eq_true, List.all_eq_true, decide_eq_true_eq] at h
  exact ⟨by omega, fun l hl => okL_few (h.1 l hl)⟩
theorem okL_getD {ls : List Linear} (h : ∀ l ∈ ls, okL l) (j : Nat) : okL (ls.getD j ⟨0, []⟩) := by
  rw [List.getD_eq_getElem?_getD]
  cases h1 : ls[j]? with
  | none => exact ⟨by simp, fun t ht => by simp at ht⟩
  | some x => exact h x (List.mem_of_getElem? h1)
theorem contains_bad (ls : List Linear) (h : ∀ l ∈ ls, okL l) : slices_ContainsFunc_api_Linear ls = some (!ls.all validL) := by
  unfold slices_ContainsFunc_api_Linear slices_IndexFunc_api_Linear
  rw [cnt_find (f := fun j => ((j : Nat) : Int)) (fun j => (fun l => !validL l) (ls.getD j ⟨0, []⟩)) _ _ () (fun j u _ _ => by
    rw [eta_L]
    unfold shape_Valid_1
    rw [linear_Valid_eq _ (okL_getD h j).1 (okL_getD h j).2]
    simp only [Option.bind_some]
    cases validL (ls.getD j ⟨0, []⟩) <;> rfl)]
  have hf := find_idx0 (fun l => !validL l) ⟨0, []⟩ ls
  have hn := idxOf_neg (fun l => !validL l) ls
  have e : ls.any (fun l => !validL l) = !ls.all validL := by simp [List.any_eq_not_all_not]
  rw [e] at hn
  generalize (List.range' 0 (ls.length - 0)).find? (fun j => (fun l => !validL l) (ls.getD j ⟨0, []⟩)) = x at hf
  cases x with
  | none =>
    simp only at hf
    have h1 : (!ls.all validL) = false := hn.1 (by omega)
    rw [h1]; rfl
  | some j =>
    simp only at hf
    have h1 : (!ls.all validL) = true := by
      cases hb : !ls.all validL
      · have := hn.2 hb; omega
      · rfl
    rw [h1]
    simp only [Option.bind_some, Sh.aft]
    rw [decide_eq_true (by omega : ((j : Nat) : Int) ≥ 0)]
theorem shape_Valid_eq (s : Shape) (h : okS s) : shape_Valid s = some (validS s) := by
  unfold shape_Valid validS
  rw [nil_beq, contains_bad _ h.2, linear_Name_eq _ h.1, show (6 : Int) = ((6 : Nat) : Int) from rfl, dec_le]
  cases s.Row.isEmpty <;> cases nameS s.Row <;> cases decide (s.Dims.length ≤ 6) <;> cases s.Dims.all validL <;> rfl
end Go.Proofs.YtjfpcjnopbfekaaGreatDoor

/- PLAIN LAWS: equality, element variables, binds. -/
namespace Go.Proofs.YtjfpcjnopbfekaaGreatDoor
open Go.Ab Go.Sh
theorem cnt_three {body : Nat → Unit → Option (Stp Unit Unit Int)} {fin : Nat → Unit → Unit} (m : Nat) (E : Nat → Prop) : ∀ (k i : Nat) (u : Unit), (∀ j u, i ≤ j → j < i + k → (j < m ∧ E j ∧ body j u = some (.go ())) ∨ (j < m ∧ ¬ E j ∧ ∃ x, x ≠ 0 ∧ body j u = some (.ret x)) ∨ (m ≤ j ∧ body j u = some (.brk ()))) →
    (cnt body fin k i u = some (.brk ()) ∧ ∀ j, i ≤ j → j < i + k → j < m → E j) ∨ (∃ x, x ≠ 0 ∧ cnt body fin k i u = some (.ret x) ∧ ∃ j, i ≤ j ∧ j < i + k ∧ j < m ∧ ¬ E j)
  | 0, i, u, h => .inl ⟨rfl, fun j h1 h2 => by omega⟩
  | k + 1, i, u, h => by
    rcases h i u (Nat.le_refl _) (by omega) with ⟨h1, h2, h3⟩ | ⟨h1, h2, x, h3, h4⟩ | ⟨h1, h2⟩
    · rcases cnt_three m E k (i + 1) () (fun j u h1 h2 => h j u (by omega) (by omega)) with ⟨e, ha⟩ | ⟨x, hx, e, j, j1, j2, j3, j4⟩
      · refine .inl ⟨by simp only [cnt, h3, Option.bind_some, stp]; exact e, fun j j1 j2 j3 => ?_⟩
        by_cases hj : j = i
        · subst hj; exact h2
        · exact ha j (by omega) (by omega) j3
      · exact .inr ⟨x, hx, by simp only [cnt, h3, Option.bind_some, stp]; exact e, j, by omega, by omega, j3, j4⟩
    · exact .inr ⟨x, h3, by simp only [cnt, h4, Option.bind_some, stp], i, Nat.le_refl _, by omega, h1, h2⟩
    · exact .inl ⟨by simp only [cnt, h2, Option.bind_some, stp], fun j j1 j2 j3 => by omega⟩
theorem ext_getD {α : Type} (d : α) {x y : List α} (hl : x.length = y.length) (h : ∀ j, j < x.length → x.getD j d = y.getD j d) : x = y := by
  refine List.ext_getElem hl fun j h1 h2 => ?_
  have := h j h1
  simpa [List.getD_eq_getElem?_getD, List.getElem?_eq_getElem h1, List.getElem?_eq_getElem h2] using this
theorem all_eq {α : Type} [DecidableEq α] (d : α) {x y : List α} (hl : x.length = y.length) : (List.range' 0 (x.length - 0)).all (fun j => decide (x.getD j d = y.getD j d)) = decide (x = y) := by
  rw [Bool.eq_iff_iff]
  simp only [List.all_eq_true, decide_eq_true_eq, List.mem_range'_1]
  exact ⟨fun h => ext_getD d hl fun j hj => h j ⟨by omega, by omega⟩, fun h j _ => by rw [h]⟩
theorem len_eq {a b : Nat} : (((a : Nat) : Int) == ((b : Nat) : Int)) = decide (a = b) := by
  rw [Bool.eq_iff_iff]; simp only [beq_iff_eq, decide_eq_true_eq]; omega
theorem coef_beq (x y : Coef) : ((x.Var == y.Var) && ((x.C == y.C) && true)) = decide (x = y) := by
  cases x; cases y
  rw [Bool.eq_iff_iff]; simp
theorem slices_Equal_eq (x y : List Coef) : slices_Equal_api_Coef x y = some (decide (x = y)) := by
  unfold slices_Equal_api_Coef
  rw [len_eq]
  by_cases h : x.length = y.length
  · rw [decide_eq_true h]
    simp only [cond_true]
    rw [cnt_all (fun j => decide (x.getD j ⟨[], 0⟩ = y.getD j ⟨[], 0⟩)) _ _ () (fun j u _ hj => by
      rw [grd_pos (by omega), coef_beq]
      cases decide (x.getD j ⟨[], 0⟩ = y.getD j ⟨[], 0⟩) <;> rfl), aft_bif, all_eq ⟨[], 0⟩ h]
    cases decide (x = y) <;> rfl
  · rw [decide_eq_false h, decide_eq_false (fun e => h (by rw [e]))]; rfl
theorem shape_same_eq (x y : Linear) : shape_same x y = some (decide (x = y)) := by
  unfold shape_same
  rw [slices_Equal_eq]
  cases x with | mk a s => cases y with | mk b t =>
  by_cases h : a = b
  · subst h
    simp
  · have : (a == b) = false := by simpa using h
    simp only
    rw [this, decide_eq_false (p := Linear.mk a s = Linear.mk b t) (fun e => h (by simp only [Linear.mk.injEq] at e; exact e.1))]; rfl
theorem shape_EqualF (x y : List Linear) : slices_EqualFunc_api_Linear x y = some (decide (x = y)) := by
  unfold slices_EqualFunc_api_Linear
  rw [len_eq]
  by_cases h : x.length = y.length
  · rw [decide_eq_true h]
    simp only [cond_true]
    rw [cnt_all (fun j => decide (x.getD j ⟨0, []⟩ = y.getD j ⟨0, []⟩)) _ _ () (fun j u _ hj => by
      rw [grd_pos (by omega), eta_L, eta_L, shape_same_eq]
      simp only [Option.bind_some]
      cases decide (x.getD j ⟨0, []⟩ = y.getD j ⟨0, []⟩) <;> rfl), aft_bif, all_eq ⟨0, []⟩ h]
    cases decide (x = y) <;> rfl
  · rw [decide_eq_false h, decide_eq_false (fun e => h (by rw [e]))]; rfl
theorem shape_Equal_eq (x y : Shape) : shape_Equal x y = some (decide (x = y)) := by
  unfold shape_Equal
  rw [shape_EqualF]
  cases x with | mk a s => cases y with | mk b t =>
  by_cases h : a = b
  · subst h
    simp
  · have : (a == b) = false := by simpa using h
    simp only
    rw [this, decide_eq_false (p := Shape.mk a s = Shape.mk b t) (fun e => h (by simp only [Shape.mk.injEq] at e; exact e.1))]; rfl
theorem ref04_Equal_eq (x y : Linear) : ref04_Equal x y = some (decide (x = y)) := by
  unfold ref04_Equal ref04_Compare
  have key := cnt_three (fin := fun _ _ => ()) (body := fun i147 s146 =>
    bif decide (((i147 : Nat) : Int) < ((y.Terms.length : Nat) : Int)) then (
      ((
        bif (Op.bytesLess ((x.Terms.getD i147 ⟨[], 0⟩).Var) ((y.Terms.getD i147 ⟨[], 0⟩).Var)) then (
          some (.ret (.ret (-1)))
        ) else (
          bif (((x.Terms.getD i147 ⟨[], 0⟩).Var) == ((y.Terms.getD i147 ⟨[], 0⟩).Var)) then (
            bif decide (((x.Terms.getD i147 ⟨[], 0⟩).C) < ((y.Terms.getD i147 ⟨[], 0⟩).C)) then (
              some (.ret (.ret (-1)))
            ) else (
              bif ((((x.Terms.getD i147 ⟨[], 0⟩).Var) == ((y.Terms.getD i147 ⟨[], 0⟩).Var)) && ((((x.Terms.getD i147 ⟨[], 0⟩).C) == ((y.Terms.getD i147 ⟨[], 0⟩).C)) && true)) then (
                some (.brk ())
              ) else (
                some (.ret (.ret 1))
              )
            )
          ) else (
            bif ((((x.Terms.getD i147 ⟨[], 0⟩).Var) == ((y.Terms.getD i147 ⟨[], 0⟩).Var)) && ((((x.Terms.getD i147 ⟨[], 0⟩).C) == ((y.Terms.getD i147 ⟨[], 0⟩).C)) && true)) then (
              some (.brk ())
            ) else (
              some (.ret (.ret 1))
            )
          )
        )
      ) : Option (Out Unit (Stp Unit Unit Int))).bind (Sh.aft fun u274 =>
        some (.go ())
      )
    ) else (
      some (.brk ())
    )) y.Terms.length (fun j => x.Terms.getD j ⟨[], 0⟩ = y.Terms.getD j ⟨[], 0⟩) (x.Terms.length - 0) 0 () (fun j u _ _ => by
      by_cases hj : j < y.Terms.length
      · rw [decide_eq_true (show ((j : Nat) : Int) < ((y.Terms.length : Nat) : Int) by omega), coef_beq]
        generalize x.Terms.getD j ⟨[], 0⟩ = a
        generalize y.Terms.getD j ⟨[], 0⟩ = b
        by_cases hab : a = b
        · subst hab
          refine .inl ⟨hj, rfl, ?_⟩
          have h1 : Op.bytesLess a.Var a.Var = false := by
            have : ∀ l : Str, Op.bytesLess l l = false := by
              intro l
              induction l with
              | nil => rfl
              | cons x l ih => simp [Op.bytesLess, ih]
            exact this _
          rw [h1]
          simp [Sh.aft]
        · refine .inr (.inl ⟨hj, hab, ?_⟩)
          rw [decide_eq_false hab]
          cases Op.bytesLess a.Var b.Var with
          | true => exact ⟨-1, by decide, rfl⟩
          | false =>
            cases hv : a.Var == b.Var with
            | true =>
              cases decide (a.C < b.C) with
              | true => exact ⟨-1, by decide, rfl⟩
              | false => exact ⟨1, by decide, rfl⟩
            | false => exact ⟨1, by decide, rfl⟩
      · rw [decide_eq_false (show ¬ ((j : Nat) : Int) < ((y.Terms.length : Nat) : Int) by omega)]
        exact .inr (.inr ⟨by omega, rfl⟩))
  rcases key with ⟨e, ha⟩ | ⟨r, hr, e, j, _, j2, j3, j4⟩
  · rw [e]
    simp only [Option.bind_some, Sh.aft]
    rw [len_eq]
    cases x with | mk a s => cases y with | mk b t =>
    simp only at ha ⊢
    by_cases hl : s.length = t.length
    · have hst : s = t := ext_getD ⟨[], 0⟩ hl fun j hj => ha j (by omega) (by omega) (by omega)
      subst hst
      rw [decide_eq_false (show ¬ ((s.length : Nat) : Int) < ((s.length : Nat) : Int) by omega), decide_eq_true (rfl : s.length = s.length)]
      simp only [cond_true, cond_false]
      by_cases h1 : a < b
      · rw [decide_eq_true h1]
        have : ¬ a = b := by omega
        simp [this]
      · rw [decide_eq_false h1]
        by_cases h2 : a > b
        · rw [decide_eq_true h2]
          have : ¬ a = b := by omega
          simp [this]
        · rw [decide_eq_false h2]
          have : a = b := by omega
          simp [this]
    · rw [decide_eq_false hl]
      have hne : ¬ (Linear.mk a s = Linear.mk b t) := fun e => hl (by simp at e; rw [e.2])
      rw [decide_eq_false hne]
      by_cases h1 : s.length < t.length
      · rw [decide_eq_true (show ((s.length : Nat) : Int) < ((t.length : Nat) : Int) by omega)]; rfl
      · rw [decide_eq_false (show ¬ ((s.length : Nat) : Int) < ((t.length : Nat) : Int) by omega), decide_eq_true (show ((s.length : Nat) : Int) > ((t.length : Nat) : Int) by omega)]; rfl
  · rw [e]
    simp only [Option.bind_some, Sh.aft]
    have hne : ¬ (x = y) := fun e => j4 (by rw [e])
    rw [decide_eq_false hne]
    simpa using hr
theorem ref11_Equal_eq (x y : Shape) : ref11_Equal x y = some (decide (x = y)) := by
  unfold ref11_Equal
  cases x with | mk a s => cases y with | mk b t =>
  simp only
  rw [len_eq]
  by_cases h : a = b
  · subst h
    simp only [beq_self_eq_true, cond_true]
    by_cases hl : s.length = t.length
    · rw [decide_eq_true hl]
      simp only [cond_true]
      rw [cnt_all (fun j => decide (s.getD j ⟨0, []⟩ = t.getD j ⟨0, []⟩)) _ _ () (fun j u _ hj => by
        rw [grd_pos (by omega), eta_L, eta_L, ref04_Equal_eq]
        simp only [Option.bind_some]
        cases decide (s.getD j ⟨0, []⟩ = t.getD j ⟨0, []⟩) <;> rfl), aft_bif, all_eq ⟨0, []⟩ hl]
      have : decide (Shape.mk a s = Shape.mk a t) = decide (s = t) := by rw [decide_eq_decide]; simp
      rw [this]
      cases decide (s = t) <;> rfl
    · rw [decide_eq_false hl, decide_eq_false (p := Shape.mk a s = Shape.mk a t) (fun e => hl (by simp only [Shape.mk.injEq] at e; rw [e.2]))]; rfl
  · have : (a == b) = false := by simpa using h
    rw [this, decide_eq_false (p := Shape.mk a s = Shape.mk b t) (fun e => h (by simp only [Shape.mk.injEq] at e; exact e.1))]; rfl

/-! ### element variables -/
end Go.Proofs.YtjfpcjnopbfekaaGreatDoor

/- PLAIN LAWS: binds, variables. -/
namespace Go.Proofs.YtjfpcjnopbfekaaGreatDoor
open Go.Ab Go.Sh
/-! ### variables -/
end Go.Proofs.YtjfpcjnopbfekaaGreatDoor

/- PLAIN LAWS: sums, whatever the order of a map's entries; the example of the document. -/
namespace Go.Sh
theorem nodup_le {α : Type} [DecidableEq α] : ∀ (l l' : List α), l.Nodup → (∀ x ∈ l, x ∈ l') → l.length ≤ l'.length
  | [], l', _, _ => by simp
  | a :: l, l', h, hs => by
    rw [List.nodup_cons] at h
    have ha : a ∈ l' := hs a (by simp)
    have ih := nodup_le l (l'.erase a) h.2 (fun x hx => by
      have hne : x ≠ a := fun e => h.1 (e ▸ hx)
      exact (List.mem_erase_of_ne hne).2 (hs x (by simp [hx])))
    rw [List.length_erase_of_mem ha] at ih
    have : 0 < l'.length := List.length_pos_of_mem ha
    simp only [List.length_cons]; omega
theorem mr_go {V σ ε β : Type} {m : List (Str × V)} {body : Str × V → σ → Option (Stp σ ε β)} {K : σ → Prop} {J : β → Prop} (I : List Nat → σ → Prop) (g : σ → Str × V → σ)
    (hstep : ∀ seen s i (h : i < m.length), seen.Nodup → i ∉ seen → (∀ j ∈ seen, j < m.length) → I seen s → body m[i] s = some (.go (g s m[i])) ∧ I (seen ++ [i]) (g s m[i]))
    (hend : ∀ seen s, seen.Nodup → (∀ i, i < m.length → i ∈ seen) → (∀ i ∈ seen, i < m.length) → I seen s → K s) :
    ∀ (n : Nat) (seen : List Nat) (s : σ), seen.Nodup → (∀ i ∈ seen, i < m.length) → n + seen.length = m.length → I seen s → MR m body K J n seen s
  | 0, seen, s, h1, h2, h3, hI => by
    have hall : ∀ i, i < m.length → i ∈ seen := by
      intro i hi
      refine Classical.byContradiction fun hn => ?_
      have := nodup_le (i :: seen) (List.range m.length) (List.nodup_cons.2 ⟨hn, h1⟩) (fun x hx => by
        rcases List.mem_cons.1 hx with rfl | hx
        · simpa using hi
        · simpa using h2 x hx)
      simp at this; omega
    exact ⟨hall, hend seen s h1 hall h2 hI⟩
  | n + 1, seen, s, h1, h2, h3, hI => by
    refine ⟨?_, fun i hi hn => ?_⟩
    · refine Classical.byContradiction fun hn => ?_
      have := nodup_le (List.range m.length) seen List.nodup_range (fun x hx => Classical.byContradiction fun hx2 => hn ⟨x, by simpa using hx, hx2⟩)
      simp at this; omega
    · obtain ⟨e1, e2⟩ := hstep seen s i hi h1 hn h2 hI
      refine ⟨_, e1, ?_⟩
      have hnd : (seen ++ [i]).Nodup := by
        rw [List.nodup_append]
        exact ⟨h1, by simp, fun a ha b hb => by
          have : b = i := by simpa using hb
          subst this; intro e; subst e; exact hn ha⟩
      exact mr_go I g hstep hend n (seen ++ [i]) _ hnd (fun j hj => by
        rcases List.mem_append.1 hj with hj | hj
        · exact h2 j hj
        · have : j = i := by simpa using hj
          subst this; exact hi) (by simp; omega) e2
def leS (x y : Str) : Bool := decide (x ≤ y)
theorem leS_trans (a b c : Str) (h1 : leS a b = true) (h2 : leS b c = true) : leS a c = true := by
  simp only [leS, decide_eq_true_eq] at *; exact List.le_trans h1 h2
theorem leS_total (a b : Str) : (leS a b || leS b a) = true := by
  simp only [leS, Bool.or_eq_true, decide_eq_true_eq]; exact List.le_total a b
theorem leS_anti (a b : Str) (h1 : leS a b = true) (h2 : leS b a = true) : a = b := by
  simp only [leS, decide_eq_true_eq] at *; exact List.le_antisymm h1 h2
theorem sort_sorted (l : List Str) : (Go.Ab.sortS l).Pairwise (fun a b => leS a b = true) := List.pairwise_mergeSort leS_trans leS_total l
theorem sort_perm (l : List Str) : (Go.Ab.sortS l).Perm l := List.mergeSort_perm l _
/-- What is sorted and has the same members is it. -/
theorem sort_eq {l r : List Str} (hs : r.Pairwise (fun a b => leS a b = true)) (hp : r.Perm l) : Go.Ab.sortS l = r :=
  List.Perm.eq_of_pairwise (fun a b _ _ => leS_anti a b) (sort_sorted l) hs ((sort_perm l).trans hp.symm)
theorem sort_congr {l r : List Str} (h : l.Perm r) : Go.Ab.sortS l = Go.Ab.sortS r := sort_eq (sort_sorted r) ((sort_perm r).trans h.symm)
def insS (x : Str) : List Str → List Str
  | [] => [x]
  | y :: l => bif leS x y then x :: y :: l else y :: insS x l
def sortI : List Str → List Str
  | [] => []
  | x :: l => insS x (sortI l)
theorem insS_perm (x : Str) : ∀ l, (insS x l).Perm (x :: l)
  | [] => .refl _
  | y :: l => by
    simp only [insS]
    cases leS x y
    · exact ((insS_perm x l).cons y).trans (.swap _ _ _)
    · exact .refl _
theorem insS_sorted (x : Str) : ∀ {l : List Str}, l.Pairwise (fun a b => leS a b = true) → (insS x l).Pairwise (fun a b => leS a b = true)
  | [], _ => by simp [insS]
  | y :: l, h => by
    rw [List.pairwise_cons] at h
    simp only [insS]
    cases hxy : leS x y
    · simp only [cond_false, List.pairwise_cons]
      have hyx : leS y x = true := by
        have := leS_total x y
        rw [hxy] at this; simpa using this
      refine ⟨fun a ha => ?_, insS_sorted x h.2⟩
      rcases List.mem_cons.1 ((insS_perm x l).mem_iff.1 ha) with rfl | ha
      · exact hyx
      · exact h.1 a ha
    · simp only [cond_true, List.pairwise_cons]
      refine ⟨fun a ha => ?_, h⟩
      rcases List.mem_cons.1 ha with rfl | ha
      · exact hxy
      · exact leS_trans _ _ _ hxy (h.1 a ha)
theorem sortI_perm : ∀ l, (sortI l).Perm l
  | [] => .refl _
  | x :: l => (insS_perm x _).trans ((sortI_perm l).cons x)
theorem sortI_sorted : ∀ l, (sortI l).Pairwise (fun a b => leS a b = true)
  | [] => List.Pairwise.nil
  | x :: l => insS_sorted x (sortI_sorted l)
theorem sortS_eq (l : List Str) : Go.Ab.sortS l = sortI l := sort_eq (sortI_sorted l) (sortI_perm l)
def nodupB : List Str → Bool
  | [] => true
  | x :: l => !(l.any fun y => y == x) && nodupB l
theorem nodupB_eq : ∀ {l : List Str}, nodupB l = true → l.Nodup
  | [], _ => List.nodup_nil
  | x :: l, h => by
    simp only [nodupB, Bool.and_eq_true, Bool.not_eq_true', List.any_eq_false, beq_iff_eq] at h
    exact List.nodup_cons.2 ⟨fun hm => h.1 x hm rfl, nodupB_eq h.2⟩
end Go.Sh
namespace Go.Proofs.YtjfpcjnopbfekaaGreatDoor
open Go.Ab Go.Sh
/-- The names with a coefficient. -/
def namesOf (m : List (Str × Int)) : List Str := (m.filter fun e => !(e.2 == 0)).map (·.1)
def endSum (n : Int) (m : List (Str × Int)) (names : List Str) : Linear × Int :=
  bif validL (Linear.mk n (names.map fun k => Coef.mk k (mget 0 k m))) then (Linear.mk n (names.map fun k => Coef.mk k (mget 0 k m)), 0) else (Linear.mk 0 [], 3)
def goodM (m : List (Str × Int)) : Bool := nodupB (m.map (·.1)) && (decide (m.length ≤ 1000) && m.all fun e => decide (e.1.length ≤ 1000000))
theorem snoc_map (m : List (Str × Int)) (y : List Str) (hy : y.length ≤ 1000000) : (cnt (σ := (List Coef)) (ε := (List Coef)) (ρ := Empty) (fun i117 s116 =>
      grd ((s116.length + 1) * 24 ≤ 140737488355328) <|
      some (.go (s116 ++ [(Coef.mk (y.getD i117 []) (mget 0 (y.getD i117 []) m))]))
    ) (fun i117 s116 => s116) (y.length - 0) 0 []) = some (.brk (y.map fun k => Coef.mk k (mget 0 k m))) := by
  obtain ⟨s', e1, e2, _⟩ := cnt_go (fin := fun _ s => s) (body := fun i117 s116 =>
      grd ((s116.length + 1) * 24 ≤ 140737488355328) <|
      some (.go (s116 ++ [(Coef.mk (y.getD i117 []) (mget 0 (y.getD i117 []) m))]))) (ε := List Coef) (ρ := Empty) (fun j s => s ++ [(fun k => Coef.mk k (mget 0 k m)) (y.getD j [])]) (fun j s => s.length = j) (y.length - 0) 0 [] rfl (fun j s _ hj hI => ⟨by rw [grd_pos (by omega)], by simp [hI]⟩)
  rw [e1, e2]
  have := foldl_getD (fun (s : List Coef) (k : Str) => s ++ [(fun k => Coef.mk k (mget 0 k m)) k]) [] y 0 []
  rw [this]
  have gen : ∀ (ts : List Str) (s : List Coef), ts.foldl (fun s k => s ++ [(fun k => Coef.mk k (mget 0 k m)) k]) s = s ++ ts.map (fun k => Coef.mk k (mget 0 k m)) := by
    intro ts
    induction ts with
    | nil => intro s; simp
    | cons t ts ih => intro s; simp [ih]
  rw [List.drop_zero, gen]; rfl
theorem sum_rest (n : Int) (m : List (Str × Int)) (hm : goodM m = true) (s : List Str) (hp : s.Perm (namesOf m)) :
    ((lib_Sort s).bind fun y97 =>
    (cnt (σ := (List Coef)) (ε := (List Coef)) (ρ := Empty) (fun i117 s116 =>
      grd ((s116.length + 1) * 24 ≤ 140737488355328) <|
      some (.go (s116 ++ [(Coef.mk (y97.getD i117 []) (mget 0 (y97.getD i117 []) m))]))
    ) (fun i117 s116 => s116) (y97.length - 0) 0 []).bind <| aftE fun u148 =>
    (linear_Valid (Linear.mk n u148)).bind fun y151 =>
    bif y151 then (
      some ((Linear.mk n u148), 0)
    ) else (
      some ((Linear.mk 0 []), 3)
    )) = some (endSum n m (sortI (namesOf m))) := by
  simp only [goodM, Bool.and_eq_true, decide_eq_true_eq, List.all_eq_true] at hm
  obtain ⟨_, hl, hk⟩ := hm
  have hlen : (namesOf m).length ≤ m.length := by unfold namesOf; rw [List.length_map]; exact List.length_filter_le _ _
  have hs : s.length ≤ 1000 := by rw [hp.length_eq]; omega
  unfold lib_Sort
  rw [grd_pos (by omega)]
  simp only [Option.bind_some]
  rw [sort_congr hp, sortS_eq]
  have hsi : (sortI (namesOf m)).length ≤ 1000 := by rw [(sortI_perm _).length_eq]; omega
  rw [snoc_map m _ (by omega)]
  simp only [Option.bind_some, aftE]
  rw [linear_Valid_eq _ (by simp; omega) (fun t ht => by
    obtain ⟨k, hk1, rfl⟩ := List.mem_map.1 ht
    have hk2 := (sortI_perm _).mem_iff.1 hk1
    obtain ⟨e, he, rfl⟩ := List.mem_map.1 hk2
    exact hk e (List.mem_filter.1 he).1)]
  simp only [Option.bind_some, endSum]
  cases validL (Linear.mk n ((sortI (namesOf m)).map fun k => Coef.mk k (mget 0 k m))) <;> rfl
theorem sum_loop {β : Type} (m : List (Str × Int)) (hm : goodM m = true) (k : List Str → Option β) (v : β) (hk : ∀ s, s.Perm (namesOf m) → k s = some v) :
    mrngK (σ := (List Str)) (ε := Empty) (β := β) m (fun e164 s94 =>
    bif (e164.2 == 0) then (
      some (.go s94)
    ) else (
      grd ((s94.length + 1) * 16 ≤ 140737488355328) <|
      some (.go (s94 ++ [e164.1]))
    )) [] k = some v := by
  simp only [goodM, Bool.and_eq_true, decide_eq_true_eq, List.all_eq_true] at hm
  obtain ⟨hnd, hl, _⟩ := hm
  have hnd := nodupB_eq hnd
  have hinj : ∀ i j (hi : i < m.length) (hj : j < m.length), m[i].1 = m[j].1 → i = j := by
    intro i j hi hj e
    have h1 : (m.map (·.1))[i]'(by simpa using hi) = (m.map (·.1))[j]'(by simpa using hj) := by simpa using e
    exact (List.getElem_inj hnd).1 h1
  refine mrngK_eq (mr_go (fun seen s => s.Nodup ∧ s.length ≤ seen.length ∧ ∀ x, x ∈ s ↔ ∃ i, i ∈ seen ∧ ∃ h : i < m.length, m[i].1 = x ∧ m[i].2 ≠ 0) (fun s e => bif e.2 == 0 then s else s ++ [e.1]) ?_ ?_ m.length [] [] List.nodup_nil (fun i hi => by simp at hi) (by simp) ⟨List.nodup_nil, by simp, fun x => by simp⟩)
  · rintro seen s i hi hs1 hs2 hs3 ⟨i1, i2, i3⟩
    have hsl : seen.length ≤ m.length := by
      have := nodup_le seen (List.range m.length) hs1 (fun x hx => by simpa using hs3 x hx)
      simpa using this
    cases hz : m[i].2 == 0 with
    | true =>
      have hz' : m[i].2 = 0 := by simpa using hz
      refine ⟨rfl, i1, by simp; omega, fun x => ?_⟩
      simp only [cond_true]
      rw [i3]
      constructor
      · rintro ⟨j, h1, h2⟩; exact ⟨j, by simp [h1], h2⟩
      · rintro ⟨j, h1, h2, h3, h4⟩
        rcases List.mem_append.1 h1 with h1 | h1
        · exact ⟨j, h1, h2, h3, h4⟩
        · have : j = i := by simpa using h1
          subst this; exact absurd hz' h4
    | false =>
      have hz' : m[i].2 ≠ 0 := by simpa using hz
      simp only [cond_false]
      rw [grd_pos (by omega)]
      refine ⟨rfl, ?_, by simp; omega, fun x => ?_⟩
      · rw [List.nodup_append]
        refine ⟨i1, by simp, fun a ha b hb => ?_⟩
        have hb : b = m[i].1 := by simpa using hb
        subst hb
        intro e
        obtain ⟨j, h1, h2, h3, _⟩ := (i3 a).1 ha
        exact hs2 (hinj j i h2 hi (h3.trans e) ▸ h1)
      · rw [List.mem_append, i3]
        constructor
        · rintro (⟨j, h1, h2⟩ | h)
          · exact ⟨j, by simp [h1], h2⟩
          · have h : x = m[i].1 := by simpa using h
            exact ⟨i, by simp, hi, h.symm, hz'⟩
        · rintro ⟨j, h1, h2, h3, h4⟩
          rcases List.mem_append.1 h1 with h1 | h1
          · exact .inl ⟨j, h1, h2, h3, h4⟩
          · have : j = i := by simpa using h1
            subst this; exact .inr (by simp [h3])
  · rintro seen s hs1 hall hlt ⟨i1, i2, i3⟩
    refine hk s ?_
    have hn2 : (namesOf m).Nodup := by
      unfold namesOf
      exact (List.Sublist.map _ List.filter_sublist).nodup hnd
    refine (List.perm_ext_iff_of_nodup i1 hn2).2 fun x => ?_
    rw [i3]
    unfold namesOf
    simp only [List.mem_map, List.mem_filter, Bool.not_eq_true', beq_eq_false_iff_ne]
    constructor
    · rintro ⟨j, _, h2, h3, h4⟩; exact ⟨m[j], ⟨List.getElem_mem h2, h4⟩, h3⟩
    · rintro ⟨e, ⟨h1, h2⟩, h3⟩
      obtain ⟨j, hj, rfl⟩ := List.getElem_of_mem h1
      exact ⟨j, hall j hj, hj, h3, h2⟩
theorem sum_result_eq (n : Int) (m : List (Str × Int)) (hm : goodM m = true) : linear_sum_result n m = some (endSum n m (sortI (namesOf m))) := by
  unfold linear_sum_result
  exact sum_loop m hm _ _ fun s hp => sum_rest n m hm s hp
theorem sum_result_2_eq (s0 : Str) (n : Int) (m : List (Str × Int)) (hm : goodM m = true) : linear_sum_result_2 s0 n m = some (endSum n m (sortI (namesOf m))) := by
  unfold linear_sum_result_2
  exact sum_loop m hm _ _ fun s hp => sum_rest n m hm s hp
end Go.Proofs.YtjfpcjnopbfekaaGreatDoor

/- PLAIN LAWS: the example of the document, computed. -/
namespace Go.Proofs.YtjfpcjnopbfekaaGreatDoor
open Go.Ab Go.Sh
theorem clone_eq (l : List Coef) (h : l.length ≤ 1000000) : slices_Clone_api_Coef l = some l := by
  unfold slices_Clone_api_Coef
  rw [grd_pos (by omega)]
  exact nilc_same fun e => by rw [e]
noncomputable def sumT (n : Int) (m : List (Str × Int)) : Option (Linear × Int) := bif goodM m then some (endSum n m (sortI (namesOf m))) else linear_sum_result n m
noncomputable def sumT2 (s : Str) (n : Int) (m : List (Str × Int)) : Option (Linear × Int) := bif goodM m then some (endSum n m (sortI (namesOf m))) else linear_sum_result_2 s n m
noncomputable def cloneT (l : List Coef) : Option (List Coef) := bif decide (l.length ≤ 1000000) then some l else slices_Clone_api_Coef l
theorem sum_T : linear_sum_result = sumT := by
  funext n m
  unfold sumT
  cases h : goodM m
  · rfl
  · exact sum_result_eq n m h
theorem sum_T2 : linear_sum_result_2 = sumT2 := by
  funext s n m
  unfold sumT2
  cases h : goodM m
  · rfl
  · exact sum_result_2_eq s n m h
theorem clone_T : slices_Clone_api_Coef = cloneT := by
  funext l
  unfold cloneT
  by_cases h : l.length ≤ 1000000
  · rw [decide_eq_true h]; exact clone_eq l h
  · rw [decide_eq_false h]; rfl
noncomputable def linear_SubstT (x0 : Linear) (x1 : (List Bind)) : Option (Linear × Int) :=
  (linear_Valid x0).bind fun y1 =>
  bif y1 then (
    (cnt (σ := (Int × (List (Str × Int)))) (ε := (Int × (List (Str × Int)))) (ρ := (Linear × Int)) (fun i122 s121 =>
      (slices_IndexFunc_api_Bind_2 x1 ((x0.Terms.getD i122 ⟨[], 0⟩).Var) ((x0.Terms.getD i122 ⟨[], 0⟩).C)).bind fun y193 =>
      ((
        bif decide (y193 < 0) then (
          some (.brk (true, s121.1, (mput ((x0.Terms.getD i122 ⟨[], 0⟩).Var) (w64 ((mget 0 ((x0.Terms.getD i122 ⟨[], 0⟩).Var) s121.2) + ((x0.Terms.getD i122 ⟨[], 0⟩).C))) s121.2)))
        ) else (
          grd (0 ≤ y193 ∧ y193 < (x1.length : Int)) <|
          (linear_Valid (Linear.mk (((x1.getD y193.toNat (⟨0, [], ⟨0, []⟩, ⟨[], []⟩, []⟩)).Dim).Const) (((x1.getD y193.toNat (⟨0, [], ⟨0, []⟩, ⟨[], []⟩, []⟩)).Dim).Terms))).bind fun y231 =>
          bif y231 then (
            (linear_sum_add (Linear.mk (((x1.getD y193.toNat (⟨0, [], ⟨0, []⟩, ⟨[], []⟩, []⟩)).Dim).Const) (((x1.getD y193.toNat (⟨0, [], ⟨0, []⟩, ⟨[], []⟩, []⟩)).Dim).Terms)) ((x0.Terms.getD i122 ⟨[], 0⟩).C) s121.1 s121.2).bind fun y238 =>
            some (.brk (false, y238.1, y238.2))
          ) else (
            some (.ret (.ret ((Linear.mk 0 []), 1)))
          )
        )
      ) : Option (Out (Bool × Int × (List (Str × Int))) (Stp (Int × (List (Str × Int))) (Int × (List (Str × Int))) (Linear × Int)))).bind (aft fun u223 =>
        some (.go (u223.2.1, u223.2.2))
      )
    ) (fun i122 s121 => (s121.1, s121.2)) (x0.Terms.length - 0) 0 (x0.Const, [])).bind <| aft fun u255 =>
    (sumT u255.1 u255.2).bind fun y258 =>
    some (y258.1, y258.2)
  ) else (
    some ((Linear.mk 0 []), 1)
  )
theorem linear_Subst_tw : linear_Subst = linear_SubstT := by
  funext x0 x1; unfold linear_Subst linear_SubstT
  simp only [sum_T, sum_T2, clone_T]
noncomputable def shape_clonesT (x0 : (List Linear)) : Option (List Linear) :=
  (cnt (σ := (List Linear)) (ε := (List Linear)) (ρ := Empty) (fun i77 s76 =>
    (cloneT ((x0.getD i77 ⟨0, []⟩).Terms)).bind fun y104 =>
    grd ((s76.length + 1) * 32 ≤ 140737488355328) <|
    some (.go (s76 ++ [(Linear.mk ((x0.getD i77 ⟨0, []⟩).Const) y104)]))
  ) (fun i77 s76 => s76) (x0.length - 0) 0 []).bind <| aftE fun u114 =>
  some u114
theorem shape_clones_tw : shape_clones = shape_clonesT := by
  funext x0; unfold shape_clones shape_clonesT
  simp only [sum_T, sum_T2, clone_T, linear_Subst_tw]
noncomputable def shape_madeT (x0 : Str) (x1 : (List Linear)) : Option (Shape × Int) :=
  bif decide (((x1.length : Nat) : Int) > 6) then (
    some ((Shape.mk [] []), 3)
  ) else (
    (shape_clonesT x1).bind fun y6 =>
    some ((Shape.mk x0 y6), 0)
  )
theorem shape_made_tw : shape_made = shape_madeT := by
  funext x0 x1; unfold shape_made shape_madeT
  simp only [sum_T, sum_T2, clone_T, linear_Subst_tw, shape_clones_tw]
noncomputable def shape_SubstT (x0 : Shape) (x1 : (List Bind)) : Option (Shape × Int) :=
  (shape_Valid x0).bind fun y1 =>
  bif y1 then (
    (shape_ValidBinds x1).bind fun y15 =>
    bif y15 then (
      (shape_find x1 2 x0.Row).bind fun y22 =>
      ((
        bif (x0.Row == []) then (
          some false
        ) else (
          some (decide (y22 ≥ 0))
        )
      ) : Option Bool).bind fun v25 =>
      ((
        bif v25 then (
          grd (0 ≤ y22 ∧ y22 < (x1.length : Int)) <|
          (shape_clonesT (((x1.getD y22.toNat (⟨0, [], ⟨0, []⟩, ⟨[], []⟩, []⟩)).Row).Dims)).bind fun y53 =>
          some ((((x1.getD y22.toNat (⟨0, [], ⟨0, []⟩, ⟨[], []⟩, []⟩)).Row).Row), y53)
        ) else (
          some (x0.Row, [])
        )
      ) : Option (Str × (List Linear))).bind fun v44 =>
      (cnt (σ := (List Linear)) (ε := (List Linear)) (ρ := (Shape × Int)) (fun i91 s90 =>
        (linear_SubstT (Linear.mk ((x0.Dims.getD i91 ⟨0, []⟩).Const) ((x0.Dims.getD i91 ⟨0, []⟩).Terms)) x1).bind fun y122 =>
        bif (y122.2 == 0) then (
          grd ((s90.length + 1) * 32 ≤ 140737488355328) <|
          some (.go (s90 ++ [y122.1]))
        ) else (
          some (.ret ((Shape.mk [] []), y122.2))
        )
      ) (fun i91 s90 => s90) (x0.Dims.length - 0) 0 v44.2).bind <| aft fun u140 =>
      (shape_madeT v44.1 u140).bind fun y143 =>
      some (y143.1, y143.2)
    ) else (
      some ((Shape.mk [] []), 1)
    )
  ) else (
    some ((Shape.mk [] []), 1)
  )
theorem shape_Subst_tw : shape_Subst = shape_SubstT := by
  funext x0 x1; unfold shape_Subst shape_SubstT
  simp only [sum_T, sum_T2, clone_T, linear_Subst_tw, shape_clones_tw, shape_made_tw]
noncomputable def linear_ParseT (x0 : Str) : Option (Linear × Int) :=
  (linear_reader_spaces x0 0 []).bind fun y1 =>
  (linear_reader_sign y1 0 []).bind fun y4 =>
  (whl (σ := (Int × Str × Int × (List (Str × Int)))) (ε := (Linear × Int)) (ρ := (Linear × Int)) (fun s71 =>
    (linear_reader_spaces s71.2.1 s71.2.2.1 s71.2.2.2).bind fun y79 =>
    (linear_reader_item s71.1 y79 s71.2.2.1 s71.2.2.2).bind fun y82 =>
    bif y82.1 then (
      (linear_reader_spaces y82.2.1 y82.2.2.1 y82.2.2.2).bind fun y89 =>
      bif (y89 == []) then (
        (sumT2 y89 y82.2.2.1 y82.2.2.2).bind fun y99 =>
        some (.ret (y99.1, y99.2))
      ) else (
        (linear_reader_sign y89 y82.2.2.1 y82.2.2.2).bind fun y106 =>
        bif y106.1.2 then (
          some (.go (y106.1.1, y106.2, y82.2.2.1, y82.2.2.2))
        ) else (
          some (.ret ((Linear.mk 0 []), 6))
        )
      )
    ) else (
      some (.ret ((Linear.mk 0 []), 6))
    )
  ) 4294967296 (y4.1.1, y4.2, 0, [])).bind <| aft some
theorem linear_Parse_tw : linear_Parse = linear_ParseT := by
  funext x0; unfold linear_Parse linear_ParseT
  simp only [sum_T, sum_T2, clone_T, linear_Subst_tw, shape_clones_tw, shape_made_tw, shape_Subst_tw]
noncomputable def shape_ParseT (x0 : Str) : Option (Shape × Int) :=
  (strings_CutPrefix x0 [91]).bind fun y1 =>
  (strings_CutSuffix y1.1 [93]).bind fun y4 =>
  bif y1.2 then (
    bif y4.2 then (
      (lib_Split y4.1 [44, 32]).bind fun y19 =>
      (cnt (σ := (Str × (List Linear))) (ε := (Str × (List Linear))) (ρ := (Shape × Int)) (fun i241 s240 =>
        (strings_CutSuffix (y19.getD i241 []) [46, 46]).bind fun y395 =>
        ((
          ((
            bif y395.2 then (
              bif (((i241 : Nat) : Int) == 0) then (
                some (.ret (.brk (true, true, y395.1, s240.2)))
              ) else (
                some (.brk true)
              )
            ) else (
              some (.brk false)
            )
          ) : Option (Out Bool (Out (Bool × Bool × Str × (List Linear)) (Stp (Str × (List Linear)) (Str × (List Linear)) (Shape × Int))))).bind (aft fun u483 =>
            (linear_ParseT (y19.getD i241 [])).bind fun y498 =>
            ((
              bif (y498.2 == 0) then (
                some (.brk ())
              ) else (
                bif (y4.1 == []) then (
                  some (.brk ())
                ) else (
                  some (.ret (.ret (.ret ((Shape.mk [] []), 6))))
                )
              )
            ) : Option (Out Unit (Out (Bool × Bool × Str × (List Linear)) (Stp (Str × (List Linear)) (Str × (List Linear)) (Shape × Int))))).bind (aft fun u512 =>
              bif (y4.1 == []) then (
                some (.brk (u483, false, s240.1, s240.2))
              ) else (
                grd ((s240.2.length + 1) * 32 ≤ 140737488355328) <|
                some (.brk (u483, false, s240.1, (s240.2 ++ [y498.1])))
              )
            )
          )
        ) : Option (Out (Bool × Bool × Str × (List Linear)) (Stp (Str × (List Linear)) (Str × (List Linear)) (Shape × Int)))).bind (aft fun u471 =>
          some (.go (u471.2.2.1, u471.2.2.2))
        )
      ) (fun i241 s240 => (s240.1, s240.2)) (y19.length - 0) 0 ([], [])).bind <| aft fun u549 =>
      (shape_Valid (Shape.mk u549.1 u549.2)).bind fun y552 =>
      bif y552 then (
        (shape_text (Shape.mk u549.1 u549.2)).bind fun y566 =>
        bif (y566 == x0) then (
          some ((Shape.mk u549.1 u549.2), 0)
        ) else (
          some ((Shape.mk [] []), 6)
        )
      ) else (
        some ((Shape.mk [] []), 6)
      )
    ) else (
      some ((Shape.mk [] []), 6)
    )
  ) else (
    some ((Shape.mk [] []), 6)
  )
theorem shape_Parse_tw : shape_Parse = shape_ParseT := by
  funext x0; unfold shape_Parse shape_ParseT
  simp only [sum_T, sum_T2, clone_T, linear_Subst_tw, shape_clones_tw, shape_made_tw, shape_Subst_tw, linear_Parse_tw]
noncomputable def law11_awakeT  : Option Bool :=
  (law11_dim 1 [110] 1).bind fun y1 =>
  (law11_dim 0 [] 3).bind fun y4 =>
  (shape_Print (Shape.mk [114] [y1, y4])).bind fun y7 =>
  (law11_dim 1 [109] 0).bind fun y10 =>
  (law11_dim 2 [107] 0).bind fun y13 =>
  (shape_SubstT (Shape.mk [114] [y1, y4]) [(Bind.mk 2 [114] (Linear.mk 0 []) (Shape.mk [] [y10]) []), (Bind.mk 1 [110] y13 (Shape.mk [] []) [])]).bind fun y16 =>
  (shape_Print y16.1).bind fun y19 =>
  (shape_ParseT y19.1).bind fun y22 =>
  (shape_Eval y16.1 [(Value.mk [107] 2), (Value.mk [109] 7)]).bind fun y25 =>
  bif (y7.2 == 0) then (
    bif (y16.2 == 0) then (
      bif (y19.2 == 0) then (
        bif (y22.2 == 0) then (
          bif (y25.2 == 0) then (
            bif (y7.1 == [91, 114, 46, 46, 44, 32, 110, 43, 49, 44, 32, 51, 93]) then (
              bif (y19.1 == [91, 109, 44, 32, 50, 107, 43, 49, 44, 32, 51, 93]) then (
                (shape_Equal y16.1 y22.1).bind fun y259 =>
                bif y259 then (
                  (ref11_SameInts y25.1 [7, 5, 3]).bind fun y276 =>
                  bif y276 then (
                    (shape_Valid (Shape.mk [114] [y1, y4])).bind fun y286 =>
                    some y286
                  ) else (
                    some false
                  )
                ) else (
                  some false
                )
              ) else (
                some false
              )
            ) else (
              some false
            )
          ) else (
            some false
          )
        ) else (
          some false
        )
      ) else (
        some false
      )
    ) else (
      some false
    )
  ) else (
    some false
  )
theorem law11_awake_tw : law11_awake = law11_awakeT := by
  unfold law11_awake law11_awakeT
  simp only [sum_T, sum_T2, clone_T, linear_Subst_tw, shape_clones_tw, shape_made_tw, shape_Subst_tw, linear_Parse_tw, shape_Parse_tw]
theorem law11_awake_true : law11_awake = some true := by
  rw [law11_awake_tw]
  kernel_rfl
end Go.Proofs.YtjfpcjnopbfekaaGreatDoor

/- PLAIN LAWS: values of linear expressions, as a program that substitutes and evaluates has them. -/
namespace Go.Sh
section
variable {α σ ε ρ : Type}
/-- A loop over a list. -/
def loopL (g : α → σ → Stp σ ε ρ) (fin : σ → ε) : List α → σ → Out ε ρ
  | [], s => .brk (fin s)
  | x :: l, s => match g x s with | .go s' => loopL g fin l s' | .brk e => .brk e | .ret r => .ret r
theorem cnt_list {body : Nat → σ → Option (Stp σ ε ρ)} {fin : Nat → σ → ε} {f : σ → ε} (d : α) (l : List α) (g : α → σ → Stp σ ε ρ) (I : Nat → σ → Prop) (hf : ∀ i s, fin i s = f s) :
    ∀ (i : Nat) (s : σ), I i s → (∀ j s, i ≤ j → j < l.length → I j s → body j s = some (g (l.getD j d) s) ∧ ∀ s', g (l.getD j d) s = .go s' → I (j + 1) s') →
    cnt body fin (l.length - i) i s = some (loopL g f (l.drop i) s) := by
  intro i s hI h
  by_cases hi : i < l.length
  · obtain ⟨k, hk⟩ : ∃ k, l.length - i = k + 1 := ⟨l.length - i - 1, by omega⟩
    obtain ⟨h1, h2⟩ := h i s (Nat.le_refl _) hi hI
    have hx : l.getD i d = l[i] := by simp [List.getD_eq_getElem?_getD, List.getElem?_eq_getElem hi]
    rw [hx] at h1 h2
    rw [hk, List.drop_eq_getElem_cons hi]
    simp only [cnt, h1, Option.bind_some, loopL]
    cases hg : g l[i] s with
    | go s' =>
      have ih := cnt_list d l g I hf (i + 1) s' (h2 s' hg) (fun j s h1 h2 => h j s (by omega) h2)
      rw [show l.length - (i + 1) = k by omega] at ih
      exact ih
    | brk e => rfl
    | ret r => rfl
  · rw [show l.length - i = 0 by omega, List.drop_eq_nil_of_le (by omega)]
    simp [cnt, loopL, hf]
  termination_by i => l.length - i
theorem cnt_list0 {body : Nat → σ → Option (Stp σ ε ρ)} {fin : Nat → σ → ε} {f : σ → ε} (d : α) (l : List α) (g : α → σ → Stp σ ε ρ) (I : Nat → σ → Prop) (hf : ∀ i s, fin i s = f s) (s : σ) (hI : I 0 s)
    (h : ∀ j s, j < l.length → I j s → body j s = some (g (l.getD j d) s) ∧ ∀ s', g (l.getD j d) s = .go s' → I (j + 1) s') :
    cnt body fin (l.length - 0) 0 s = some (loopL g f l s) := by
  have := cnt_list d l g I hf 0 s hI (fun j s _ h1 h2 => h j s h1 h2)
  simpa using this
end
end Go.Sh
namespace Go.Proofs.YtjfpcjnopbfekaaGreatDoor
open Go.Ab Go.Sh
/-! ### values -/
/-! ### linear forms -/
end Go.Proofs.YtjfpcjnopbfekaaGreatDoor

/- PLAIN LAWS: sums by name, and substitution, as linear forms. -/
namespace Go.Sh
/-- A map of few names with numbers that are not great. -/
structure Sm (B : Int) (K : Nat) (m : List (Str × Int)) : Prop where
  bd : ∀ x, -B ≤ mget 0 x m ∧ mget 0 x m ≤ B
  len : m.length ≤ K
  nd : (m.map (·.1)).Nodup
  key : ∀ x ∈ m.map (·.1), x.length ≤ 1000000
theorem Sm.nil : Sm 0 0 [] := ⟨fun x => by simp [mget], by simp, by simp, by simp⟩
end Go.Sh
namespace Go.Proofs.YtjfpcjnopbfekaaGreatDoor
open Go.Ab Go.Sh
/-! ### what a sum is -/
/-! ### substitution -/
end Go.Proofs.YtjfpcjnopbfekaaGreatDoor

/- PLAIN LAWS: shapes substituted and evaluated; the statement ShapeValues. -/
namespace Go.Sh
theorem loop_snoc {α ρ : Type} : ∀ (l acc : List α), loopL (ρ := ρ) (fun x acc => Stp.go (acc ++ [x])) (fun s => s) l acc = .brk (acc ++ l)
  | [], acc => by simp [loopL]
  | x :: l, acc => by simp only [loopL]; rw [loop_snoc l]; simp
end Go.Sh
namespace Go.Proofs.YtjfpcjnopbfekaaGreatDoor
open Go.Ab Go.Sh
theorem shape_clones_eq (ls : List Linear) (h : ∀ l ∈ ls, okL l) (hl : ls.length ≤ 1000000) : shape_clones ls = some ls := by
  unfold shape_clones
  rw [cnt_list0 (fin := fun _ s => s) (f := fun s => s) ⟨0, []⟩ ls (fun x acc => Stp.go (acc ++ [x])) (fun j s => s.length = j) (fun _ _ => rfl) [] rfl (fun j s hj hI => ⟨by
    rw [clone_eq _ (okL_getD h j).1]
    simp only [Option.bind_some]
    rw [grd_pos (by omega)], fun s' e => by injection e with e; subst e; simp [hI]⟩)]
  rw [loop_snoc]; simp [aftE]
theorem shape_made_eq (row : Str) (ls : List Linear) (h : ∀ l ∈ ls, okL l) : shape_made row ls = some (bif decide (ls.length ≤ 6) then (Shape.mk row ls, 0) else (Shape.mk [] [], 3)) := by
  unfold shape_made
  by_cases h6 : ls.length ≤ 6
  · rw [decide_eq_true h6, decide_eq_false (by omega), cond_false, shape_clones_eq ls h (by omega)]; rfl
  · rw [decide_eq_false h6, decide_eq_true (by omega)]; rfl
/-! ### evaluating -/
/-! ### the variables of a shape without a row -/
/-! ### the statement -/
end Go.Proofs.YtjfpcjnopbfekaaGreatDoor

/- PLAIN LAWS: texts of linear expressions and of shapes. -/
namespace Go.Sh
end Go.Sh
namespace Go.Proofs.YtjfpcjnopbfekaaGreatDoor
open Go.Ab Go.Sh
/-! ### the text of a linear expression -/
end Go.Proofs.YtjfpcjnopbfekaaGreatDoor

/- PLAIN LAWS: the program's texts, and those of shapes. -/
namespace Go.Proofs.YtjfpcjnopbfekaaGreatDoor
open Go.Ab Go.Sh
/-! ### the text of a shape -/
end Go.Proofs.YtjfpcjnopbfekaaGreatDoor

/- PLAIN LAWS: what the program reads: spaces, signs, names, numbers, items. -/
namespace Go.Sh
/-- Few names, none twice. -/
structure Gm (K : Nat) (m : List (Str × Int)) : Prop where
  len : m.length ≤ K
  nd : (m.map (·.1)).Nodup
  key : ∀ x ∈ m.map (·.1), x.length ≤ 1000000
theorem Gm.nil : Gm 0 [] := ⟨by simp, by simp, by simp⟩
end Go.Sh
namespace Go.Proofs.YtjfpcjnopbfekaaGreatDoor
open Go.Ab Go.Sh
/-! ### reading ends -/
end Go.Proofs.YtjfpcjnopbfekaaGreatDoor

/- PLAIN LAWS: what the program prints, it reads. -/
namespace Go.Sh
end Go.Sh
namespace Go.Proofs.YtjfpcjnopbfekaaGreatDoor
open Go.Ab Go.Sh
/-! ### the loop -/
/-! ### what comes of it -/
end Go.Proofs.YtjfpcjnopbfekaaGreatDoor

/- PLAIN LAWS: what the reference reads: places as what is left of the text. -/
namespace Go.Sh
def Sfx (x s : Str) : Prop := ∃ p, x = p ++ s
def pos (x s : Str) : Int := ((x.length - s.length : Nat) : Int)
theorem Sfx.len {x s : Str} (h : Sfx x s) : s.length ≤ x.length := by obtain ⟨p, rfl⟩ := h; simp
theorem Sfx.drop {x s : Str} (h : Sfx x s) : x.drop (x.length - s.length) = s := by
  obtain ⟨p, rfl⟩ := h
  simp
theorem Sfx.refl (x : Str) : Sfx x x := ⟨[], rfl⟩
theorem Sfx.trans {x s r : Str} (h : Sfx x s) (h2 : Sfx s r) : Sfx x r := by
  obtain ⟨p, rfl⟩ := h
  obtain ⟨q, rfl⟩ := h2
  exact ⟨p ++ q, by simp⟩
theorem Sfx.lt {x s : Str} {c : UInt8} (h : Sfx x (c :: s)) : 0 ≤ pos x (c :: s) ∧ pos x (c :: s) < (x.length : Int) := by
  have := h.len
  unfold pos
  simp at this ⊢; omega
end Go.Sh
namespace Go.Proofs.YtjfpcjnopbfekaaGreatDoor
open Go.Ab Go.Sh
/-! ### runs -/
/-! ### items -/
end Go.Proofs.YtjfpcjnopbfekaaGreatDoor

/- PLAIN LAWS: the reference's sums of terms, and its reading of linear expressions. -/
namespace Go.Proofs.YtjfpcjnopbfekaaGreatDoor
open Go.Ab Go.Sh
def nz (t : Coef) : Bool := !(t.C == 0)
/-! ### reading -/
end Go.Proofs.YtjfpcjnopbfekaaGreatDoor

/- PLAIN LAWS: what is printed, the reference reads. -/
namespace Go.Proofs.YtjfpcjnopbfekaaGreatDoor
open Go.Ab Go.Sh
end Go.Proofs.YtjfpcjnopbfekaaGreatDoor

/- PLAIN LAWS: terms in order of their names; the reference's sums keep them so. -/
namespace Go.Proofs.YtjfpcjnopbfekaaGreatDoor
open Go.Ab Go.Sh
def Srt (ts : List Coef) : Prop := ts.Pairwise (fun a b => Op.bytesLess a.Var b.Var = true)
def Nz (ts : List Coef) : Prop := ∀ t ∈ ts, t.C ≠ 0
/-! ### to put a term where it belongs -/
/-- Few terms in order, none zero, no number great. -/
structure RB (B : Int) (K : Nat) (ts : List Coef) : Prop where
  srt : Srt ts
  nz : Nz ts
  bd : ∀ t ∈ ts, -B ≤ t.C ∧ t.C ≤ B
  len : ts.length ≤ K
theorem RB.nil : RB 0 0 [] := ⟨List.Pairwise.nil, (fun t h => by simp at h), (fun t h => by simp at h), Nat.le_refl _⟩
end Go.Proofs.YtjfpcjnopbfekaaGreatDoor

/- PLAIN LAWS: what a sum by name leaves is what the reference's sum in order leaves; substitution of both. -/
namespace Go.Proofs.YtjfpcjnopbfekaaGreatDoor
open Go.Ab Go.Sh
/-! ### the reference's sums -/
end Go.Proofs.YtjfpcjnopbfekaaGreatDoor

/- PLAIN LAWS: shapes joined, split and substituted. -/
namespace Go.Proofs.YtjfpcjnopbfekaaGreatDoor
open Go.Ab Go.Sh
/-- A list of dimensions behind another one. -/
def joinS (row : Str) (ds : List Linear) : Shape × Int := bif decide (ds.length ≤ 6) then (Shape.mk row ds, 0) else (Shape.mk [] [], 3)
def catS (a b : Shape) : Shape × Int := bif validS a && validS b then (bif b.Row.isEmpty then joinS a.Row (a.Dims ++ b.Dims) else (Shape.mk [] [], 13)) else (Shape.mk [] [], 1)
def splS (s : Shape) (k : Int) : Shape × Shape × Int :=
  bif validS s then (bif decide (k < 0) then (Shape.mk [] [], Shape.mk [] [], 2) else bif decide (k > (s.Dims.length : Int)) then (Shape.mk [] [], Shape.mk [] [], 13) else
    (Shape.mk s.Row (s.Dims.take (s.Dims.length - k.toNat)), Shape.mk [] (s.Dims.drop (s.Dims.length - k.toNat)), 0)) else (Shape.mk [] [], Shape.mk [] [], 1)
theorem validS_iff {s : Shape} : validS s = true ↔ (∀ d ∈ s.Dims, validL d = true) ∧ s.Dims.length ≤ 6 ∧ (s.Row.isEmpty = true ∨ nameS s.Row = true) := by
  simp [validS]
theorem validS_nil : validS (Shape.mk [] []) = true := by decide
theorem catS_ok {a b : Shape} (h : (catS a b).2 = 0) : validS a = true ∧ validS b = true ∧ b.Row = [] ∧ (a.Dims ++ b.Dims).length ≤ 6 ∧ catS a b = (Shape.mk a.Row (a.Dims ++ b.Dims), 0) ∧ validS (Shape.mk a.Row (a.Dims ++ b.Dims)) = true := by
  unfold catS joinS at h ⊢
  cases h1 : validS a with
  | false => rw [h1] at h; simp at h
  | true =>
    cases h2 : validS b with
    | false => rw [h1, h2] at h; simp at h
    | true =>
      cases h3 : b.Row.isEmpty with
      | false => rw [h1, h2, h3] at h; simp at h
      | true =>
        rw [h1, h2, h3] at h
        simp only [Bool.and_self, cond_true] at h ⊢
        cases h4 : decide ((a.Dims ++ b.Dims).length ≤ 6) with
        | false => rw [h4] at h; simp at h
        | true =>
          have h4' : (a.Dims ++ b.Dims).length ≤ 6 := of_decide_eq_true h4
          refine ⟨trivial, trivial, by simpa using h3, h4', rfl, ?_⟩
          obtain ⟨a1, a2, a3⟩ := validS_iff.1 h1
          obtain ⟨b1, b2, b3⟩ := validS_iff.1 h2
          refine validS_iff.2 ⟨fun d hd => ?_, h4', a3⟩
          rcases List.mem_append.1 hd with hd | hd
          · exact a1 d hd
          · exact b1 d hd
theorem catS_of {a b : Shape} (h1 : validS a = true) (h2 : validS b = true) (h3 : b.Row = []) : catS a b = joinS a.Row (a.Dims ++ b.Dims) := by
  unfold catS
  rw [h1, h2, h3]; rfl
theorem splS_ok {s : Shape} {k : Int} (h : (splS s k).2.2 = 0) : validS s = true ∧ 0 ≤ k ∧ k ≤ (s.Dims.length : Int) ∧ splS s k = (Shape.mk s.Row (s.Dims.take (s.Dims.length - k.toNat)), Shape.mk [] (s.Dims.drop (s.Dims.length - k.toNat)), 0) := by
  unfold splS at h ⊢
  cases h1 : validS s with
  | false => rw [h1] at h; simp at h
  | true =>
    cases h2 : decide (k < 0) with
    | true => rw [h1, h2] at h; simp at h
    | false =>
      cases h3 : decide (k > (s.Dims.length : Int)) with
      | true => rw [h1, h2, h3] at h; simp at h
      | false =>
        have h2 := of_decide_eq_false h2
        have h3 := of_decide_eq_false h3
        exact ⟨rfl, by omega, by omega, rfl⟩
theorem valid_part {s : Shape} (h : validS s = true) (n : Nat) : validS (Shape.mk s.Row (s.Dims.take n)) = true ∧ validS (Shape.mk [] (s.Dims.drop n)) = true := by
  obtain ⟨a1, a2, a3⟩ := validS_iff.1 h
  refine ⟨validS_iff.2 ⟨fun d hd => a1 d (List.mem_of_mem_take hd), ?_, a3⟩, validS_iff.2 ⟨fun d hd => a1 d (List.mem_of_mem_drop hd), ?_, .inl rfl⟩⟩
  · simp only [List.length_take]; omega
  · simp only [List.length_drop]; omega
/-- What is split is joined again. -/
theorem split_join_back {s : Shape} {k : Int} (h : (splS s k).2.2 = 0) : catS (splS s k).1 (splS s k).2.1 = (s, 0) := by
  obtain ⟨h1, _, _, e⟩ := splS_ok h
  rw [e]
  obtain ⟨v1, v2⟩ := valid_part h1 (s.Dims.length - k.toNat)
  rw [catS_of v1 v2 rfl]
  simp only [joinS, List.take_append_drop]
  rw [decide_eq_true (validS_iff.1 h1).2.1]; rfl
/-- What is joined is split again. -/
theorem join_split_back {a b : Shape} (h : (catS a b).2 = 0) : splS (catS a b).1 (b.Dims.length : Int) = (a, b, 0) := by
  obtain ⟨_, _, h3, h4, e, v⟩ := catS_ok h
  rw [e]
  unfold splS
  rw [v]
  simp only [cond_true]
  rw [decide_eq_false (by omega), decide_eq_false (by simp only [List.length_append]; omega)]
  simp only [cond_false, Int.toNat_natCast, List.length_append]
  have e1 : a.Dims.length + b.Dims.length - b.Dims.length = a.Dims.length := by omega
  rw [e1, List.take_left' rfl, List.drop_left' rfl]
  obtain ⟨ar, ad⟩ := a
  obtain ⟨br, bd⟩ := b
  simp only at h3 ⊢
  rw [h3]
/-- Joining is associative. -/
theorem join_assoc {a b c : Shape} (h1 : (catS a b).2 = 0) (h2 : (catS b c).2 = 0) : catS (catS a b).1 c = catS a (catS b c).1 := by
  obtain ⟨a1, a2, a3, a4, a5, a6⟩ := catS_ok h1
  obtain ⟨b1, b2, b3, b4, b5, b6⟩ := catS_ok h2
  rw [a5, b5, catS_of a6 b2 b3, catS_of a1 b6 a3]
  simp only [List.append_assoc]
theorem join_nil {a : Shape} (h : validS a = true) : catS a (Shape.mk [] []) = (a, 0) := by
  rw [catS_of h validS_nil rfl]
  simp only [joinS, List.append_nil]
  rw [decide_eq_true (validS_iff.1 h).2.1]; rfl
/-! ### substitution -/
end Go.Proofs.YtjfpcjnopbfekaaGreatDoor

/- PLAIN LAWS: the statements ShapeSubst and ShapeConcat: what the walked functions are. -/
namespace Go.Proofs.YtjfpcjnopbfekaaGreatDoor
open Go.Ab Go.Sh
/-! ### shapes -/
theorem ref11_join_eq (row : Str) (a b : List Linear) (ha : a.length ≤ 1000000) (hb : b.length ≤ 1000000) : ref11_join row a b = some (joinS row (a ++ b)) := by
  unfold ref11_join joinS
  rw [w64_id (by unfold I64; omega)]
  by_cases h : (a ++ b).length ≤ 6
  · rw [decide_eq_true h]
    simp only [List.length_append] at h
    rw [decide_eq_false (by omega)]
    simp only [cond_false, cond_true]
    rw [grd_pos (by omega), grd_pos (by omega)]
  · rw [decide_eq_false h]
    simp only [List.length_append] at h
    rw [decide_eq_true (by omega)]; rfl
theorem lib_ConcatL_eq (a b : List Linear) (ha : a.length ≤ 1000000) (hb : b.length ≤ 1000000) : lib_ConcatL [a, b] = some (a ++ b) := by
  unfold lib_ConcatL
  have e : [a, b].flatten = a ++ b := by simp
  rw [e, grd_pos (by simp only [List.length_append, List.length_cons, List.length_nil]; omega)]
theorem shape_Concat_eq (a b : Shape) (ha : okS a) (hb : okS b) (la : a.Dims.length ≤ 1000) (lb : b.Dims.length ≤ 1000) : shape_Concat a b = some (catS a b) := by
  unfold shape_Concat catS
  rw [shape_Valid_eq a ha, shape_Valid_eq b hb, nil_beq]
  simp only [Option.bind_some]
  cases validS a with
  | false => rfl
  | true =>
    cases validS b with
    | false => rfl
    | true =>
      cases b.Row.isEmpty with
      | false => rfl
      | true =>
        simp only [cond_true, Bool.and_self]
        rw [lib_ConcatL_eq _ _ (by omega) (by omega)]
        simp only [Option.bind_some]
        rw [shape_made_eq _ _ fun l hl => by
          rcases List.mem_append.1 hl with hl | hl
          · exact ha.2 l hl
          · exact hb.2 l hl]
        rfl
theorem ref11_Concat_eq (a b : Shape) (la : a.Dims.length ≤ 1000) (lb : b.Dims.length ≤ 1000) : ref11_Concat a b = some (catS a b) := by
  unfold ref11_Concat catS
  rw [ref11_Valid_eq, ref11_Valid_eq, nil_beq]
  simp only [Option.bind_some]
  cases validS a with
  | false => rfl
  | true =>
    cases validS b with
    | false => rfl
    | true =>
      cases b.Row.isEmpty with
      | false => rfl
      | true =>
        simp only [cond_true, Bool.and_self]
        rw [ref11_join_eq _ _ _ (by omega) (by omega)]; rfl
theorem catS_oks (a b : Shape) (ha : okS a) (hb : okS b) : okS (catS a b).1 ∧ (catS a b).1.Dims.length ≤ 1000 := by
  have h0 : okS (Shape.mk [] []) := ⟨by simp, fun l hl => by simp at hl⟩
  unfold catS joinS
  cases validS a && validS b
  · exact ⟨h0, by simp⟩
  · cases b.Row.isEmpty
    · exact ⟨h0, by simp⟩
    · simp only [cond_true]
      cases h : decide ((a.Dims ++ b.Dims).length ≤ 6)
      · exact ⟨h0, by simp⟩
      · have := of_decide_eq_true h
        refine ⟨⟨ha.1, fun l hl => ?_⟩, by simp only [cond_true]; omega⟩
        rcases List.mem_append.1 hl with hl | hl
        · exact ha.2 l hl
        · exact hb.2 l hl
theorem shape_Split_eq (s : Shape) (k : Int) (h : okS s) (hl : s.Dims.length ≤ 1000) : shape_Split s k = some (splS s k) := by
  unfold shape_Split splS
  rw [shape_Valid_eq s h]
  simp only [Option.bind_some]
  cases validS s with
  | false => rfl
  | true =>
    simp only [cond_true]
    by_cases h1 : k < 0
    · rw [decide_eq_true h1]; rfl
    · rw [decide_eq_false h1]
      simp only [cond_false]
      by_cases h2 : k > (s.Dims.length : Int)
      · rw [decide_eq_true h2]; rfl
      · rw [decide_eq_false h2]
        simp only [cond_false]
        have e : ((s.Dims.length : Int) - k).toNat = s.Dims.length - k.toNat := by omega
        rw [w64_id (by unfold I64; omega), grd_pos (by omega), e]
        rw [shape_clones_eq _ (fun l hl2 => h.2 l (List.mem_of_mem_take hl2)) (by simp only [List.length_take]; omega)]
        simp only [Option.bind_some]
        rw [shape_clones_eq _ (fun l hl2 => h.2 l (List.mem_of_mem_drop hl2)) (by simp only [List.length_drop]; omega)]
        rfl
theorem ref11_Split_eq (s : Shape) (k : Int) (hl : s.Dims.length ≤ 1000) : ref11_Split s k = some (splS s k) := by
  unfold ref11_Split splS
  rw [ref11_Valid_eq]
  simp only [Option.bind_some]
  cases validS s with
  | false => rfl
  | true =>
    simp only [cond_true]
    by_cases h1 : k < 0
    · rw [decide_eq_true h1]; rfl
    · rw [decide_eq_false h1]
      simp only [cond_false]
      by_cases h2 : k > (s.Dims.length : Int)
      · rw [decide_eq_true h2]; rfl
      · rw [decide_eq_false h2]
        simp only [cond_false]
        have e : ((s.Dims.length : Int) - k).toNat = s.Dims.length - k.toNat := by omega
        rw [w64_id (by unfold I64; omega), grd_pos (by omega), e, grd_pos (by simp only [List.length_take]; omega), grd_pos (by simp only [List.length_drop]; omega)]
theorem splS_oks (s : Shape) (k : Int) (h : okS s) (hl : s.Dims.length ≤ 1000) : (okS (splS s k).1 ∧ (splS s k).1.Dims.length ≤ 1000) ∧ (okS (splS s k).2.1 ∧ (splS s k).2.1.Dims.length ≤ 1000) := by
  have h0 : okS (Shape.mk [] []) := ⟨by simp, fun l hl => by simp at hl⟩
  unfold splS
  cases validS s
  · exact ⟨⟨h0, by simp⟩, ⟨h0, by simp⟩⟩
  · cases decide (k < 0)
    · cases decide (k > (s.Dims.length : Int))
      · refine ⟨⟨⟨h.1, fun l hl2 => h.2 l (List.mem_of_mem_take hl2)⟩, ?_⟩, ⟨⟨by simp, fun l hl2 => h.2 l (List.mem_of_mem_drop hl2)⟩, ?_⟩⟩
        · simp only [cond_true, cond_false, List.length_take]; omega
        · simp only [cond_true, cond_false, List.length_drop]; omega
      · exact ⟨⟨h0, by simp⟩, ⟨h0, by simp⟩⟩
    · exact ⟨⟨h0, by simp⟩, ⟨h0, by simp⟩⟩
/-- The statement ShapeConcat. -/
theorem concat_law (x0 : Shape × Shape × Shape) (x1 : Int) : law11_ShapeConcat x0 x1 = some true := by
  obtain ⟨a, b, c⟩ := x0
  unfold law11_ShapeConcat
  rw [law11_awake_true, ref11_Few_eq, ref11_Few_eq, ref11_Few_eq]
  simp only [Option.bind_some, cond_true]
  cases h0 : fewS a with
  | false => rfl
  | true =>
    cases h1 : fewS b with
    | false => rfl
    | true =>
      cases h2 : fewS c with
      | false => rfl
      | true =>
        simp only [cond_true]
        have ka := okS_few h0
        have kb := okS_few h1
        have kc := okS_few h2
        have la : a.Dims.length ≤ 1000 := by simp only [fewS, Bool.and_eq_true, decide_eq_true_eq] at h0; omega
        have lb : b.Dims.length ≤ 1000 := by simp only [fewS, Bool.and_eq_true, decide_eq_true_eq] at h1; omega
        have lc : c.Dims.length ≤ 1000 := by simp only [fewS, Bool.and_eq_true, decide_eq_true_eq] at h2; omega
        obtain ⟨kab, lab⟩ := catS_oks a b ka kb
        obtain ⟨kbc, lbc⟩ := catS_oks b c kb kc
        obtain ⟨⟨ks, ls⟩, ⟨kt, lt⟩⟩ := splS_oks a x1 ka la
        have hn : okS (Shape.mk [] []) := ⟨by simp, fun l hl => by simp at hl⟩
        rw [shape_Concat_eq a b ka kb la lb, ref11_Concat_eq a b la lb, shape_Split_eq a x1 ka la, ref11_Split_eq a x1 la]
        simp only [Option.bind_some, beq_self_eq_true, cond_true]
        rw [shape_Equal_eq, ref11_Equal_eq, ref11_Equal_eq, ref11_Equal_eq]
        simp only [Option.bind_some, decide_true, cond_true]
        rw [shape_Concat_eq _ _ ks kt ls lt, shape_Split_eq _ _ kab lab, shape_Concat_eq b c kb kc lb lc, shape_Concat_eq _ c kab kc lab lc, shape_Concat_eq _ _ kab hn lab (by simp)]
        simp only [Option.bind_some]
        rw [shape_Concat_eq a _ ka kbc la lbc]
        simp only [Option.bind_some]
        have hlast : ∀ (K : Option Bool), K = some true → (bif (catS a b).2 == 0 then K else some true) = some true := fun K hK => by
          cases (catS a b).2 == 0
          · rfl
          · exact hK
        have main : (catS a b).2 = 0 → (bif ((splS (catS a b).1 (b.Dims.length : Int)).2.2 == 0) then (
            (ref11_Equal (splS (catS a b).1 (b.Dims.length : Int)).1 a).bind fun y320 =>
            bif y320 then (
              (ref11_Equal (splS (catS a b).1 (b.Dims.length : Int)).2.1 b).bind fun y334 =>
              bif y334 then (
                bif ((catS b c).2 == 0) then (
                  bif ((catS (catS a b).1 c).2 == (catS a (catS b c).1).2) then (
                    (ref11_Equal (catS (catS a b).1 c).1 (catS a (catS b c).1).1).bind fun y400 =>
                    bif y400 then (
                      bif ((catS (catS a b).1 (Shape.mk [] [])).2 == 0) then (
                        (ref11_Equal (catS (catS a b).1 (Shape.mk [] [])).1 (catS a b).1).bind fun y421 => some y421
                      ) else some false
                    ) else some false
                  ) else some false
                ) else (
                  bif ((catS (catS a b).1 (Shape.mk [] [])).2 == 0) then (
                    (ref11_Equal (catS (catS a b).1 (Shape.mk [] [])).1 (catS a b).1).bind fun y435 => some y435
                  ) else some false
                )
              ) else some false
            ) else some false
          ) else some false : Option Bool) = some true := by
          intro h
          have hv : validS (catS a b).1 = true := by
            obtain ⟨_, _, _, _, e, v⟩ := catS_ok h
            rw [e]; exact v
          rw [join_split_back h, join_nil hv]
          simp only [beq_self_eq_true, cond_true]
          rw [ref11_Equal_eq, ref11_Equal_eq, ref11_Equal_eq, ref11_Equal_eq]
          simp only [Option.bind_some, decide_true, cond_true]
          cases hb : (catS b c).2 == 0 with
          | false => rfl
          | true =>
            simp only [cond_true]
            rw [join_assoc h (by simpa using hb)]
            simp
        cases hg : (splS a x1).2.2 == 0 with
        | false =>
          simp only [cond_false, Option.bind_some, Sh.aft]
          cases he : (catS a b).2 == 0 with
          | false => rfl
          | true => exact main (by simpa using he)
        | true =>
          rw [split_join_back (by simpa using hg)]
          simp only [beq_self_eq_true, cond_true]
          rw [ref11_Equal_eq]
          simp only [Option.bind_some, decide_true, cond_true, Sh.aft]
          cases he : (catS a b).2 == 0 with
          | false => rfl
          | true => exact main (by simpa using he)
end Go.Proofs.YtjfpcjnopbfekaaGreatDoor
