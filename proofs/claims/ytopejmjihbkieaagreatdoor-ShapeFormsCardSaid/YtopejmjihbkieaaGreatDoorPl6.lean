/- PLAIN LAWS: sums, whatever the order of a map's entries; the example of the document. -/
import Derived.Test.YtopejmjihbkieaaGreatDoorPl5
set_option linter.unusedSimpArgs false
set_option linter.unusedVariables false
namespace Go.Sh
theorem nodup_le {α : Type} [DecidableEq α] : ∀ (l l' : List α), l.Nodup → (∀ x ∈ l, x ∈ l') → l.length ≤ l'.length
  | [], l', _, _ => by simp
  | a :: l, l', h, hs => by
    rw [List.nodup_cons] at h
    have ha : a ∈ l' := hs a (by simp)
    have ih := nodup_le l (l'.erase a) h.2 (fun x hx => by
      have hne : x ≠ a := fun e => h.1 (e ▸ hx)
      exact (List.mem_erase_of_ne hne).2 (hs x (by simp [hx])))
    rw [List.length_erase_of_mem ha] at ih
    have : 0 < l'.length := List.length_pos_of_mem ha
    simp only [List.length_cons]; omega
theorem mr_go {V σ ε β : Type} {m : List (Str × V)} {body : Str × V → σ → Option (Stp σ ε β)} {K : σ → Prop} {J : β → Prop} (I : List Nat → σ → Prop) (g : σ → Str × V → σ)
    (hstep : ∀ seen s i (h : i < m.length), seen.Nodup → i ∉ seen → (∀ j ∈ seen, j < m.length) → I seen s → body m[i] s = some (.go (g s m[i])) ∧ I (seen ++ [i]) (g s m[i]))
    (hend : ∀ seen s, seen.Nodup → (∀ i, i < m.length → i ∈ seen) → (∀ i ∈ seen, i < m.length) → I seen s → K s) :
    ∀ (n : Nat) (seen : List Nat) (s : σ), seen.Nodup → (∀ i ∈ seen, i < m.length) → n + seen.length = m.length → I seen s → MR m body K J n seen s
  | 0, seen, s, h1, h2, h3, hI => by
    have hall : ∀ i, i < m.length → i ∈ seen := by
      intro i hi
      refine Classical.byContradiction fun hn => ?_
      have := nodup_le (i :: seen) (List.range m.length) (List.nodup_cons.2 ⟨hn, h1⟩) (fun x hx => by
        rcases List.mem_cons.1 hx with rfl | hx
        · simpa using hi
        · simpa using h2 x hx)
      simp at this; omega
    exact ⟨hall, hend seen s h1 hall h2 hI⟩
  | n + 1, seen, s, h1, h2, h3, hI => by
    refine ⟨?_, fun i hi hn => ?_⟩
    · refine Classical.byContradiction fun hn => ?_
      have := nodup_le (List.range m.length) seen List.nodup_range (fun x hx => Classical.byContradiction fun hx2 => hn ⟨x, by simpa using hx, hx2⟩)
      simp at this; omega
    · obtain ⟨e1, e2⟩ := hstep seen s i hi h1 hn h2 hI
      refine ⟨_, e1, ?_⟩
      have hnd : (seen ++ [i]).Nodup := by
        rw [List.nodup_append]
        exact ⟨h1, by simp, fun a ha b hb => by
          have : b = i := by simpa using hb
          subst this; intro e; subst e; exact hn ha⟩
      exact mr_go I g hstep hend n (seen ++ [i]) _ hnd (fun j hj => by
        rcases List.mem_append.1 hj with hj | hj
        · exact h2 j hj
        · have : j = i := by simpa using hj
          subst this; exact hi) (by simp; omega) e2
def leS (x y : Str) : Bool := decide (x ≤ y)
theorem leS_trans (a b c : Str) (h1 : leS a b = true) (h2 : leS b c = true) : leS a c = true := by
  simp only [leS, decide_eq_true_eq] at *; exact List.le_trans h1 h2
theorem leS_total (a b : Str) : (leS a b || leS b a) = true := by
  simp only [leS, Bool.or_eq_true, decide_eq_true_eq]; exact List.le_total a b
theorem leS_anti (a b : Str) (h1 : leS a b = true) (h2 : leS b a = true) : a = b := by
  simp only [leS, decide_eq_true_eq] at *; exact List.le_antisymm h1 h2
theorem sort_sorted (l : List Str) : (Go.Ab.sortS l).Pairwise (fun a b => leS a b = true) := List.pairwise_mergeSort leS_trans leS_total l
theorem sort_perm (l : List Str) : (Go.Ab.sortS l).Perm l := List.mergeSort_perm l _
/-- What is sorted and has the same members is it. -/
theorem sort_eq {l r : List Str} (hs : r.Pairwise (fun a b => leS a b = true)) (hp : r.Perm l) : Go.Ab.sortS l = r :=
  List.Perm.eq_of_pairwise (fun a b _ _ => leS_anti a b) (sort_sorted l) hs ((sort_perm l).trans hp.symm)
theorem sort_congr {l r : List Str} (h : l.Perm r) : Go.Ab.sortS l = Go.Ab.sortS r := sort_eq (sort_sorted r) ((sort_perm r).trans h.symm)
def insS (x : Str) : List Str → List Str
  | [] => [x]
  | y :: l => bif leS x y then x :: y :: l else y :: insS x l
def sortI : List Str → List Str
  | [] => []
  | x :: l => insS x (sortI l)
theorem insS_perm (x : Str) : ∀ l, (insS x l).Perm (x :: l)
  | [] => .refl _
  | y :: l => by
    simp only [insS]
    cases leS x y
    · exact ((insS_perm x l).cons y).trans (.swap _ _ _)
    · exact .refl _
theorem insS_sorted (x : Str) : ∀ {l : List Str}, l.Pairwise (fun a b => leS a b = true) → (insS x l).Pairwise (fun a b => leS a b = true)
  | [], _ => by simp [insS]
  | y :: l, h => by
    rw [List.pairwise_cons] at h
    simp only [insS]
    cases hxy : leS x y
    · simp only [cond_false, List.pairwise_cons]
      have hyx : leS y x = true := by
        have := leS_total x y
        rw [hxy] at this; simpa using this
      refine ⟨fun a ha => ?_, insS_sorted x h.2⟩
      rcases List.mem_cons.1 ((insS_perm x l).mem_iff.1 ha) with rfl | ha
      · exact hyx
      · exact h.1 a ha
    · simp only [cond_true, List.pairwise_cons]
      refine ⟨fun a ha => ?_, h⟩
      rcases List.mem_cons.1 ha with rfl | ha
      · exact hxy
      · exact leS_trans _ _ _ hxy (h.1 a ha)
theorem sortI_perm : ∀ l, (sortI l).Perm l
  | [] => .refl _
  | x :: l => (insS_perm x _).trans ((sortI_perm l).cons x)
theorem sortI_sorted : ∀ l, (sortI l).Pairwise (fun a b => leS a b = true)
  | [] => List.Pairwise.nil
  | x :: l => insS_sorted x (sortI_sorted l)
theorem sortS_eq (l : List Str) : Go.Ab.sortS l = sortI l := sort_eq (sortI_sorted l) (sortI_perm l)
def nodupB : List Str → Bool
  | [] => true
  | x :: l => !(l.any fun y => y == x) && nodupB l
theorem nodupB_eq : ∀ {l : List Str}, nodupB l = true → l.Nodup
  | [], _ => List.nodup_nil
  | x :: l, h => by
    simp only [nodupB, Bool.and_eq_true, Bool.not_eq_true', List.any_eq_false, beq_iff_eq] at h
    exact List.nodup_cons.2 ⟨fun hm => h.1 x hm rfl, nodupB_eq h.2⟩
end Go.Sh
namespace Go.Proofs.YtopejmjihbkieaaGreatDoor
open Go.Ab Go.Sh
/-- The names with a coefficient. -/
def namesOf (m : List (Str × Int)) : List Str := (m.filter fun e => !(e.2 == 0)).map (·.1)
def endSum (n : Int) (m : List (Str × Int)) (names : List Str) : Linear × Int :=
  bif validL (Linear.mk n (names.map fun k => Coef.mk k (mget 0 k m))) then (Linear.mk n (names.map fun k => Coef.mk k (mget 0 k m)), 0) else (Linear.mk 0 [], 3)
def goodM (m : List (Str × Int)) : Bool := nodupB (m.map (·.1)) && (decide (m.length ≤ 1000) && m.all fun e => decide (e.1.length ≤ 1000000))
theorem snoc_map (m : List (Str × Int)) (y : List Str) (hy : y.length ≤ 1000000) : (cnt (σ := (List Coef)) (ε := (List Coef)) (ρ := Empty) (fun i117 s116 =>
      grd ((s116.length + 1) * 24 ≤ 140737488355328) <|
      some (.go (s116 ++ [(Coef.mk (y.getD i117 []) (mget 0 (y.getD i117 []) m))]))
    ) (fun i117 s116 => s116) (y.length - 0) 0 []) = some (.brk (y.map fun k => Coef.mk k (mget 0 k m))) := by
  obtain ⟨s', e1, e2, _⟩ := cnt_go (fin := fun _ s => s) (body := fun i117 s116 =>
      grd ((s116.length + 1) * 24 ≤ 140737488355328) <|
      some (.go (s116 ++ [(Coef.mk (y.getD i117 []) (mget 0 (y.getD i117 []) m))]))) (ε := List Coef) (ρ := Empty) (fun j s => s ++ [(fun k => Coef.mk k (mget 0 k m)) (y.getD j [])]) (fun j s => s.length = j) (y.length - 0) 0 [] rfl (fun j s _ hj hI => ⟨by rw [grd_pos (by omega)], by simp [hI]⟩)
  rw [e1, e2]
  have := foldl_getD (fun (s : List Coef) (k : Str) => s ++ [(fun k => Coef.mk k (mget 0 k m)) k]) [] y 0 []
  rw [this]
  have gen : ∀ (ts : List Str) (s : List Coef), ts.foldl (fun s k => s ++ [(fun k => Coef.mk k (mget 0 k m)) k]) s = s ++ ts.map (fun k => Coef.mk k (mget 0 k m)) := by
    intro ts
    induction ts with
    | nil => intro s; simp
    | cons t ts ih => intro s; simp [ih]
  rw [List.drop_zero, gen]; rfl
theorem sum_rest (n : Int) (m : List (Str × Int)) (hm : goodM m = true) (s : List Str) (hp : s.Perm (namesOf m)) :
    ((lib_Sort s).bind fun y97 =>
    (cnt (σ := (List Coef)) (ε := (List Coef)) (ρ := Empty) (fun i117 s116 =>
      grd ((s116.length + 1) * 24 ≤ 140737488355328) <|
      some (.go (s116 ++ [(Coef.mk (y97.getD i117 []) (mget 0 (y97.getD i117 []) m))]))
    ) (fun i117 s116 => s116) (y97.length - 0) 0 []).bind <| aftE fun u148 =>
    (linear_Valid (Linear.mk n u148)).bind fun y151 =>
    bif y151 then (
      some ((Linear.mk n u148), 0)
    ) else (
      some ((Linear.mk 0 []), 3)
    )) = some (endSum n m (sortI (namesOf m))) := by
  simp only [goodM, Bool.and_eq_true, decide_eq_true_eq, List.all_eq_true] at hm
  obtain ⟨_, hl, hk⟩ := hm
  have hlen : (namesOf m).length ≤ m.length := by unfold namesOf; rw [List.length_map]; exact List.length_filter_le _ _
  have hs : s.length ≤ 1000 := by rw [hp.length_eq]; omega
  unfold lib_Sort
  rw [grd_pos (by omega)]
  simp only [Option.bind_some]
  rw [sort_congr hp, sortS_eq]
  have hsi : (sortI (namesOf m)).length ≤ 1000 := by rw [(sortI_perm _).length_eq]; omega
  rw [snoc_map m _ (by omega)]
  simp only [Option.bind_some, aftE]
  rw [linear_Valid_eq _ (by simp; omega) (fun t ht => by
    obtain ⟨k, hk1, rfl⟩ := List.mem_map.1 ht
    have hk2 := (sortI_perm _).mem_iff.1 hk1
    obtain ⟨e, he, rfl⟩ := List.mem_map.1 hk2
    exact hk e (List.mem_filter.1 he).1)]
  simp only [Option.bind_some, endSum]
  cases validL (Linear.mk n ((sortI (namesOf m)).map fun k => Coef.mk k (mget 0 k m))) <;> rfl
theorem sum_loop {β : Type} (m : List (Str × Int)) (hm : goodM m = true) (k : List Str → Option β) (v : β) (hk : ∀ s, s.Perm (namesOf m) → k s = some v) :
    mrngK (σ := (List Str)) (ε := Empty) (β := β) m (fun e164 s94 =>
    bif (e164.2 == 0) then (
      some (.go s94)
    ) else (
      grd ((s94.length + 1) * 16 ≤ 140737488355328) <|
      some (.go (s94 ++ [e164.1]))
    )) [] k = some v := by
  simp only [goodM, Bool.and_eq_true, decide_eq_true_eq, List.all_eq_true] at hm
  obtain ⟨hnd, hl, _⟩ := hm
  have hnd := nodupB_eq hnd
  have hinj : ∀ i j (hi : i < m.length) (hj : j < m.length), m[i].1 = m[j].1 → i = j := by
    intro i j hi hj e
    have h1 : (m.map (·.1))[i]'(by simpa using hi) = (m.map (·.1))[j]'(by simpa using hj) := by simpa using e
    exact (List.getElem_inj hnd).1 h1
  refine mrngK_eq (mr_go (fun seen s => s.Nodup ∧ s.length ≤ seen.length ∧ ∀ x, x ∈ s ↔ ∃ i, i ∈ seen ∧ ∃ h : i < m.length, m[i].1 = x ∧ m[i].2 ≠ 0) (fun s e => bif e.2 == 0 then s else s ++ [e.1]) ?_ ?_ m.length [] [] List.nodup_nil (fun i hi => by simp at hi) (by simp) ⟨List.nodup_nil, by simp, fun x => by simp⟩)
  · rintro seen s i hi hs1 hs2 hs3 ⟨i1, i2, i3⟩
    have hsl : seen.length ≤ m.length := by
      have := nodup_le seen (List.range m.length) hs1 (fun x hx => by simpa using hs3 x hx)
      simpa using this
    cases hz : m[i].2 == 0 with
    | true =>
      have hz' : m[i].2 = 0 := by simpa using hz
      refine ⟨rfl, i1, by simp; omega, fun x => ?_⟩
      simp only [cond_true]
      rw [i3]
      constructor
      · rintro ⟨j, h1, h2⟩; exact ⟨j, by simp [h1], h2⟩
      · rintro ⟨j, h1, h2, h3, h4⟩
        rcases List.mem_append.1 h1 with h1 | h1
        · exact ⟨j, h1, h2, h3, h4⟩
        · have : j = i := by simpa using h1
          subst this; exact absurd hz' h4
    | false =>
      have hz' : m[i].2 ≠ 0 := by simpa using hz
      simp only [cond_false]
      rw [grd_pos (by omega)]
      refine ⟨rfl, ?_, by simp; omega, fun x => ?_⟩
      · rw [List.nodup_append]
        refine ⟨i1, by simp, fun a ha b hb => ?_⟩
        have hb : b = m[i].1 := by simpa using hb
        subst hb
        intro e
        obtain ⟨j, h1, h2, h3, _⟩ := (i3 a).1 ha
        exact hs2 (hinj j i h2 hi (h3.trans e) ▸ h1)
      · rw [List.mem_append, i3]
        constructor
        · rintro (⟨j, h1, h2⟩ | h)
          · exact ⟨j, by simp [h1], h2⟩
          · have h : x = m[i].1 := by simpa using h
            exact ⟨i, by simp, hi, h.symm, hz'⟩
        · rintro ⟨j, h1, h2, h3, h4⟩
          rcases List.mem_append.1 h1 with h1 | h1
          · exact .inl ⟨j, h1, h2, h3, h4⟩
          · have : j = i := by simpa using h1
            subst this; exact .inr (by simp [h3])
  · rintro seen s hs1 hall hlt ⟨i1, i2, i3⟩
    refine hk s ?_
    have hn2 : (namesOf m).Nodup := by
      unfold namesOf
      exact (List.Sublist.map _ List.filter_sublist).nodup hnd
    refine (List.perm_ext_iff_of_nodup i1 hn2).2 fun x => ?_
    rw [i3]
    unfold namesOf
    simp only [List.mem_map, List.mem_filter, Bool.not_eq_true', beq_eq_false_iff_ne]
    constructor
    · rintro ⟨j, _, h2, h3, h4⟩; exact ⟨m[j], ⟨List.getElem_mem h2, h4⟩, h3⟩
    · rintro ⟨e, ⟨h1, h2⟩, h3⟩
      obtain ⟨j, hj, rfl⟩ := List.getElem_of_mem h1
      exact ⟨j, hall j hj, hj, h3, h2⟩
theorem sum_result_eq (n : Int) (m : List (Str × Int)) (hm : goodM m = true) : linear_sum_result n m = some (endSum n m (sortI (namesOf m))) := by
  unfold linear_sum_result
  exact sum_loop m hm _ _ fun s hp => sum_rest n m hm s hp
theorem sum_result_2_eq (s0 : Str) (n : Int) (m : List (Str × Int)) (hm : goodM m = true) : linear_sum_result_2 s0 n m = some (endSum n m (sortI (namesOf m))) := by
  unfold linear_sum_result_2
  exact sum_loop m hm _ _ fun s hp => sum_rest n m hm s hp
end Go.Proofs.YtopejmjihbkieaaGreatDoor
