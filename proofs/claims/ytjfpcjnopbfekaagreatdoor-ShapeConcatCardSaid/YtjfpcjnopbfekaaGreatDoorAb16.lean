/- ABSTRACT STATES: the theorem on regions that draw their order. -/
import Derived.Test.YtjfpcjnopbfekaaGreatDoorAb15
set_option linter.unusedSimpArgs false
set_option linter.unusedVariables false
namespace Go.Ab
open Go.RowKit

section
variable {P : Program} {l : List Oper}

/-- Whoever has come up, all that must come ahead has come up too. -/
def Closed (l : List Oper) (listed : Array Bool) : Prop := ∀ i o, l[i]? = some o → listed.getD i false = true → ∀ j ∈ aft o, listed.getD j false = true

theorem aft_spec {o : Oper} {j : Nat} : j ∈ aft o ↔ ∃ e ∈ o.after, Region.binds .any e = true ∧ e.on = j := by
  unfold aft
  rw [List.mem_filterMap]
  constructor
  · rintro ⟨e, he, h⟩
    split at h
    · rename_i hb; cases h; exact ⟨e, by simpa using he, hb, rfl⟩
    · cases h
  · rintro ⟨e, he, hb, rfl⟩
    exact ⟨e, by simpa using he, by rw [if_pos hb]⟩

theorem fold_mem {acc : List (List Nat)} {y : Nat} : ∀ (js : List Nat), y ∈ js.foldr (fun j r => mrg (j :: acc.getD j []) r) [] → ∃ j ∈ js, y = j ∨ y ∈ acc.getD j []
  | [], h => by cases h
  | j :: js, h => by
    rw [List.foldr_cons] at h
    rcases mem_mrg _ _ h with h | h
    · exact ⟨j, by simp, by simpa using h⟩
    · obtain ⟨j', h1, h2⟩ := fold_mem js h
      exact ⟨j', by simp [h1], h2⟩

theorem clos_get : ∀ (os : List Oper) (acc : List (List Nat)) (i : Nat), i < acc.length → (clos os acc).getD i [] = acc.getD i []
  | [], acc, i, _ => rfl
  | o :: os, acc, i, h => by
    rw [clos, clos_get os _ i (by simp; omega)]
    simp [List.getD_eq_getElem?_getD, List.getElem?_append_left h]

theorem clos_mem {listed : Array Bool} (hcl : Closed l listed) : ∀ (os : List Oper) (acc : List (List Nat)), (∀ j, os[j]? = l[acc.length + j]?) → (∀ i, i < acc.length → ∀ o, l[i]? = some o → (∀ j ∈ aft o, listed.getD j false = true) → ∀ j ∈ acc.getD i [], listed.getD j false = true) → backB acc.length os = true →
    ∀ (i : Nat) (o : Oper), l[i]? = some o → i < acc.length + os.length → (∀ j ∈ aft o, listed.getD j false = true) → ∀ j ∈ (clos os acc).getD i [], listed.getD j false = true
  | [], acc, _, hacc, _, i, o, ho, hi, ha => by simpa [clos] using hacc i (by simpa using hi) o ho ha
  | o0 :: os, acc, hos, hacc, hb, i, o, ho, hi, ha => by
    simp only [backB, Bool.and_eq_true] at hb
    rw [clos]
    refine clos_mem hcl os _ (fun j => by have := hos (j + 1); simpa [Nat.add_assoc, Nat.add_comm 1 j] using this) (fun k hk ok hok hak j hj => ?_) (by simpa using hb.2) i o ho (by simp at hi ⊢; omega) ha
    by_cases hk2 : k < acc.length
    · refine hacc k hk2 ok hok hak j ?_
      simpa [List.getD_eq_getElem?_getD, List.getElem?_append_left hk2] using hj
    · have hk3 : k = acc.length := by simp at hk; omega
      subst hk3
      have e1 : (acc ++ [(aft o0).foldr (fun j r => mrg (j :: acc.getD j []) r) []]).getD acc.length [] = (aft o0).foldr (fun j r => mrg (j :: acc.getD j []) r) [] := by
        simp [List.getD_eq_getElem?_getD]
      rw [e1] at hj
      have e2 : ok = o0 := by
        have := hos 0
        simp only [List.getElem?_cons_zero, Nat.add_zero] at this
        rw [hok] at this; exact (Option.some.inj this).symm
      subst e2
      obtain ⟨j', h1, h2⟩ := fold_mem _ hj
      rcases h2 with rfl | h2
      · exact hak _ h1
      · have hlt : j' < acc.length := by
          have := List.all_eq_true.1 hb.1 j' h1
          simpa [Nat.blt_eq] using this
        have hol : j' < l.length := by
          have := (List.getElem?_eq_some_iff.1 hok).1; omega
        have hl' := hak _ h1
        exact hacc j' hlt l[j'] (List.getElem?_eq_getElem hol) (hcl j' _ (List.getElem?_eq_getElem hol) hl') j h2

theorem Chain.loc {ops : Array Oper} : ∀ {os : List Oper} {es : List Eff} {s s' : AS}, Chain P ops os es s s' → os.length = es.length ∧ s' = sL es (List.replicate es.length true) s ∧
    ∀ (i : Nat) (o : Oper) (e : Eff), os[i]? = some o → es[i]? = some e → Loc P ops o (sL es ((List.range es.length).map fun j => decide (j < i)) s) e
  | [], [], s, s', h => ⟨rfl, h, fun i o e ho _ => by simp at ho⟩
  | [], _ :: _, _, _, h => h.elim
  | _ :: _, [], _, _, h => h.elim
  | o :: os, e :: es, s, s', h => by
    obtain ⟨h1, h2⟩ := h
    obtain ⟨a1, a2, a3⟩ := Chain.loc h2
    refine ⟨by simp [a1], by rw [a2]; rfl, fun i o' e' ho he => ?_⟩
    cases i with
    | zero =>
      simp only [List.getElem?_cons_zero, Option.some.injEq] at ho he
      subst ho; subst he
      have : sL (e :: es) ((List.range (e :: es).length).map fun j => decide (j < 0)) s = s := by
        have gen : ∀ (es : List Eff) (bs : List Bool) (s : AS), (∀ b ∈ bs, b = false) → sL es bs s = s := by
          intro es
          induction es with
          | nil => intro bs s _; cases bs <;> rfl
          | cons e es ih =>
            intro bs s hb
            cases bs with
            | nil => rfl
            | cons b bs => rw [sL, hb b (by simp)]; exact ih bs s fun b hb' => hb b (by simp [hb'])
        exact gen _ _ _ (by simp)
      rw [this]; exact h1
    | succ i =>
      have h3 := a3 i o' e' (by simpa using ho) (by simpa using he)
      have : sL (e :: es) ((List.range (e :: es).length).map fun j => decide (j < i + 1)) s = sL es ((List.range es.length).map fun j => decide (j < i)) (e.app s) := by
        rw [List.length_cons, List.range_succ_eq_map, List.map_cons, List.map_map]
        simp only [sL, Nat.zero_lt_succ, decide_true, if_true]
        congr 1
        simp [Function.comp_def]
      rw [this]; exact h3

theorem listed_get {listed : Array Bool} {n i : Nat} (hi : i < n) (hs : n ≤ listed.size) : (listed.toList.take n)[i]? = some (listed.getD i false) := by
  rw [List.getElem?_take, if_pos hi, Array.getElem?_toList, Array.getElem?_eq_getElem (by omega)]
  simp [Array.getD_eq_getD_getElem?, Array.getElem?_eq_getElem (show i < listed.size by omega)]

theorem infos_get {ops : Array Oper} : ∀ {os : List Oper} {es : List Eff} {s : AS}, os.length = es.length → ∀ (i : Nat) (o : Oper), os[i]? = some o →
    (infos ops os es s)[i]? = some (o.looksAt ops, o.op.operands.toList.map (sL es ((List.range es.length).map fun j => decide (j < i)) s).op)
  | [], _, _, _, i, o, h => by simp at h
  | o0 :: os, [], _, hl, _, _, _ => by simp at hl
  | o0 :: os, e :: es, s, hl, i, o, ho => by
    cases i with
    | zero =>
      simp only [List.getElem?_cons_zero, Option.some.injEq] at ho
      subst ho
      have gen : ∀ (es : List Eff) (bs : List Bool) (s : AS), (∀ b ∈ bs, b = false) → sL es bs s = s := by
        intro es
        induction es with
        | nil => intro bs s _; cases bs <;> rfl
        | cons e es ih =>
          intro bs s hb
          cases bs with
          | nil => rfl
          | cons b bs => rw [sL, hb b (by simp)]; exact ih bs s fun b hb' => hb b (by simp [hb'])
      rw [gen _ _ _ (by simp)]
      rfl
    | succ i =>
      have := infos_get (ops := ops) (s := e.app s) (by simpa using hl) i o (by simpa using ho)
      have e1 : sL (e :: es) ((List.range (e :: es).length).map fun j => decide (j < i + 1)) s = sL es ((List.range es.length).map fun j => decide (j < i)) (e.app s) := by
        rw [List.length_cons, List.range_succ_eq_map, List.map_cons, List.map_map]
        simp only [sL, Nat.zero_lt_succ, decide_true, if_true]
        congr 1
        simp [Function.comp_def]
      rw [e1]; exact this
theorem bernB_spec {cl : List (List Nat)} {es : List Eff} {rs : List (List Nat × List AV)} (h : bernB cl es rs = true) {i j : Nat} {e1 e2 : Eff} {r1 r2 : List Nat × List AV} (h1 : es[i]? = some e1) (h2 : rs[i]? = some r1) (h3 : es[j]? = some e2) (h4 : rs[j]? = some r2) (hij : i < j) (hc : conf e1 e2 r1 r2 = true) : i ∈ cl.getD j [] := by
  have g : ∀ {i : Nat} {e : Eff} {r : List Nat × List AV}, es[i]? = some e → rs[i]? = some r → ((e, r), i) ∈ (es.zip rs).zipIdx := by
    intro i e r he hr
    rw [List.mem_iff_getElem?]
    refine ⟨i, ?_⟩
    have hz : (es.zip rs)[i]? = some (e, r) := List.getElem?_zip_eq_some.2 ⟨he, hr⟩
    simp [List.getElem?_zipIdx, hz]
  have a1 := List.all_eq_true.1 h _ (g h1 h2)
  have a2 := List.all_eq_true.1 a1 _ (g h3 h4)
  have hb : Nat.blt i j = true := by simpa [Nat.blt_eq] using hij
  simp only [hb, hc, Bool.not_true, Bool.false_or] at a2
  obtain ⟨x, hx, hxb⟩ := List.any_eq_true.1 a2
  have : i = x := beq_t.1 hxb
  subst this; exact hx
end
end Go.Ab
