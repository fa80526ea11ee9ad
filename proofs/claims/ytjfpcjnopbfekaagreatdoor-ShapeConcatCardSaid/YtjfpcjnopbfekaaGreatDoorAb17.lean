/- ABSTRACT STATES: a region that draws its order: the theorem. -/
import Derived.Test.YtjfpcjnopbfekaaGreatDoorAb16
set_option linter.unusedSimpArgs false
set_option linter.unusedVariables false
namespace Go.Ab
open Go.RowKit
section
variable {P : Program} {l : List Oper}

def cntF : List Bool → Nat
  | [] => 0
  | b :: bs => (if b then 0 else 1) + cntF bs
theorem cntF_set : ∀ {bs : List Bool} {i : Nat}, bs[i]? = some false → cntF bs = cntF (bs.set i true) + 1
  | [], i, h => by simp at h
  | b :: bs, 0, h => by
    simp only [List.getElem?_cons_zero, Option.some.injEq] at h
    subst h; simp [cntF]; omega
  | b :: bs, i + 1, h => by
    have := cntF_set (bs := bs) (i := i) (by simpa using h)
    simp only [List.set_cons_succ, cntF]; omega
theorem cntF_zero : ∀ {bs : List Bool}, cntF bs = 0 → bs = List.replicate bs.length true
  | [], _ => rfl
  | b :: bs, h => by
    cases b with
    | false => simp [cntF] at h
    | true => simp only [cntF, if_true, Nat.zero_add] at h; rw [List.length_cons, List.replicate_succ, ← cntF_zero h]
theorem cntF_pos : ∀ {bs : List Bool}, cntF bs ≠ 0 → ∃ i : Nat, bs[i]? = some false
  | [], h => absurd rfl h
  | b :: bs, h => by
    cases b with
    | false => exact ⟨0, rfl⟩
    | true =>
      obtain ⟨i, hi⟩ := cntF_pos (bs := bs) (by simpa [cntF] using h)
      exact ⟨i + 1, by simpa using hi⟩

theorem tailB_spec : ∀ {os : List Oper} {k : Nat}, tailB k os = true → ∀ (i : Nat) (o : Oper), os[i]? = some o → (k + i) ∈ aft o
  | [], _, _, i, o, h => by simp at h
  | o0 :: os, k, h, 0, o, ho => by
    simp only [tailB, Bool.and_eq_true] at h
    simp only [List.getElem?_cons_zero, Option.some.injEq] at ho
    subst ho
    obtain ⟨x, hx, hb⟩ := List.any_eq_true.1 h.1
    have : k = x := beq_t.1 hb
    subst this; exact hx
  | o0 :: os, k, h, i + 1, o, ho => by
    simp only [tailB, Bool.and_eq_true] at h
    have := tailB_spec h.2 i o (by simpa using ho)
    rw [show k + (i + 1) = k + 1 + i by omega]; exact this
theorem backB_spec : ∀ {os : List Oper} {k : Nat}, backB k os = true → ∀ (i : Nat) (o : Oper), os[i]? = some o → ∀ j ∈ aft o, j < k + i
  | [], _, _, i, o, h => by simp at h
  | o0 :: os, k, h, 0, o, ho => by
    simp only [backB, Bool.and_eq_true] at h
    simp only [List.getElem?_cons_zero, Option.some.injEq] at ho
    subst ho
    intro j hj
    have := List.all_eq_true.1 h.1 j hj
    simpa [Nat.blt_eq] using this
  | o0 :: os, k, h, i + 1, o, ho => by
    simp only [backB, Bool.and_eq_true] at h
    intro j hj
    have := backB_spec h.2 i o (by simpa using ho) j hj
    omega
theorem mem_idxs : ∀ {n i : Nat}, i < n → i ∈ idxs n
  | 0, i, h => by omega
  | n + 1, i, h => by
    simp only [idxs, List.mem_append, List.mem_singleton]
    by_cases e : i = n
    · exact .inr e
    · exact .inl (mem_idxs (by omega))

theorem mem_ready' {listed : Array Bool} {i : Nat} : i ∈ Region.ready .any l.toArray listed ↔ listed.getD i true = false ∧ ∃ o, l[i]? = some o ∧ ∀ j ∈ aft o, listed.getD j false = true := by
  rw [mem_ready]
  constructor
  · rintro ⟨h, o, ho, ha⟩
    exact ⟨h, o, by simpa using ho, fun j hj => by obtain ⟨e, he, hb, rfl⟩ := aft_spec.1 hj; exact ha e he hb⟩
  · rintro ⟨h, o, ho, ha⟩
    exact ⟨h, o, by simpa using ho, fun e he hb => ha _ (aft_spec.2 ⟨e, he, hb, rfl⟩)⟩

/-- Only one order is left. -/
theorem any_of_list {Q' : Exit → Act → World → Prop} (hback : backB 0 l = true) : ∀ (rest : List Oper) (k : Nat) (listed : Array Bool) (a : Act) (w : World), listed.size = l.length → (∀ j, rest[j]? = l[k + j]?) → k + rest.length = l.length → (∀ i, i < k → listed.getD i false = true) → (∀ i, k ≤ i → listed.getD i false = false) →
    (∀ i o, k < i → l[i]? = some o → (i - 1) ∈ aft o) → wpList P l.toArray Q' rest a w → wpAny P .any l.toArray Q' rest.length listed a w
  | [], k, listed, a, w, hs, _, hl, h1, _, _, h => by
    refine ⟨List.eq_nil_iff_forall_not_mem.2 fun i hi => ?_, h⟩
    obtain ⟨h2, o, ho, _⟩ := mem_ready'.1 hi
    have hi' : i < l.length := (List.getElem?_eq_some_iff.1 ho).1
    have := h1 i (by simp at hl; omega)
    simp [Array.getD_eq_getD_getElem?, Array.getElem?_eq_getElem (show i < listed.size by omega)] at this h2
    rw [this] at h2; cases h2
  | o :: rest, k, listed, a, w, hs, hr, hl, h1, h2, h3, h => by
    have hok : l[k]? = some o := by have := hr 0; simpa using this.symm
    have hkl : k < l.length := (List.getElem?_eq_some_iff.1 hok).1
    have hkr : k ∈ Region.ready .any l.toArray listed := by
      refine mem_ready'.2 ⟨?_, o, hok, fun j hj => h1 j ?_⟩
      · have := h2 k (Nat.le_refl _)
        simp [Array.getD_eq_getD_getElem?, Array.getElem?_eq_getElem (show k < listed.size by omega)] at this ⊢
        exact this
      · have := backB_spec hback k o hok j hj; omega
    refine ⟨fun h0 => (by rw [h0] at hkr; cases hkr), fun i hi => ?_⟩
    obtain ⟨h4, oi, hoi, h5⟩ := mem_ready'.1 hi
    have hi' : i < l.length := (List.getElem?_eq_some_iff.1 hoi).1
    have hik : i = k := by
      by_cases hlt : i < k
      · have := h1 i hlt
        simp [Array.getD_eq_getD_getElem?, Array.getElem?_eq_getElem (show i < listed.size by omega)] at this h4
        rw [this] at h4; cases h4
      · by_cases e : i = k
        · exact e
        · have := h5 _ (h3 i oi (by omega) hoi)
          rw [h2 (i - 1) (by omega)] at this; cases this
    subst hik
    have hset : ∀ j, (listed.setIfInBounds i true).getD j false = if j = i then true else listed.getD j false := by
      intro j
      simp only [Array.getD_eq_getD_getElem?, Array.getElem?_setIfInBounds]
      by_cases e : j = i
      · subst e; rw [if_pos rfl, if_pos (by omega)]; simp
      · rw [if_neg (fun h => e h.symm), if_neg e]
    have ih := fun a' w' => any_of_list (Q' := Q') hback rest (i + 1) (listed.setIfInBounds i true) a' w' (by simpa using hs) (fun j => by have := hr (j + 1); simpa [Nat.add_assoc, Nat.add_comm 1 j] using this) (by simp at hl; omega)
      (fun j hj => by
        rw [hset]
        by_cases e : j = i
        · rw [if_pos e]
        · rw [if_neg e]; exact h1 j (by omega))
      (fun j hj => by rw [hset, if_neg (by omega)]; exact h2 j (by omega)) (fun j oj hj hoj => h3 j oj (by omega) hoj)
    have hop : l.toArray[i]? = some o := by simpa using hok
    unfold wpOp
    simp only [hop]
    unfold wpList at h
    split at h
    · rename_i hw
      rw [if_pos hw]
      exact h.imp (Oper.wp_mono fun a' w' hh => ih a' w' hh) id
    · rename_i hw
      rw [if_neg hw]; exact ih _ _ h

def noMenS (k : Nat) (s : AS) : Bool := (s.t.all fun p => !AV.men k p.2) && s.h.all fun p => !AO.men k p.2
theorem lk_all {α : Type} {d : α} {p : α → Bool} (hd : p d = true) : ∀ {l : List (Nat × α)}, l.all (fun x => p x.2) = true → ∀ i, p (lk d l i) = true
  | [], _, i => hd
  | (j, u) :: l, h, i => by
    simp only [List.all_cons, Bool.and_eq_true] at h
    simp only [lk]
    cases Nat.beq i j with
    | true => exact h.1
    | false => exact lk_all hd h.2 i
theorem noMenS_spec {k : Nat} {s : AS} (h : noMenS k s = true) : Free k s := by
  simp only [noMenS, Bool.and_eq_true] at h
  exact ⟨fun t => by have := lk_all (p := fun v => !AV.men k v) (d := .any) rfl h.1 t; simpa using this, fun j => by have := lk_all (p := fun v => !AO.men k v) (d := .gone) rfl h.2 j; simpa using this⟩

def effMen (k : Nat) (e : Eff) : Bool := (e.ws.any fun p => AV.men k p.2) || e.os.any fun p => AO.men k p.2
/-- What is new: nothing leads to it but what comes behind. -/
def freeB (cl : List (List Nat)) (es : List Eff) (s : AS) : Bool := es.zipIdx.all fun (e, i) => e.fr.all fun k => noMenS k s && es.zipIdx.all fun (e', j) => Nat.beq i j || !effMen k e' || (Nat.blt i j && (cl.getD j []).any (Nat.beq i))
def noMenX (k t : Nat) (s : AS) : Bool := (s.t.all fun p => Nat.beq p.1 t || !AV.men k p.2) && s.h.all fun p => !AO.men k p.2
def effMenX (k t : Nat) (e : Eff) : Bool := (e.ws.any fun p => !Nat.beq p.1 t && AV.men k p.2) || e.os.any fun p => AO.men k p.2
def onlyB (cl : List (List Nat)) (es : List Eff) (s : AS) : Bool := es.zipIdx.all fun (e, i) => e.ex.all fun (k, t) => noMenX k t s && es.zipIdx.all fun (e', j) => Nat.beq i j || !effMenX k t e' || (Nat.blt i j && (cl.getD j []).any (Nat.beq i))
theorem lk_allX {α : Type} {d : α} {p : α → Bool} (hd : p d = true) {t : Nat} : ∀ {l : List (Nat × α)}, l.all (fun x => Nat.beq x.1 t || p x.2) = true → ∀ i, i ≠ t → p (lk d l i) = true
  | [], _, i, _ => hd
  | (j, u) :: l, h, i, hi => by
    simp only [List.all_cons, Bool.and_eq_true, Bool.or_eq_true] at h
    simp only [lk]
    cases e : Nat.beq i j with
    | true =>
      have e := beq_t.1 e
      subst e
      rcases h.1 with h1 | h1
      · exact absurd (beq_t.1 h1) hi
      · exact h1
    | false => exact lk_allX hd h.2 i hi
theorem noMenX_spec {k t : Nat} {s : AS} (h : noMenX k t s = true) : Only k t s := by
  simp only [noMenX, Bool.and_eq_true] at h
  exact ⟨fun i hi => by have := lk_allX (p := fun v => !AV.men k v) (d := .any) rfl h.1 i hi; simpa using this, fun j => by have := lk_all (p := fun v => !AO.men k v) (d := .gone) rfl h.2 j; simpa using this⟩
theorem lkO_mem {α : Type} : ∀ {l : List (Nat × α)} {i : Nat} {v : α}, lkO l i = some v → (i, v) ∈ l
  | [], _, _, h => by cases h
  | (k, u) :: l, i, v, h => by
    simp only [lkO] at h
    by_cases e : i = k
    · subst e; rw [Nat.beq_refl] at h; cases h; simp
    · rw [beq_f e] at h; exact List.mem_cons_of_mem _ (lkO_mem h)
theorem effMen_w {k t : Nat} {e : Eff} {v : AV} (h : effMen k e = false) (hv : lkO e.ws t = some v) : AV.men k v = false := by
  simp only [effMen, Bool.or_eq_false_iff] at h
  rw [Bool.eq_false_iff]; intro hc
  have : (e.ws.any fun p => AV.men k p.2) = true := List.any_eq_true.2 ⟨(t, v), lkO_mem hv, hc⟩
  rw [h.1] at this; cases this
theorem effMen_o {k t : Nat} {e : Eff} {v : AO} (h : effMen k e = false) (hv : lkO e.os t = some v) : AO.men k v = false := by
  simp only [effMen, Bool.or_eq_false_iff] at h
  rw [Bool.eq_false_iff]; intro hc
  have : (e.os.any fun p => AO.men k p.2) = true := List.any_eq_true.2 ⟨(t, v), lkO_mem hv, hc⟩
  rw [h.2] at this; cases this
theorem effMenX_w {k t0 t : Nat} {e : Eff} {v : AV} (h : effMenX k t0 e = false) (hv : lkO e.ws t = some v) (ht : t ≠ t0) : AV.men k v = false := by
  simp only [effMenX, Bool.or_eq_false_iff] at h
  rw [Bool.eq_false_iff]; intro hc
  have : (e.ws.any fun p => !Nat.beq p.1 t0 && AV.men k p.2) = true := List.any_eq_true.2 ⟨(t, v), lkO_mem hv, by simp [beq_f ht, hc]⟩
  rw [h.1] at this; cases this
theorem effMenX_o {k t0 t : Nat} {e : Eff} {v : AO} (h : effMenX k t0 e = false) (hv : lkO e.os t = some v) : AO.men k v = false := by
  simp only [effMenX, Bool.or_eq_false_iff] at h
  rw [Bool.eq_false_iff]; intro hc
  have : (e.os.any fun p => AO.men k p.2) = true := List.any_eq_true.2 ⟨(t, v), lkO_mem hv, hc⟩
  rw [h.2] at this; cases this
theorem conf_ww {e1 e2 : Eff} {r1 r2 : List Nat × List AV} {t : Nat} (h1 : lkO e1.ws t ≠ none) (h2 : lkO e2.ws t ≠ none) : conf e1 e2 r1 r2 = true := by
  obtain ⟨p, hp, rfl⟩ := lkO_ex h1
  obtain ⟨q, hq, hq2⟩ := lkO_ex h2
  simp only [conf, Bool.or_eq_true]
  exact .inl (.inl (.inl (List.any_eq_true.2 ⟨p, hp, by rw [Bool.or_eq_true]; exact .inl (List.any_eq_true.2 ⟨q, hq, beq_t.2 hq2.symm⟩)⟩)))
theorem conf_oo {e1 e2 : Eff} {r1 r2 : List Nat × List AV} {t : Nat} (h1 : lkO e1.os t ≠ none) (h2 : lkO e2.os t ≠ none) : conf e1 e2 r1 r2 = true := by
  obtain ⟨p, hp, rfl⟩ := lkO_ex h1
  obtain ⟨q, hq, hq2⟩ := lkO_ex h2
  simp only [conf, Bool.or_eq_true]
  exact .inl (.inr (List.any_eq_true.2 ⟨p, hp, by rw [Bool.or_eq_true]; exact .inl (List.any_eq_true.2 ⟨q, hq, beq_t.2 hq2.symm⟩)⟩))
theorem conf_wr {e1 e2 : Eff} {r1 r2 : List Nat × List AV} {t : Nat} (h1 : lkO e1.ws t ≠ none) (h2 : t ∈ r2.1) : conf e1 e2 r1 r2 = true := by
  obtain ⟨p, hp, rfl⟩ := lkO_ex h1
  simp only [conf, Bool.or_eq_true]
  exact .inl (.inl (.inl (List.any_eq_true.2 ⟨p, hp, by rw [Bool.or_eq_true]; exact .inr (List.any_eq_true.2 ⟨p.1, h2, Nat.beq_refl _⟩)⟩)))
theorem conf_rw {e1 e2 : Eff} {r1 r2 : List Nat × List AV} {t : Nat} (h1 : lkO e2.ws t ≠ none) (h2 : t ∈ r1.1) : conf e1 e2 r1 r2 = true := by
  obtain ⟨p, hp, rfl⟩ := lkO_ex h1
  simp only [conf, Bool.or_eq_true]
  exact .inl (.inl (.inr (List.any_eq_true.2 ⟨p, hp, List.any_eq_true.2 ⟨p.1, h2, Nat.beq_refl _⟩⟩)))
theorem conf_or {e1 e2 : Eff} {r1 r2 : List Nat × List AV} {k : Nat} {v : AV} (h1 : lkO e1.os k ≠ none) (h2 : v ∈ r2.2) (h3 : AV.men k v = true) : conf e1 e2 r1 r2 = true := by
  obtain ⟨p, hp, rfl⟩ := lkO_ex h1
  simp only [conf, Bool.or_eq_true]
  exact .inl (.inr (List.any_eq_true.2 ⟨p, hp, by rw [Bool.or_eq_true]; exact .inr (List.any_eq_true.2 ⟨v, h2, h3⟩)⟩))
theorem conf_ro {e1 e2 : Eff} {r1 r2 : List Nat × List AV} {k : Nat} {v : AV} (h1 : lkO e2.os k ≠ none) (h2 : v ∈ r1.2) (h3 : AV.men k v = true) : conf e1 e2 r1 r2 = true := by
  obtain ⟨p, hp, rfl⟩ := lkO_ex h1
  simp only [conf, Bool.or_eq_true]
  exact .inr (List.any_eq_true.2 ⟨p, hp, List.any_eq_true.2 ⟨v, h2, h3⟩⟩)

theorem Same.symm' {s s' : AS} (h : Same s s') : Same s' s := ⟨h.n.symm, fun i => (h.t i).symm, fun k => (h.h k).symm⟩

/-- A REGION THAT DRAWS ITS ORDER: n operations in whatever order their constraints allow, then the others in theirs. -/
theorem tri_draw {id : Nat} {Q : Exit → AS → Prop} (hm : P.follows .mixedOrders = true) (n : Nat) (es : List Eff) {s s1 : AS} (hchk : (drawB l n es s && freeB (clos l []) es s && onlyB (clos l []) es s) = true) (hch : Chain P l.toArray (l.take n) es s s1)
    (ht : TriL P l.toArray (l.drop n) Q s1) : Tri P (.region id l.toArray true) Q s := fun c a w β κ r => by
  simp only [Bool.and_eq_true, drawB] at hchk
  obtain ⟨⟨⟨⟨⟨⟨c1, c2⟩, c3⟩, c5⟩, c6⟩, c7⟩, c8⟩ := hchk
  have hen : es.length = n := beq_t.1 c1
  have hnl : n ≤ l.length := by simpa [Nat.ble_eq] using c2
  obtain ⟨k1, k2, k3⟩ := hch.loc
  have htk : ∀ i, i < n → (l.take n)[i]? = l[i]? := fun i hi => by rw [List.getElem?_take, if_pos hi]
  -- the constraints on what stands behind
  have htail : (∀ i o, n < i → l[i]? = some o → (i - 1) ∈ aft o) ∧ (n < l.length → ∀ j, j < n → j ∈ (clos l []).getD n []) := by
    cases hd : l.drop n with
    | nil =>
      have hle : l.length ≤ n := by simpa using hd
      exact ⟨fun i o hi ho => by have := (List.getElem?_eq_some_iff.1 ho).1; omega, fun h => by omega⟩
    | cons o0 os =>
      rw [hd] at c6
      simp only [Bool.and_eq_true] at c6
      refine ⟨fun i o hi ho => ?_, fun _ j hj => ?_⟩
      · have hget : os[i - (n + 1)]? = some o := by
          have : (l.drop n)[i - n]? = some o := by rw [List.getElem?_drop, show n + (i - n) = i by omega]; exact ho
          rw [hd, show i - n = (i - (n + 1)) + 1 by omega, List.getElem?_cons_succ] at this
          exact this
        have := tailB_spec c6.2 _ o hget
        rw [show n + (i - (n + 1)) = i - 1 by omega] at this; exact this
      · obtain ⟨x, hx, hb⟩ := List.any_eq_true.1 (List.all_eq_true.1 c6.1 j (mem_idxs hj))
        have : j = x := beq_t.1 hb
        subst this; exact hx
  have main : ∀ (f : Nat) (listed : Array Bool) (a : Act) (w : World) (β : Nat → Nat) (κ : Nat → Nat × Nat), listed.size = l.length → Closed l listed → cntF (listed.toList.take n) = f → (∀ i, n ≤ i → listed.getD i false = false) →
      Rel c (sL es (listed.toList.take n) s) a w β κ → wpAny P .any l.toArray (lift c Q) (f + (l.length - n)) listed a w := by
    intro f
    induction f with
    | zero =>
      intro listed a w β κ hs hcl hcnt hun hr
      have hml : (listed.toList.take n).length = n := by simp; omega
      have hall := cntF_zero hcnt
      rw [hml] at hall
      rw [hall, ← hen, ← k2] at hr
      have hlist := ht c a w β κ hr
      have hdl : (l.drop n).length = l.length - n := by simp
      rw [Nat.zero_add, ← hdl]
      refine any_of_list c5 (l.drop n) n listed a w hs (fun j => by rw [List.getElem?_drop]) (by rw [hdl]; omega) (fun i hi => ?_) hun htail.1 hlist
      have h1 := listed_get (listed := listed) hi (by omega)
      rw [hall, List.getElem?_replicate, if_pos hi] at h1
      exact (Option.some.inj h1).symm
    | succ f ih =>
      intro listed a w β κ hs hcl hcnt hun hr
      have hml : (listed.toList.take n).length = n := by simp; omega
      obtain ⟨i0, hi0⟩ := cntF_pos (bs := listed.toList.take n) (by omega)
      have hi0n : i0 < n := by have := (List.getElem?_eq_some_iff.1 hi0).1; omega
      have hgf : ∀ i, i < n → (listed.toList.take n)[i]? = some (listed.getD i false) := fun i hi => listed_get hi (by omega)
      have hready : ∀ i ∈ Region.ready .any l.toArray listed, i < n ∧ listed.getD i false = false ∧ ∃ o, l[i]? = some o ∧ ∀ j ∈ aft o, listed.getD j false = true := by
        intro i hi
        obtain ⟨h4, o, ho, h5⟩ := mem_ready'.1 hi
        have hil : i < l.length := (List.getElem?_eq_some_iff.1 ho).1
        have h6 : listed.getD i false = false := by
          simp [Array.getD_eq_getD_getElem?, Array.getElem?_eq_getElem (show i < listed.size by omega)] at h4 ⊢
          exact h4
        refine ⟨?_, h6, o, ho, h5⟩
        by_cases hin : i < n
        · exact hin
        · exfalso
          by_cases e : i = n
          · subst e
            have := clos_mem hcl l [] (fun j => by simp) (fun k hk => by simp at hk) (by simpa using c5) i o ho (by simpa using hil) h5 i0 (htail.2 hil i0 hi0n)
            rw [hgf i0 hi0n, this] at hi0; cases hi0
          · have := h5 _ (htail.1 i o (by omega) ho)
            rw [hun (i - 1) (by omega)] at this; cases this
      rw [show f + 1 + (l.length - n) = (f + (l.length - n)) + 1 by omega]
      refine ⟨fun h0 => ?_, fun i hi => ?_⟩
      · -- the first that has not come up is ready
        exfalso
        have hex : ∃ i, i < n ∧ listed.getD i false = false ∧ ∀ j, j < i → listed.getD j false = true := by
          have gen : ∀ m, (∀ j, j < m → listed.getD j false = true) ∨ ∃ i, i < m ∧ listed.getD i false = false ∧ ∀ j, j < i → listed.getD j false = true := by
            intro m
            induction m with
            | zero => exact .inl fun j hj => by omega
            | succ m ihm =>
              rcases ihm with h | ⟨i, h1, h2, h3⟩
              · cases hb : listed.getD m false with
                | true =>
                  refine .inl fun j hj => ?_
                  by_cases e : j = m
                  · rw [e]; exact hb
                  · exact h j (by omega)
                | false => exact .inr ⟨m, by omega, hb, h⟩
              · exact .inr ⟨i, by omega, h2, h3⟩
          rcases gen n with h | ⟨i, h1, h2, h3⟩
          · have := h i0 hi0n
            rw [hgf i0 hi0n, this] at hi0; cases hi0
          · exact ⟨i, h1, h2, h3⟩
        obtain ⟨i, h1, h2, h3⟩ := hex
        have hil : i < l.length := by omega
        have : i ∈ Region.ready .any l.toArray listed := by
          refine mem_ready'.2 ⟨?_, l[i], List.getElem?_eq_getElem hil, fun j hj => h3 j ?_⟩
          · simp [Array.getD_eq_getD_getElem?, Array.getElem?_eq_getElem (show i < listed.size by omega)] at h2 ⊢
            exact h2
          · have := backB_spec c5 i _ (List.getElem?_eq_getElem hil) j hj; omega
        rw [h0] at this; cases this
      · obtain ⟨hin, hif, o, ho, haft⟩ := hready i hi
        obtain ⟨e, he⟩ : ∃ e, es[i]? = some e := ⟨es[i]'(by omega), List.getElem?_eq_getElem (by omega)⟩
        have hloc := k3 i o e (by rw [htk i hin]; exact ho) he
        have hbi : (listed.toList.take n)[i]? = some false := by rw [hgf i hin, hif]
        let lex := (List.range es.length).map fun j => decide (j < i)
        have hlex : ∀ j, j < n → lex[j]? = some (decide (j < i)) := fun j hj => by simp [lex, hen, hj]
        have hlexl : lex.length = (listed.toList.take n).length := by simp [lex, hen]; omega
        -- what stands in the constraints
        have hord : ∀ (j : Nat) (oj : Oper) (ej : Eff), l[j]? = some oj → es[j]? = some ej → j ≠ i →
            (∀ r1 r2, (infos l.toArray (l.take n) es s)[min i j]? = some r1 → (infos l.toArray (l.take n) es s)[max i j]? = some r2 → conf (if i < j then e else ej) (if i < j then ej else e) r1 r2 = true) → (listed.toList.take n)[j]? = lex[j]? := by
          intro j oj ej hoj hej hji hcf
          have hjn : j < n := by have := (List.getElem?_eq_some_iff.1 hej).1; omega
          have i1 := infos_get (ops := l.toArray) (s := s) k1 i o (by rw [htk i hin]; exact ho)
          have i2 := infos_get (ops := l.toArray) (s := s) k1 j oj (by rw [htk j hjn]; exact hoj)
          rw [hgf j hjn, hlex j hjn]
          rcases Nat.lt_or_ge j i with hlt | hge
          · rw [show min i j = j by omega, show max i j = i by omega, if_neg (by omega), if_neg (by omega)] at hcf
            have hm := bernB_spec c3 hej i2 he i1 hlt (hcf _ _ i2 i1)
            have := clos_mem hcl l [] (fun j => by simp) (fun k hk => by simp at hk) (by simpa using c5) i o ho (by simpa using (List.getElem?_eq_some_iff.1 ho).1) haft j hm
            rw [this]; simp [hlt]
          · rw [show min i j = i by omega, show max i j = j by omega, if_pos (by omega), if_pos (by omega)] at hcf
            have hm := bernB_spec c3 he i1 hej i2 (by omega) (hcf _ _ i1 i2)
            have : listed.getD j false = false := by
              cases hb : listed.getD j false with
              | false => rfl
              | true =>
                have := clos_mem hcl l [] (fun j => by simp) (fun k hk => by simp at hk) (by simpa using c5) j oj hoj (by simpa using (List.getElem?_eq_some_iff.1 hoj).1) (hcl j oj hoj hb) i hm
                rw [hif] at this; cases this
            rw [this]; simp; omega
        have hoj : ∀ (j : Nat) (ej : Eff), es[j]? = some ej → ∃ oj, l[j]? = some oj := fun j ej h => by
          have := (List.getElem?_eq_some_iff.1 h).1
          exact ⟨l[j]'(by omega), List.getElem?_eq_getElem (by omega)⟩
        have hii : (listed.toList.take n)[i]? = lex[i]? := by rw [hbi, hlex i hin]; simp
        have hagree : Agree l.toArray o (sL es lex s) (sL es (listed.toList.take n) s) := by
          refine ⟨by rw [sL_n, sL_n], fun t hlt => ?_, fun x hx k hk => ?_⟩
          · rw [sL_t, sL_t, lw_congr hlexl.symm fun j ej h1 h2 => ?_]
            by_cases hji : j = i
            · rw [hji]; exact hii
            obtain ⟨oj, h3⟩ := hoj j ej h1
            refine hord j oj ej h3 h1 hji fun r1 r2 q1 q2 => ?_
            have i1 := infos_get (ops := l.toArray) (s := s) k1 i o (by rw [htk i hin]; exact ho)
            by_cases hlt2 : i < j
            · rw [if_pos hlt2, if_pos hlt2]
              rw [show min i j = i by omega, i1] at q1; cases q1
              exact conf_rw h2 hlt
            · rw [if_neg hlt2, if_neg hlt2]
              rw [show max i j = i by omega, i1] at q2; cases q2
              exact conf_wr h2 hlt
          · rw [sL_h, sL_h, lw_congr hlexl.symm fun j ej h1 h2 => ?_]
            by_cases hji : j = i
            · rw [hji]; exact hii
            obtain ⟨oj, h3⟩ := hoj j ej h1
            refine hord j oj ej h3 h1 hji fun r1 r2 q1 q2 => ?_
            have i1 := infos_get (ops := l.toArray) (s := s) k1 i o (by rw [htk i hin]; exact ho)
            have hxm : (sL es lex s).op x ∈ o.op.operands.toList.map (sL es lex s).op := List.mem_map.2 ⟨x, by simpa using hx, rfl⟩
            by_cases hlt2 : i < j
            · rw [if_pos hlt2, if_pos hlt2]
              rw [show min i j = i by omega, i1] at q1; cases q1
              exact conf_ro h2 hxm hk
            · rw [if_neg hlt2, if_neg hlt2]
              rw [show max i j = i by omega, i1] at q2; cases q2
              exact conf_or h2 hxm hk
        have hfree : ∀ k ∈ e.fr, Free k (sL es (listed.toList.take n) s) := by
          intro k hk
          have h1 := List.all_eq_true.1 (List.all_eq_true.1 c7 (e, i) (by rw [List.mem_iff_getElem?]; exact ⟨i, by simp [he]⟩)) k hk
          simp only [Bool.and_eq_true] at h1
          obtain ⟨f1, f2⟩ := noMenS_spec h1.1
          have hother : ∀ (j : Nat) (e' : Eff), es[j]? = some e' → (listed.toList.take n)[j]? = some true → effMen k e' = false := by
            intro j e' h2 h3
            have hne : i ≠ j := by rintro rfl; rw [hbi] at h3; cases h3
            have h4 := List.all_eq_true.1 h1.2 (e', j) (by rw [List.mem_iff_getElem?]; exact ⟨j, by simp [h2]⟩)
            simp only [beq_f hne, Bool.false_or, Bool.or_eq_true, Bool.not_eq_true', Bool.and_eq_true] at h4
            rcases h4 with h4 | ⟨h4, h5⟩
            · exact h4
            · exfalso
              obtain ⟨x, hx, hb⟩ := List.any_eq_true.1 h5
              have hxi : i = x := beq_t.1 hb
              subst hxi
              obtain ⟨oj, hoj'⟩ := hoj j e' h2
              have hjn : j < n := by have := (List.getElem?_eq_some_iff.1 h2).1; omega
              rw [hgf j hjn] at h3
              have hb2 : listed.getD j false = true := Option.some.inj h3
              have := clos_mem hcl l [] (fun j => by simp) (fun k hk => by simp at hk) (by simpa using c5) j oj hoj' (by simpa using (List.getElem?_eq_some_iff.1 hoj').1) (hcl j oj hoj' hb2) i hx
              rw [hif] at this; cases this
          refine ⟨fun t => ?_, fun t => ?_⟩
          · rw [sL_t]
            cases hv : lw (fun e => lkO e.ws t) es (listed.toList.take n) with
            | none => exact f1 t
            | some v =>
              obtain ⟨j, e', h2, h3, h4⟩ := lw_mem hv
              exact effMen_w (hother j e' h2 h3) h4
          · rw [sL_h]
            cases hv : lw (fun e => lkO e.os t) es (listed.toList.take n) with
            | none => exact f2 t
            | some v =>
              obtain ⟨j, e', h2, h3, h4⟩ := lw_mem hv
              exact effMen_o (hother j e' h2 h3) h4
        have honly : ∀ p ∈ e.ex, Only p.1 p.2 (sL es (listed.toList.take n) s) := by
          rintro ⟨k, t0⟩ hk
          have h1 := List.all_eq_true.1 (List.all_eq_true.1 c8 (e, i) (by rw [List.mem_iff_getElem?]; exact ⟨i, by simp [he]⟩)) (k, t0) hk
          simp only [Bool.and_eq_true] at h1
          obtain ⟨f1, f2⟩ := noMenX_spec h1.1
          have hother : ∀ (j : Nat) (e' : Eff), es[j]? = some e' → (listed.toList.take n)[j]? = some true → effMenX k t0 e' = false := by
            intro j e' h2 h3
            have hne : i ≠ j := by rintro rfl; rw [hbi] at h3; cases h3
            have h4 := List.all_eq_true.1 h1.2 (e', j) (by rw [List.mem_iff_getElem?]; exact ⟨j, by simp [h2]⟩)
            simp only [beq_f hne, Bool.false_or, Bool.or_eq_true, Bool.not_eq_true', Bool.and_eq_true] at h4
            rcases h4 with h4 | ⟨h4, h5⟩
            · exact h4
            · exfalso
              obtain ⟨x, hx, hb⟩ := List.any_eq_true.1 h5
              have hxi : i = x := beq_t.1 hb
              subst hxi
              obtain ⟨oj, hoj'⟩ := hoj j e' h2
              have hjn : j < n := by have := (List.getElem?_eq_some_iff.1 h2).1; omega
              rw [hgf j hjn] at h3
              have hb2 : listed.getD j false = true := Option.some.inj h3
              have := clos_mem hcl l [] (fun j => by simp) (fun k hk => by simp at hk) (by simpa using c5) j oj hoj' (by simpa using (List.getElem?_eq_some_iff.1 hoj').1) (hcl j oj hoj' hb2) i hx
              rw [hif] at this; cases this
          refine ⟨fun t htt => ?_, fun t => ?_⟩
          · rw [sL_t]
            cases hv : lw (fun e => lkO e.ws t) es (listed.toList.take n) with
            | none => exact f1 t htt
            | some v =>
              obtain ⟨j, e', h2, h3, h4⟩ := lw_mem hv
              exact effMenX_w (hother j e' h2 h3) h4 htt
          · rw [sL_h]
            cases hv : lw (fun e => lkO e.os t) es (listed.toList.take n) with
            | none => exact f2 t
            | some v =>
              obtain ⟨j, e', h2, h3, h4⟩ := lw_mem hv
              exact effMenX_o (hother j e' h2 h3) h4
        have hlater : ∀ (j : Nat) (e' : Eff), i < j → es[j]? = some e' → (listed.toList.take n)[j]? = some true → (∀ r1 r2, conf e e' r1 r2 = true) → False := by
          intro j e' hij h1 h2 hcf
          obtain ⟨oj, h3⟩ := hoj j e' h1
          have := hord j oj e' h3 h1 (by omega) fun r1 r2 _ _ => by rw [if_pos hij, if_pos hij]; exact hcf r1 r2
          have hjn : j < n := by have := (List.getElem?_eq_some_iff.1 h1).1; omega
          rw [h2, hlex j hjn] at this
          simp at this; omega
        have hop := hloc _ hagree hfree honly c a w β κ hr (wpAny P .any l.toArray (lift c Q) (f + (l.length - n)) (listed.setIfInBounds i true)) (lift c Q) (fun s' a' w' β' κ' hs' hr' => by
          have hset : ∀ j, (listed.setIfInBounds i true).getD j false = if j = i then true else listed.getD j false := by
            intro j
            simp only [Array.getD_eq_getD_getElem?, Array.getElem?_setIfInBounds]
            by_cases e : j = i
            · subst e; rw [if_pos rfl, if_pos (by omega)]; simp
            · rw [if_neg (fun h => e h.symm), if_neg e]
          have htake : (listed.setIfInBounds i true).toList.take n = (listed.toList.take n).set i true := by
            rw [Array.toList_setIfInBounds, List.take_set]
          refine ih (listed.setIfInBounds i true) a' w' β' κ' (by simpa using hs) (fun j oj hoj hl' j' hj' => ?_) ?_ (fun j hj => ?_) ?_
          · rw [hset]
            by_cases e1 : j' = i
            · rw [if_pos e1]
            · rw [if_neg e1]
              rw [hset] at hl'
              by_cases e2 : j = i
              · subst e2; rw [ho] at hoj; cases hoj; exact haft j' hj'
              · rw [if_neg e2] at hl'; exact hcl j oj hoj hl' j' hj'
          · rw [htake]; have := cntF_set hbi; omega
          · rw [hset, if_neg (by omega)]; exact hun j hj
          · rw [htake]
            exact (hr'.same hs'.symm').same (sL_set he hbi (fun t ht j e' hij h1 h2 => by
              cases hw : lkO e'.ws t with
              | none => rfl
              | some v => exact (hlater j e' hij h1 h2 fun r1 r2 => conf_ww ht (by rw [hw]; simp)).elim) (fun k hk j e' hij h1 h2 => by
              cases hw : lkO e'.os k with
              | none => rfl
              | some v => exact (hlater j e' hij h1 h2 fun r1 r2 => conf_oo hk (by rw [hw]; simp)).elim) s))
        have hopi : l.toArray[i]? = some o := by simpa using ho
        unfold wpOp
        simp only [hopi]
        split
        · rename_i hw; rw [if_pos hw] at hop; exact .inl hop
        · rename_i hw; rw [if_neg hw] at hop; exact hop
  refine wp_region_any hm ?_
  have hrep : ((Array.replicate l.toArray.size false).toList.take n) = List.replicate n false := by
    simp [List.take_replicate]; omega
  have hcf : ∀ n, cntF (List.replicate n false) = n := by
    intro n; induction n with
    | zero => rfl
    | succ n ih => rw [List.replicate_succ, cntF, ih]; simp; omega
  have hs0 : ∀ (es : List Eff) (n : Nat) (s : AS), sL es (List.replicate n false) s = s := by
    intro es
    induction es with
    | nil => intro n s; cases n <;> rfl
    | cons e es ih => intro n s; cases n with
      | zero => rfl
      | succ n => rw [List.replicate_succ, sL]; exact ih n s
  have hrf : ∀ i, (Array.replicate l.toArray.size false).getD i false = false := by
    intro i; simp [Array.getD_eq_getD_getElem?, Array.getElem?_replicate]; split <;> simp
  have := main n (Array.replicate l.toArray.size false) a w.drew β κ (by simp) (fun i o _ h => by rw [hrf] at h; cases h) (by rw [hrep, hcf]) (fun i _ => hrf i) (by rw [hrep, hs0]; exact r.drew)
  rw [show n + (l.length - n) = l.toArray.size by simp; omega] at this
  exact this
end
end Go.Ab
