/- ABSTRACT STATES: how the relation of a state to a world lasts over a write to a slot, a draw, a new object, a store. -/
import Derived.Test.YtjfpcjnopbfekaaGreatDoorAb1
set_option linter.unusedSimpArgs false
set_option linter.unusedVariables false
namespace Go.Ab
open Go.RowKit

theorem Rel.put {P : Program} {c : Cx P} {s : AS} {a : Act} {w : World} {β : Nat → Nat} {κ : Nat → Nat × Nat} (r : Rel c s a w β κ) {t : Nat} (ht : t < s.n) {v : AV} {V : Value} (h : G w (c.XX s.h β) β κ v V) :
    Rel c ⟨s.n, ins t v s.t, s.h⟩ (a.put (some t) V) w β κ := by
  refine ⟨r.df, by simp [Act.put, r.sz], fun i => ?_, r.hp⟩
  rw [lk_ins]
  by_cases hi : i = t
  · subst hi
    have : i < a.tmps.size := by rw [r.sz]; exact ht
    simpa [Act.put, Array.getD_eq_getD_getElem?, Array.getElem?_setIfInBounds, this] using h
  · have := r.tm i
    simpa [hi, Act.put, Array.getD_eq_getD_getElem?, Array.getElem?_setIfInBounds, Ne.symm hi, fun e : t = i => hi e.symm] using this

theorem Rel.put_none {P : Program} {c : Cx P} {s : AS} {a : Act} {w : World} {β : Nat → Nat} {κ : Nat → Nat × Nat} (r : Rel c s a w β κ) (V : Value) : Rel c s (a.put none V) w β κ := r

theorem RelH.drew {P : Program} {c : Cx P} {h : List (Nat × AO)} {w : World} {β : Nat → Nat} {κ : Nat → Nat × Nat} (r : RelH c h w β κ) : RelH c h w.drew β κ := by
  refine ⟨fun k => (r.ob k).mono (w := w) (w' := w.drew) (fun _ _ _ => rfl) (fun _ h _ => h) (fun _ _ => ⟨rfl, rfl⟩) ⟨rfl, rfl⟩ (fun _ => rfl), r.inj, ⟨r.kp.os, r.kp.tape, r.kp.output, r.kp.size, r.kp.block⟩, r.nk, r.nx, r.fix⟩
theorem Rel.drew {P : Program} {c : Cx P} {s : AS} {a : Act} {w : World} {β : Nat → Nat} {κ : Nat → Nat × Nat} (r : Rel c s a w β κ) : Rel c s a w.drew β κ :=
  ⟨r.df, r.sz, fun i => (r.tm i).mono (w := w) (w' := w.drew) (fun _ _ _ => rfl) (fun _ h _ => h) (fun _ _ => ⟨rfl, rfl⟩), r.hp.drew⟩

/-- Fewer slots, fewer objects. -/
theorem own_sel {h : List (Nat × AO)} {β : Nat → Nat} {ks : List Nat} {b : Nat} (ho : own (sel ks h) β b) : own h β b := by
  obtain ⟨k, hl, hb⟩ := ho
  rcases lk_sel .gone ks h k with e | e
  · exact ⟨k, by rw [← e]; exact hl, hb⟩
  · rw [e] at hl; exact hl.elim

theorem live_sel {h : List (Nat × AO)} {ks : List Nat} {k : Nat} (hl : (lk .gone (sel ks h) k).live) : lk .gone (sel ks h) k = lk .gone h k ∧ (lk .gone h k).live := by
  rcases lk_sel .gone ks h k with e | e
  · exact ⟨e, by rw [← e]; exact hl⟩
  · rw [e] at hl; exact hl.elim

theorem RelH.sel {P : Program} {c : Cx P} {h : List (Nat × AO)} {w : World} {β : Nat → Nat} {κ : Nat → Nat × Nat} (r : RelH c h w β κ) (ks : List Nat) : RelH c (sel ks h) w β κ := by
  have hx : ∀ b, ¬ c.XX h β b → b < w.heap.size → ¬ c.XX (Ab.sel ks h) β b := fun b hb _ hb' => hb (hb'.imp id own_sel)
  refine ⟨fun k => ?_, fun k k' hl hl' e => r.inj k k' (live_sel hl).2 (live_sel hl').2 e, r.kp, fun k hl => r.nk k (live_sel hl).2, fun k hl => r.nx k (live_sel hl).2, r.fix⟩
  rcases lk_sel .gone ks h k with e | e
  · rw [e]; exact (r.ob k).mono (fun _ _ _ => rfl) hx (fun _ _ => ⟨rfl, rfl⟩) ⟨rfl, rfl⟩ (fun _ => rfl)
  · rw [e]; trivial

theorem Rel.sel {P : Program} {c : Cx P} {s : AS} {a : Act} {w : World} {β : Nat → Nat} {κ : Nat → Nat × Nat} (r : Rel c s a w β κ) (ts hs : List Nat) : Rel c ⟨s.n, sel ts s.t, sel hs s.h⟩ a w β κ := by
  have hx : ∀ b, ¬ c.XX s.h β b → b < w.heap.size → ¬ c.XX (Ab.sel hs s.h) β b := fun b hb _ hb' => hb (hb'.imp id own_sel)
  refine ⟨r.df, r.sz, fun i => ?_, r.hp.sel hs⟩
  rcases lk_sel .any ts s.t i with e | e
  · show G w _ β κ (lk .any (Ab.sel ts s.t) i) _
    rw [e]; exact (r.tm i).mono (fun _ _ _ => rfl) hx (fun _ _ => ⟨rfl, rfl⟩)
  · show G w _ β κ (lk .any (Ab.sel ts s.t) i) _
    rw [e]; exact .d (.any _)

/-! ### what leads to a key is forgotten -/
def AV.pg (k : Nat) (v : AV) : AV := bif AV.men k v then .any else v
def AO.pg (k : Nat) : AO → AO
  | .gone => .gone
  | .cells e cs => .cells e (cs.map (AV.pg k))
  | .row e sz xs => .row e sz xs
  | .room e sz => .room e sz
  | .smap K E es => .smap K E es
  | .iter es seen => .iter es seen
def pgT (k : Nat) (t : List (Nat × AV)) : List (Nat × AV) := t.map fun p => (p.1, AV.pg k p.2)
def pgH (k : Nat) (h : List (Nat × AO)) : List (Nat × AO) := h.map fun p => (p.1, AO.pg k p.2)

theorem lk_map {α : Type} (d : α) (f : α → α) (hd : f d = d) (l : List (Nat × α)) (i : Nat) : lk d (l.map fun p => (p.1, f p.2)) i = f (lk d l i) := by
  induction l with
  | nil => simp [lk, hd]
  | cons p l ih =>
    obtain ⟨j, u⟩ := p
    simp only [List.map_cons, lk, ih]
    cases Nat.beq i j <;> rfl

theorem AV.men_pg (k : Nat) (v : AV) : AV.men k (AV.pg k v) = false := by
  unfold AV.pg
  cases h : AV.men k v <;> simp [h, AV.men_any]
theorem AV.men_pg' {j k : Nat} {v : AV} (h : AV.men j (AV.pg k v) = true) : AV.men j v = true := by
  unfold AV.pg at h
  cases h' : AV.men k v <;> rw [h'] at h
  · exact h
  · simp [AV.men_any] at h
theorem G.pg {w : World} {X : Nat → Prop} {β : Nat → Nat} {κ : Nat → Nat × Nat} {v : AV} {V : Value} (k : Nat) (h : G w X β κ v V) : G w X β κ (AV.pg k v) V := by
  unfold AV.pg
  cases AV.men k v
  · exact h
  · exact .d (.any _)

theorem getD_map {α β : Type} (f : α → β) (l : List α) (i : Nat) (d : α) (d' : β) (hd : f d = d') : (l.map f).getD i d' = f (l.getD i d) := by
  simp only [List.getD_eq_getElem?_getD, List.getElem?_map]
  cases l[i]? <;> simp [hd]

theorem menL_pg (k : Nat) : ∀ cs : List AV, AV.menL k (cs.map (AV.pg k)) = false
  | [] => rfl
  | c :: cs => by simp [AV.menL, AV.men_pg, menL_pg k cs]
theorem menL_pg' {j k : Nat} : ∀ {cs : List AV}, AV.menL j (cs.map (AV.pg k)) = true → AV.menL j cs = true
  | [], h => by simp [AV.menL] at h
  | c :: cs, h => by
    simp only [List.map_cons, AV.menL, Bool.or_eq_true] at h ⊢
    exact h.imp AV.men_pg' menL_pg'
theorem AO.men_pg (k : Nat) (o : AO) : AO.men k (AO.pg k o) = false := by
  cases o with
  | gone => rfl
  | cells e cs => exact menL_pg k cs
  | row e sz xs => rfl
  | smap K E es => rfl
  | iter es seen => rfl
  | room _ _ => rfl
theorem AO.men_pg' {j k : Nat} {o : AO} (h : AO.men j (AO.pg k o) = true) : AO.men j o = true := by
  cases o with
  | gone => exact h
  | cells e cs => exact menL_pg' h
  | row e sz xs => exact h
  | smap K E es => exact h
  | iter es seen => exact h
  | room _ _ => exact h
theorem AO.live_pg (k : Nat) (o : AO) : (AO.pg k o).live = o.live := by cases o <;> simp [AO.live, AO.pg]

theorem HO.pg {w : World} {X : Nat → Prop} {β : Nat → Nat} {κ : Nat → Nat × Nat} {k j : Nat} {o : AO} (h : HO w X β κ k o) : HO w X β κ k (AO.pg j o) := by
  cases o with
  | gone => trivial
  | cells e cs =>
    obtain ⟨cur, h1, h2, h3⟩ := h
    exact ⟨cur, h1, by simp [h2], fun i hi => by rw [getD_map (AV.pg j) cs i .any .any rfl]; exact (h3 i (by simpa using hi)).pg j⟩
  | row e sz xs => exact h
  | smap K E es => exact h
  | iter es seen => exact h
  | room _ _ => exact h

theorem lk_pgT (k : Nat) (t : List (Nat × AV)) (i : Nat) : lk .any (pgT k t) i = AV.pg k (lk .any t i) := lk_map .any (AV.pg k) rfl t i
theorem lk_pgH (k : Nat) (h : List (Nat × AO)) (i : Nat) : lk .gone (pgH k h) i = AO.pg k (lk .gone h i) := lk_map .gone (AO.pg k) rfl h i
theorem own_pgH (k : Nat) (h : List (Nat × AO)) (β : Nat → Nat) : own (pgH k h) β = own h β := by
  funext b; simp [own, lk_pgH, AO.live_pg]

theorem RelH.pg {P : Program} {c : Cx P} {h : List (Nat × AO)} {w : World} {β : Nat → Nat} {κ : Nat → Nat × Nat} (r : RelH c h w β κ) (k : Nat) : RelH c (pgH k h) w β κ := by
  refine ⟨fun j => ?_, fun i j hi hj e => r.inj i j (by simpa [lk_pgH, AO.live_pg] using hi) (by simpa [lk_pgH, AO.live_pg] using hj) e, r.kp, fun j hj => r.nk j (by simpa [lk_pgH, AO.live_pg] using hj),
    fun j hj => r.nx j (by simpa [lk_pgH, AO.live_pg] using hj), r.fix⟩
  rw [lk_pgH]
  have : c.XX (pgH k h) β = c.XX h β := by funext b; simp [Cx.XX, own_pgH]
  rw [this]
  exact (r.ob j).pg
theorem Rel.pg {P : Program} {c : Cx P} {s : AS} {a : Act} {w : World} {β : Nat → Nat} {κ : Nat → Nat × Nat} (r : Rel c s a w β κ) (k : Nat) : Rel c ⟨s.n, pgT k s.t, pgH k s.h⟩ a w β κ := by
  have : c.XX (pgH k s.h) β = c.XX s.h β := by funext b; simp [Cx.XX, own_pgH]
  refine ⟨r.df, r.sz, fun i => ?_, r.hp.pg k⟩
  show G w (c.XX (pgH k s.h) β) β κ (lk .any (pgT k s.t) i) _
  rw [lk_pgT, this]
  exact (r.tm i).pg k

/-! ### a new object at a key -/
def upd {α : Type} (f : Nat → α) (k : Nat) (v : α) : Nat → α := fun i => if i = k then v else f i
theorem upd_same {α : Type} (f : Nat → α) (k : Nat) (v : α) : upd f k v k = v := by simp [upd]
theorem upd_ne {α : Type} (f : Nat → α) {k : Nat} {v : α} {i : Nat} (h : i ≠ k) : upd f k v i = f i := by simp [upd, h]

theorem heap_old (w : World) (o : Obj) {b : Nat} (h : b < w.heap.size) : (w.alloc o).heap[b]? = w.heap[b]? := Below.heap_alloc w o b h

/-- What is at hand stays so where a key is bound anew, to a block that is new, and nothing leads to that key. -/
theorem RelH.anew {P : Program} {c : Cx P} {h : List (Nat × AO)} {w w' : World} {β : Nat → Nat} {κ : Nat → Nat × Nat} (r : RelH c h w β κ) {k : Nat} (hk : k < 1000) (hm : ∀ j, j ≠ k → AO.men k (lk .gone h j) = false) (b : Nat) (cap : Nat × Nat) {o : AO}
    (hb : w.heap.size ≤ b) (hw : ∀ i, i < w.heap.size → w'.heap[i]? = w.heap[i]?) (hkp : Keeps c.K w w')
    (ho : HO w' (c.XX (ins k o h) (upd β k b)) (upd β k b) (upd κ k cap) k o) :
    RelH c (ins k o h) w' (upd β k b) (upd κ k cap) ∧
    ∀ {v : AV} {V : Value}, G w (c.XX h β) β κ v V → AV.men k v = false → G w' (c.XX (ins k o h) (upd β k b)) (upd β k b) (upd κ k cap) v V := by
  have hX : ∀ i, ¬ c.XX h β i → i < w.heap.size → ¬ c.XX (ins k o h) (upd β k b) i := by
    rintro i hi hlt (hx | ⟨j, hl, hj⟩)
    · exact hi (.inl hx)
    · by_cases e : j = k
      · subst e; rw [upd_same] at hj; omega
      · rw [upd_ne β e] at hj
        rw [lk_ins, if_neg e] at hl
        exact hi (.inr ⟨j, hl, hj⟩)
  have hw2 : ∀ i, ¬ c.XX h β i → i < w.heap.size → w'.heap[i]? = w.heap[i]? := fun i _ => hw i
  have hlt : c.W.heap.size ≤ w.heap.size := r.kp.size
  refine ⟨⟨fun j => ?_, fun i j hi hj e => ?_, r.kp.trans hkp (fun _ h => h), fun j hj => ?_, fun j hj => ?_, fun j hj => ?_⟩, fun {v V} hg hmv => hg.mono hw2 hX fun j hj => ?_⟩
  · rw [lk_ins]
    by_cases e : j = k
    · subst e; simpa using ho
    · rw [if_neg e]
      refine (r.ob j).mono hw2 hX (fun i hi => ?_) ⟨upd_ne β e, upd_ne κ e⟩ (fun hl => hw _ (r.lt hl))
      have : i ≠ k := fun e2 => by subst e2; rw [hm j e] at hi; cases hi
      exact ⟨upd_ne β this, upd_ne κ this⟩
  · rw [lk_ins] at hi hj
    by_cases e1 : i = k <;> by_cases e2 : j = k
    · rw [e1, e2]
    · rw [if_neg e2] at hj
      rw [e1, upd_same, upd_ne β e2] at e
      have := r.lt hj; omega
    · rw [if_neg e1] at hi
      rw [e2, upd_same, upd_ne β e1] at e
      have := r.lt hi; omega
    · rw [if_neg e1] at hi; rw [if_neg e2] at hj
      rw [upd_ne β e1, upd_ne β e2] at e
      exact r.inj i j hi hj e
  · rw [lk_ins] at hj
    by_cases e : j = k
    · subst e; rw [upd_same]; intro hk'; have := c.hK _ hk'; omega
    · rw [if_neg e] at hj; rw [upd_ne β e]; exact r.nk j hj
  · rw [lk_ins] at hj
    by_cases e : j = k
    · subst e; rw [upd_same]; intro hk'; have := c.hX _ hk'; omega
    · rw [if_neg e] at hj; rw [upd_ne β e]; exact r.nx j hj
  · have : j ≠ k := by omega
    rw [upd_ne β this, upd_ne κ this]; exact r.fix j hj
  · have : j ≠ k := fun e2 => by subst e2; rw [hmv] at hj; cases hj
    exact ⟨upd_ne β this, upd_ne κ this⟩
end Go.Ab
