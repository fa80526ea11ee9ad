/- ABSTRACT STATES: one state stands for all that another one stands for (Cv); frames; a whole path through code as one computation. -/
import Derived.Test.YtjfpcjnopbfekaaGreatDoorAb21
set_option linter.unusedSimpArgs false
set_option linter.unusedVariables false
namespace Go.Ab
open Go.RowKit

/-! ### one state for another -/
def Cv (s s' : AS) : Prop := ∀ (P : Program) (c : Cx P) (a : Act) (w : World) (β : Nat → Nat) (κ : Nat → Nat × Nat), Rel c s a w β κ → ∃ β' κ', Rel c s' a w β' κ'
theorem Cv.refl (s : AS) : Cv s s := fun _ _ _ _ β κ r => ⟨β, κ, r⟩
theorem Cv.trans {s s' s'' : AS} (h : Cv s s') (h' : Cv s' s'') : Cv s s'' := fun P c a w β κ r => by
  obtain ⟨β', κ', r'⟩ := h _ c a w β κ r
  exact h' _ c a w β' κ' r'
theorem Cv.only (s : AS) (ts hs : List Nat) : Cv s (s.only ts hs) := fun _ _ _ _ β κ r => ⟨β, κ, r.sel ts hs⟩
theorem Cv.frz {s s' : AS} {k : Nat} (h : s.frz k = some s') : Cv s s' := fun _ _ _ _ β κ r => ⟨β, κ, r.frz h⟩
theorem Cv.frzM {s s' : AS} {k : Nat} {p : Prop} (h : s.frzM k = some (p, s')) (hp : p) : Cv s s' := fun _ _ _ _ β κ r => ⟨β, κ, r.frzM h hp⟩
theorem Cv.erow {s s' : AS} {t k : Nat} {e : TypeId} {sz : Nat} (h : s.erow t k e sz = some s') : Cv s s' := fun _ _ _ _ β κ r => by
  obtain ⟨κ', r'⟩ := r.erow h
  exact ⟨β, κ', r'⟩
theorem Cv.tri {P : Program} {cd : Code} {Q : Exit → AS → Prop} {s s' : AS} (h : Cv s s') (ht : Tri P cd Q s') : Tri P cd Q s := fun c a w β κ r => by
  obtain ⟨β', κ', r'⟩ := h _ c a w β κ r
  exact ht c a w β' κ' r'

/-- In a cell of an object. -/
theorem Cv.wkT (s : AS) (t : Nat) (p : List (Nat × Nat)) : Cv s (s.wkT t p) := fun _ _ _ _ β κ r => ⟨β, κ, r.wkT t p⟩
def AO.wk (i : Nat) (p : List (Nat × Nat)) : AO → AO
  | .cells e cs => .cells e (modAt (AV.wk p) i cs)
  | o => o
def AS.wkH (s : AS) (k i : Nat) (p : List (Nat × Nat)) : AS := ⟨s.n, s.t, s.h.map fun q => (q.1, bif Nat.beq q.1 k then AO.wk i p q.2 else q.2)⟩
theorem lk_mapAt {α : Type} (d : α) (f : α → α) (hd : f d = d) (k : Nat) (l : List (Nat × α)) (i : Nat) : lk d (l.map fun q => (q.1, bif Nat.beq q.1 k then f q.2 else q.2)) i = if i = k then f (lk d l i) else lk d l i := by
  induction l with
  | nil => simp [lk, hd]
  | cons p l ih =>
    obtain ⟨j, u⟩ := p
    simp only [List.map_cons, lk]
    by_cases h : i = j
    · subst h
      rw [Nat.beq_refl]
      simp only [cond_true]
      by_cases h2 : i = k
      · subst h2; simp
      · rw [beq_f h2, if_neg h2]; rfl
    · rw [beq_f h]
      simp only [cond_false]
      exact ih
theorem lk_wkH (s : AS) (k i : Nat) (p : List (Nat × Nat)) (j : Nat) : lk .gone (s.wkH k i p).h j = if j = k then AO.wk i p (lk .gone s.h j) else lk .gone s.h j := lk_mapAt .gone (AO.wk i p) rfl k s.h j
theorem AO.live_wk (i : Nat) (p : List (Nat × Nat)) (o : AO) : (AO.wk i p o).live = o.live := by cases o <;> rfl
theorem Cv.wkH (s : AS) (k i : Nat) (p : List (Nat × Nat)) : Cv s (s.wkH k i p) := fun P c a w β κ r => by
  have hlive : ∀ j, (lk .gone (s.wkH k i p).h j).live = (lk .gone s.h j).live := fun j => by
    rw [lk_wkH]; split
    · rw [AO.live_wk]
    · rfl
  have hown : own (s.wkH k i p).h β = own s.h β := by funext b; simp [own, hlive]
  have hX : c.XX (s.wkH k i p).h β = c.XX s.h β := by funext b; simp [Cx.XX, hown]
  refine ⟨β, κ, r.df, r.sz, fun j => ?_, ⟨fun j => ?_, fun a b ha hb e => r.hp.inj a b (by rw [hlive] at ha; exact ha) (by rw [hlive] at hb; exact hb) e, r.hp.kp, fun j hj => r.hp.nk j (by rw [hlive] at hj; exact hj), fun j hj => r.hp.nx j (by rw [hlive] at hj; exact hj), r.hp.fix⟩⟩
  · rw [hX]; exact r.tm j
  · rw [hX, lk_wkH]
    have h := r.hp.ob j
    split
    · generalize lk .gone s.h j = o at h
      cases o with
      | cells e cs =>
        obtain ⟨cur, h1, h2, h3⟩ := h
        exact ⟨cur, h1, by rw [modAt_len]; exact h2, fun l hl => modAt_all (R := fun x => G w (c.XX s.h β) β κ x (cur.getD l undef)) (fun x hx => hx.wk p) i cs l (h3 l (by rw [modAt_len] at hl; exact hl))⟩
      | _ => exact h
    · exact h

/-! ### other names for the own memory -/
def idps (ps : List (Nat × Nat)) : Bool := ps.all fun p => bif Nat.beq p.1 p.2 then true else Nat.blt p.2 1000
/-- The objects that are named in ps, under other keys; nothing else is kept. -/
def AS.ren (s : AS) (ps : List (Nat × Nat)) : AS := ⟨s.n, s.t.map fun q => (q.1, AV.ren ps q.2), hand ps s.h⟩
theorem Cv.ren (s : AS) (ps : List (Nat × Nat)) (hps : (inj2 ps && idps ps) = true) : Cv s (s.ren ps) := fun P c a w β κ r => by
  simp only [Bool.and_eq_true] at hps
  obtain ⟨hinj, hid⟩ := hps
  have hbig : ∀ {k j}, rk ps k = some j → 1000 ≤ j → k = j := fun {k j} h hj => by
    have := List.all_eq_true.1 hid _ (rk_mem h)
    cases e : Nat.beq k j with
    | true => exact beq_t.1 e
    | false =>
      simp only [e, cond_false, Nat.blt_eq] at this
      omega
  let β' : Nat → Nat := fun j => match rk (swp ps) j with | some k => β k | none => β j
  let κ' : Nat → Nat × Nat := fun j => match rk (swp ps) j with | some k => κ k | none => κ j
  have hβ : ∀ k j, rk ps k = some j → β' j = β k ∧ κ' j = κ k := by
    intro k j h
    have := (rk_swp hinj).2 h
    exact ⟨by simp only [β', this], by simp only [κ', this]⟩
  have hlk : ∀ j, lk .gone (hand ps s.h) j = match rk (swp ps) j with | some k => AO.ren ps (lk .gone s.h k) | none => .gone := fun j => lk_hand hinj j
  have hlive : ∀ j, (lk .gone (hand ps s.h) j).live → ∃ k, rk ps k = some j ∧ (lk .gone s.h k).live ∧ β' j = β k := fun j h1 => by
    rw [hlk] at h1
    cases e : rk (swp ps) j with
    | none => rw [e] at h1; exact h1.elim
    | some k =>
      rw [e] at h1
      exact ⟨k, (rk_swp hinj).1 e, live_ren.1 h1, by simp only [β', e]⟩
  have hown : ∀ b, own (hand ps s.h) β' b → own s.h β b := by
    rintro b ⟨j, h1, h2⟩
    obtain ⟨k, _, h3, h4⟩ := hlive j h1
    exact ⟨k, h3, by rw [← h4]; exact h2⟩
  have hX : ∀ b, ¬ c.XX s.h β b → b < w.heap.size → ¬ c.XX (hand ps s.h) β' b := fun b hb _ hb' => hb (hb'.imp id (hown b))
  refine ⟨β', κ', r.df, r.sz, fun i => ?_, ⟨fun j => ?_, fun i j hi hj e => ?_, r.hp.kp, fun j hj => ?_, fun j hj => ?_, fun j hj => ?_⟩⟩
  · show G w (c.XX (hand ps s.h) β') β' κ' (lk .any (s.t.map fun q => (q.1, AV.ren ps q.2)) i) _
    rw [lk_map .any (AV.ren ps) rfl]
    exact (r.tm i).ren hβ hX
  · show HO w (c.XX (hand ps s.h) β') β' κ' j (lk .gone (hand ps s.h) j)
    rw [hlk]
    cases e : rk (swp ps) j with
    | none => trivial
    | some k => exact (r.hp.ob k).ren hβ hX (hβ _ _ ((rk_swp hinj).1 e))
  · obtain ⟨k1, a1, a2, a3⟩ := hlive i hi
    obtain ⟨k2, b1, b2, b3⟩ := hlive j hj
    have : k1 = k2 := r.hp.inj k1 k2 a2 b2 (by rw [← a3, ← b3]; exact e)
    subst this
    rw [a1] at b1; exact Option.some.inj b1
  · obtain ⟨k, _, a2, a3⟩ := hlive j hj
    rw [a3]; exact r.hp.nk k a2
  · obtain ⟨k, _, a2, a3⟩ := hlive j hj
    rw [a3]; exact r.hp.nx k a2
  · cases e : rk (swp ps) j with
    | none => simp only [β', κ', e]; exact r.hp.fix j hj
    | some k =>
      have := hbig ((rk_swp hinj).1 e) hj
      subst this
      simp only [β', κ', e]; exact r.hp.fix k hj

/-- An empty slice in a cell of an object as a row without elements at the key k'. -/
def AS.erowH (s : AS) (k i k' : Nat) (e : TypeId) (sz : Nat) : Option AS :=
  match lk .gone (pgH k' s.h) k with
  | .cells e2 cs => match cs.getD i .any with
    | .eslice => bif Nat.blt k' 1000 && !Nat.beq k k' then some ⟨s.n, pgT k' s.t, ins k' (.row e sz []) (ins k (.cells e2 (modAt (fun _ => .rslice k') i cs)) (pgH k' s.h))⟩ else none
    | _ => none
  | _ => none
theorem modAt_at {α : Type} (f : α → α) (d : α) : ∀ (i : Nat) (l : List α) (j : Nat), (modAt f i l).getD j d = if j = i ∧ i < l.length then f (l.getD j d) else l.getD j d
  | _, [], j => by simp [modAt]
  | 0, x :: xs, 0 => by simp [modAt]
  | 0, x :: xs, j + 1 => by simp [modAt]
  | i + 1, x :: xs, 0 => by simp [modAt]
  | i + 1, x :: xs, j + 1 => by
    have := modAt_at f d i xs j
    simpa [modAt] using this
theorem Cv.erowH {s s' : AS} {k i k' : Nat} {e : TypeId} {sz : Nat} (h : s.erowH k i k' e sz = some s') : Cv s s' := fun P c a w β κ r => by
  unfold AS.erowH at h
  split at h
  · rename_i e2 cs hk
    split at h
    · rename_i hi
      obtain ⟨hc, h⟩ := bif_some h
      cases h
      rw [Bool.and_eq_true] at hc
      have hk' : k' < 1000 := by simpa [Nat.blt_eq] using hc.1
      have hkk : k ≠ k' := fun e => by have := hc.2; rw [e, Nat.beq_refl] at this; cases this
      have r' := r.pg k'
      let h2 := ins k' (AO.row e sz []) (ins k (.cells e2 (modAt (fun _ => .rslice k') i cs)) (pgH k' s.h))
      have hl : ∀ j, lk AO.gone h2 j = if j = k' then .row e sz [] else if j = k then .cells e2 (modAt (fun _ => .rslice k') i cs) else lk .gone (pgH k' s.h) j := fun j => by
        show lk AO.gone (ins k' _ _) j = _
        rw [lk_ins, lk_ins]
      have hlive : ∀ {j}, (lk AO.gone h2 j).live → (lk .gone (pgH k' s.h) j).live := by
        intro j hl2
        rw [hl] at hl2
        by_cases ej : j = k'
        · rw [if_pos ej] at hl2; exact absurd rfl hl2
        · rw [if_neg ej] at hl2
          by_cases ej2 : j = k
          · rw [ej2, hk]; trivial
          · rw [if_neg ej2] at hl2; exact hl2
      have hX : ∀ b, ¬ c.XX (pgH k' s.h) β b → b < w.heap.size → ¬ c.XX h2 β b := by
        rintro b hb _ (hx | ⟨j, hl, hj⟩)
        · exact hb (.inl hx)
        · exact hb (.inr ⟨j, hlive hl, hj⟩)
      have hT : ∀ {v : AV} {V : Value}, G w (c.XX (pgH k' s.h) β) β κ v V → AV.men k' v = false → G w (c.XX h2 β) β (upd κ k' (0, 0)) v V := fun hg hm =>
        hg.mono (w' := w) (fun _ _ _ => rfl) hX (fun j hj => ⟨rfl, upd_ne κ (fun e => by rw [e, hm] at hj; cases hj)⟩)
      refine ⟨β, upd κ k' (0, 0), r.df, r.sz, fun i => ?_, ⟨fun j => ?_, fun i j hi hj e => r'.hp.inj i j (hlive hi) (hlive hj) e, r.hp.kp, fun j hj => r'.hp.nk j (hlive hj), fun j hj => r'.hp.nx j (hlive hj), fun j hj => ?_⟩⟩
      · exact hT (r'.tm i) (by show AV.men k' (lk .any (pgT k' s.t) i) = false; rw [lk_pgT, AV.men_pg])
      · show HO w (c.XX h2 β) β (upd κ k' (0, 0)) j (lk AO.gone h2 j)
        rw [hl]
        by_cases ej : j = k'
        · rw [if_pos ej, ej]; exact ⟨by rw [upd_same]; rfl, fun h => absurd rfl h⟩
        · rw [if_neg ej]
          by_cases ej2 : j = k
          · rw [if_pos ej2, ej2]
            have ho := r'.hp.ob k
            have hmen : AO.men k' (lk .gone (pgH k' s.h) k) = false := by rw [lk_pgH]; exact AO.men_pg k' _
            rw [hk] at ho hmen
            obtain ⟨cur, g1, g2, g3⟩ := ho
            refine ⟨cur, g1, by rw [modAt_len]; exact g2, fun l hl2 => ?_⟩
            rw [modAt_len] at hl2
            rw [modAt_at]
            have g4 := g3 l hl2
            have hm2 : AV.men k' (cs.getD l .any) = false := by
              cases hb : AV.men k' (cs.getD l .any) with
              | false => rfl
              | true => have := menL_getD hl2 hb; rw [show AV.menL k' cs = false from hmen] at this; cases this
            by_cases el : l = i ∧ i < cs.length
            · rw [if_pos el]
              rw [el.1, hi] at g4
              obtain ⟨ad, e1⟩ := g4.eslice_inv
              rw [el.1, e1]
              exact .rslice0 k' ad (by rw [upd_same])
            · rw [if_neg el]; exact hT g4 hm2
          · rw [if_neg ej2]
            exact (r'.hp.ob j).mono (w' := w) (fun _ _ _ => rfl) hX (fun i hi => ⟨rfl, upd_ne κ (fun e => by
              rw [e] at hi
              have : AO.men k' (lk .gone (pgH k' s.h) j) = true := hi
              rw [lk_pgH, AO.men_pg] at this; cases this)⟩) ⟨rfl, upd_ne κ ej⟩ (fun _ => rfl)
      · have : j ≠ k' := by omega
        rw [upd_ne κ this]; exact r.hp.fix j hj
    · cases h
  · cases h

/-! ### conversions as data -/
inductive Cd where
  | only (ts hs : List Nat)
  | fz (k : Nat)
  | er (t k : Nat) (e : TypeId) (sz : Nat)
  | wk (t : Nat) (p : List (Nat × Nat))
  | wkH (k i : Nat) (p : List (Nat × Nat))
  | ren (ps : List (Nat × Nat))
  | erH (k i k' : Nat) (e : TypeId) (sz : Nat)
def conv : List Cd → AS → Option AS
  | [], s => some s
  | .only ts hs :: cs, s => conv cs (s.only ts hs)
  | .fz k :: cs, s => match s.frz k with | some s' => conv cs s' | none => none
  | .er t k e sz :: cs, s => match s.erow t k e sz with | some s' => conv cs s' | none => none
  | .wk t p :: cs, s => conv cs (s.wkT t p)
  | .wkH k i p :: cs, s => conv cs (s.wkH k i p)
  | .erH k i k' e sz :: cs, s => match s.erowH k i k' e sz with | some s' => conv cs s' | none => none
  | .ren ps :: cs, s => bif inj2 ps && idps ps then conv cs (s.ren ps) else none
theorem conv_sound : ∀ (cs : List Cd) {s s' : AS}, conv cs s = some s' → Cv s s'
  | [], s, s', h => by cases h; exact .refl _
  | .only ts hs :: cs, s, s', h => (Cv.only s ts hs).trans (conv_sound cs h)
  | .fz k :: cs, s, s', h => by
    simp only [conv] at h
    split at h
    · rename_i h1; exact (Cv.frz h1).trans (conv_sound cs h)
    · cases h
  | .er t k e sz :: cs, s, s', h => by
    simp only [conv] at h
    split at h
    · rename_i h1; exact (Cv.erow h1).trans (conv_sound cs h)
    · cases h
  | .wk t p :: cs, s, s', h => (Cv.wkT s t p).trans (conv_sound cs h)
  | .wkH k i p :: cs, s, s', h => (Cv.wkH s k i p).trans (conv_sound cs h)
  | .erH k i k' e sz :: cs, s, s', h => by
    simp only [conv] at h
    split at h
    · rename_i h1; exact (Cv.erowH h1).trans (conv_sound cs h)
    · cases h
  | .ren ps :: cs, s, s', h => by
    obtain ⟨h1, h2⟩ := bif_some h
    exact (Cv.ren s ps h1).trans (conv_sound cs h2)
