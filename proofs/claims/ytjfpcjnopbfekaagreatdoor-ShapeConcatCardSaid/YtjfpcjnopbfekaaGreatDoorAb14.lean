/- ABSTRACT STATES: steps that no operation makes: a row that nobody writes to any more; an empty slice as a row; the same state otherwise listed. -/
import Derived.Test.YtjfpcjnopbfekaaGreatDoorAb13
set_option linter.unusedSimpArgs false
set_option linter.unusedVariables false
namespace Go.Ab
open Go.RowKit
section
variable {P : Program} {Q : Exit → AS → Prop} {s : AS}

/-- The same by every look. -/
structure Same (s s' : AS) : Prop where
  n : s'.n = s.n
  t : ∀ i, lk .any s'.t i = lk .any s.t i
  h : ∀ k, lk .gone s'.h k = lk .gone s.h k
theorem Same.refl (s : AS) : Same s s := ⟨rfl, fun _ => rfl, fun _ => rfl⟩
theorem Same.own {s s' : AS} (e : Same s s') (β : Nat → Nat) : own s'.h β = own s.h β := by
  funext b; simp only [Ab.own, e.h]
theorem Rel.same {c : Cx P} {a : Act} {w : World} {β : Nat → Nat} {κ : Nat → Nat × Nat} {s s' : AS} (r : Rel c s a w β κ) (e : Same s s') : Rel c s' a w β κ := by
  have hx : c.XX s'.h β = c.XX s.h β := by funext b; simp only [Cx.XX, e.own]
  refine ⟨r.df, by rw [e.n]; exact r.sz, fun i => by rw [hx, e.t]; exact r.tm i, ⟨fun k => by rw [hx, e.h]; exact r.hp.ob k, fun k k' hk hk' h => r.hp.inj k k' (by rw [← e.h]; exact hk) (by rw [← e.h]; exact hk') h, r.hp.kp, fun k hk => r.hp.nk k (by rw [← e.h]; exact hk), fun k hk => r.hp.nx k (by rw [← e.h]; exact hk), r.hp.fix⟩⟩

/-- What stands for a slice, for a map, that leads to the object that is replaced by u. -/
def AV.asSl : AV → AV
  | .dslice xs => .dslice xs
  | _ => .any
def AV.asMp : AV → AV
  | .dmap es => .dmap es
  | _ => .any
def AV.sb1 (k : Nat) (u : AV) : AV → AV
  | .rslice j => bif Nat.beq j k then u.asSl else .rslice j
  | .amap j => bif Nat.beq j k then u.asMp else .amap j
  | v => v
def AV.sb2 (k : Nat) (u : AV) : AV → AV
  | .agg cs => .agg (cs.map (AV.sb1 k u))
  | v => AV.sb1 k u v
def AV.sb (k : Nat) (u : AV) : AV → AV
  | .tup vs => .tup (vs.map (AV.sb2 k u))
  | v => AV.sb2 k u v
def AO.sb (k : Nat) (u : AV) : AO → AO
  | .cells e cs => .cells e (cs.map (AV.sb1 k u))
  | o => o
theorem AO.live_sb (k : Nat) (u : AV) (o : AO) : (AO.sb k u o).live = o.live := by cases o <;> rfl

def AS.subst (s : AS) (k : Nat) (u : AV) : AS := ⟨s.n, s.t.map fun p => (p.1, AV.sb k u p.2), rm k (s.h.map fun p => (p.1, AO.sb k u p.2))⟩

theorem Rel.subst {c : Cx P} {a : Act} {w : World} {β : Nat → Nat} {κ : Nat → Nat × Nat} {s : AS} (r : Rel c s a w β κ) {k : Nat} {xs : AV} (hk0 : (∀ j, j ≠ k → (lk .gone s.h j).live → (lk .gone s.h k).live → β j ≠ β k) → (∀ b, ¬ c.XX s.h β b → b < w.heap.size → ¬ c.XX (s.subst k xs).h β b) → ((lk .gone s.h k).live → ¬ c.XX (s.subst k xs).h β (β k)) →
    (∀ V, G w (c.XX s.h β) β κ (.rslice k) V → D w (c.XX (s.subst k xs).h β) xs.asSl V) ∧ (∀ V, G w (c.XX s.h β) β κ (.amap k) V → D w (c.XX (s.subst k xs).h β) xs.asMp V)) : Rel c (s.subst k xs) a w β κ := by
  have hlkt : ∀ i, lk .any (s.t.map fun p => (p.1, AV.sb k xs p.2)) i = AV.sb k xs (lk .any s.t i) := fun i => lk_map .any (AV.sb k xs) rfl s.t i
  have hlkh : ∀ i, lk .gone (s.h.map fun p => (p.1, AO.sb k xs p.2)) i = AO.sb k xs (lk .gone s.h i) := fun i => lk_map .gone (AO.sb k xs) rfl s.h i
  have hlive : ∀ {j}, (lk .gone (rm k (s.h.map fun p => (p.1, AO.sb k xs p.2))) j).live → j ≠ k ∧ (lk .gone s.h j).live := by
    intro j hl
    rw [lk_rm, hlkh] at hl
    by_cases ej : j = k
    · rw [if_pos ej] at hl; exact hl.elim
    · rw [if_neg ej, AO.live_sb] at hl; exact ⟨ej, hl⟩
  let X' := c.XX (rm k (s.h.map fun p => (p.1, AO.sb k xs p.2))) β
  have hX : ∀ b, ¬ c.XX s.h β b → b < w.heap.size → ¬ X' b := by
    rintro b hb _ (hx | ⟨j, hl, hj⟩)
    · exact hb (.inl hx)
    · exact hb (.inr ⟨j, (hlive hl).2, hj⟩)
  have hnX : (lk .gone s.h k).live → ¬ X' (β k) := by
    rintro hlk (hx | ⟨j, hl, hj⟩)
    · exact r.hp.nx k hlk hx
    · exact (hlive hl).1 (r.hp.inj j k (hlive hl).2 hlk hj)
  obtain ⟨hrow, hmap⟩ := hk0 (fun j hj h1 h2 e => hj (r.hp.inj j k h1 h2 e)) hX hnX
  have up : ∀ {v V}, G w (c.XX s.h β) β κ v V → G w X' β κ v V := fun hg => hg.mono (fun _ _ _ => rfl) hX (fun _ _ => ⟨rfl, rfl⟩)
  have hs1 : ∀ {v V}, G w (c.XX s.h β) β κ v V → G w X' β κ (AV.sb1 k xs v) V := by
    intro v V hg
    unfold AV.sb1
    split
    · rename_i j
      by_cases ej : j = k
      · subst ej; rw [Nat.beq_refl]; exact .d (hrow _ hg)
      · rw [beq_f ej]; exact up hg
    · rename_i j
      by_cases ej : j = k
      · subst ej; rw [Nat.beq_refl]; exact .d (hmap _ hg)
      · rw [beq_f ej]; exact up hg
    · exact up hg
  have hs2 : ∀ {v V}, G w (c.XX s.h β) β κ v V → G w X' β κ (AV.sb2 k xs v) V := by
    intro v V hg
    unfold AV.sb2
    split
    · obtain ⟨vs, rfl, hl, hgs⟩ := hg.agg_inv
      exact .agg _ _ (by simpa using hl) fun i hi => by
        rw [getD_map (AV.sb1 k xs) _ i .any .any rfl]; exact hs1 (hgs i (by simpa using hi))
    · exact hs1 hg
  have hs3 : ∀ {v V}, G w (c.XX s.h β) β κ v V → G w X' β κ (AV.sb k xs v) V := by
    intro v V hg
    unfold AV.sb
    split
    · obtain ⟨vs, rfl, hl, hgs⟩ := hg.tup_inv
      exact .tup _ _ (by simpa using hl) fun i hi => by
        rw [getD_map (AV.sb2 k xs) _ i .any .any rfl]; exact hs2 (hgs i (by simpa using hi))
    · exact hs2 hg
  refine ⟨r.df, r.sz, fun i => ?_, ⟨fun j => ?_, fun i j hi hj e => r.hp.inj i j (hlive hi).2 (hlive hj).2 e, r.hp.kp, fun j hj => r.hp.nk j (hlive hj).2, fun j hj => r.hp.nx j (hlive hj).2, r.hp.fix⟩⟩
  · show G w X' β κ (lk .any (s.t.map fun p => (p.1, AV.sb k xs p.2)) i) _
    rw [hlkt]; exact hs3 (r.tm i)
  · show HO w X' β κ j (lk .gone (rm k (s.h.map fun p => (p.1, AO.sb k xs p.2))) j)
    rw [lk_rm, hlkh]
    by_cases ej : j = k
    · rw [if_pos ej]; trivial
    · rw [if_neg ej]
      have hj := r.hp.ob j
      cases hoj : lk .gone s.h j with
      | gone => trivial
      | cells e cs =>
        rw [hoj] at hj
        obtain ⟨cur, h1, h2, h3⟩ := hj
        exact ⟨cur, h1, by simpa using h2, fun i hi => by rw [getD_map (AV.sb1 k xs) _ i .any .any rfl]; exact hs1 (h3 i (by simpa using hi))⟩
      | iter es seen =>
        rw [hoj] at hj
        exact hj.mono (fun _ _ _ => rfl) hX (fun _ _ => ⟨rfl, rfl⟩) ⟨rfl, rfl⟩ (fun _ => rfl)
      | row e sz ys =>
        rw [hoj] at hj
        exact hj.mono (fun _ _ _ => rfl) hX (fun _ _ => ⟨rfl, rfl⟩) ⟨rfl, rfl⟩ (fun _ => rfl)
      | smap K E es =>
        rw [hoj] at hj
        exact hj.mono (fun _ _ _ => rfl) hX (fun _ _ => ⟨rfl, rfl⟩) ⟨rfl, rfl⟩ (fun _ => rfl)
      | room e sz =>
        rw [hoj] at hj
        exact hj.mono (fun _ _ _ => rfl) hX (fun _ _ => ⟨rfl, rfl⟩) ⟨rfl, rfl⟩ (fun _ => rfl)

def AS.frz (s : AS) (k : Nat) : Option AS :=
  match lk .gone s.h k with
  | .row _ _ xs => some (s.subst k (.dslice xs))
  | _ => none

theorem Rel.frz {c : Cx P} {a : Act} {w : World} {β : Nat → Nat} {κ : Nat → Nat × Nat} {s s' : AS} (r : Rel c s a w β κ) {k : Nat} (h : s.frz k = some s') : Rel c s' a w β κ := by
  unfold AS.frz at h
  split at h
  · rename_i e sz xs hk
    cases h
    refine r.subst fun _ hX hnX => ⟨fun V hg => ?_, fun V _ => .any V⟩
    have ho := r.hp.ob k
    rw [hk] at ho
    show D w _ (.dslice xs) V
    rcases hg.rslice_inv with ⟨h0, e1⟩ | ⟨h0, ad, rfl⟩
    · have hne : xs ≠ [] := by intro e; subst e; rw [ho.1] at h0; simp at h0
      have hlk : (lk .gone s.h k).live := by rw [hk]; exact hne
      obtain ⟨cur, h1, h2, h3, h4, h5, h6, h7⟩ := ho.2 hne
      rw [e1, ho.1]
      refine .dslice xs (β k) 0 (κ k).1 sz (fun i j => cur.getD (i * sz + j) undef) h3 h4 h5 (hnX hlk) h6 (fun i j hi hj => ?_) (fun i j hi hj => (h7 i j hi hj).mono (fun _ _ _ => rfl) hX)
      rw [Nat.zero_add]
      refine cell_of_cells h1 ?_
      rw [h2]
      have : (i + 1) * sz ≤ (κ k).1 * sz := Nat.mul_le_mul_right _ (by omega)
      rw [Nat.add_mul] at this; omega
    · have : xs = [] := List.eq_nil_of_length_eq_zero (by rw [← ho.1]; exact h0)
      subst this
      exact .dnil _ _ (Nat.zero_le _)
  · cases h

/-- A map that nobody writes to again. -/
def FlM (es : List (List UInt8 × AV)) : Prop := ∀ p ∈ es, p.2.fl = true
def AS.frzM (s : AS) (k : Nat) : Option (Prop × AS) :=
  match lk .gone s.h k with
  | .smap _ _ es => some (FlM es, s.subst k (.dmap es))
  | _ => none
theorem Rel.frzM {c : Cx P} {a : Act} {w : World} {β : Nat → Nat} {κ : Nat → Nat × Nat} {s s' : AS} {p : Prop} (r : Rel c s a w β κ) {k : Nat} (h : s.frzM k = some (p, s')) (hp : p) : Rel c s' a w β κ := by
  unfold AS.frzM at h
  split at h
  · rename_i K E es hk
    cases h
    refine r.subst fun _ hX hnX => ⟨fun V _ => .any V, fun V hg => ?_⟩
    have ho := r.hp.ob k
    rw [hk] at ho
    obtain ⟨ents, clock, h1, h2, h3, h4, h5⟩ := ho
    rw [hg.amap_inv]
    refine D.dmap es (β k) ents clock (hnX (by rw [hk]; trivial)) h1 h2 (fun i hi => ⟨(h3 i hi).1, (h3 i hi).2.1⟩) (fun i hi => (h3 i hi).2.2.mono (fun _ _ _ => rfl) hX) h4 h5
  · cases h
theorem tri_frzM {cd : Code} (k : Nat) {p : Prop} {s' : AS} (h : s.frzM k = some (p, s')) (hp : p) (ht : Tri P cd Q s') : Tri P cd Q s := fun c a w β κ r => ht c a w β κ (r.frzM h hp)

theorem tri_frz {cd : Code} (k : Nat) {s' : AS} (h : s.frz k = some s') (ht : Tri P cd Q s') : Tri P cd Q s := fun c a w β κ r => ht c a w β κ (r.frz h)
theorem l_frz {ops : Array Oper} {rest : List Oper} (k : Nat) {s' : AS} (h : s.frz k = some s') (ht : TriL P ops rest Q s') : TriL P ops rest Q s := fun c a w β κ r => ht c a w β κ (r.frz h)

/-- An empty slice in the slot t as a row without elements at the key k. -/
def AS.erow (s : AS) (t k : Nat) (e : TypeId) (sz : Nat) : Option AS :=
  match lk .any s.t t with
  | .eslice => bif Nat.blt k 1000 then some ⟨s.n, ins t (.rslice k) (pgT k s.t), ins k (.row e sz []) (pgH k s.h)⟩ else none
  | _ => none
theorem Rel.erow {c : Cx P} {a : Act} {w : World} {β : Nat → Nat} {κ : Nat → Nat × Nat} {s s' : AS} (r : Rel c s a w β κ) {t k : Nat} {e : TypeId} {sz : Nat} (h : s.erow t k e sz = some s') : ∃ κ', Rel c s' a w β κ' := by
  unfold AS.erow at h
  split at h
  · rename_i ht
    cases hc : Nat.blt k 1000 with
    | false => rw [hc] at h; cases h
    | true =>
      rw [hc] at h; cases h
      have hk : k < 1000 := by simpa [Nat.blt_eq] using hc
      have r' := r.pg k
      have hlive : ∀ {j}, (lk .gone (ins k (.row e sz []) (pgH k s.h)) j).live → (lk .gone (pgH k s.h) j).live := by
        intro j hl
        rw [lk_ins] at hl
        by_cases ej : j = k
        · rw [if_pos ej] at hl; exact absurd rfl hl
        · rw [if_neg ej] at hl; exact hl
      have hX : ∀ b, ¬ c.XX (pgH k s.h) β b → b < w.heap.size → ¬ c.XX (ins k (.row e sz []) (pgH k s.h)) β b := by
        rintro b hb _ (hx | ⟨j, hl, hj⟩)
        · exact hb (.inl hx)
        · exact hb (.inr ⟨j, hlive hl, hj⟩)
      refine ⟨upd κ k (0, 0), r.df, r.sz, fun i => ?_, ⟨fun j => ?_, fun i j hi hj e => r'.hp.inj i j (hlive hi) (hlive hj) e, r.hp.kp, fun j hj => r'.hp.nk j (hlive hj), fun j hj => r'.hp.nx j (hlive hj), fun j hj => ?_⟩⟩
      · show G _ _ _ _ (lk .any (ins t (.rslice k) (pgT k s.t)) i) _
        rw [lk_ins]
        by_cases hi : i = t
        · subst hi
          have := r.tm i
          rw [ht] at this
          obtain ⟨ad, e1⟩ := this.eslice_inv
          rw [if_pos rfl, e1]
          exact .rslice0 k ad (by rw [upd_same])
        · rw [if_neg hi]
          exact (r'.tm i).mono (w' := w) (κ' := upd κ k (0, 0)) (β' := β) (fun _ _ _ => rfl) hX (fun j hj => ⟨rfl, upd_ne κ (fun e => by
            rw [e] at hj
            have : AV.men k (lk .any (pgT k s.t) i) = true := hj
            rw [lk_pgT, AV.men_pg] at this; cases this)⟩)
      · show HO _ _ _ _ j (lk .gone (ins k (.row e sz []) (pgH k s.h)) j)
        rw [lk_ins]
        by_cases ej : j = k
        · rw [if_pos ej, ej]; exact ⟨by rw [upd_same]; rfl, fun h => absurd rfl h⟩
        · rw [if_neg ej]
          exact (r'.hp.ob j).mono (w' := w) (fun _ _ _ => rfl) hX (fun i hi => ⟨rfl, upd_ne κ (fun e => by
            rw [e] at hi
            have : AO.men k (lk .gone (pgH k s.h) j) = true := hi
            rw [lk_pgH, AO.men_pg] at this; cases this)⟩) ⟨rfl, upd_ne κ ej⟩ (fun _ => rfl)
      · have : j ≠ k := by omega
        rw [upd_ne κ this]; exact r.hp.fix j hj
  · cases h
theorem tri_erow {cd : Code} (t k : Nat) (e : TypeId) (sz : Nat) {s' : AS} (h : s.erow t k e sz = some s') (ht : Tri P cd Q s') : Tri P cd Q s := fun c a w β κ r => by
  obtain ⟨κ', r'⟩ := r.erow h
  exact ht c a w β κ' r'
end
end Go.Ab
