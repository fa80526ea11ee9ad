/- ABSTRACT STATES: calls that are handed objects of the caller's own memory. -/
import Derived.Test.YtjfpcjnopbfekaaGreatDoorAbM
set_option linter.unusedSimpArgs false
set_option linter.unusedVariables false
namespace Go.Ab
open Go.RowKit

def rk : List (Nat × Nat) → Nat → Option Nat
  | [], _ => none
  | (k, j) :: ps, i => bif Nat.beq i k then some j else rk ps i
def AV.ren1 (ps : List (Nat × Nat)) : AV → AV
  | .hptr k o => match rk ps k with | some j => .hptr j o | none => .any
  | .rslice k => match rk ps k with | some j => .rslice j | none => .any
  | .gslice k => match rk ps k with | some j => .gslice j | none => .any
  | .amap k => match rk ps k with | some j => .amap j | none => .any
  | .bm f k o => match rk ps k with | some j => .bm f j o | none => .any
  | v => bif AV.fl v then v else .any
def AV.ren (ps : List (Nat × Nat)) : AV → AV
  | .agg cs => .agg (cs.map (AV.ren1 ps))
  | .tup cs => .tup (cs.map (AV.ren1 ps))
  | .fn f cs => .fn f (cs.map (AV.ren1 ps))
  | v => AV.ren1 ps v
def AO.ren (ps : List (Nat × Nat)) : AO → AO
  | .cells e cs => .cells e (cs.map (AV.ren1 ps))
  | o => o

section
variable {w : World} {X X' : Nat → Prop} {β β' : Nat → Nat} {κ κ' : Nat → Nat × Nat} {ps : List (Nat × Nat)}

theorem G.ren1 (hps : ∀ k j, rk ps k = some j → β' j = β k ∧ κ' j = κ k) (hX : ∀ b, ¬ X b → b < w.heap.size → ¬ X' b) {v : AV} {V : Value} (h : G w X β κ v V) : G w X' β' κ' (AV.ren1 ps v) V := by
  unfold AV.ren1
  split
  · split
    · rename_i k o _ j e
      rw [h.hptr_inv, ← (hps _ _ e).1]; exact .hptr j o
    · exact .d (.any _)
  · split
    · rename_i k j e
      rcases h.rslice_inv with ⟨h1, h2⟩ | ⟨h1, a, h2⟩
      · rw [h2, ← (hps _ _ e).1, ← (hps _ _ e).2]; exact .rslice j (by rw [(hps _ _ e).2]; exact h1)
      · rw [h2]; exact .rslice0 j a (by rw [(hps _ _ e).2]; exact h1)
    · exact .d (.any _)
  · split
    · rename_i k _ j e
      have hv : V = .slice (some ⟨β k, 0, none⟩) 0 (κ k).1 := by
        cases h with
        | d h => cases h
        | gslice _ => rfl
      rw [hv, ← (hps _ _ e).1, ← (hps _ _ e).2]; exact .gslice j
    · exact .d (.any _)
  · split
    · rename_i k j e
      rw [h.amap_inv, ← (hps _ _ e).1]; exact .amap j
    · exact .d (.any _)
  · split
    · rename_i f k o _ j e
      rw [h.bm_inv, ← (hps _ _ e).1]; exact .bm f j o
    · exact .d (.any _)
  · cases hf : AV.fl v with
    | false => exact .d (.any _)
    | true => exact .d ((h.toD hf).mono (fun _ _ _ => rfl) hX)
theorem getD_ren (ps : List (Nat × Nat)) (cs : List AV) (i : Nat) : (cs.map (AV.ren1 ps)).getD i .any = AV.ren1 ps (cs.getD i .any) := getD_map (AV.ren1 ps) cs i .any .any rfl
theorem G.ren (hps : ∀ k j, rk ps k = some j → β' j = β k ∧ κ' j = κ k) (hX : ∀ b, ¬ X b → b < w.heap.size → ¬ X' b) {v : AV} {V : Value} (h : G w X β κ v V) : G w X' β' κ' (AV.ren ps v) V := by
  unfold AV.ren
  split
  · obtain ⟨vs, rfl, hl, hg⟩ := h.agg_inv
    exact .agg _ _ (by simpa using hl) fun i hi => by rw [getD_ren]; exact (hg i (by simpa using hi)).ren1 hps hX
  · obtain ⟨vs, rfl, hl, hg⟩ := h.tup_inv
    exact .tup _ _ (by simpa using hl) fun i hi => by rw [getD_ren]; exact (hg i (by simpa using hi)).ren1 hps hX
  · obtain ⟨vs, rfl, hl, hg⟩ := h.fn_inv
    exact .fn _ _ _ (by simpa using hl) fun i hi => by rw [getD_ren]; exact (hg i (by simpa using hi)).ren1 hps hX
  · exact h.ren1 hps hX

theorem HO.ren (hps : ∀ k j, rk ps k = some j → β' j = β k ∧ κ' j = κ k) (hX : ∀ b, ¬ X b → b < w.heap.size → ¬ X' b) {k j : Nat} (hk : β' j = β k ∧ κ' j = κ k) {o : AO} (h : HO w X β κ k o) : HO w X' β' κ' j (AO.ren ps o) := by
  cases o with
  | gone => trivial
  | cells e cs =>
    obtain ⟨cur, h1, h2, h3⟩ := h
    exact ⟨cur, by rw [hk.1, h1], by simpa using h2, fun i hi => by rw [getD_ren]; exact (h3 i (by simpa using hi)).ren1 hps hX⟩
  | row e sz xs =>
    refine ⟨by rw [hk.2]; exact h.1, fun hx => ?_⟩
    obtain ⟨cur, h1, h2, h3, h4, h0, h5, h6⟩ := h.2 hx
    exact ⟨cur, by rw [hk.1, h1], by rw [hk.2, h2], by rw [hk.2]; exact h3, by rw [hk.2]; exact h4, h0, h5, fun i j hi hj => (h6 i j hi hj).mono (fun _ _ _ => rfl) hX⟩
  | smap K E es =>
    obtain ⟨ents, clock, h1, h2, h3, h4, h5⟩ := h
    exact ⟨ents, clock, by rw [hk.1, h1], h2, fun i hi => ⟨(h3 i hi).1, (h3 i hi).2.1, ((h3 i hi).2.2).mono (fun _ _ _ => rfl) hX⟩, h4, h5⟩
  | iter es seen =>
    obtain ⟨b, ents, clock, sb, h1, h2, h3, h4, h5, h6⟩ := h
    have hlt : b < w.heap.size := (Array.getElem?_eq_some_iff.1 h4).1
    exact ⟨b, ents, clock, sb, by rw [hk.1, h1], h2.mono (fun _ _ _ => rfl) hX, hX _ h3 hlt, h4, h5, h6⟩
  | room e sz =>
    obtain ⟨cur, h1, h2, h3⟩ := h
    exact ⟨cur, by rw [hk.1, h1], by rw [hk.2, h2], by rw [hk.2]; exact h3⟩
end

/-- Each key once, on either side. -/
def inj2 : List (Nat × Nat) → Bool
  | [] => true
  | (k, j) :: ps => ps.all (fun p => !Nat.beq p.1 k && !Nat.beq p.2 j) && inj2 ps
theorem rk_mem : ∀ {ps : List (Nat × Nat)} {k j : Nat}, rk ps k = some j → (k, j) ∈ ps
  | (k0, j0) :: ps, k, j, h => by
    simp only [rk] at h
    cases hb : Nat.beq k k0 with
    | true => rw [hb] at h; cases h; rw [beq_t.1 hb]; exact List.mem_cons_self ..
    | false => rw [hb] at h; exact List.mem_cons_of_mem _ (rk_mem h)
theorem mem_rk : ∀ {ps : List (Nat × Nat)} {k j : Nat}, inj2 ps = true → (k, j) ∈ ps → rk ps k = some j
  | (k0, j0) :: ps, k, j, hi, h => by
    simp only [inj2, Bool.and_eq_true] at hi
    simp only [rk]
    rcases List.mem_cons.1 h with h | h
    · cases h; simp
    · have := List.all_eq_true.1 hi.1 _ h
      simp only [Bool.and_eq_true, Bool.not_eq_true'] at this
      rw [this.1]; exact mem_rk hi.2 h
def swp (ps : List (Nat × Nat)) : List (Nat × Nat) := ps.map fun p => (p.2, p.1)
theorem inj2_swp : ∀ {ps : List (Nat × Nat)}, inj2 ps = true → inj2 (swp ps) = true
  | [], _ => rfl
  | (k, j) :: ps, h => by
    simp only [inj2, Bool.and_eq_true] at h
    simp only [swp, List.map_cons, inj2, Bool.and_eq_true]
    refine ⟨?_, inj2_swp h.2⟩
    rw [List.all_eq_true] at h ⊢
    intro p hp
    obtain ⟨q, hq, rfl⟩ := List.mem_map.1 hp
    have := h.1 q hq
    simp only [Bool.and_eq_true] at this ⊢
    exact ⟨this.2, this.1⟩
theorem rk_swp {ps : List (Nat × Nat)} (hi : inj2 ps = true) {k j : Nat} : rk (swp ps) j = some k ↔ rk ps k = some j := by
  constructor
  · intro h
    have := rk_mem h
    obtain ⟨q, hq, e⟩ := List.mem_map.1 this
    cases e; exact mem_rk hi hq
  · intro h
    exact mem_rk (inj2_swp hi) (List.mem_map.2 ⟨_, rk_mem h, rfl⟩)

def AO.liveB : AO → Bool
  | .cells _ _ => true
  | .smap _ _ _ => true
  | _ => false
theorem AO.liveB_live {o : AO} (h : o.liveB = true) : o.live := by cases o <;> first | trivial | (cases h; done)

/-- What is handed in, under the callee's keys. -/
def hand (ps : List (Nat × Nat)) (h : List (Nat × AO)) : List (Nat × AO) := ps.map fun p => (p.2, AO.ren ps (lk .gone h p.1))
/-- What has become of it. -/
def back (ps : List (Nat × Nat)) (h' : List (Nat × AO)) : List (Nat × Nat) → List (Nat × AO) → List (Nat × AO)
  | [], h => h
  | (k, j) :: qs, h => ins k (AO.ren (swp ps) (lk .gone h' j)) (back ps h' qs h)

theorem lk_hand {ps : List (Nat × Nat)} {h : List (Nat × AO)} : ∀ {qs : List (Nat × Nat)}, inj2 qs = true → ∀ (j : Nat), lk .gone (qs.map fun p => (p.2, AO.ren ps (lk .gone h p.1))) j = match rk (swp qs) j with | some k => AO.ren ps (lk .gone h k) | none => .gone
  | [], _, j => rfl
  | (k, j0) :: qs, hi, j => by
    simp only [inj2, Bool.and_eq_true] at hi
    simp only [List.map_cons, lk, swp, rk]
    cases hb : Nat.beq j j0 with
    | true => rfl
    | false => simp only [cond_false]; exact lk_hand hi.2 j
theorem lk_back {ps : List (Nat × Nat)} {h' h : List (Nat × AO)} : ∀ {qs : List (Nat × Nat)} (k : Nat), lk .gone (back ps h' qs h) k = match rk qs k with | some j => AO.ren (swp ps) (lk .gone h' j) | none => lk .gone h k
  | [], k => rfl
  | (k0, j0) :: qs, k => by
    simp only [back, lk_ins, rk]
    by_cases e : k = k0
    · subst e; simp
    · rw [if_neg e, beq_f e]; exact lk_back k
theorem live_ren {ps : List (Nat × Nat)} {o : AO} : (AO.ren ps o).live ↔ o.live := by cases o <;> simp [AO.ren, AO.live]

section
variable {P : Program} {ops : Array Oper} {o : Oper} {s : AS}

/-- A CALL that is handed objects: ps: their keys here and there (from 1000 on). -/
theorem op_callH {f : FuncId} (he : Go.Proofs.Enters P f) {x : Operand} {ar : Array Operand} {tys : Array TypeId} (hg : gd ops s o = some true) (hop : o.op = .call ⟨.value x, ar, tys⟩) {caps : List AV} (hx : s.op x = .fn f caps)
    (ps : List (Nat × Nat)) (hps : (inj2 ps && ps.all fun p => (lk .gone s.h p.1).liveB && Nat.ble 1000 p.2) = true) {args : List AV} (hargs : (s.args ar caps).map (AV.ren ps) = args) {h0 : List (Nat × AO)} (hh : hand ps s.h = h0) {Post : AV → List (Nat × AO) → Prop} (hc : ACall P f args h0 Post) {N : AS → Prop}
    (hN : ∀ v h', Post v h' → AV.fl v = true ∧ ∃ s', AS.put ⟨s.n, s.t, back ps h' ps s.h⟩ o.dst v = some s' ∧ N s') : OpT P ops o s N := fun c a w β κ r K Q hK => by
  subst hargs; subst hh
  simp only [Bool.and_eq_true] at hps
  obtain ⟨hinj, hlv⟩ := hps
  have hlive : ∀ {k j}, rk ps k = some j → (lk .gone s.h k).live := fun h => by
    have := List.all_eq_true.1 hlv _ (rk_mem h)
    simp only [Bool.and_eq_true] at this
    exact AO.liveB_live this.1
  have h1000 : ∀ {k j}, rk ps k = some j → 1000 ≤ j := fun h => by
    have := List.all_eq_true.1 hlv _ (rk_mem h)
    simp only [Bool.and_eq_true, Nat.ble_eq] at this
    exact this.2
  rw [gd_spec r hg]
  simp only [if_true]
  have hX := r.op x
  rw [hx] at hX
  obtain ⟨Vs, eV, hl, hgs⟩ := hX.fn_inv
  obtain ⟨a1, a2⟩ := args_spec r ar hl hgs
  unfold Oper.wp
  rw [call_run he hop eV]
  let H : Nat → Prop := fun b => ∃ k j, rk ps k = some j ∧ β k = b
  let βc : Nat → Nat := fun j => match rk (swp ps) j with | some k => β k | none => 0
  let κc : Nat → Nat × Nat := fun j => match rk (swp ps) j with | some k => κ k | none => (0, 0)
  have hβ : ∀ k j, rk ps k = some j → βc j = β k ∧ κc j = κ k := by
    intro k j h
    have := (rk_swp hinj).2 h
    exact ⟨by simp only [βc, this], by simp only [κc, this]⟩
  have hsz : ∀ b, c.XX s.h β b → b < w.heap.size := by
    rintro b (h | ⟨k, h1, rfl⟩)
    · exact Nat.lt_of_lt_of_le (c.hX b h) r.hp.kp.size
    · exact r.hp.lt h1
  let c' : Cx P := ⟨fun b => b < w.heap.size ∧ ¬ H b, fun b => c.XX s.h β b ∧ ¬ H b, w, βc, κc, fun _ h => h.1, fun b h => hsz b h.1, fun w' hk => c.gp w' (r.hp.kp.trans hk fun b hb => ⟨r.Klt b hb, fun ⟨k, j, h1, h2⟩ => r.hp.nk k (hlive h1) (h2 ▸ hb)⟩)⟩
  have hlk : ∀ j, lk .gone (hand ps s.h) j = match rk (swp ps) j with | some k => AO.ren ps (lk .gone s.h k) | none => .gone := fun j => lk_hand hinj j
  have hown : ∀ b, own (hand ps s.h) βc b → H b := by
    rintro b ⟨j, h1, h2⟩
    rw [hlk] at h1
    cases e : rk (swp ps) j with
    | none => rw [e] at h1; exact h1.elim
    | some k => exact ⟨k, j, (rk_swp hinj).1 e, by rw [← h2]; simp only [βc, e]⟩
  have hHX : ∀ b, H b → c.XX s.h β b := by
    rintro b ⟨k, j, h1, rfl⟩; exact .inr ⟨k, hlive h1, rfl⟩
  have hXin : ∀ b, ¬ c.XX s.h β b → b < w.heap.size → ¬ c'.XX (hand ps s.h) βc b := by
    rintro b hb _ (h | h)
    · exact hb h.1
    · exact hb (hHX b (hown b h))
  have hrel : RelH c' (hand ps s.h) c'.W c'.β c'.κ := by
    refine ⟨fun j => ?_, fun i j hi hj e => ?_, Keeps.refl _ _, fun j hj => ?_, fun j hj => ?_, fun _ _ => ⟨rfl, rfl⟩⟩
    · rw [hlk]
      cases e : rk (swp ps) j with
      | none => trivial
      | some k => exact (r.hp.ob k).ren (X' := c'.XX (hand ps s.h) βc) hβ hXin (hβ _ _ ((rk_swp hinj).1 e))
    · rw [hlk] at hi hj
      cases e1 : rk (swp ps) i with
      | none => rw [e1] at hi; exact hi.elim
      | some k1 =>
        cases e2 : rk (swp ps) j with
        | none => rw [e2] at hj; exact hj.elim
        | some k2 =>
          have e3 : β k1 = β k2 := by
            have : βc i = βc j := e
            simpa only [βc, e1, e2] using this
          have h1 := (rk_swp hinj).1 e1
          have h2 := (rk_swp hinj).1 e2
          have := r.hp.inj k1 k2 (hlive h1) (hlive h2) e3
          subst this
          rw [h1] at h2; exact Option.some.inj h2
    · exact fun h => h.2 (hown _ ⟨j, hj, rfl⟩)
    · exact fun h => h.2 (hown _ ⟨j, hj, rfl⟩)
  have hcall := hc c' (ar.map a.eval ++ Vs).toList (by simp [← a1]) hrel (fun i hi => by
    have e : ((s.args ar caps).map (AV.ren ps)).getD i .any = AV.ren ps ((s.args ar caps).getD i .any) := getD_map (AV.ren ps) _ i .any .any rfl
    rw [e]
    exact (a2 i (by simpa using hi)).ren hβ hXin)
  simp only [Array.toArray_toList] at hcall
  refine hcall.mono fun e w' ⟨V, v, h', β', κ', e1, hp, hr', hG⟩ => ?_
  subst e1
  obtain ⟨h1, s', h2, h3⟩ := hN v h' hp
  have hfix : ∀ k j, rk ps k = some j → β k = β' j ∧ κ k = κ' j := fun k j h => by
    obtain ⟨f1, f2⟩ := hr'.fix j (h1000 h)
    exact ⟨by rw [f1]; exact (hβ k j h).1.symm, by rw [f2]; exact (hβ k j h).2.symm⟩
  have hb : ∀ k, lk .gone (back ps h' ps s.h) k = match rk ps k with | some j => AO.ren (swp ps) (lk .gone h' j) | none => lk .gone s.h k := fun k => lk_back k
  have hl2 : ∀ {k}, (lk .gone (back ps h' ps s.h) k).live → (lk .gone s.h k).live := by
    intro k hk
    rw [hb] at hk
    cases e : rk ps k with
    | none => rw [e] at hk; exact hk
    | some j => exact hlive e
  have hnH : ∀ k, rk ps k = none → (lk .gone s.h k).live → ¬ H (β k) := by
    rintro k hk hkl ⟨k2, j, h1, h2⟩
    have := r.hp.inj k2 k (hlive h1) hkl h2
    subst this
    rw [hk] at h1; cases h1
  have hA : ∀ b, ¬ c.XX s.h β b → b < w.heap.size → ¬ c.XX (back ps h' ps s.h) β b := by
    rintro b hb1 _ (h | ⟨k, hk, hk2⟩)
    · exact hb1 (.inl h)
    · exact hb1 (.inr ⟨k, hl2 hk, hk2⟩)
  have hB : ∀ b, ¬ c'.XX h' β' b → b < w'.heap.size → ¬ c.XX (back ps h' ps s.h) β b := by
    rintro b hb1 _ (h | ⟨k, hk, rfl⟩)
    · refine hb1 (.inl ⟨.inl h, ?_⟩)
      rintro ⟨k, j, h1, rfl⟩
      exact r.hp.nx k (hlive h1) h
    · have hk' := hk
      rw [hb] at hk'
      cases e : rk ps k with
      | none =>
        rw [e] at hk'
        exact hb1 (.inl ⟨.inr ⟨k, hk', rfl⟩, hnH k e hk'⟩)
      | some j =>
        rw [e] at hk'
        exact hb1 (.inr ⟨j, live_ren.1 hk', (hfix k j e).1.symm⟩)
  have hC : ∀ b, ¬ c.XX s.h β b → b < w.heap.size → w'.heap[b]? = w.heap[b]? := fun b hb1 hlt => hr'.kp.block b ⟨hlt, fun h => hb1 (hHX b h)⟩
  have r2 : Rel c ⟨s.n, s.t, back ps h' ps s.h⟩ a w' β κ := by
    refine ⟨r.df, r.sz, fun i => (r.tm i).mono hC hA (fun _ _ => ⟨rfl, rfl⟩), ⟨fun k => ?_, fun i j hi hj e => r.hp.inj i j (hl2 hi) (hl2 hj) e, r.hp.kp.trans hr'.kp fun b hb1 => ⟨r.Klt b hb1, ?_⟩, fun k hk => r.hp.nk k (hl2 hk), fun k hk => r.hp.nx k (hl2 hk), r.hp.fix⟩⟩
    · show HO w' (c.XX (back ps h' ps s.h) β) β κ k (lk .gone (back ps h' ps s.h) k)
      rw [hb]
      cases e : rk ps k with
      | none =>
        exact (r.hp.ob k).mono hC hA (fun _ _ => ⟨rfl, rfl⟩) ⟨rfl, rfl⟩ fun hkl => hr'.kp.block _ ⟨r.hp.lt hkl, hnH k e hkl⟩
      | some j =>
        exact (hr'.ob j).ren (X' := c.XX (back ps h' ps s.h) β) (fun j' k' h => hfix k' j' ((rk_swp hinj).1 h)) hB (hfix k j e)
    · rintro ⟨k, j, h1, rfl⟩
      exact r.hp.nk k (hlive h1) hb1
  exact hK s' _ w' β κ h3 (put_spec r2 (.d ((hG.toD h1).mono (fun _ _ _ => rfl) hB)) h2)
end
end Go.Ab
