/- ABSTRACT STATES: calls that are handed objects and rows of the caller's own memory, and that may give a new object back. -/
import Derived.Test.YtjfpcjnopbfekaaGreatDoorAbE
set_option linter.unusedSimpArgs false
set_option linter.unusedVariables false
namespace Go.Ab
open Go.RowKit
section
variable {P : Program} {ops : Array Oper} {o : Oper} {s : AS}

def bk (qs : List (Nat × Nat)) (h' : List (Nat × AO)) : List (Nat × Nat) → List (Nat × AO) → List (Nat × AO)
  | [], h => h
  | (k, j) :: ps, h => ins k (AO.ren qs (lk .gone h' j)) (bk qs h' ps h)
theorem lk_bk {qs : List (Nat × Nat)} {h' h : List (Nat × AO)} : ∀ {ps : List (Nat × Nat)} (k : Nat), lk .gone (bk qs h' ps h) k = match rk ps k with | some j => AO.ren qs (lk .gone h' j) | none => lk .gone h k
  | [], k => rfl
  | (k0, j0) :: ps, k => by
    simp only [bk, lk_ins, rk]
    by_cases e : k = k0
    · subst e; simp
    · rw [if_neg e, beq_f e]; exact lk_bk k
/-- The memory behind such a call: the object of the callee's key 0 under the key d. -/
def backR (ps : List (Nat × Nat)) (d : Nat) (h' h : List (Nat × AO)) : List (Nat × AO) :=
  ins d (AO.ren ((0, d) :: swp ps) (lk .gone h' 0)) (bk ((0, d) :: swp ps) h' ps (pgH d h))

/-- A CALL that is handed objects (ps: their keys here and there, from 1000 on); what it makes (the callee's key 0) has the key d here. -/
theorem op_callR {f : FuncId} (he : Go.Proofs.Enters P f) {x : Operand} {ar : Array Operand} {tys : Array TypeId} (hg : gd ops s o = some true) (hop : o.op = .call ⟨.value x, ar, tys⟩) {args0 : List AV}
    (hx : ∀ (c : Cx P) a w β κ, Rel c s a w β κ → ∃ vs : Array Value, (execOp a.eval o).run P w = .ok (.enter f vs) w ∧ vs.size = args0.length ∧ ∀ i, i < args0.length → G w (c.XX s.h β) β κ (args0.getD i .any) (vs.toList.getD i undef))
    (ps : List (Nat × Nat)) (d : Nat) (hps : (inj2 ps && (ps.all fun p => Nat.ble 1000 p.2) && (rk ps d).isNone && Nat.blt d 1000) = true) {args : List AV} (hargs : args0.map (AV.ren ps) = args) {h0 : List (Nat × AO)} (hh : hand ps s.h = h0) {Post : AV → List (Nat × AO) → Prop} (hc : ACall P f args h0 Post) {N : AS → Prop}
    (hN : ∀ v h', Post v h' → ∃ s', AS.put ⟨s.n, pgT d s.t, backR ps d h' s.h⟩ o.dst (AV.ren ((0, d) :: swp ps) v) = some s' ∧ N s') : OpT P ops o s N := fun c a w β κ r K Q hK => by
  subst hargs; subst hh
  simp only [Bool.and_eq_true] at hps
  obtain ⟨⟨⟨hinj, hlv⟩, hnd⟩, hd⟩ := hps
  rw [Nat.blt_eq] at hd
  have hnd : rk ps d = none := by simpa using hnd
  have h1000 : ∀ {k j}, rk ps k = some j → 1000 ≤ j := fun h => by
    have := List.all_eq_true.1 hlv _ (rk_mem h)
    simpa [Nat.ble_eq] using this
  rw [gd_spec r hg]
  simp only [if_true]
  obtain ⟨vs, hrun, a1, a2⟩ := hx c a w β κ r
  unfold Oper.wp
  rw [hrun]
  let H : Nat → Prop := fun b => ∃ k j, rk ps k = some j ∧ (lk .gone s.h k).live ∧ β k = b
  let βc : Nat → Nat := fun j => match rk (swp ps) j with | some k => β k | none => 0
  let κc : Nat → Nat × Nat := fun j => match rk (swp ps) j with | some k => κ k | none => (0, 0)
  have hβ : ∀ k j, rk ps k = some j → βc j = β k ∧ κc j = κ k := by
    intro k j h
    have := (rk_swp hinj).2 h
    exact ⟨by simp only [βc, this], by simp only [κc, this]⟩
  have hsz : ∀ b, c.XX s.h β b → b < w.heap.size := by
    rintro b (h | ⟨k, h1, rfl⟩)
    · exact Nat.lt_of_lt_of_le (c.hX b h) r.hp.kp.size
    · exact r.hp.lt h1
  have hKH : ∀ b, c.K b → ¬ H b := by
    rintro b hb ⟨k, j, _, h2, rfl⟩; exact r.hp.nk k h2 hb
  have hXH : ∀ b, c.X b → ¬ H b := by
    rintro b hb ⟨k, j, _, h2, rfl⟩; exact r.hp.nx k h2 hb
  let c' : Cx P := ⟨fun b => b < w.heap.size ∧ ¬ H b, fun b => c.XX s.h β b ∧ ¬ H b, w, βc, κc, fun _ h => h.1, fun b h => hsz b h.1, fun w' hk => c.gp w' (r.hp.kp.trans hk fun b hb => ⟨r.Klt b hb, hKH b hb⟩)⟩
  have hlk : ∀ j, lk .gone (hand ps s.h) j = match rk (swp ps) j with | some k => AO.ren ps (lk .gone s.h k) | none => .gone := fun j => lk_hand hinj j
  have hown : ∀ b, own (hand ps s.h) βc b → H b := by
    rintro b ⟨j, h1, h2⟩
    rw [hlk] at h1
    cases e : rk (swp ps) j with
    | none => rw [e] at h1; exact h1.elim
    | some k =>
      rw [e] at h1
      exact ⟨k, j, (rk_swp hinj).1 e, live_ren.1 h1, by rw [← h2]; simp only [βc, e]⟩
  have hHX : ∀ b, H b → c.XX s.h β b := by
    rintro b ⟨k, j, _, h1, rfl⟩; exact .inr ⟨k, h1, rfl⟩
  have hXin : ∀ b, ¬ c.XX s.h β b → b < w.heap.size → ¬ c'.XX (hand ps s.h) βc b := by
    rintro b hb _ (h | h)
    · exact hb h.1
    · exact hb (hHX b (hown b h))
  have hrel : RelH c' (hand ps s.h) c'.W c'.β c'.κ := by
    refine ⟨fun j => ?_, fun i j hi hj e => ?_, Keeps.refl _ _, fun j hj => ?_, fun j hj => ?_, fun _ _ => ⟨rfl, rfl⟩⟩
    · rw [hlk]
      cases e : rk (swp ps) j with
      | none => trivial
      | some k => exact (r.hp.ob k).ren (X' := c'.XX (hand ps s.h) βc) hβ hXin (hβ _ _ ((rk_swp hinj).1 e))
    · rw [hlk] at hi hj
      cases e1 : rk (swp ps) i with
      | none => rw [e1] at hi; exact hi.elim
      | some k1 =>
        cases e2 : rk (swp ps) j with
        | none => rw [e2] at hj; exact hj.elim
        | some k2 =>
          rw [e1] at hi; rw [e2] at hj
          have e3 : β k1 = β k2 := by
            have : βc i = βc j := e
            simpa only [βc, e1, e2] using this
          have h1 := (rk_swp hinj).1 e1
          have h2 := (rk_swp hinj).1 e2
          have := r.hp.inj k1 k2 (live_ren.1 hi) (live_ren.1 hj) e3
          subst this
          rw [h1] at h2; exact Option.some.inj h2
    · exact fun h => h.2 (hown _ ⟨j, hj, rfl⟩)
    · exact fun h => h.2 (hown _ ⟨j, hj, rfl⟩)
  have hcall := hc c' vs.toList (by simp [a1]) hrel (fun i hi => by
    have e : (args0.map (AV.ren ps)).getD i .any = AV.ren ps (args0.getD i .any) := getD_map (AV.ren ps) _ i .any .any rfl
    rw [e]
    exact (a2 i (by simpa using hi)).ren hβ hXin)
  simp only [Array.toArray_toList] at hcall
  refine hcall.mono fun e w' ⟨V, v, h', β', κ', e1, hp, hr', hG⟩ => ?_
  subst e1
  obtain ⟨s', h2, h3⟩ := hN v h' hp
  have r1 := r.pg d
  let β2 : Nat → Nat := fun k => if k = d then β' 0 else β k
  let κ2 : Nat → Nat × Nat := fun k => if k = d then κ' 0 else κ k
  have b2d : β2 d = β' 0 ∧ κ2 d = κ' 0 := ⟨if_pos rfl, if_pos rfl⟩
  have b2n : ∀ k, k ≠ d → β2 k = β k ∧ κ2 k = κ k := fun k h => ⟨if_neg h, if_neg h⟩
  have hne : ∀ {k j}, rk ps k = some j → k ≠ d := fun h e => by rw [e, hnd] at h; cases h
  have hfix : ∀ k j, rk ps k = some j → β2 k = β' j ∧ κ2 k = κ' j := fun k j h => by
    obtain ⟨f1, f2⟩ := hr'.fix j (h1000 h)
    rw [(b2n k (hne h)).1, (b2n k (hne h)).2]
    exact ⟨by rw [f1]; exact (hβ k j h).1.symm, by rw [f2]; exact (hβ k j h).2.symm⟩
  have hfq : ∀ j k, rk ((0, d) :: swp ps) j = some k → β2 k = β' j ∧ κ2 k = κ' j := fun j k h => by
    simp only [rk] at h
    by_cases e : j = 0
    · subst e
      simp only [Nat.beq_refl, cond_true, Option.some.injEq] at h
      subst h; exact b2d
    · rw [beq_f e] at h
      exact hfix k j ((rk_swp hinj).1 h)
  have hb : ∀ k, lk .gone (backR ps d h' s.h) k = if k = d then AO.ren ((0, d) :: swp ps) (lk .gone h' 0) else match rk ps k with | some j => AO.ren ((0, d) :: swp ps) (lk .gone h' j) | none => AO.pg d (lk .gone s.h k) := fun k => by
    unfold backR
    rw [lk_ins, lk_bk, lk_pgH]
  have hnH : ∀ k, rk ps k = none → (lk .gone s.h k).live → ¬ H (β k) := by
    rintro k hk hkl ⟨k2, j, h1, h4, h2⟩
    have := r.hp.inj k2 k h4 hkl h2
    subst this
    rw [hk] at h1; cases h1
  -- a new object's block is none that must stay
  have hnkj : ∀ j, (lk .gone h' j).live → ¬ c.K (β' j) := fun j hj hk => hr'.nk j hj ⟨r.Klt _ hk, hKH _ hk⟩
  have hnxj : ∀ j, (lk .gone h' j).live → ¬ c.X (β' j) := fun j hj hk => hr'.nx j hj ⟨.inl hk, hXH _ hk⟩
  have hin : ∀ j, (lk .gone h' j).live → β' j < w.heap.size → H (β' j) := fun j hj hlt => Classical.byContradiction fun hn => hr'.nk j hj ⟨hlt, hn⟩
  -- which keys are live behind the call
  have hcase : ∀ k, (lk .gone (backR ps d h' s.h) k).live → (∃ j, (lk .gone h' j).live ∧ β2 k = β' j ∧ ((k = d ∧ j = 0) ∨ (k ≠ d ∧ rk ps k = some j))) ∨ (k ≠ d ∧ rk ps k = none ∧ (lk .gone s.h k).live) := by
    intro k hk
    rw [hb] at hk
    by_cases e : k = d
    · rw [if_pos e] at hk
      exact .inl ⟨0, live_ren.1 hk, by rw [e]; exact b2d.1, .inl ⟨e, rfl⟩⟩
    · rw [if_neg e] at hk
      cases e2 : rk ps k with
      | none => rw [e2] at hk; exact .inr ⟨e, rfl, by simpa [AO.live_pg] using hk⟩
      | some j => rw [e2] at hk; exact .inl ⟨j, live_ren.1 hk, (hfix k j e2).1, .inr ⟨e, rfl⟩⟩
  have hA : ∀ b, ¬ c.XX s.h β b → b < w.heap.size → ¬ c.XX (backR ps d h' s.h) β2 b := by
    rintro b hb1 hlt (h | ⟨k, hk, rfl⟩)
    · exact hb1 (.inl h)
    · rcases hcase k hk with ⟨j, hj, e, _⟩ | ⟨e, _, hkl⟩
      · rw [e] at hb1 hlt; exact hb1 (hHX _ (hin j hj hlt))
      · rw [(b2n k e).1] at hb1; exact hb1 (.inr ⟨k, hkl, rfl⟩)
  have hB : ∀ b, ¬ c'.XX h' β' b → b < w'.heap.size → ¬ c.XX (backR ps d h' s.h) β2 b := by
    rintro b hb1 _ (h | ⟨k, hk, rfl⟩)
    · exact hb1 (.inl ⟨.inl h, hXH _ h⟩)
    · rcases hcase k hk with ⟨j, hj, e, _⟩ | ⟨e, e2, hkl⟩
      · rw [e] at hb1; exact hb1 (.inr ⟨j, hj, rfl⟩)
      · rw [(b2n k e).1] at hb1; exact hb1 (.inl ⟨.inr ⟨k, hkl, rfl⟩, hnH k e2 hkl⟩)
  have hC : ∀ b, ¬ c.XX s.h β b → b < w.heap.size → w'.heap[b]? = w.heap[b]? := fun b hb1 hlt => hr'.kp.block b ⟨hlt, fun h => hb1 (hHX b h)⟩
  have hXX1 : c.XX (pgH d s.h) β = c.XX s.h β := by funext b; simp only [Cx.XX, own_pgH]
  have r2 : Rel c ⟨s.n, pgT d s.t, backR ps d h' s.h⟩ a w' β2 κ2 := by
    refine ⟨r.df, r.sz, fun i => ?_, ⟨fun k => ?_, fun i j hi hj e => ?_, r.hp.kp.trans hr'.kp fun b hb1 => ⟨r.Klt b hb1, hKH b hb1⟩, fun k hk => ?_, fun k hk => ?_, fun k hk => ?_⟩⟩
    · show G w' (c.XX (backR ps d h' s.h) β2) β2 κ2 (lk .any (pgT d s.t) i) _
      rw [lk_pgT]
      exact ((r.tm i).pg d).mono hC hA (fun j hj => b2n j (fun e => by rw [e, AV.men_pg] at hj; cases hj))
    · show HO w' (c.XX (backR ps d h' s.h) β2) β2 κ2 k (lk .gone (backR ps d h' s.h) k)
      rw [hb]
      by_cases e : k = d
      · rw [if_pos e, e]
        exact (hr'.ob 0).ren (X' := c.XX (backR ps d h' s.h) β2) hfq hB b2d
      · rw [if_neg e]
        cases e2 : rk ps k with
        | none =>
          refine ((r.hp.ob k).pg (j := d)).mono hC hA (fun j hj => b2n j (fun e => by rw [e, AO.men_pg] at hj; cases hj)) (b2n k e) fun hkl => ?_
          have hkl : (lk .gone s.h k).live := by simpa [AO.live_pg] using hkl
          exact hr'.kp.block _ ⟨r.hp.lt hkl, hnH k e2 hkl⟩
        | some j => exact (hr'.ob j).ren (X' := c.XX (backR ps d h' s.h) β2) hfq hB (hfix k j e2)
    · rcases hcase i hi with ⟨ji, hji, ei, ci⟩ | ⟨ei, ni, li⟩ <;> rcases hcase j hj with ⟨jj, hjj, ej, cj⟩ | ⟨ej, nj, lj⟩
      · have e3 : ji = jj := hr'.inj ji jj hji hjj (by rw [← ei, ← ej]; exact e)
        subst e3
        rcases ci with ⟨c1, c2⟩ | ⟨c1, c2⟩ <;> rcases cj with ⟨d1, d2⟩ | ⟨d1, d2⟩
        · rw [c1, d1]
        · have := h1000 d2; omega
        · have := h1000 c2; omega
        · have h1 := (rk_swp hinj).2 c2
          have h2 := (rk_swp hinj).2 d2
          rw [h1] at h2; exact Option.some.inj h2
      · have e3 : β' ji = β j := by rw [← ei, ← (b2n j ej).1]; exact e
        exact absurd (hin ji hji (by rw [e3]; exact r.hp.lt lj)) (by rw [e3]; exact hnH j nj lj)
      · have e3 : β' jj = β i := by rw [← ej, ← (b2n i ei).1]; exact e.symm
        exact absurd (hin jj hjj (by rw [e3]; exact r.hp.lt li)) (by rw [e3]; exact hnH i ni li)
      · exact r.hp.inj i j li lj (by rw [← (b2n i ei).1, ← (b2n j ej).1]; exact e)
    · rcases hcase k hk with ⟨j, hj, e, _⟩ | ⟨e, _, hkl⟩
      · rw [e]; exact hnkj j hj
      · rw [(b2n k e).1]; exact r.hp.nk k hkl
    · rcases hcase k hk with ⟨j, hj, e, _⟩ | ⟨e, _, hkl⟩
      · rw [e]; exact hnxj j hj
      · rw [(b2n k e).1]; exact r.hp.nx k hkl
    · have e : k ≠ d := by omega
      rw [(b2n k e).1, (b2n k e).2]; exact r.hp.fix k hk
  exact hK s' _ w' β2 κ2 h3 (put_spec r2 (hG.ren hfq hB) h2)

/-- The callee of a call: a function with what it has captured, or a method of an object. -/
theorem call_fn {f : FuncId} (he : Go.Proofs.Enters P f) {x : Operand} {ar : Array Operand} {tys : Array TypeId} (hop : o.op = .call ⟨.value x, ar, tys⟩) {caps : List AV} (hx : s.op x = .fn f caps) :
    ∀ (c : Cx P) a w β κ, Rel c s a w β κ → ∃ vs : Array Value, (execOp a.eval o).run P w = .ok (.enter f vs) w ∧ vs.size = (s.args ar caps).length ∧ ∀ i, i < (s.args ar caps).length → G w (c.XX s.h β) β κ ((s.args ar caps).getD i .any) (vs.toList.getD i undef) := fun c a w β κ r => by
  have hX := r.op x
  rw [hx] at hX
  obtain ⟨Vs, eV, hl, hgs⟩ := hX.fn_inv
  obtain ⟨a1, a2⟩ := args_spec r ar hl hgs
  exact ⟨_, call_run he hop eV, a1, a2⟩
theorem call_bm {f : FuncId} (he : Go.Proofs.Enters P f) {x : Operand} {ar : Array Operand} {tys : Array TypeId} (hop : o.op = .call ⟨.value x, ar, tys⟩) {k off : Nat} (hx : s.op x = .bm f k off) :
    ∀ (c : Cx P) a w β κ, Rel c s a w β κ → ∃ vs : Array Value, (execOp a.eval o).run P w = .ok (.enter f vs) w ∧ vs.size = (AV.hptr k off :: s.args ar []).length ∧ ∀ i, i < (AV.hptr k off :: s.args ar []).length → G w (c.XX s.h β) β κ ((AV.hptr k off :: s.args ar []).getD i .any) (vs.toList.getD i undef) := fun c a w β κ r => by
  have hX := r.op x
  rw [hx] at hX
  obtain ⟨a1, a2⟩ := args_spec (caps := []) (Vs := #[]) r ar rfl (fun i hi => by simp at hi)
  refine ⟨#[.pointer (some ⟨β k, off, none⟩)] ++ (ar.map a.eval ++ #[]), ?_, by simp [← a1]; omega, fun i hi => ?_⟩
  · simp only [execOp, hop, resolve, hX.bm_inv, Deferred.ofValue, pure_bind, invoke, Array.append_empty]
    exact he _ w
  · cases i with
    | zero =>
      have : (#[Value.pointer (some ⟨β k, off, none⟩)] ++ (ar.map a.eval ++ #[])).toList.getD 0 undef = .pointer (some ⟨β k, off, none⟩) := by simp
      rw [this]; exact .hptr k off
    | succ i =>
      have := a2 i (by simpa using hi)
      simpa using this

theorem ren1_fl (ps : List (Nat × Nat)) {v : AV} (h : AV.fl v = true) : AV.ren1 ps v = v := by
  unfold AV.ren1
  split
  · cases h
  · cases h
  · cases h
  · cases h
  · cases h
  · rw [h]; rfl
theorem map_ren1_fl (ps : List (Nat × Nat)) : ∀ {cs : List AV}, AV.flL cs = true → cs.map (AV.ren1 ps) = cs
  | [], _ => rfl
  | c :: cs, h => by
    simp only [AV.flL, Bool.and_eq_true] at h
    rw [List.map_cons, ren1_fl ps h.1, map_ren1_fl ps h.2]
theorem ren_fl (ps : List (Nat × Nat)) {v : AV} (h : AV.fl v = true) : AV.ren ps v = v := by
  unfold AV.ren
  split
  · rw [map_ren1_fl ps (by simpa [AV.fl] using h)]
  · rw [map_ren1_fl ps (by simpa [AV.fl] using h)]
  · rw [map_ren1_fl ps (by simpa [AV.fl] using h)]
  · exact ren1_fl ps h
theorem map_ren_fl (ps : List (Nat × Nat)) : ∀ {cs : List AV}, AV.flL cs = true → cs.map (AV.ren ps) = cs
  | [], _ => rfl
  | c :: cs, h => by
    simp only [AV.flL, Bool.and_eq_true] at h
    rw [List.map_cons, ren_fl ps h.1, map_ren_fl ps h.2]
/-- A call that makes an object, in whatever order. -/
theorem loc_callN {f : FuncId} (he : Go.Proofs.Enters P f) {x : Operand} {ar : Array Operand} {tys : Array TypeId} (hg : gd ops s o = some true) (hop : o.op = .call ⟨.value x, ar, tys⟩) {caps : List AV} (hx : s.op x = .fn f caps) (hfl : AV.flL (s.args ar caps) = true)
    {k : Nat} (hd : o.dst = some k) (hk : (Nat.blt k s.n && Nat.blt k 1000) = true) {v : AV} {h1 : List (Nat × AO)} (hc : ACall P f (s.args ar caps) [] fun r h => r = v ∧ h = h1) :
    Loc P ops o s ⟨[(k, AV.ren [(0, k)] v)], [(k, AO.ren [(0, k)] (lk .gone h1 0))], [k], []⟩ := by
  intro s' ha hf _
  have hfk := hf k (by simp)
  simp only [Bool.and_eq_true] at hk
  have hxx : s'.op x = s.op x := agree_op ha (by simp [hop, Op.operands, Call.operands])
  have har : ∀ y ∈ ar, s'.op y = s.op y := fun y hy => agree_op ha (by simp [hop, Op.operands, Call.operands, hy])
  have e1 : s'.args ar caps = s.args ar caps := by
    unfold AS.args
    rw [List.map_congr_left (fun y hy => har y (by simpa using hy))]
  have hput : AS.put ⟨s'.n, pgT k s'.t, backR [] k h1 s'.h⟩ o.dst (AV.ren ((0, k) :: swp []) v) = some ⟨s'.n, ins k (AV.ren [(0, k)] v) (pgT k s'.t), backR [] k h1 s'.h⟩ := by
    rw [hd]
    simp only [AS.put, ha.n, hk.1, cond_true]
    rfl
  refine (op_callR (args := s.args ar caps) (h0 := []) he (by rw [agree_gd ha]; exact hg) hop (call_fn he hop (by rw [hxx]; exact hx)) [] k (by simpa [inj2, rk] using hk.2) (by rw [e1]; exact map_ren_fl [] hfl) rfl hc (N := fun s'' => Same (Eff.app ⟨[(k, AV.ren [(0, k)] v)], [(k, AO.ren [(0, k)] (lk .gone h1 0))], [k], []⟩ s') s'') fun r h' hr => ?_)
  obtain ⟨rfl, rfl⟩ := hr
  refine ⟨_, hput, rfl, fun i => ?_, fun i => ?_⟩
  · show lk .any (ins k _ (pgT k s'.t)) i = lk .any (insL [(k, _)] s'.t) i
    rw [lk_ins, lk_insL, lk_pgT, AV.pg_free (hfk.1 i)]
    simp only [lkO]
    by_cases e : i = k
    · subst e; simp
    · rw [if_neg e, beq_f e]; rfl
  · show lk .gone (ins k _ (pgH k s'.h)) i = lk .gone (insL [(k, _)] s'.h) i
    rw [lk_ins, lk_insL, lk_pgH, AO.pg_free (hfk.2 i)]
    simp only [lkO]
    by_cases e : i = k
    · subst e; simp [swp]
    · rw [if_neg e, beq_f e]; rfl
end
end Go.Ab
