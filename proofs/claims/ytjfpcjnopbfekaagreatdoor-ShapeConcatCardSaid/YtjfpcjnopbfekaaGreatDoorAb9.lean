/- ABSTRACT STATES: new variables, stores, literals. -/
import Derived.Test.YtjfpcjnopbfekaaGreatDoorAb8
set_option linter.unusedSimpArgs false
set_option linter.unusedVariables false
namespace Go.Ab
open Go.RowKit
section
variable {P : Program} {ops : Array Oper} {o : Oper} {s : AS}

def avCells : AV → Option (List AV)
  | .agg cs => some cs
  | v => if v.one then some [v] else none

theorem oneCell_cells {V : Value} (h : V.oneCell' = true) : V.cells = #[V] := by
  cases V <;> first | rfl | (simp [Value.oneCell'] at h)

theorem avCells_spec {w : World} {X : Nat → Prop} {β : Nat → Nat} {κ : Nat → Nat × Nat} {v : AV} {V : Value} (hg : G w X β κ v V) {cs : List AV} (h : avCells v = some cs) : V.cells.size = cs.length ∧ ∀ i, i < cs.length → G w X β κ (cs.getD i .any) (V.cells.getD i undef) := by
  unfold avCells at h
  split at h
  · cases h
    obtain ⟨vs, rfl, hl, hgs⟩ := hg.agg_inv
    exact ⟨hl.symm, hgs⟩
  · split at h
    · rename_i h1
      cases h
      rw [oneCell_cells (hg.one h1)]
      refine ⟨rfl, fun i hi => ?_⟩
      have : i = 0 := by simpa using hi
      subst this
      simpa using hg
    · cases h

/-- A new variable at the key k: what led there is forgotten. -/
def AS.fresh (s : AS) (k : Nat) (ob : AO) (v : AV) : Option AS :=
  bif Nat.blt k s.n && Nat.blt k 1000 then some ⟨s.n, ins k v (pgT k s.t), ins k ob (pgH k s.h)⟩ else none

theorem fresh_spec {c : Cx P} {a : Act} {w w' : World} {β : Nat → Nat} {κ : Nat → Nat × Nat} (r : Rel c s a w β κ) {k : Nat} {ob : AO} {v : AV} {s' : AS} (h : s.fresh k ob v = some s') {b : Nat} {cap : Nat × Nat} {V : Value}
    (hb : w.heap.size ≤ b) (hw : ∀ i, i < w.heap.size → w'.heap[i]? = w.heap[i]?) (hkp : Keeps c.K w w')
    (ho : HO w' (c.XX (ins k ob (pgH k s.h)) (upd β k b)) (upd β k b) (upd κ k cap) k ob)
    (hv : G w' (c.XX (ins k ob (pgH k s.h)) (upd β k b)) (upd β k b) (upd κ k cap) v V) : Rel c s' (a.put (some k) V) w' (upd β k b) (upd κ k cap) := by
  unfold AS.fresh at h
  cases hc : (Nat.blt k s.n && Nat.blt k 1000) with
  | false => rw [hc] at h; cases h
  | true =>
    rw [hc] at h; cases h
    simp only [Bool.and_eq_true, Nat.blt_eq] at hc
    have r' := r.pg k
    obtain ⟨h1, h2⟩ := r'.hp.anew (w' := w') hc.2 (fun j _ => by show AO.men k (lk .gone (pgH k s.h) j) = false; rw [lk_pgH]; exact AO.men_pg k _) b cap hb hw hkp ho
    refine ⟨r.df, by simp [Act.put, r.sz], fun i => ?_, h1⟩
    show G w' _ _ _ (lk .any (ins k v (pgT k s.t)) i) _
    rw [lk_ins]
    by_cases hi : i = k
    · subst hi
      have : i < a.tmps.size := by rw [r.sz]; exact hc.1
      simpa [Act.put, Array.getD_eq_getD_getElem?, Array.getElem?_setIfInBounds, this] using hv
    · have := h2 (r'.tm i) (by show AV.men k (lk .any (pgT k s.t) i) = false; rw [lk_pgT]; exact AV.men_pg k _)
      rw [if_neg hi]
      simpa [Act.put, Array.getD_eq_getD_getElem?, Array.getElem?_setIfInBounds, Ne.symm hi, fun e : k = i => hi e.symm] using this

theorem keeps_alloc (K : Nat → Prop) (w : World) (o : Obj) (hK : ∀ b, K b → b < w.heap.size) : Keeps K w (w.alloc o) :=
  ⟨rfl, rfl, rfl, by simp, fun b hb => heap_old w o (hK b hb)⟩
theorem Rel.Klt {c : Cx P} {a : Act} {w : World} {β : Nat → Nat} {κ : Nat → Nat × Nat} (r : Rel c s a w β κ) : ∀ b, c.K b → b < w.heap.size := fun b hb => Nat.lt_of_lt_of_le (c.hK b hb) r.hp.kp.size

theorem heap_new (w : World) (o : Obj) : (w.alloc o).heap[w.heap.size]? = some o := heap_alloc_new w o

/-- box: a parameter's or a variable's own place. -/
def abox (s : AS) (e : TypeId) (v : AV) (k : Nat) : Option AS :=
  match avCells (AV.pg k v) with
  | some cs => s.fresh k (.cells e cs) (.hptr k 0)
  | none => none

theorem fresh_cells {c : Cx P} {a : Act} {w : World} {β : Nat → Nat} {κ : Nat → Nat × Nat} (r : Rel c s a w β κ) {k : Nat} {e : TypeId} {v : AV} {V : Value} (hg : G w (c.XX s.h β) β κ v V) {s' : AS} (h : abox s e v k = some s') :
    Rel c s' (a.put (some k) (.pointer (some ⟨w.heap.size, 0, none⟩))) (w.alloc (.cells V.cells e)) (upd β k w.heap.size) (upd κ k (0, 0)) := by
  unfold abox at h
  split at h
  · rename_i cs hcs
    have hlt : ∀ i, i < w.heap.size → (w.alloc (.cells V.cells e)).heap[i]? = w.heap[i]? := fun i hi => heap_old w _ hi
    obtain ⟨hs, hG⟩ := avCells_spec (hg.pg k) hcs
    have hX : ∀ i, ¬ c.XX s.h β i → i < w.heap.size → ¬ c.XX (ins k (.cells e cs) (pgH k s.h)) (upd β k w.heap.size) i := by
      rintro i hi hlt (hx | ⟨j, hl, hj⟩)
      · exact hi (.inl hx)
      · by_cases e : j = k
        · subst e; rw [upd_same] at hj; omega
        · rw [upd_ne β e] at hj
          rw [lk_ins, if_neg e, lk_pgH, AO.live_pg] at hl
          exact hi (.inr ⟨j, hl, hj⟩)
    refine fresh_spec r h (Nat.le_refl _) hlt (keeps_alloc _ _ _ r.Klt) ⟨V.cells, by rw [upd_same]; exact heap_new w _, hs, fun i hi => ?_⟩ (by have := G.hptr (w := w.alloc (.cells V.cells e)) (X := c.XX (ins k (.cells e cs) (pgH k s.h)) (upd β k w.heap.size)) (β := upd β k w.heap.size) (κ := upd κ k (0, 0)) k 0; rwa [upd_same] at this)
    refine (hG i hi).mono (fun b _ hb => hlt b hb) hX fun j hj => ?_
    have : j ≠ k := by
      rintro rfl
      have h0 := AV.men_pg j v
      unfold avCells at hcs
      split at hcs
      · rename_i cs' e'
        cases hcs
        rw [e'] at h0
        simp only [AV.men] at h0
        rw [menL_getD hi hj] at h0; cases h0
      · split at hcs
        · cases hcs
          have : i = 0 := by simpa using hi
          subst this
          simp only [List.getD_cons_zero] at hj
          rw [hj] at h0; cases h0
        · cases hcs
    exact ⟨upd_ne β this, upd_ne κ this⟩
  · cases h

theorem op_box {t : TypeId} {x : Operand} {k : Nat} (hg : gd ops s o = some true) (hop : o.op = .box t x) (hd : o.dst = some k) {s' : AS} (h : abox s t (s.op x) k = some s') : OpT P ops o s (· = s') :=
  op_runs hg fun c a w β κ r => by
    refine ⟨_, _, _, _, .inl ?_, by rw [hd]; exact fresh_cells r (r.op x) h⟩
    simp only [execOp, hop]
    simp [Instr.box, newVar, newRow, go_sem]

def zeroOf (P : Program) (t : TypeId) : Option Value := match P.info? t with | some i => i.zero | none => none
theorem run_zero {w : World} {t : TypeId} {z : Value} (h : zeroOf P t = some z) : (zeroValue t).run P w = .ok z w := by
  unfold zeroOf at h
  cases hi : P.info? t with
  | none => simp [hi] at h
  | some i => simp [hi] at h; simp [zeroValue, typeInfo, hi, h, go_sem]

theorem op_alloc {t : TypeId} {k : Nat} {z : Value} (hg : gd ops s o = some true) (hop : o.op = .alloc t) (hd : o.dst = some k) (hz : zeroOf P t = some z) {s' : AS} (h : abox s t (AV.of z) k = some s') : OpT P ops o s (· = s') :=
  op_runs hg fun c a w β κ r => by
    refine ⟨_, _, _, _, .inl ?_, by rw [hd]; exact fresh_cells r (.d (D.of w _ z)) h⟩
    simp only [execOp, hop, Instr.alloc, Sem.run_bind, run_zero hz, Result.andThen]
    simp [newVar, newRow, go_sem]

/-! ### a store into own memory -/
def splice (cs : List AV) (o : Nat) (vs : List AV) : List AV := cs.take o ++ vs ++ cs.drop (o + vs.length)

theorem splice_len {cs vs : List AV} {o : Nat} (h : o + vs.length ≤ cs.length) : (splice cs o vs).length = cs.length := by
  simp [splice]; omega

theorem getD_append_lt {α : Type} {l m : List α} {i : Nat} {d : α} (h : i < l.length) : (l ++ m).getD i d = l.getD i d := by
  simp [List.getD_eq_getElem?_getD, List.getElem?_append_left h]
theorem getD_append_ge {α : Type} {l m : List α} {i : Nat} {d : α} (h : l.length ≤ i) : (l ++ m).getD i d = m.getD (i - l.length) d := by
  simp [List.getD_eq_getElem?_getD, List.getElem?_append_right h]

theorem splice_getD {cs vs : List AV} {o i : Nat} (h : o + vs.length ≤ cs.length) : (splice cs o vs).getD i .any = if o ≤ i ∧ i < o + vs.length then vs.getD (i - o) .any else cs.getD i .any := by
  have h1 : (cs.take o).length = o := by simp; omega
  unfold splice
  by_cases hi : i < o
  · rw [if_neg (by omega), List.append_assoc, getD_append_lt (by omega), getD_take _ _ _ _ hi]
  · by_cases hi2 : i < o + vs.length
    · rw [if_pos ⟨by omega, hi2⟩, List.append_assoc, getD_append_ge (by omega), h1, getD_append_lt (by omega)]
    · rw [if_neg (by omega), getD_append_ge (by simp; omega), getD_drop]
      congr 1; simp; omega

/-- What a store does. -/
def astore (P : Program) (s : AS) (t : TypeId) (x y : AV) : Option AS :=
  match x, avCells y, szOf P t with
  | .hptr k o, some vs, some n => (match lk .gone s.h k with
    | .cells e cs => if vs.length = n ∧ o + vs.length ≤ cs.length ∧ vs.all AV.one = true then some ⟨s.n, s.t, ins k (.cells e (splice cs o vs)) s.h⟩ else none
    | _ => none)
  | _, _, _ => none

theorem setRow_heap_eq (w : World) (b : Nat) (cur : Array Value) (e : TypeId) (vs : Array Value) (h : w.heap[b]? = some (.cells cur e (0, 0))) : (w.setRow b vs).heap[b]? = some (.cells vs e (0, 0)) := setRow_heap w b cur vs e _ h
theorem setRow_heap_ne (w : World) (b : Nat) (vs : Array Value) {i : Nat} (h : i ≠ b) : (w.setRow b vs).heap[i]? = w.heap[i]? := setRow_other w b i vs h

theorem astore_sound {c : Cx P} {a : Act} {w : World} {β : Nat → Nat} {κ : Nat → Nat × Nat} (r : Rel c s a w β κ) {t : TypeId} {x y : AV} {X Y : Value} (hx : G w (c.XX s.h β) β κ x X) (hy : G w (c.XX s.h β) β κ y Y) {s' : AS} (h : astore P s t x y = some s') :
    ∃ w', (Instr.storeAt t X Y).run P w = .ok () w' ∧ Rel c s' a w' β κ := by
  unfold astore at h
  split at h
  · rename_i k off vs n hvs hn
    split at h
    · rename_i e cs hk
      split at h
      · rename_i hc
        obtain ⟨hc1, hc2, hc3⟩ := hc
        cases h
        have ho := r.hp.ob k
        rw [hk] at ho
        obtain ⟨cur, h1, h2, h3⟩ := ho
        obtain ⟨g1, g2⟩ := avCells_spec hy hvs
        have hone : ∀ v ∈ Y.cells.toList, v.oneCell' = true := by
          intro v hv
          obtain ⟨i, hi, rfl⟩ := List.getElem_of_mem hv
          have hi' : i < Y.cells.size := by simpa using hi
          have := g2 i (by omega)
          have e1 : Y.cells.getD i undef = Y.cells.toList[i] := by simp [Array.getD_eq_getD_getElem?, Array.getElem?_eq_getElem hi']
          rw [e1] at this
          refine this.one ?_
          have := List.all_eq_true.1 hc3 (vs.getD i .any)
          refine this ?_
          rw [List.getD_eq_getElem?_getD, List.getElem?_eq_getElem (by omega : i < vs.length)]
          exact List.getElem_mem _
        have hst := run_storeCells_at P (β k) off e Y.cells.toList 0 cur w h1 (by simp; omega) hone
        simp only [Nat.add_zero, Array.length_toList] at hst
        let new : Array Value := (cur.toList.take off ++ Y.cells.toList ++ cur.toList.drop (off + Y.cells.size)).toArray
        refine ⟨w.setRow (β k) new, ?_, ?_⟩
        · rw [hx.hptr_inv]
          simp only [Instr.storeAt, Instr.sureAddr, pure_bind, storeVar, Sem.run_bind, run_sizeOf hn, Result.andThen]
          rw [if_neg (by omega)]
          exact hst
        · have hlive : (lk .gone s.h k).live := by rw [hk]; trivial
          have hbk : β k < w.heap.size := r.hp.lt hlive
          have hown : ∀ i, own (ins k (.cells e (splice cs off vs)) s.h) β i ↔ own s.h β i := by
            intro i
            constructor
            · rintro ⟨j, hl, hj⟩
              by_cases ej : j = k
              · subst ej; exact ⟨j, hlive, hj⟩
              · rw [lk_ins, if_neg ej] at hl; exact ⟨j, hl, hj⟩
            · rintro ⟨j, hl, hj⟩
              by_cases ej : j = k
              · subst ej; exact ⟨j, by rw [lk_ins, if_pos rfl]; trivial, hj⟩
              · exact ⟨j, by rw [lk_ins, if_neg ej]; exact hl, hj⟩
          have hXX : c.XX (ins k (.cells e (splice cs off vs)) s.h) β = c.XX s.h β := by funext i; simp only [Cx.XX, hown]
          have hw : ∀ i, ¬ c.XX s.h β i → i < w.heap.size → (w.setRow (β k) new).heap[i]? = w.heap[i]? := fun i hi _ => setRow_heap_ne _ _ _ (fun e => hi (.inr ⟨k, hlive, e.symm⟩))
          have hG : ∀ {v : AV} {V : Value}, G w (c.XX s.h β) β κ v V → G (w.setRow (β k) new) (c.XX s.h β) β κ v V := fun hg => hg.mono hw (fun _ h _ => h) (fun _ _ => ⟨rfl, rfl⟩)
          refine ⟨r.df, r.sz, fun i => ?_, ⟨fun j => ?_, fun i j hi hj e => ?_, ?_, fun j hj => ?_, fun j hj => ?_, r.hp.fix⟩⟩
          · show G _ (c.XX (ins k _ s.h) β) β κ _ _
            rw [hXX]; exact hG (r.tm i)
          · show HO _ (c.XX (ins k _ s.h) β) β κ j (lk .gone (ins k _ s.h) j)
            rw [hXX, lk_ins]
            by_cases ej : j = k
            · subst ej
              rw [if_pos rfl]
              refine ⟨new, setRow_heap_eq w _ cur e new h1, ?_, fun i hi => ?_⟩
              · rw [splice_len hc2]; simp [new]; omega
              · rw [splice_len hc2] at hi
                rw [splice_getD hc2]
                have hnew : new.getD i undef = if off ≤ i ∧ i < off + vs.length then Y.cells.getD (i - off) undef else cur.getD i undef := by
                  have hl1 : (cur.toList.take off).length = off := by simp; omega
                  have hN : new.getD i undef = (cur.toList.take off ++ Y.cells.toList ++ cur.toList.drop (off + Y.cells.size)).getD i undef := by
                    simp [new, Array.getD_eq_getD_getElem?, List.getD_eq_getElem?_getD]
                  rw [hN]
                  by_cases h4 : i < off
                  · rw [if_neg (by omega), List.append_assoc, getD_append_lt (by omega), getD_take _ _ _ _ h4]
                    simp [Array.getD_eq_getD_getElem?, List.getD_eq_getElem?_getD]
                  · by_cases h5 : i < off + vs.length
                    · rw [if_pos ⟨by omega, h5⟩, List.append_assoc, getD_append_ge (by omega), hl1, getD_append_lt (by simp; omega)]
                      simp [Array.getD_eq_getD_getElem?, List.getD_eq_getElem?_getD]
                    · rw [if_neg (by omega), getD_append_ge (by simp; omega), getD_drop]
                      have : off + Y.cells.size + (i - (cur.toList.take off ++ Y.cells.toList).length) = i := by simp; omega
                      rw [this]
                      simp [Array.getD_eq_getD_getElem?, List.getD_eq_getElem?_getD]
                rw [hnew]
                by_cases h6 : off ≤ i ∧ i < off + vs.length
                · rw [if_pos h6, if_pos h6]; exact hG (g2 (i - off) (by omega))
                · rw [if_neg h6, if_neg h6]; exact hG (h3 i hi)
            · rw [if_neg ej]
              refine (r.hp.ob j).mono hw (fun _ h _ => h) (fun _ _ => ⟨rfl, rfl⟩) ⟨rfl, rfl⟩ fun hl => setRow_heap_ne _ _ _ fun e => ej (r.hp.inj j k hl hlive e)
          · have hi' : (lk .gone s.h i).live := by
              rw [lk_ins] at hi; by_cases ei : i = k
              · subst ei; exact hlive
              · rw [if_neg ei] at hi; exact hi
            have hj' : (lk .gone s.h j).live := by
              rw [lk_ins] at hj; by_cases ei : j = k
              · subst ei; exact hlive
              · rw [if_neg ei] at hj; exact hj
            exact r.hp.inj i j hi' hj' e
          · refine r.hp.kp.trans (K' := c.K) ⟨rfl, rfl, rfl, by simp [World.setRow], fun b hb => setRow_heap_ne _ _ _ fun e => r.hp.nk k hlive (e ▸ hb)⟩ (fun _ h => h)
          · rw [lk_ins] at hj; by_cases ei : j = k
            · subst ei; exact r.hp.nk j hlive
            · rw [if_neg ei] at hj; exact r.hp.nk j hj
          · rw [lk_ins] at hj; by_cases ei : j = k
            · subst ei; exact r.hp.nx j hlive
            · rw [if_neg ei] at hj; exact r.hp.nx j hj
      · cases h
    · cases h
  · cases h

theorem op_store {t : TypeId} {x y : Operand} (hg : gd ops s o = some true) (hop : o.op = .store t x y) (hd : o.dst = none) {s' : AS} (h : astore P s t (s.op x) (s.op y) = some s') : OpT P ops o s (· = s') :=
  op_runs hg fun c a w β κ r => by
    obtain ⟨w', hr, r'⟩ := astore_sound r (r.op x) (r.op y) h
    refine ⟨undef, w', β, κ, .inr ⟨?_, rfl⟩, by rw [hd]; exact r'⟩
    simp only [execOp, hop, Sem.run_bind, hr, Result.andThen]
    rfl
end
end Go.Ab
