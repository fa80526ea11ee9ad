/- ABSTRACT STATES: append; rows that nobody writes to any more. -/
import Derived.Test.YtjfpcjnopbfekaaGreatDoorAb12
set_option linter.unusedSimpArgs false
set_option linter.unusedVariables false
namespace Go.Ab
open Go.RowKit

def rm {α : Type} (k : Nat) : List (Nat × α) → List (Nat × α)
  | [] => []
  | (j, u) :: l => bif Nat.beq j k then rm k l else (j, u) :: rm k l
theorem lk_rm {α : Type} (d : α) (k : Nat) (l : List (Nat × α)) (i : Nat) : lk d (rm k l) i = if i = k then d else lk d l i := by
  induction l with
  | nil => simp [rm, lk]
  | cons p l ih =>
    obtain ⟨j, u⟩ := p
    simp only [rm]
    by_cases hj : j = k
    · subst hj
      simp only [Nat.beq_refl, cond_true, ih, lk]
      by_cases h : i = j
      · subst h; simp
      · rw [if_neg h, if_neg h, beq_f h]; rfl
    · rw [beq_f hj]
      simp only [cond_false, lk, ih]
      by_cases h : i = k
      · subst h; rw [beq_f (fun e => hj e.symm)]; simp
      · simp [h]

section
variable {P : Program} {ops : Array Oper} {o : Oper} {s : AS}

theorem RelH.rm {c : Cx P} {h : List (Nat × AO)} {w : World} {β : Nat → Nat} {κ : Nat → Nat × Nat} (r : RelH c h w β κ) (k : Nat) : RelH c (Ab.rm k h) w β κ ∧ ∀ b, own (Ab.rm k h) β b → own h β b := by
  have ho : ∀ b, own (Ab.rm k h) β b → own h β b := by
    rintro b ⟨j, hl, hj⟩
    rw [lk_rm] at hl
    by_cases e : j = k
    · rw [if_pos e] at hl; exact hl.elim
    · rw [if_neg e] at hl; exact ⟨j, hl, hj⟩
  have hl' : ∀ {j}, (lk .gone (Ab.rm k h) j).live → (lk .gone h j).live := by
    intro j hl
    rw [lk_rm] at hl
    by_cases e : j = k
    · rw [if_pos e] at hl; exact hl.elim
    · rw [if_neg e] at hl; exact hl
  refine ⟨⟨fun j => ?_, fun i j hi hj e => r.inj i j (hl' hi) (hl' hj) e, r.kp, fun j hj => r.nk j (hl' hj), fun j hj => r.nx j (hl' hj), r.fix⟩, ho⟩
  rw [lk_rm]
  by_cases e : j = k
  · rw [if_pos e]; trivial
  · rw [if_neg e]
    exact (r.ob j).mono (fun _ _ _ => rfl) (fun b hb _ hb' => hb (hb'.imp id (ho b))) (fun _ _ => ⟨rfl, rfl⟩) ⟨rfl, rfl⟩ (fun _ => rfl)

/-- What two keys lead to is forgotten, the first key's object too. -/
def AS.drop2 (s : AS) (k k' : Nat) : AS := ⟨s.n, pgT k (pgT k' s.t), rm k (pgH k (pgH k' s.h))⟩

theorem men2 (k k' : Nat) (s : AS) : (∀ i, AV.men k (lk .any (s.drop2 k k').t i) = false ∧ AV.men k' (lk .any (s.drop2 k k').t i) = false) ∧ (∀ i, AO.men k (lk .gone (s.drop2 k k').h i) = false ∧ AO.men k' (lk .gone (s.drop2 k k').h i) = false) := by
  constructor
  · intro i
    simp only [AS.drop2, lk_pgT]
    refine ⟨AV.men_pg k _, ?_⟩
    rw [Bool.eq_false_iff]; intro h
    have := AV.men_pg' h
    rw [AV.men_pg] at this; cases this
  · intro i
    simp only [AS.drop2, lk_rm, lk_pgH]
    by_cases e : i = k
    · rw [if_pos e]; exact ⟨rfl, rfl⟩
    · rw [if_neg e]
      refine ⟨AO.men_pg k _, ?_⟩
      rw [Bool.eq_false_iff]; intro h
      have := AO.men_pg' h
      rw [AO.men_pg] at this; cases this

theorem Rel.drop2 {c : Cx P} {a : Act} {w : World} {β : Nat → Nat} {κ : Nat → Nat × Nat} (r : Rel c s a w β κ) (k k' : Nat) : Rel c (s.drop2 k k') a w β κ := by
  have r2 := (r.pg k').pg k
  obtain ⟨h1, h2⟩ := r2.hp.rm k
  exact ⟨r2.df, r2.sz, fun i => (r2.tm i).mono (fun _ _ _ => rfl) (fun b hb _ hb' => hb (hb'.imp id (h2 b))) (fun _ _ => ⟨rfl, rfl⟩), h1⟩

/-- The same block under another key, its content new. -/
theorem RelH.rebind {c : Cx P} {h : List (Nat × AO)} {w w' : World} {β : Nat → Nat} {κ : Nat → Nat × Nat} (r : RelH c h w β κ) {k' b : Nat} (hk : k' < 1000) (hm : ∀ j, j ≠ k' → AO.men k' (lk .gone h j) = false) (cap : Nat × Nat) {ob : AO}
    (hbX : ¬ c.X b) (hbK : ¬ c.K b) (hfree : ∀ j, (lk .gone h j).live → β j ≠ b) (hw : ∀ i, i ≠ b → w'.heap[i]? = w.heap[i]?) (hkp : Keeps (fun i => i ≠ b) w w')
    (ho : HO w' (c.XX (ins k' ob h) (upd β k' b)) (upd β k' b) (upd κ k' cap) k' ob) (rw' : ∀ j, HO w (fun i => c.XX h β i ∨ i = b) β κ j (lk .gone h j)) :
    RelH c (ins k' ob h) w' (upd β k' b) (upd κ k' cap) ∧
    ∀ {v : AV} {V : Value}, G w (fun i => c.XX h β i ∨ i = b) β κ v V → AV.men k' v = false → G w' (c.XX (ins k' ob h) (upd β k' b)) (upd β k' b) (upd κ k' cap) v V := by
  have hX : ∀ i, ¬ (c.XX h β i ∨ i = b) → i < w.heap.size → ¬ c.XX (ins k' ob h) (upd β k' b) i := by
    rintro i hi hlt (hx | ⟨j, hl, hj⟩)
    · exact hi (.inl (.inl hx))
    · by_cases e : j = k'
      · subst e; rw [upd_same] at hj; exact hi (.inr hj.symm)
      · rw [upd_ne β e] at hj
        rw [lk_ins, if_neg e] at hl
        exact hi (.inl (.inr ⟨j, hl, hj⟩))
  have hw2 : ∀ i, ¬ (c.XX h β i ∨ i = b) → i < w.heap.size → w'.heap[i]? = w.heap[i]? := fun i hi _ => hw i (fun e => hi (.inr e))
  refine ⟨⟨fun j => ?_, fun i j hi hj e => ?_, r.kp.trans hkp (fun i hi e => hbK (e ▸ hi)), fun j hj => ?_, fun j hj => ?_, fun j hj => ?_⟩, fun {v V} hg hmv => hg.mono hw2 hX fun j hj => ?_⟩
  · rw [lk_ins]
    by_cases e : j = k'
    · subst e; simpa using ho
    · rw [if_neg e]
      refine (rw' j).mono hw2 hX (fun i hi => ?_) ⟨upd_ne β e, upd_ne κ e⟩ (fun hl => hw _ (hfree j hl))
      have : i ≠ k' := fun e2 => by subst e2; rw [hm j e] at hi; cases hi
      exact ⟨upd_ne β this, upd_ne κ this⟩
  · rw [lk_ins] at hi hj
    by_cases e1 : i = k' <;> by_cases e2 : j = k'
    · rw [e1, e2]
    · rw [if_neg e2] at hj
      rw [e1, upd_same, upd_ne β e2] at e
      exact absurd e.symm (hfree j hj)
    · rw [if_neg e1] at hi
      rw [e2, upd_same, upd_ne β e1] at e
      exact absurd e (hfree i hi)
    · rw [if_neg e1] at hi; rw [if_neg e2] at hj
      rw [upd_ne β e1, upd_ne β e2] at e
      exact r.inj i j hi hj e
  · rw [lk_ins] at hj
    by_cases e : j = k'
    · subst e; rw [upd_same]; exact hbK
    · rw [if_neg e] at hj; rw [upd_ne β e]; exact r.nk j hj
  · rw [lk_ins] at hj
    by_cases e : j = k'
    · subst e; rw [upd_same]; exact hbX
    · rw [if_neg e] at hj; rw [upd_ne β e]; exact r.nx j hj
  · have : j ≠ k' := by omega
    rw [upd_ne β this, upd_ne κ this]; exact r.fix j hj
  · have : j ≠ k' := fun e2 => by subst e2; rw [hmv] at hj; cases hj
    exact ⟨upd_ne β this, upd_ne κ this⟩

/-- Elements that can be appended. -/
def EL (sz : Nat) (ys : List (List AV)) : Prop := ∀ y ∈ ys, y.length = sz ∧ ∀ v ∈ y, v.one = true ∧ v.fl = true
theorem EL.nil (sz : Nat) : EL sz [] := fun y hy => by cases hy
theorem EL.map {α : Type} {sz : Nat} {f : α → List AV} (h : ∀ x, (f x).length = sz ∧ ∀ v ∈ f x, v.one = true ∧ v.fl = true) (l : List α) : EL sz (l.map f) := by
  intro y hy
  obtain ⟨x, _, rfl⟩ := List.mem_map.1 hy
  exact h x
theorem EL.one {sz : Nat} {y : List AV} (h : y.length = sz) (h2 : y.all (fun v => v.one && v.fl) = true) : EL sz [y] := by
  intro z hz
  simp only [List.mem_singleton] at hz
  subst hz
  refine ⟨h, fun v hv => ?_⟩
  have := List.all_eq_true.1 h2 v hv
  simpa using this

/-- The cells of a slice that is appended. -/
theorem news_of {w : World} {X : Nat → Prop} {ys : List (List AV)} {V : Value} {sz : Nat} (h : D w X (.dslice ys) V) (hE : EL sz ys) (hy : ys ≠ []) :
    ∃ (ad : Addr) (cap : Nat) (news : List Value), V = .slice (some ad) ys.length cap ∧ news.length = ys.length * sz ∧ (∀ j u, news[j]? = some u → w.cell? (ad.add j) = some u) ∧ (∀ u ∈ news, u.oneCell' = true) ∧
      ∀ i j, i < ys.length → j < sz → D w X ((ys.getD i []).getD j .any) (news.getD (i * sz + j) undef) := by
  cases h with
  | dnil => exact absurd rfl hy
  | dslice _ b o cap sz' cv h1 h2 h0 h3 h4 h5 h6 =>
    have hl : 0 < ys.length := by cases ys with | nil => exact absurd rfl hy | cons _ _ => simp
    have hsz : sz' = sz := by
      rw [← h4 0 hl]
      have : ys.getD 0 [] ∈ ys := by rw [List.getD_eq_getElem?_getD, List.getElem?_eq_getElem hl]; exact List.getElem_mem hl
      exact (hE _ this).1
    subst hsz
    have hdm : ∀ j, j < ys.length * sz' → j / sz' < ys.length ∧ j % sz' < sz' ∧ j / sz' * sz' + j % sz' = j := fun j hj => ⟨(Nat.div_lt_iff_lt_mul h0).2 hj, Nat.mod_lt _ h0, by rw [Nat.mul_comm]; exact Nat.div_add_mod j sz'⟩
    have hg : ∀ j, j < ys.length * sz' → ((List.range (ys.length * sz')).map fun j => cv (j / sz') (j % sz'))[j]? = some (cv (j / sz') (j % sz')) := fun j hj => by simp [hj]
    refine ⟨⟨b, o, none⟩, cap, (List.range (ys.length * sz')).map fun j => cv (j / sz') (j % sz'), rfl, by simp, fun j u hu => ?_, fun u hu => ?_, fun i j hi hj => ?_⟩
    · have hj : j < ys.length * sz' := by
        have := (List.getElem?_eq_some_iff.1 hu).1
        simpa using this
      rw [hg j hj] at hu; cases hu
      obtain ⟨a1, a2, a3⟩ := hdm j hj
      have := h5 _ _ a1 a2
      rw [a3] at this
      rw [add_mk]; exact this
    · obtain ⟨j, hj, rfl⟩ := List.mem_map.1 hu
      obtain ⟨a1, a2, a3⟩ := hdm j (by simpa using hj)
      have hd := h6 _ _ a1 a2
      have hm : ys.getD (j / sz') [] ∈ ys := by rw [List.getD_eq_getElem?_getD, List.getElem?_eq_getElem a1]; exact List.getElem_mem a1
      have hm2 : (ys.getD (j / sz') []).getD (j % sz') .any ∈ ys.getD (j / sz') [] := by
        rw [List.getD_eq_getElem?_getD (l := ys.getD (j / sz') []), List.getElem?_eq_getElem (by rw [h4 _ a1]; exact a2)]; exact List.getElem_mem _
      exact hd.one ((hE _ hm).2 _ hm2).1
    · have hij : i * sz' + j < ys.length * sz' := by
        have : (i + 1) * sz' ≤ ys.length * sz' := Nat.mul_le_mul_right _ hi
        rw [Nat.add_mul] at this; omega
      have e1 : (i * sz' + j) / sz' = i := by rw [Nat.mul_comm, Nat.mul_add_div h0, Nat.div_eq_of_lt hj, Nat.add_zero]
      have e2 : (i * sz' + j) % sz' = j := by rw [Nat.mul_comm, Nat.mul_add_mod, Nat.mod_eq_of_lt hj]
      have e0 : ((List.range (ys.length * sz')).map fun j => cv (j / sz') (j % sz')).getD (i * sz' + j) undef = cv i j := by
        rw [List.getD_eq_getElem?_getD, hg _ hij, e1, e2]; rfl
      rw [e0]
      exact h6 i j hi hj

theorem append_zero {t e : TypeId} {i : TypeInfo} {w : World} (ht : P.underlying t = some (.slice e)) (hi : P.info? e = some i) (ad : Option Addr) (n cap : Nat) (hn : n ≤ cap) (b : Option Addr) (c : Nat) (ty : TypeId) :
    (Builtin.append_ #[t, t] ty #[.slice ad n cap, .slice b 0 c]).run P w = .ok (.slice ad n cap) w := by
  cases ad <;> cases b <;> simp [Builtin.append_, run_underlying ht, sizeOf, typeInfo, hi, Builtin.lenOf, Builtin.firstCells, hn, loadCells, loadCellsFrom, storeCells, go_sem]

/-- What an element's type must be. -/
def elemOk (P : Program) (t : TypeId) : Option (TypeId × Nat × Nat) :=
  match uSl P t with
  | some e => match P.info? e with
    | some i => match i.zero with
      | some z => if z.cells.size = i.size ∧ 0 < i.size then some (e, i.size, i.bytes) else none
      | none => none
    | none => none
  | none => none
theorem elemOk_spec {t e : TypeId} {sz by_ : Nat} (h : elemOk P t = some (e, sz, by_)) : P.underlying t = some (.slice e) ∧ ∃ i z, P.info? e = some i ∧ i.zero = some z ∧ i.size = sz ∧ i.bytes = by_ ∧ z.cells.size = sz ∧ 0 < sz := by
  unfold elemOk at h
  split at h
  · rename_i e' he
    split at h
    · rename_i i hi
      split at h
      · rename_i z hz
        split at h
        · rename_i hc
          cases h
          exact ⟨uSl_spec he, i, z, hi, hz, rfl, rfl, hc.1, hc.2⟩
        · cases h
      · cases h
    · cases h
  · cases h

/-- append to a slice without elements or room: what comes out is nobody's. -/
theorem op_appendE {x y : Operand} {t e : TypeId} {sz by_ : Nat} (hg : gd ops s o = some true) (hop : o.op = .call ⟨.builtin .append, #[x, y], #[t, t]⟩) (he : elemOk P t = some (e, sz, by_)) (hx : s.op x = .eslice) {ys : List (List AV)} (hy : s.op y = .dslice ys)
    (hE : EL sz ys) (hb : ys.length * by_ ≤ 140737488355328) (h63 : ys.length ≤ 9223372036854775807) {s' : AS} (h : s.put o.dst (.dslice ys) = some s') : OpT P ops o s (· = s') :=
  op_runs hg fun c a w β κ r => by
    obtain ⟨hu, i, z, hi, hz, rfl, rfl, hzs, hsz⟩ := elemOk_spec he
    have hX := r.op x; have hY := r.op y
    rw [hx] at hX; rw [hy] at hY
    obtain ⟨ad, eX⟩ := hX.eslice_inv
    obtain ⟨hd, ad2, cap2, eY, _⟩ := hY.dslice_inv
    have hexec : ∀ {V w'}, (Builtin.append_ #[t, t] o.type #[.slice ad 0 0, a.eval y]).run P w = .ok V w' → (execOp a.eval o).run P w = .ok (.value V) w' := by
      intro V w' hr
      simp only [execOp, hop, resolve, invoke, builtin, Sem.run_bind, Sem.run_pure, Result.andThen_ok, List.map_toArray, List.map_cons, List.map_nil, eX, hr]
    by_cases hys : ys = []
    · subst hys
      refine ⟨_, w, β, κ, .inl (hexec (by rw [eY]; exact append_zero hu hi ad 0 0 (Nat.le_refl _) _ _ _)), put_spec r (.d (.dnil _ _ (Nat.zero_le _))) h⟩
    · obtain ⟨bd, cap, news, e1, n1, n2, n3, n4⟩ := news_of hd hE hys
      have hm : 0 < ys.length := by cases ys with | nil => exact absurd rfl hys | cons _ _ => simp
      let C := grownCap w ys.length 0 e
      have hC : ys.length ≤ C := grownCap_ge w _ _ _
      have hCm : C ≤ maxLen := grownCap_le_maxLen w _ _ _ (by unfold maxLen; omega)
      let arr : Array Value := news.toArray ++ Builtin.zeroCells z.cells (C - ys.length)
      have hrun : (Builtin.append_ #[t, t] o.type #[.slice ad 0 0, a.eval y]).run P w = .ok (.slice (some ⟨w.heap.size, 0, none⟩) ys.length C) (w.drew.alloc (.cells arr e)) := by
        rw [e1]
        cases ad with
        | none => exact run_append_nil (P := P) w t o.type e i z hu hi hz bd ys.length cap news n1 n2 hm (by omega) (by omega)
        | some b0 =>
          have := run_append_grow (P := P) w t o.type e i z hu hi hz b0 0 0 [] (by simp) (fun j v hv => by simp at hv) bd ys.length cap news n1 n2 (by omega) (by omega) (growslice_fits (by omega) (by simpa using hb))
          simpa [arr, C] using this
      obtain ⟨r1, r2, r3⟩ := r.drew.more (.cells arr e)
      have hns : news.length ≤ arr.size := by simp [arr]
      refine ⟨_, w.drew.alloc (.cells arr e), β, κ, .inl (hexec hrun), put_spec r1 (.d ?_) h⟩
      have r3' : ¬ c.XX s.h β w.heap.size := r3
      refine D.dslice ys w.heap.size 0 C i.size (fun i' j => news.getD (i' * i.size + j) undef) hC hCm hsz r3' (fun i' hi' => ?_) (fun i' j hi' hj => ?_) (fun i' j hi' hj => ?_)
      · have : ys.getD i' [] ∈ ys := by rw [List.getD_eq_getElem?_getD, List.getElem?_eq_getElem hi']; exact List.getElem_mem hi'
        exact (hE _ this).1
      · have hij : i' * i.size + j < news.length := by
          rw [n1]
          have : (i' + 1) * i.size ≤ ys.length * i.size := Nat.mul_le_mul_right _ hi'
          rw [Nat.add_mul] at this; omega
        rw [Nat.zero_add]
        have := cell_of_cells (w := w.drew.alloc (.cells arr e)) (b := w.heap.size) (i := i' * i.size + j) (heap_new w.drew _) (by omega)
        rw [this]
        congr 1
        simp [arr, Array.getD_eq_getD_getElem?, Array.getElem?_append, hij, List.getD_eq_getElem?_getD]
      · have := n4 i' j hi' hj
        exact this.mono (w := w) (w' := w.drew.alloc (.cells arr e)) (fun b _ hb => heap_old w.drew _ hb) (fun _ h _ => h)

/-- The state behind an append to a row of one's own: the new row stands at the key k'. -/
def AS.grow (s : AS) (k k' : Nat) (e : TypeId) (sz : Nat) (zs : List (List AV)) : Option AS :=
  bif Nat.blt k' s.n && Nat.blt k' 1000 then some ⟨s.n, ins k' (.rslice k') (s.drop2 k k').t, ins k' (.row e sz zs) (s.drop2 k k').h⟩ else none

theorem row_new {c : Cx P} {a : Act} {w : World} {β : Nat → Nat} {κ : Nat → Nat × Nat} {s : AS} (r : Rel c s a w β κ) {k k' : Nat} {e : TypeId} {sz : Nat} {zs : List (List AV)} {s' : AS} (h : s.grow k k' e sz zs = some s') (arr : Array Value) (C : Nat) (hz : zs ≠ []) (hsz : 0 < sz)
    (hl : ∀ i, i < zs.length → (zs.getD i []).length = sz) (hs : arr.size = C * sz) (hC : zs.length ≤ C) (hCm : C ≤ maxLen)
    (hG : ∀ i j, i < zs.length → j < sz → D w (c.XX s.h β) ((zs.getD i []).getD j .any) (arr.getD (i * sz + j) undef)) :
    ∃ β' κ', Rel c s' (a.put (some k') (.slice (some ⟨w.heap.size, 0, none⟩) zs.length C)) (w.drew.alloc (.cells arr e)) β' κ' := by
  unfold AS.grow at h
  cases hc : (Nat.blt k' s.n && Nat.blt k' 1000) with
  | false => rw [hc] at h; cases h
  | true =>
    rw [hc] at h; cases h
    simp only [Bool.and_eq_true, Nat.blt_eq] at hc
    have r' := (r.drew).drop2 k k'
    obtain ⟨m1, m2⟩ := men2 k k' s
    have hw : ∀ b, b < w.heap.size → (w.drew.alloc (.cells arr e)).heap[b]? = w.heap[b]? := fun b hb => heap_old w.drew _ hb
    have hsub : ∀ b, ¬ c.XX s.h β b → b < w.heap.size → ¬ c.XX (ins k' (.row e sz zs) (s.drop2 k k').h) (upd β k' w.heap.size) b := by
      rintro b hb hlt (hx | ⟨j, hl, hj⟩)
      · exact hb (.inl hx)
      · by_cases ej : j = k'
        · subst ej; rw [upd_same] at hj; omega
        · rw [upd_ne β ej] at hj
          rw [lk_ins, if_neg ej] at hl
          simp only [AS.drop2, lk_rm, lk_pgH] at hl
          by_cases e2 : j = k
          · rw [if_pos e2] at hl; exact hl.elim
          · rw [if_neg e2, AO.live_pg, AO.live_pg] at hl; exact hb (.inr ⟨j, hl, hj⟩)
    obtain ⟨h1, h2⟩ := r'.hp.anew (w' := w.drew.alloc (.cells arr e)) hc.2 (fun j _ => (m2 j).2) w.heap.size (C, zs.length) (Nat.le_refl _) hw (keeps_alloc _ w.drew _ r.Klt) (o := .row e sz zs)
      ⟨by rw [upd_same], fun _ => ⟨arr, by rw [upd_same]; exact heap_new w.drew _, by rw [upd_same]; exact hs, by rw [upd_same]; exact hC, by rw [upd_same]; exact hCm, hsz, hl, fun i j hi hj => (hG i j hi hj).mono (w := w) (fun b _ hb => hw b hb) hsub⟩⟩
    refine ⟨upd β k' w.heap.size, upd κ k' (C, zs.length), r.df, by simp [Act.put, r.sz], fun i => ?_, h1⟩
    show G _ _ _ _ (lk .any (ins k' (.rslice k') (s.drop2 k k').t) i) _
    rw [lk_ins]
    by_cases hi : i = k'
    · subst hi
      have hi' : i < a.tmps.size := by rw [r.sz]; exact hc.1
      have hlz : 0 < zs.length := by cases zs with | nil => exact absurd rfl hz | cons _ _ => simp
      have := G.rslice (w := w.drew.alloc (.cells arr e)) (X := c.XX (ins i (.row e sz zs) (s.drop2 k i).h) (upd β i w.heap.size)) (β := upd β i w.heap.size) (κ := upd κ i (C, zs.length)) i (by rw [upd_same]; exact hlz)
      rw [upd_same, upd_same] at this
      simpa [Act.put, Array.getD_eq_getD_getElem?, Array.getElem?_setIfInBounds, hi'] using this
    · have := h2 (r'.tm i) (m1 i).2
      rw [if_neg hi]
      have hne : ¬ k' = i := fun e => hi e.symm
      simpa [Act.put, Array.getD_eq_getD_getElem?, Array.getElem?_setIfInBounds, hne] using this

/-- An empty slice in a slot is a row without elements. -/
theorem row_empty {c : Cx P} {a : Act} {w : World} {β : Nat → Nat} {κ : Nat → Nat × Nat} {s : AS} (r : Rel c s a w β κ) {k k' : Nat} {e : TypeId} {sz : Nat} {s' : AS} (h : s.grow k k' e sz [] = some s') (ad : Option Addr) :
    Rel c s' (a.put (some k') (.slice ad 0 0)) w β (upd κ k' (0, 0)) := by
  unfold AS.grow at h
  cases hc : (Nat.blt k' s.n && Nat.blt k' 1000) with
  | false => rw [hc] at h; cases h
  | true =>
    rw [hc] at h; cases h
    simp only [Bool.and_eq_true, Nat.blt_eq] at hc
    have r' := r.drop2 k k'
    obtain ⟨m1, m2⟩ := men2 k k' s
    have hlive : ∀ {j}, (lk .gone (ins k' (.row e sz []) (s.drop2 k k').h) j).live → (lk .gone (s.drop2 k k').h j).live := by
      intro j hl
      rw [lk_ins] at hl
      by_cases ej : j = k'
      · rw [if_pos ej] at hl; exact absurd rfl hl
      · rw [if_neg ej] at hl; exact hl
    have hX : ∀ b, ¬ c.XX (s.drop2 k k').h β b → b < w.heap.size → ¬ c.XX (ins k' (.row e sz []) (s.drop2 k k').h) β b := by
      rintro b hb _ (hx | ⟨j, hl, hj⟩)
      · exact hb (.inl hx)
      · exact hb (.inr ⟨j, hlive hl, hj⟩)
    refine ⟨r.df, by simp [Act.put, r.sz], fun i => ?_, ⟨fun j => ?_, fun i j hi hj e => r'.hp.inj i j (hlive hi) (hlive hj) e, r.hp.kp, fun j hj => r'.hp.nk j (hlive hj), fun j hj => r'.hp.nx j (hlive hj), fun j hj => ?_⟩⟩
    · show G _ _ _ _ (lk .any (ins k' (.rslice k') (s.drop2 k k').t) i) _
      rw [lk_ins]
      by_cases hi : i = k'
      · subst hi
        have hi' : i < a.tmps.size := by rw [r.sz]; exact hc.1
        simpa [Act.put, Array.getD_eq_getD_getElem?, Array.getElem?_setIfInBounds, hi'] using (G.rslice0 i ad (by rw [upd_same]) : G w (c.XX (ins i (.row e sz []) (s.drop2 k i).h) β) β (upd κ i (0, 0)) (.rslice i) (.slice ad 0 0))
      · have := (r'.tm i).mono (w' := w) (κ' := upd κ k' (0, 0)) (β' := β) (fun _ _ _ => rfl) hX (fun j hj => ⟨rfl, upd_ne κ (fun e => by rw [e, (m1 i).2] at hj; cases hj)⟩)
        rw [if_neg hi]
        have hne : ¬ k' = i := fun e => hi e.symm
        simpa [Act.put, Array.getD_eq_getD_getElem?, Array.getElem?_setIfInBounds, hne] using this
    · show HO _ _ _ _ j (lk .gone (ins k' (.row e sz []) (s.drop2 k k').h) j)
      rw [lk_ins]
      by_cases ej : j = k'
      · rw [if_pos ej, ej]; exact ⟨by rw [upd_same]; rfl, fun h => absurd rfl h⟩
      · rw [if_neg ej]
        exact (r'.hp.ob j).mono (w' := w) (fun _ _ _ => rfl) hX (fun i hi => ⟨rfl, upd_ne κ (fun e => by rw [e, (m2 j).2] at hi; cases hi)⟩) ⟨rfl, upd_ne κ ej⟩ (fun _ => rfl)
    · have : j ≠ k' := by omega
      rw [upd_ne κ this]; exact r.hp.fix j hj

/-- The row stays in its block, with the content of arr. -/
theorem row_same {c : Cx P} {a : Act} {w w' : World} {β : Nat → Nat} {κ : Nat → Nat × Nat} {s : AS} (r : Rel c s a w β κ) {k k' : Nat} {e : TypeId} {sz : Nat} {zs : List (List AV)} {s' : AS} (h : s.grow k k' e sz zs = some s') (hk : (lk .gone s.h k).live) (arr : Array Value) (hz : zs ≠ []) (hsz : 0 < sz)
    (hw : ∀ i, i ≠ β k → w'.heap[i]? = w.heap[i]?) (hkp : Keeps (fun i => i ≠ β k) w w') (harr : w'.heap[β k]? = some (.cells arr e (0, 0)))
    (hl : ∀ i, i < zs.length → (zs.getD i []).length = sz) (hs : arr.size = (κ k).1 * sz) (hC : zs.length ≤ (κ k).1) (hCm : (κ k).1 ≤ maxLen)
    (hG : ∀ i j, i < zs.length → j < sz → D w (c.XX s.h β) ((zs.getD i []).getD j .any) (arr.getD (i * sz + j) undef)) :
    ∃ β' κ', Rel c s' (a.put (some k') (.slice (some ⟨β k, 0, none⟩) zs.length (κ k).1)) w' β' κ' := by
  unfold AS.grow at h
  cases hc : (Nat.blt k' s.n && Nat.blt k' 1000) with
  | false => rw [hc] at h; cases h
  | true =>
    rw [hc] at h; cases h
    simp only [Bool.and_eq_true, Nat.blt_eq] at hc
    have r' := r.drop2 k k'
    have r2 := (r.pg k').pg k
    obtain ⟨m1, m2⟩ := men2 k k' s
    have hbX : c.XX s.h β (β k) := .inr ⟨k, hk, rfl⟩
    have hlive : ∀ {j}, (lk .gone (s.drop2 k k').h j).live → j ≠ k ∧ (lk .gone s.h j).live := by
      intro j hl
      simp only [AS.drop2, lk_rm, lk_pgH] at hl
      by_cases e2 : j = k
      · rw [if_pos e2] at hl; exact hl.elim
      · rw [if_neg e2, AO.live_pg, AO.live_pg] at hl; exact ⟨e2, hl⟩
    have hsub : ∀ b, ¬ c.XX s.h β b → b < w.heap.size → ¬ (c.XX (s.drop2 k k').h β b ∨ b = β k) := by
      rintro b hb hlt ((hx | ⟨j, hl, hj⟩) | rfl)
      · exact hb (.inl hx)
      · exact hb (.inr ⟨j, (hlive hl).2, hj⟩)
      · exact hb hbX
    have hXs : ∀ b, ¬ c.XX s.h β b → b < w.heap.size → ¬ c.XX (ins k' (.row e sz zs) (s.drop2 k k').h) (upd β k' (β k)) b := by
      rintro b hb hlt (hx | ⟨j, hl, hj⟩)
      · exact hb (.inl hx)
      · by_cases ej : j = k'
        · subst ej; rw [upd_same] at hj; exact hb (hj ▸ hbX)
        · rw [upd_ne β ej] at hj
          rw [lk_ins, if_neg ej] at hl
          exact hb (.inr ⟨j, (hlive hl).2, hj⟩)
    have hpgX : c.XX (pgH k (pgH k' s.h)) β = c.XX s.h β := by funext b; simp [Cx.XX, own_pgH]
    obtain ⟨h1, h2⟩ := r'.hp.rebind (w' := w') (k' := k') (b := β k) hc.2 (fun j _ => (m2 j).2) ((κ k).1, zs.length) (ob := .row e sz zs) (r.hp.nx k hk) (r.hp.nk k hk) (fun j hl e => (hlive hl).1 (r.hp.inj j k (hlive hl).2 hk e)) hw hkp
      ⟨by rw [upd_same], fun _ => ⟨arr, by rw [upd_same]; exact harr, by rw [upd_same]; exact hs, by rw [upd_same]; exact hC, by rw [upd_same]; exact hCm, hsz, hl, fun i j hi hj => (hG i j hi hj).mono (fun b hb _ => hw b (fun e => hb (e ▸ hbX))) hXs⟩⟩
      (fun j => by
        show HO w _ β κ j (lk .gone (rm k (pgH k (pgH k' s.h))) j)
        rw [lk_rm]
        by_cases ej : j = k
        · rw [if_pos ej]; trivial
        · rw [if_neg ej]
          have := r2.hp.ob j
          rw [show c.XX (⟨s.n, pgT k (pgT k' s.t), pgH k (pgH k' s.h)⟩ : AS).h β = c.XX s.h β from hpgX] at this
          exact this.mono (fun _ _ _ => rfl) hsub (fun _ _ => ⟨rfl, rfl⟩) ⟨rfl, rfl⟩ (fun _ => rfl))
    refine ⟨upd β k' (β k), upd κ k' ((κ k).1, zs.length), r.df, by simp [Act.put, r.sz], fun i => ?_, h1⟩
    show G _ _ _ _ (lk .any (ins k' (.rslice k') (s.drop2 k k').t) i) _
    rw [lk_ins]
    by_cases hi : i = k'
    · subst hi
      have hi' : i < a.tmps.size := by rw [r.sz]; exact hc.1
      have hlz : 0 < zs.length := by cases zs with | nil => exact absurd rfl hz | cons _ _ => simp
      have := G.rslice (w := w') (X := c.XX (ins i (.row e sz zs) (s.drop2 k i).h) (upd β i (β k))) (β := upd β i (β k)) (κ := upd κ i ((κ k).1, zs.length)) i (by rw [upd_same]; exact hlz)
      rw [upd_same, upd_same] at this
      simpa [Act.put, Array.getD_eq_getD_getElem?, Array.getElem?_setIfInBounds, hi'] using this
    · have g0 : G w (fun b => c.XX (s.drop2 k k').h β b ∨ b = β k) β κ (lk .any (s.drop2 k k').t i) (a.tmps.getD i undef) := by
        have := r2.tm i
        rw [show c.XX (⟨s.n, pgT k (pgT k' s.t), pgH k (pgH k' s.h)⟩ : AS).h β = c.XX s.h β from hpgX] at this
        exact this.mono (fun _ _ _ => rfl) hsub (fun _ _ => ⟨rfl, rfl⟩)
      have := h2 g0 (m1 i).2
      rw [if_neg hi]
      have hne : ¬ k' = i := fun e => hi e.symm
      simpa [Act.put, Array.getD_eq_getD_getElem?, Array.getElem?_setIfInBounds, hne] using this

theorem toList_getD (arr : Array Value) (i : Nat) : arr.toList.getD i undef = arr.getD i undef := by simp [Array.getD_eq_getD_getElem?, List.getD_eq_getElem?_getD]
theorem vgetD_append_lt {l m : List Value} {i : Nat} (h : i < l.length) : (l ++ m).getD i undef = l.getD i undef := getD_append_lt h
theorem vgetD_append_ge {l m : List Value} {i : Nat} (h : l.length ≤ i) : (l ++ m).getD i undef = m.getD (i - l.length) undef := getD_append_ge h

/-- append to a row of one's own, or to an empty slice that is to become one. -/
theorem op_append {x y : Operand} {t e : TypeId} {sz by_ k k' : Nat} {xs ys : List (List AV)} (hg : gd ops s o = some true) (hop : o.op = .call ⟨.builtin .append, #[x, y], #[t, t]⟩) (hd : o.dst = some k') (he : elemOk P t = some (e, sz, by_))
    (hx : (s.op x = .eslice ∧ xs = []) ∨ (s.op x = .rslice k ∧ lk .gone s.h k = .row e sz xs)) (hy : s.op y = .dslice ys ∨ (s.op y = .eslice ∧ ys = []))
    (hE : EL sz ys) (hb : (xs.length + ys.length) * by_ ≤ 140737488355328) (h63 : xs.length + ys.length ≤ 9223372036854775807) {s' : AS} (h : s.grow k k' e sz (xs ++ ys) = some s') : OpT P ops o s (· = s') :=
  op_runs hg fun c a w β κ r => by
    obtain ⟨hu, i, z, hi, hz, rfl, rfl, hzs, hsz⟩ := elemOk_spec he
    have hX := r.op x; have hY := r.op y
    obtain ⟨eYd, ad2, cap2, eY⟩ : D w (c.XX s.h β) (.dslice ys) (a.eval y) ∧ ∃ ad2 cap2, a.eval y = .slice ad2 ys.length cap2 := by
      rcases hy with hy | ⟨hy, rfl⟩
      · rw [hy] at hY
        obtain ⟨hd, ad2, cap2, eY, _⟩ := hY.dslice_inv
        exact ⟨hd, ad2, cap2, eY⟩
      · rw [hy] at hY
        obtain ⟨ad2, eY⟩ := hY.eslice_inv
        exact ⟨by rw [eY]; exact .dnil _ _ (Nat.zero_le _), ad2, 0, eY⟩
    have hexec : ∀ {V V' w'}, a.eval x = V' → (Builtin.append_ #[t, t] o.type #[V', a.eval y]).run P w = .ok V w' → (execOp a.eval o).run P w = .ok (.value V) w' := by
      intro V V' w' e1 hr
      simp only [execOp, hop, resolve, invoke, builtin, Sem.run_bind, Sem.run_pure, Result.andThen_ok, List.map_toArray, List.map_cons, List.map_nil, e1, hr]
    -- what x is
    have hx2 : (xs = [] ∧ ∃ ad, a.eval x = .slice ad 0 0) ∨ (xs ≠ [] ∧ lk .gone s.h k = .row e i.size xs ∧ a.eval x = .slice (some ⟨β k, 0, none⟩) xs.length (κ k).1) := by
      rcases hx with ⟨hx, rfl⟩ | ⟨hx, hk⟩
      · rw [hx] at hX; exact .inl ⟨rfl, hX.eslice_inv⟩
      · rw [hx] at hX
        have ho := r.hp.ob k
        rw [hk] at ho
        rcases hX.rslice_inv with ⟨h0, e1⟩ | ⟨h0, ad, e1⟩
        · rw [ho.1] at h0 e1
          exact .inr ⟨(by intro e2; subst e2; simp at h0), hk, e1⟩
        · exact .inl ⟨List.eq_nil_of_length_eq_zero (by rw [← ho.1]; exact h0), ad, e1⟩
    have hEl : ∀ j, j < ys.length → (ys.getD j []).length = i.size := by
      intro j hj
      exact (hE _ (by rw [List.getD_eq_getElem?_getD, List.getElem?_eq_getElem hj]; exact List.getElem_mem hj)).1
    rcases hx2 with ⟨rfl, ad, eX⟩ | ⟨hxs, hk, eX⟩
    · by_cases hys : ys = []
      · subst hys
        refine ⟨.slice ad 0 0, w, β, upd κ k' (0, 0), .inl (hexec eX (by rw [eY]; exact append_zero hu hi ad 0 0 (Nat.le_refl _) _ _ _)), ?_⟩
        rw [hd]; exact row_empty r h ad
      · obtain ⟨bd, cap, news, e1, n1, n2, n3, n4⟩ := news_of eYd hE hys
        have hm : 0 < ys.length := by cases ys with | nil => exact absurd rfl hys | cons _ _ => simp
        simp only [List.length_nil, Nat.zero_add] at hb h63
        let C := grownCap w ys.length 0 e
        have hC : ys.length ≤ C := grownCap_ge w _ _ _
        have hCm : C ≤ maxLen := grownCap_le_maxLen w _ _ _ (by unfold maxLen; omega)
        let arr : Array Value := news.toArray ++ Builtin.zeroCells z.cells (C - ys.length)
        have hrun : (Builtin.append_ #[t, t] o.type #[.slice ad 0 0, a.eval y]).run P w = .ok (.slice (some ⟨w.heap.size, 0, none⟩) ys.length C) (w.drew.alloc (.cells arr e)) := by
          rw [e1]
          cases ad with
          | none => exact run_append_nil (P := P) w t o.type e i z hu hi hz bd ys.length cap news n1 n2 hm (by omega) (by omega)
          | some b0 =>
            have := run_append_grow (P := P) w t o.type e i z hu hi hz b0 0 0 [] (by simp) (fun j v hv => by simp at hv) bd ys.length cap news n1 n2 (by omega) (by omega) (growslice_fits (by omega) (by simpa using hb))
            simpa [arr, C] using this
        have hsz2 : arr.size = C * i.size := by
          simp only [arr, Array.size_append, List.size_toArray, size_zeroCells, n1, hzs, ← Nat.add_mul]
          congr 1; omega
        obtain ⟨β', κ', r'⟩ := row_new r h arr C (by simpa using hys) hsz (by simpa using hEl) hsz2 (by simpa using hC) hCm (fun i' j hi' hj => by
          simp only [List.nil_append] at hi' ⊢
          have := n4 i' j hi' hj
          have hij : i' * i.size + j < news.length := by
            rw [n1]
            have : (i' + 1) * i.size ≤ ys.length * i.size := Nat.mul_le_mul_right _ hi'
            rw [Nat.add_mul] at this; omega
          have e2 : arr.getD (i' * i.size + j) undef = news.getD (i' * i.size + j) undef := by
            simp [arr, Array.getD_eq_getD_getElem?, Array.getElem?_append, hij, List.getD_eq_getElem?_getD]
          rw [e2]; exact this)
        refine ⟨_, _, β', κ', .inl (hexec eX hrun), ?_⟩
        rw [hd]; simpa using r'
    · have hlive : (lk .gone s.h k).live := by rw [hk]; exact hxs
      have ho := r.hp.ob k
      rw [hk] at ho
      obtain ⟨cur, q1, q2, q3, q4, q5, q6, hfl⟩ := ho.2 hxs
      have hELl : ∀ j, j < (xs ++ ys).length → ((xs ++ ys).getD j []).length = i.size := by
        intro j hj
        by_cases hlt : j < xs.length
        · rw [getD_append_lt hlt]; exact q6 j hlt
        · rw [getD_append_ge (Nat.le_of_not_lt hlt)]; exact hEl _ (by simp at hj; omega)
      have hidx : ∀ i' j, i' < xs.length → j < i.size → i' * i.size + j < xs.length * i.size := by
        intro i' j hi' hj
        have : (i' + 1) * i.size ≤ xs.length * i.size := Nat.mul_le_mul_right _ hi'
        rw [Nat.add_mul] at this; omega
      have hxk : xs.length * i.size ≤ cur.size := by rw [q2]; exact Nat.mul_le_mul_right _ q3
      by_cases hys : ys = []
      · subst hys
        have hrun := append_zero (P := P) (w := w) hu hi (some ⟨β k, 0, none⟩) xs.length (κ k).1 q3 ad2 cap2 o.type
        simp only [List.append_nil] at h
        obtain ⟨β', κ', r'⟩ := row_same (w' := w) r h hlive cur hxs hsz (fun _ _ => rfl) (Keeps.refl _ _) q1 q6 q2 q3 q4 hfl
        refine ⟨_, w, β', κ', .inl (hexec eX (by rw [eY]; exact hrun)), ?_⟩
        rw [hd]; exact r'
      · obtain ⟨bd, cap, news, e1, n1, n2, n3, n4⟩ := news_of eYd hE hys
        have hm : 0 < ys.length := by cases ys with | nil => exact absurd rfl hys | cons _ _ => simp
        by_cases hroom : xs.length + ys.length ≤ (κ k).1
        · have hfit : xs.length * i.size + news.length ≤ cur.size := by rw [n1, q2, ← Nat.add_mul]; exact Nat.mul_le_mul_right _ hroom
          let arr : Array Value := (cur.toList.take (xs.length * i.size) ++ news ++ cur.toList.drop (xs.length * i.size + news.length)).toArray
          have hrun : (Builtin.append_ #[t, t] o.type #[.slice (some ⟨β k, 0, none⟩) xs.length (κ k).1, a.eval y]).run P w = .ok (.slice (some ⟨β k, 0, none⟩) (xs.length + ys.length) (κ k).1) (w.setRow (β k) arr) := by
            rw [e1]; exact run_append_room (P := P) w t o.type e i hu hi (β k) xs.length (κ k).1 cur q1 bd ys.length cap news n1 n2 n3 hroom hfit
          have hl1 : (cur.toList.take (xs.length * i.size)).length = xs.length * i.size := by simp; omega
          have hasz : arr.size = (κ k).1 * i.size := by
            rw [← q2]; simp [arr]; omega
          obtain ⟨β', κ', r'⟩ := row_same (w' := w.setRow (β k) arr) r h hlive arr (by simp [hxs]) hsz (fun j hj => setRow_heap_ne _ _ _ hj) ⟨rfl, rfl, rfl, by simp, fun b hb => setRow_heap_ne _ _ _ hb⟩ (setRow_heap_eq w _ cur e arr q1) hELl hasz (by simpa using hroom) q4 (fun i' j hi' hj => by
            rw [← toList_getD]
            simp only [arr]
            by_cases hlt : i' < xs.length
            · rw [getD_append_lt hlt, List.append_assoc, vgetD_append_lt (by rw [hl1]; exact hidx i' j hlt hj)]
              have e2 : (cur.toList.take (xs.length * i.size)).getD (i' * i.size + j) undef = cur.getD (i' * i.size + j) undef := by
                rw [getD_take _ _ _ _ (hidx i' j hlt hj), toList_getD]
              rw [e2]; exact hfl i' j hlt hj
            · have hge : xs.length ≤ i' := Nat.le_of_not_lt hlt
              have hi2 : i' - xs.length < ys.length := by simp at hi'; omega
              rw [getD_append_ge hge]
              have e4 : i' * i.size + j - xs.length * i.size = (i' - xs.length) * i.size + j := by
                rw [Nat.sub_mul]
                have : xs.length * i.size ≤ i' * i.size := Nat.mul_le_mul_right _ hge
                omega
              have e5 : (i' - xs.length) * i.size + j < news.length := by
                rw [n1]
                have : (i' - xs.length + 1) * i.size ≤ ys.length * i.size := Nat.mul_le_mul_right _ hi2
                rw [Nat.add_mul] at this; omega
              have hge2 : xs.length * i.size ≤ i' * i.size + j := by
                have : xs.length * i.size ≤ i' * i.size := Nat.mul_le_mul_right _ hge
                omega
              rw [List.append_assoc, vgetD_append_ge (by rw [hl1]; exact hge2), hl1, e4, vgetD_append_lt e5]
              exact n4 _ j hi2 hj)
          refine ⟨_, _, β', κ', .inl (hexec eX hrun), ?_⟩
          rw [hd]; simpa using r'
        · let C := grownCap w (xs.length + ys.length) (κ k).1 e
          have hC : xs.length + ys.length ≤ C := grownCap_ge w _ _ _
          have hCm : C ≤ maxLen := grownCap_le_maxLen w _ _ _ (by unfold maxLen; omega)
          let olds := cur.toList.take (xs.length * i.size)
          have hol : olds.length = xs.length * i.size := by simp [olds]; omega
          let arr : Array Value := olds.toArray ++ news.toArray ++ Builtin.zeroCells z.cells (C - (xs.length + ys.length))
          have hrun : (Builtin.append_ #[t, t] o.type #[.slice (some ⟨β k, 0, none⟩) xs.length (κ k).1, a.eval y]).run P w = .ok (.slice (some ⟨w.heap.size, 0, none⟩) (xs.length + ys.length) C) (w.drew.alloc (.cells arr e)) := by
            rw [e1]
            refine run_append_grow (P := P) w t o.type e i z hu hi hz ⟨β k, 0, none⟩ xs.length (κ k).1 olds hol (fun j v hv => ?_) bd ys.length cap news n1 n2 (by omega) (by omega) (growslice_fits (by omega) hb)
            have hj : j < xs.length * i.size := by have := (List.getElem?_eq_some_iff.1 hv).1; omega
            have hv2 : cur[j]? = some v := by
              simp only [olds, List.getElem?_take] at hv
              rw [if_pos hj] at hv
              simpa using hv
            rw [add_mk, Nat.zero_add]
            have := cell_of_cells q1 (i := j) (by omega)
            rw [this]
            simp [Array.getD_eq_getD_getElem?, hv2]
          have hasz : arr.size = C * i.size := by
            simp only [arr, Array.size_append, List.size_toArray, size_zeroCells, n1, hol, hzs, ← Nat.add_mul]
            congr 1; omega
          have harrL : ∀ j, arr.getD j undef = (olds ++ (news ++ (Builtin.zeroCells z.cells (C - (xs.length + ys.length))).toList)).getD j undef := by
            intro j; rw [← toList_getD]; simp [arr]
          obtain ⟨β', κ', r'⟩ := row_new r h arr C (by simp [hxs]) hsz hELl hasz (by simpa using hC) hCm (fun i' j hi' hj => by
            rw [harrL]
            by_cases hlt : i' < xs.length
            · rw [getD_append_lt hlt, vgetD_append_lt (by rw [hol]; exact hidx i' j hlt hj)]
              have e2 : olds.getD (i' * i.size + j) undef = cur.getD (i' * i.size + j) undef := by
                simp only [olds]; rw [getD_take _ _ _ _ (hidx i' j hlt hj), toList_getD]
              rw [e2]; exact hfl i' j hlt hj
            · have hge : xs.length ≤ i' := Nat.le_of_not_lt hlt
              have hi2 : i' - xs.length < ys.length := by simp at hi'; omega
              rw [getD_append_ge hge]
              have e4 : i' * i.size + j - xs.length * i.size = (i' - xs.length) * i.size + j := by
                rw [Nat.sub_mul]
                have : xs.length * i.size ≤ i' * i.size := Nat.mul_le_mul_right _ hge
                omega
              have e5 : (i' - xs.length) * i.size + j < news.length := by
                rw [n1]
                have : (i' - xs.length + 1) * i.size ≤ ys.length * i.size := Nat.mul_le_mul_right _ hi2
                rw [Nat.add_mul] at this; omega
              have hge2 : xs.length * i.size ≤ i' * i.size + j := by
                have : xs.length * i.size ≤ i' * i.size := Nat.mul_le_mul_right _ hge
                omega
              rw [vgetD_append_ge (by rw [hol]; exact hge2), hol, e4, vgetD_append_lt e5]
              exact n4 _ j hi2 hj)
          refine ⟨_, _, β', κ', .inl (hexec eX hrun), ?_⟩
          rw [hd]; simpa using r'
end
end Go.Ab
