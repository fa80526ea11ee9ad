/- ABSTRACT STATES: the loop over a map that nobody writes to: its iterator, a step, the step's entry. -/
import Derived.Test.YtjfpcjnopbfekaaGreatDoorAbC
import Derived.Maps.RangeRun
set_option linter.unusedSimpArgs false
set_option linter.unusedVariables false
namespace Go.Ab
open Go.RowKit
section
variable {P : Program} {ops : Array Oper} {o : Oper} {s : AS}

theorem G.dmap_inv {w : World} {X : Nat → Prop} {β : Nat → Nat} {κ : Nat → Nat × Nat} {es : List (List UInt8 × AV)} {V : Value} (h : G w X β κ (.dmap es) V) : D w X (.dmap es) V ∧ ∃ (b : Nat) (ents : Array MapEntry) (clock : Nat), V = .map (some b) ∧ ¬ X b ∧ w.heap[b]? = some (.map ents clock) ∧ ents.size = es.length := by
  cases h with | d h => exact ⟨h, by cases h with | dmap _ b ents clock h1 h2 h3 => exact ⟨b, ents, clock, rfl, h1, h2, h3⟩⟩

/-- What the entries of such a map are. -/
theorem D.dmap_at {w : World} {X : Nat → Prop} {es : List (List UInt8 × AV)} {b : Nat} {ents : Array MapEntry} {clock : Nat} (h : D w X (.dmap es) (.map (some b))) (hb : w.heap[b]? = some (.map ents clock)) :
    ents.size = es.length ∧ (∀ i (h : i < ents.size), ents[i].key = .string ⟨(es.getD i default).1.toArray⟩ ∧ ents[i].born < clock) ∧ (∀ i (h : i < ents.size), D w X (es.getD i default).2 ents[i].val) ∧
      (∀ i j (hi : i < ents.size) (hj : j < ents.size), i < j → ents[i].born < ents[j].born) ∧ KeysOk es := by
  cases h with
  | dmap _ _ ents' clock' h1 h2 h3 h4 h5 h6 h7 =>
    rw [h2] at hb; cases hb
    exact ⟨h3, h4, h5, h6, h7⟩

def arange (P : Program) (s : AS) (t : TypeId) (m : AV) (k : Nat) : Option AS :=
  match m with
  | .dmap es => if isMap P t then s.fresh k (.iter es []) (.hptr k 0) else none
  | _ => none
theorem op_range {t : TypeId} {m : Operand} {k : Nat} (hg : gd ops s o = some true) (hop : o.op = .range t m) (hd : o.dst = some k) {s' : AS} (h : arange P s t (s.op m) k = some s') : OpT P ops o s (· = s') :=
  op_runs hg fun c a w β κ r => by
    have hm := r.op m
    unfold arange at h
    split at h
    · rename_i es em
      rw [em] at hm
      obtain ⟨hD, b, ents, clock, eV, hnX, hb, hsz⟩ := hm.dmap_inv
      split at h
      · rename_i hM
        obtain ⟨K, E, hu⟩ := isMap_spec hM
        have hblt : b < w.heap.size := (Array.getElem?_eq_some_iff.1 hb).1
        have hXin : ∀ b', ¬ c.XX s.h β b' → b' < w.heap.size → ¬ c.XX (ins k (.iter es []) (pgH k s.h)) (upd β k w.heap.size) b' := by
          rintro b' hb' hlt (hx | ⟨j, hl, hj⟩)
          · exact hb' (.inl hx)
          · rw [lk_ins] at hl
            by_cases ej : j = k
            · subst ej; rw [upd_same] at hj; omega
            · rw [if_neg ej, lk_pgH, AO.live_pg] at hl
              rw [upd_ne β ej] at hj
              exact hb' (.inr ⟨j, hl, hj⟩)
        have hold : ∀ i, i < w.heap.size → (w.alloc (.mapIter (some b) clock #[] clock)).heap[i]? = w.heap[i]? := fun i hi => heap_old w _ hi
        rw [eV] at hD
        refine ⟨.pointer (some ⟨w.heap.size, 0, none⟩), w.alloc (.mapIter (some b) clock #[] clock), _, _, .inl ?_, by
          rw [hd]
          refine fresh_spec r h (Nat.le_refl _) hold (keeps_alloc _ _ _ r.Klt) (cap := (0, 0)) ⟨b, ents, clock, #[], by rw [upd_same]; exact heap_new w _, hD.mono (fun i _ hi => hold i hi) hXin, hXin _ hnX hblt, by rw [hold _ hblt, hb], rfl, fun i hi => by cases hi⟩ ?_
          have := G.hptr (w := w.alloc (.mapIter (some b) clock #[] clock)) (X := c.XX (ins k (.iter es []) (pgH k s.h)) (upd β k w.heap.size)) (β := upd β k w.heap.size) (κ := upd κ k (0, 0)) k 0
          rwa [upd_same] at this⟩
        simp only [execOp, hop, eV]
        simp [Instr.range, run_under hu, run_getObj' hb, newObj, Result.andThen, go_sem]
        rfl
      · cases h
    · cases h


/-- An iterator and its map. -/
theorem iter_at {w : World} {X : Nat → Prop} {β : Nat → Nat} {κ : Nat → Nat × Nat} {k : Nat} {es : List (List UInt8 × AV)} {seen : List Nat} (h : HO w X β κ k (.iter es seen)) :
    ∃ (b : Nat) (ents : Array MapEntry) (clock : Nat) (sb : Array Nat), w.heap[β k]? = some (.mapIter (some b) clock sb clock) ∧ D w X (.dmap es) (.map (some b)) ∧ ¬ X b ∧ w.heap[b]? = some (.map ents clock) ∧
      sb.toList = seen.map (fun i => match ents[i]? with | some e => e.born | none => 0) ∧ (∀ i ∈ seen, i < ents.size) ∧ ents.size = es.length ∧
      (∀ i (h : i < ents.size), ents[i].key = .string ⟨(es.getD i default).1.toArray⟩ ∧ ents[i].born < clock) ∧ (∀ i (h : i < ents.size), D w X (es.getD i default).2 ents[i].val) ∧
      (∀ i j (hi : i < ents.size) (hj : j < ents.size), ents[i].born = ents[j].born → i = j) ∧ KeysOk es ∧ ∀ i (hi : i < ents.size), ents[i].born ∈ sb.toList ↔ i ∈ seen := by
  obtain ⟨b, ents, clock, sb, h1, h2, h3, h4, h5, h6⟩ := h
  obtain ⟨d1, d2, d3, d4, d5⟩ := h2.dmap_at h4
  have hinj : ∀ i j (hi : i < ents.size) (hj : j < ents.size), ents[i].born = ents[j].born → i = j := by
    intro i j hi hj e
    rcases Nat.lt_trichotomy i j with h | h | h
    · have := d4 i j hi hj h; omega
    · exact h
    · have := d4 j i hj hi h; omega
  refine ⟨b, ents, clock, sb, h1, h2, h3, h4, h5, h6, d1, d2, d3, hinj, d5, fun i hi => ?_⟩
  rw [h5, List.mem_map]
  constructor
  · rintro ⟨j, hj, e⟩
    rw [Array.getElem?_eq_getElem (h6 j hj)] at e
    have := hinj j i (h6 j hj) hi e
    exact this ▸ hj
  · intro hi2
    exact ⟨i, hi2, by rw [Array.getElem?_eq_getElem hi]⟩

/-- A step: it is over, or a key that has not come up yet comes up, whichever. -/
theorem op_next {it : Operand} {k : Nat} (hg : gd ops s o = some true) (hop : o.op = .next it false) (hi : s.op it = .hptr k 0) {es : List (List UInt8 × AV)} {seen : List Nat} (hk : lk .gone s.h k = .iter es seen) {N : AS → Prop}
    (hN0 : (∀ i, i < es.length → i ∈ seen) → ∃ s', s.put o.dst (.tup [.bool false]) = some s' ∧ N s')
    (hN1 : ∀ i, i < es.length → i ∉ seen → ∃ s', AS.put ⟨s.n, s.t, ins k (.iter es (seen ++ [i])) s.h⟩ o.dst (.tup [.bool true, .str (es.getD i default).1, (es.getD i default).2]) = some s' ∧ N s') : OpT P ops o s N := fun c a w β κ r K Q hK => by
  rw [gd_spec r hg]
  simp only [if_true]
  have hit := r.op it
  rw [hi] at hit
  have ho := r.hp.ob k
  rw [hk] at ho
  have hlive : (lk .gone s.h k).live := by rw [hk]; trivial
  obtain ⟨b, ents, clock, sb, h1, h2, h3, h4, h5, h6, d1, d2, d3, hinj, d5, hmem⟩ := iter_at ho
  have hold : ∀ x ∈ ents.toList, x.born < clock := by
    intro x hx
    obtain ⟨i, hi, rfl⟩ := List.getElem_of_mem hx
    have hi' : i < ents.size := by simpa using hi
    rw [Array.getElem_toList]; exact (d2 i hi').2
  unfold Oper.wp
  have hrun := run_next_at (P := P) w o.type (β k) b clock clock sb ents clock h1 h4 hold (Nat.le_refl _)
  rcases hrun with ⟨hl, hr⟩ | ⟨e, he, w1, hw1, hr⟩
  · have hex : (execOp a.eval o).run P w = .ok (.value (.tuple #[.bool false])) w := by
      simp [execOp, hop, hit.hptr_inv, hr, Result.andThen]
    rw [hex]
    obtain ⟨s', e1, e2⟩ := hN0 fun i hi => by
      have hi' : i < ents.size := by omega
      refine (hmem i hi').1 ?_
      apply Classical.byContradiction
      intro hc
      have : ents[i] ∈ leftOf ents sb := by
        unfold leftOf
        rw [Array.mem_filter]
        exact ⟨by simp, by simpa using hc⟩
      rw [Array.eq_empty_of_size_eq_zero hl] at this
      simp at this
    refine hK s' _ w β κ e2 (put_spec r (.d (.tup _ _ rfl fun i hi => ?_)) e1)
    have : i = 0 := by simp at hi; omega
    subst this; exact .bool false
  · have hex : (execOp a.eval o).run P w = .ok (.value (.tuple #[.bool true, e.key, e.val])) (ChangeMaps.setBlock w1 (β k) (.mapIter (some b) clock (sb.push e.born) clock)) := by
      simp [execOp, hop, hit.hptr_inv, hr, Result.andThen]
    rw [hex]
    obtain ⟨m1, m2⟩ := mem_left he
    obtain ⟨i, hi0, rfl⟩ := List.getElem_of_mem m1
    have hi' : i < ents.size := by simpa using hi0
    rw [Array.getElem_toList] at m2 ⊢
    have hns : i ∉ seen := fun hc => by
      have := (hmem i hi').2 hc
      rw [← Bool.not_eq_true] at m2
      exact m2 (by simpa using this)
    obtain ⟨s', e1, e2⟩ := hN1 i (by omega) hns
    have r1 : Rel c s a w1 β κ := by
      rcases hw1 with rfl | rfl
      · exact r
      · exact r.drew
    have hheap : w1.heap = w.heap := by rcases hw1 with rfl | rfl <;> rfl
    have h1' : w1.heap[β k]? = some (.mapIter (some b) clock sb clock) := by rw [hheap]; exact h1
    have hlt : β k < w1.heap.size := (Array.getElem?_eq_some_iff.1 h1').1
    have hne : ∀ j, j ≠ β k → (ChangeMaps.setBlock w1 (β k) (.mapIter (some b) clock (sb.push ents[i].born) clock)).heap[j]? = w1.heap[j]? := fun j hj => by
      simp [ChangeMaps.setBlock, Array.getElem?_setIfInBounds, Ne.symm hj]
    have hbk : b ≠ β k := fun e => h3 (.inr ⟨k, hlive, e.symm⟩)
    have hw : ∀ j, ¬ c.XX s.h β j → j < w.heap.size → (ChangeMaps.setBlock w1 (β k) (.mapIter (some b) clock (sb.push ents[i].born) clock)).heap[j]? = w.heap[j]? := fun j hj _ => by
      rw [hne j (fun e => hj (.inr ⟨k, hlive, e.symm⟩)), hheap]
    have r2 : Rel c ⟨s.n, s.t, ins k (.iter es (seen ++ [i])) s.h⟩ a (ChangeMaps.setBlock w1 (β k) (.mapIter (some b) clock (sb.push ents[i].born) clock)) β κ := by
      refine r1.replace hlive (ob := .iter es (seen ++ [i])) trivial hne ⟨rfl, rfl, rfl, by simp [ChangeMaps.setBlock], fun j hj => hne j hj⟩ fun _ _ => ?_
      refine ⟨b, ents, clock, sb.push ents[i].born, by simp [ChangeMaps.setBlock, hlt], h2.mono hw (fun _ h _ => h), h3, by rw [hne b hbk, hheap]; exact h4, ?_, fun j hj => ?_⟩
      · rw [Array.toList_push, h5, List.map_append, List.map_cons, List.map_nil]
        refine (List.append_cancel_left_eq _ _ _).mpr ?_
        rw [Array.getElem?_eq_getElem hi']
      · rcases List.mem_append.1 hj with hj | hj
        · exact h6 j hj
        · simp only [List.mem_singleton] at hj; omega
    have hown : c.XX (ins k (.iter es (seen ++ [i])) s.h) β = c.XX s.h β := by
      funext j
      simp only [Cx.XX]
      congr 1
      simp only [own]
      refine propext ⟨?_, ?_⟩
      · rintro ⟨j', hl, hj⟩
        by_cases ej : j' = k
        · subst ej; exact ⟨j', hlive, hj⟩
        · rw [lk_ins, if_neg ej] at hl; exact ⟨j', hl, hj⟩
      · rintro ⟨j', hl, hj⟩
        by_cases ej : j' = k
        · subst ej; exact ⟨j', by rw [lk_ins, if_pos rfl]; trivial, hj⟩
        · exact ⟨j', by rw [lk_ins, if_neg ej]; exact hl, hj⟩
    refine hK s' _ _ β κ e2 (put_spec r2 (.d (.tup _ _ rfl fun j hj => ?_)) e1)
    have hj' : j = 0 ∨ j = 1 ∨ j = 2 := by simp at hj; omega
    have hX2 : ∀ j, ¬ c.XX s.h β j → j < w.heap.size → ¬ c.XX (ins k (.iter es (seen ++ [i])) s.h) β j := fun j hj _ => by rw [hown]; exact hj
    rcases hj' with rfl | rfl | rfl
    · exact .bool true
    · show D _ _ (.str (es.getD i default).1) ents[i].key
      rw [(d2 i hi').1]
      refine .str _ (d5.2 _ (List.mem_map.2 ⟨es.getD i default, ?_, rfl⟩))
      rw [List.getD_eq_getElem?_getD, List.getElem?_eq_getElem (by omega : i < es.length)]
      exact List.getElem_mem _
    · exact (d3 i hi').mono hw hX2

/-- The entry of the last step. -/
theorem op_entry {it : Operand} {k : Nat} (hg : gd ops s o = some true) (hop : o.op = .entry it) (hi : s.op it = .hptr k 0) {es : List (List UInt8 × AV)} {sn : List Nat} (hk : lk .gone s.h k = .iter es sn) {i : Nat} (hl : sn.getLast? = some i)
    {s' : AS} (h : s.put o.dst (.tup [.str (es.getD i default).1, (es.getD i default).2]) = some s') : OpT P ops o s (· = s') :=
  op_runs hg fun c a w β κ r => by
    have hit := r.op it
    rw [hi] at hit
    have ho := r.hp.ob k
    rw [hk] at ho
    obtain ⟨b, ents, clock, sb, h1, h2, h3, h4, h5, h6, d1, d2, d3, hinj, d5, hmem⟩ := iter_at ho
    obtain ⟨seen, rfl⟩ : ∃ seen, sn = seen ++ [i] := ⟨sn.dropLast, by
      have hne : sn ≠ [] := by rintro rfl; cases hl
      rw [List.getLast?_eq_some_getLast hne] at hl
      rw [← Option.some.inj hl, List.dropLast_concat_getLast hne]⟩
    have hi' : i < ents.size := h6 i (by simp)
    have hsb : sb = (seen.map (fun i => match ents[i]? with | some e => e.born | none => 0)).toArray.push ents[i].born := by
      apply Array.toList_inj.1
      rw [h5, List.map_append, List.map_cons, List.map_nil, Array.toList_push]
      refine (List.append_cancel_left_eq _ _ _).mpr ?_
      rw [Array.getElem?_eq_getElem hi']
    have hnd : (ents.toList.map (·.born)).Nodup := by
      rw [List.nodup_iff_pairwise_ne, List.pairwise_iff_getElem]
      intro x y hx hy hlt he
      have hx' : x < ents.size := by simpa using hx
      have hy' : y < ents.size := by simpa using hy
      have := hinj x y hx' hy' (by simpa using he)
      omega
    rw [hsb] at h1
    have hrun := run_entry_at (P := P) w (β k) b clock _ ents clock ents[i] h1 h4 (by simp) hnd
    refine ⟨_, w, β, κ, .inl ?_, put_spec r (.d (.tup _ #[ents[i].key, ents[i].val] rfl fun j hj => ?_)) h⟩
    · simp [execOp, hop, hit.hptr_inv, hrun, Result.andThen]
    · have hj' : j = 0 ∨ j = 1 := by simp at hj; omega
      rcases hj' with rfl | rfl
      · show D _ _ (.str (es.getD i default).1) ents[i].key
        rw [(d2 i hi').1]
        refine .str _ (d5.2 _ (List.mem_map.2 ⟨es.getD i default, ?_, rfl⟩))
        rw [List.getD_eq_getElem?_getD, List.getElem?_eq_getElem (by omega : i < es.length)]
        exact List.getElem_mem _
      · exact d3 i hi'

theorem find_gen {w : World} {ents : Array MapEntry} {es : List (List UInt8 × AV)} (hsz : ents.size = es.length) (hkey : ∀ i (h : i < ents.size), ents[i].key = .string ⟨(es.getD i default).1.toArray⟩) (x : List UInt8) {kt : TypeId} (hk : P.underlying kt = some .string) :
    ((Instr.findKey kt (.string ⟨x.toArray⟩) ents.toList).run P w = .ok none w ∧ ∀ i, i < es.length → (es.getD i default).1 ≠ x) ∨
       ∃ (j : Nat) (hj : j < ents.size), (Instr.findKey kt (.string ⟨x.toArray⟩) ents.toList).run P w = .ok (some (j, ents[j].val)) w ∧ (es.getD j default).1 = x := by
  have hik : MapKept.IsKey .string (Value.string ⟨x.toArray⟩) := by simp [MapKept.IsKey]
  have hall : ∀ e ∈ ents.toList, MapKept.IsKey .string e.key := by
    intro e he
    obtain ⟨i, hi, rfl⟩ := List.getElem_of_mem he
    have hi' : i < ents.size := by simpa using hi
    rw [Array.getElem_toList, hkey i hi']; simp [MapKept.IsKey]
  rcases MapKept.findNow_spec hik ents.toList 0 hall with ⟨f1, f2⟩ | ⟨j, e, f1, f2, f3⟩
  · refine .inl ⟨MapKept.run_findKey hk f1, fun i hi hc => ?_⟩
    have hi' : i < ents.size := by omega
    refine f2 ents[i] (by simp) ?_
    rw [hkey i hi', hc]
  · have hj : j < ents.size := by have := (List.getElem?_eq_some_iff.1 f2).1; simpa using this
    have he : ents[j] = e := by
      have := List.getElem?_eq_some_iff.1 f2
      obtain ⟨_, h⟩ := this; rw [← h]; simp
    refine .inr ⟨j, hj, ?_, ?_⟩
    · have := MapKept.run_findKey (w := w) hk f1
      rw [he]; simpa using this
    · have := hkey j hj
      rw [he, f3] at this
      exact (mk_inj.1 this).symm

/-- m[x], nobody writing to m. -/
def alookD (P : Program) (t : TypeId) (m x : AV) : Option AV :=
  match m, x with
  | .dmap es, .str x => match P.underlying t with
    | some (.map K E) => match P.underlying K, zeroOf P E with
      | some .string, some z => some (aget x (AV.of z) es)
      | _, _ => none
    | _ => none
  | _, _ => none
theorem alookD_sound {c : Cx P} {w : World} {β : Nat → Nat} {κ : Nat → Nat × Nat} {t : TypeId} {m x v : AV} {M X : Value} (hm : G w (c.XX s.h β) β κ m M) (hx : G w (c.XX s.h β) β κ x X) (h : alookD P t m x = some v) :
    ∃ V, (Instr.lookup t M X false).run P w = .ok V w ∧ G w (c.XX s.h β) β κ v V := by
  unfold alookD at h
  split at h
  · rename_i es x
    split at h
    · rename_i K E hu
      split at h
      · rename_i z hK hz
        cases h
        obtain ⟨hD, b, ents, clock, eV, _, h1, _⟩ := hm.dmap_inv
        rw [eV] at hD
        obtain ⟨d1, d2, d3, _, d5⟩ := hD.dmap_at h1
        rw [eV, hx.str_inv]
        have hck : ∀ e, (Instr.checkKey e 10000 K (.string ⟨x.toArray⟩)).run P w = .ok () w := fun e => MapKept.run_checkKey (k := .string ⟨x.toArray⟩) hK (by simp [MapKept.IsKey]) e 9999
        rcases find_gen (P := P) (w := w) d1 (fun i hi => (d2 i hi).1) x hK with ⟨f1, f2⟩ | ⟨j, hj, f1, f2⟩
        · refine ⟨z, ?_, ?_⟩
          · simp [Instr.lookup, run_under hu, run_getObj' h1, hck, f1, run_zero hz, Result.andThen]
          · rw [aget_none f2]; exact .d (D.of w _ z)
        · refine ⟨ents[j].val, ?_, ?_⟩
          · simp [Instr.lookup, run_under hu, run_getObj' h1, hck, f1, Result.andThen]
          · rw [aget_at d5.1 (by omega) f2]; exact .d (d3 j hj)
      · cases h
    · cases h
  · cases h
theorem op_lookD {t : TypeId} {m x : Operand} (hg : gd ops s o = some true) (hop : o.op = .lookup t m x false) {v : AV} (hv : alookD P t (s.op m) (s.op x) = some v) {s' : AS} (h : s.put o.dst v = some s') : OpT P ops o s (· = s') :=
  op_runs hg fun c a w β κ r => by
    obtain ⟨V, hr, hG⟩ := alookD_sound (r.op m) (r.op x) hv
    refine ⟨V, w, β, κ, .inl ?_, put_spec r hG h⟩
    simp [execOp, hop, hr, Result.andThen]
theorem loc_lookD {t : TypeId} {m x : Operand} (hg : gd ops s o = some true) (hop : o.op = .lookup t m x false) {v : AV} (hv : alookD P t (s.op m) (s.op x) = some v) {s1 : AS} (h : s.put o.dst v = some s1) : Loc P ops o s (.put o.dst v) :=
  loc_of rfl h fun s' ha _ h2 => op_lookD (by rw [agree_gd ha]; exact hg) hop (by
    rw [agree_op ha (x := m) (by simp [hop, Op.operands]), agree_op ha (x := x) (by simp [hop, Op.operands])]; exact hv) h2
end
end Go.Ab
