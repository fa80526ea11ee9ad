/- ABSTRACT STATES: maps with strings as keys. -/
import Derived.Test.YtjfpcjnopbfekaaGreatDoorAb18
import Derived.MapFrom
set_option linter.unusedSimpArgs false
set_option linter.unusedVariables false
namespace Go.Ab
open Go.RowKit

/-- An object of one's own takes another form. -/
theorem Rel.replace {P : Program} {c : Cx P} {s : AS} {a : Act} {w : World} {β : Nat → Nat} {κ : Nat → Nat × Nat} (r : Rel c s a w β κ) {k : Nat} (hlive : (lk .gone s.h k).live) {ob : AO} (hob : ob.live) {w' : World} (hw1 : ∀ i, i ≠ β k → w'.heap[i]? = w.heap[i]?) (hkp : Keeps (fun i => i ≠ β k) w w')
    (ho : (∀ {v : AV} {V : Value}, G w (c.XX s.h β) β κ v V → G w' (c.XX s.h β) β κ v V) → (∀ {v : AV} {V : Value}, D w (c.XX s.h β) v V → D w' (c.XX s.h β) v V) → HO w' (c.XX s.h β) β κ k ob) : Rel c ⟨s.n, s.t, ins k ob s.h⟩ a w' β κ := by
  have hown : ∀ i, own (ins k ob s.h) β i ↔ own s.h β i := by
    intro i
    constructor
    · rintro ⟨j, hl, hj⟩
      by_cases ej : j = k
      · subst ej; exact ⟨j, hlive, hj⟩
      · rw [lk_ins, if_neg ej] at hl; exact ⟨j, hl, hj⟩
    · rintro ⟨j, hl, hj⟩
      by_cases ej : j = k
      · subst ej; exact ⟨j, by rw [lk_ins, if_pos rfl]; exact hob, hj⟩
      · exact ⟨j, by rw [lk_ins, if_neg ej]; exact hl, hj⟩
  have hXX : c.XX (ins k ob s.h) β = c.XX s.h β := by funext i; simp only [Cx.XX, hown]
  have hw : ∀ i, ¬ c.XX s.h β i → i < w.heap.size → w'.heap[i]? = w.heap[i]? := fun i hi _ => hw1 _ (fun e => hi (.inr ⟨k, hlive, e.symm⟩))
  have hG : ∀ {v : AV} {V : Value}, G w (c.XX s.h β) β κ v V → G w' (c.XX s.h β) β κ v V := fun hg => hg.mono hw (fun _ h _ => h) (fun _ _ => ⟨rfl, rfl⟩)
  have hl2 : ∀ {j}, (lk .gone (ins k ob s.h) j).live → (lk .gone s.h j).live := by
    intro j hj
    rw [lk_ins] at hj; by_cases ei : j = k
    · subst ei; exact hlive
    · rw [if_neg ei] at hj; exact hj
  refine ⟨r.df, r.sz, fun i => ?_, ⟨fun j => ?_, fun i j hi hj e => r.hp.inj i j (hl2 hi) (hl2 hj) e, r.hp.kp.trans hkp fun b hb e => r.hp.nk k hlive (e ▸ hb), fun j hj => r.hp.nk j (hl2 hj), fun j hj => r.hp.nx j (hl2 hj), r.hp.fix⟩⟩
  · show G _ (c.XX (ins k ob s.h) β) β κ _ _
    rw [hXX]; exact hG (r.tm i)
  · show HO _ (c.XX (ins k ob s.h) β) β κ j (lk .gone (ins k ob s.h) j)
    rw [hXX, lk_ins]
    by_cases ej : j = k
    · subst ej; rw [if_pos rfl]; exact ho hG fun hd => hd.mono hw (fun _ h _ => h)
    · rw [if_neg ej]
      exact (r.hp.ob j).mono hw (fun _ h _ => h) (fun _ _ => ⟨rfl, rfl⟩) ⟨rfl, rfl⟩ fun hl => hw1 _ fun e => ej (r.hp.inj j k hl hlive e)

def aget (x : List UInt8) (d : AV) : List (List UInt8 × AV) → AV
  | [] => d
  | (k, u) :: es => if k = x then u else aget x d es
def aput (x : List UInt8) (v : AV) : List (List UInt8 × AV) → List (List UInt8 × AV)
  | [] => [(x, v)]
  | (k, u) :: es => if k = x then (x, v) :: es else (k, u) :: aput x v es

theorem aget_none {x : List UInt8} {d : AV} : ∀ {es : List (List UInt8 × AV)}, (∀ i, i < es.length → (es.getD i default).1 ≠ x) → aget x d es = d
  | [], _ => rfl
  | (k, u) :: es, h => by
    have h0 := h 0 (by simp)
    simp only [List.getD_cons_zero] at h0
    rw [aget, if_neg h0]
    exact aget_none fun i hi => by have := h (i + 1) (by simpa using hi); simpa using this
theorem aput_none {x : List UInt8} {v : AV} : ∀ {es : List (List UInt8 × AV)}, (∀ i, i < es.length → (es.getD i default).1 ≠ x) → aput x v es = es ++ [(x, v)]
  | [], _ => rfl
  | (k, u) :: es, h => by
    have h0 := h 0 (by simp)
    simp only [List.getD_cons_zero] at h0
    rw [aput, if_neg h0, aput_none fun i hi => by have := h (i + 1) (by simpa using hi); simpa using this]
    rfl
theorem nodup_ne {x : List UInt8} {k : List UInt8} {u : AV} {es : List (List UInt8 × AV)} {i : Nat} (hn : ((k, u) :: es).map (·.1) |>.Nodup) (hi : i < es.length) (h : (es.getD i default).1 = x) : k ≠ x := by
  rintro rfl
  rw [List.map_cons, List.nodup_cons] at hn
  refine hn.1 (List.mem_map.2 ⟨es.getD i default, ?_, h⟩)
  rw [List.getD_eq_getElem?_getD, List.getElem?_eq_getElem hi]
  exact List.getElem_mem hi
theorem aget_at {x : List UInt8} {d : AV} : ∀ {es : List (List UInt8 × AV)} {i : Nat}, (es.map (·.1)).Nodup → i < es.length → (es.getD i default).1 = x → aget x d es = (es.getD i default).2
  | (k, u) :: es, 0, _, _, h => by simp only [List.getD_cons_zero] at h; rw [aget, if_pos h]; rfl
  | (k, u) :: es, i + 1, hn, hi, h => by
    have hi' : i < es.length := by simpa using hi
    have h' : (es.getD i default).1 = x := by simpa using h
    rw [aget, if_neg (nodup_ne hn hi' h')]
    rw [List.map_cons, List.nodup_cons] at hn
    rw [aget_at hn.2 hi' h']; simp
theorem aput_at {x : List UInt8} {v : AV} : ∀ {es : List (List UInt8 × AV)} {i : Nat}, (es.map (·.1)).Nodup → i < es.length → (es.getD i default).1 = x → aput x v es = es.set i (x, v)
  | (k, u) :: es, 0, _, _, h => by simp only [List.getD_cons_zero] at h; rw [aput, if_pos h]; rfl
  | (k, u) :: es, i + 1, hn, hi, h => by
    have hi' : i < es.length := by simpa using hi
    have h' : (es.getD i default).1 = x := by simpa using h
    rw [aput, if_neg (nodup_ne hn hi' h')]
    rw [List.map_cons, List.nodup_cons] at hn
    rw [aput_at hn.2 hi' h']; rfl

theorem mk_inj {a b : List UInt8} : (Value.string ⟨a.toArray⟩ = Value.string ⟨b.toArray⟩) ↔ a = b := by
  constructor
  · intro h
    have h2 : (⟨a.toArray⟩ : ByteArray) = ⟨b.toArray⟩ := by injection h
    have h3 : a.toArray = b.toArray := by injection h2
    simpa using h3
  · rintro rfl; rfl

section
variable {P : Program} {ops : Array Oper} {o : Oper} {s : AS} {c : Cx P} {a : Act} {w : World} {β : Nat → Nat} {κ : Nat → Nat × Nat}

/-- Where a key stands. -/
theorem find_in {X : Nat → Prop} {k : Nat} {K E : TypeId} {es : List (List UInt8 × AV)} (h : HO w X β κ k (.smap K E es)) (x : List UInt8) {kt : TypeId} (hk : P.underlying kt = some .string) :
    ∃ (ents : Array MapEntry) (clock : Nat), w.heap[β k]? = some (.map ents clock) ∧ ents.size = es.length ∧
      (∀ i (h : i < ents.size), ents[i].key = .string ⟨(es.getD i default).1.toArray⟩ ∧ ents[i].born < clock ∧ D w X (es.getD i default).2 ents[i].val) ∧
      (∀ i j (hi : i < ents.size) (hj : j < ents.size), i < j → ents[i].born < ents[j].born) ∧ KeysOk es ∧
      (((Instr.findKey kt (.string ⟨x.toArray⟩) ents.toList).run P w = .ok none w ∧ ∀ i, i < es.length → (es.getD i default).1 ≠ x) ∨
       ∃ (j : Nat) (hj : j < ents.size), (Instr.findKey kt (.string ⟨x.toArray⟩) ents.toList).run P w = .ok (some (j, ents[j].val)) w ∧ (es.getD j default).1 = x) := by
  obtain ⟨ents, clock, h1, h2, h3, h4, h5⟩ := h
  have hik : MapKept.IsKey .string (Value.string ⟨x.toArray⟩) := by simp [MapKept.IsKey]
  refine ⟨ents, clock, h1, h2, h3, h4, h5, ?_⟩
  have hall : ∀ e ∈ ents.toList, MapKept.IsKey .string e.key := by
    intro e he
    obtain ⟨i, hi, rfl⟩ := List.getElem_of_mem he
    have hi' : i < ents.size := by simpa using hi
    rw [Array.getElem_toList, (h3 i hi').1]; simp [MapKept.IsKey]
  rcases MapKept.findNow_spec hik ents.toList 0 hall with ⟨f1, f2⟩ | ⟨j, e, f1, f2, f3⟩
  · refine .inl ⟨MapKept.run_findKey hk f1, fun i hi hc => ?_⟩
    have hi' : i < ents.size := by omega
    refine f2 ents[i] (by simp) ?_
    rw [(h3 i hi').1, hc]
  · have hj : j < ents.size := by have := (List.getElem?_eq_some_iff.1 f2).1; simpa using this
    have he : ents[j] = e := by
      have := List.getElem?_eq_some_iff.1 f2
      obtain ⟨_, h⟩ := this; rw [← h]; simp
    refine .inr ⟨j, hj, ?_, ?_⟩
    · have := MapKept.run_findKey (w := w) hk f1
      rw [he]; simpa using this
    · have := (h3 j hj).1
      rw [he, f3] at this
      exact (mk_inj.1 this).symm

/-- m[x]. -/
def alook (P : Program) (s : AS) (t : TypeId) (m x : AV) : Option AV :=
  match m, x with
  | .amap k, .str x => match lk .gone s.h k, P.underlying t with
    | .smap _ _ es, some (.map K E) => match P.underlying K, zeroOf P E with
      | some .string, some z => some (aget x (AV.of z) es)
      | _, _ => none
    | _, _ => none
  | _, _ => none

/-- m[x] = v. -/
def amset (P : Program) (s : AS) (t : TypeId) (m x v : AV) : Option AS :=
  match m, x with
  | .amap k, .str x => match lk .gone s.h k, P.underlying t with
    | .smap K E es, some (.map K' _) => match P.underlying K' with
      | some .string => bif AV.fl v then some ⟨s.n, s.t, ins k (.smap K E (aput x v es)) s.h⟩ else none
      | _ => none
    | _, _ => none
  | _, _ => none

theorem run_getObj' {r0 : Nat} {ents : Array MapEntry} {clock : Nat} (h : w.heap[r0]? = some (.map ents clock)) : (getObj r0).run P w = .ok (.map ents clock) w := MapKept.run_getObj_map h

theorem alook_sound (r : Rel c s a w β κ) {t : TypeId} {m x v : AV} {M X : Value} (hm : G w (c.XX s.h β) β κ m M) (hx : G w (c.XX s.h β) β κ x X) (h : alook P s t m x = some v) :
    ∃ V, (Instr.lookup t M X false).run P w = .ok V w ∧ G w (c.XX s.h β) β κ v V := by
  unfold alook at h
  split at h
  · rename_i k x
    split at h
    · rename_i K0 E0 es K E hk hu
      split at h
      · rename_i z hK hz
        cases h
        have ho := r.hp.ob k
        rw [hk] at ho
        obtain ⟨ents, clock, h1, h2, h3, h4, h5, h6⟩ := find_in (P := P) ho x hK
        rw [hm.amap_inv, hx.str_inv]
        have hck : ∀ e, (Instr.checkKey e 10000 K (.string ⟨x.toArray⟩)).run P w = .ok () w := fun e => MapKept.run_checkKey (k := .string ⟨x.toArray⟩) hK (by simp [MapKept.IsKey]) e 9999
        rcases h6 with ⟨f1, f2⟩ | ⟨j, hj, f1, f2⟩
        · refine ⟨z, ?_, ?_⟩
          · simp [Instr.lookup, run_under hu, run_getObj' h1, hck, f1, run_zero hz, Result.andThen]
          · rw [aget_none f2]; exact .d (D.of w _ z)
        · refine ⟨ents[j].val, ?_, ?_⟩
          · simp [Instr.lookup, run_under hu, run_getObj' h1, hck, f1, Result.andThen]
          · rw [aget_at h5.1 (by omega) f2]; exact .d (h3 j hj).2.2
      · cases h
    · cases h
  · cases h

theorem amset_sound (r : Rel c s a w β κ) {t : TypeId} {m x v : AV} {M X V : Value} (hm : G w (c.XX s.h β) β κ m M) (hx : G w (c.XX s.h β) β κ x X) (hv : G w (c.XX s.h β) β κ v V) {s' : AS} (h : amset P s t m x v = some s') :
    ∃ w', (Instr.mapUpdate t M X V).run P w = .ok () w' ∧ Rel c s' a w' β κ := by
  unfold amset at h
  split at h
  · rename_i k x
    split at h
    · rename_i K0 E0 es K E hk hu
      split at h
      · rename_i hK
        cases hfl : AV.fl v with
        | false => rw [hfl] at h; cases h
        | true =>
        rw [hfl] at h
        cases h
        have ho := r.hp.ob k
        rw [hk] at ho
        have hlive : (lk .gone s.h k).live := by rw [hk]; trivial
        obtain ⟨ents, clock, h1, h2, h3, h4, h5, h6⟩ := find_in (P := P) ho x hK
        rw [hm.amap_inv, hx.str_inv]
        have hik : MapKept.IsKey .string (Value.string ⟨x.toArray⟩) := by simp [MapKept.IsKey]
        have hck : ∀ e, (Instr.checkKey e 10000 K (.string ⟨x.toArray⟩)).run P w = .ok () w := fun e => MapKept.run_checkKey (k := .string ⟨x.toArray⟩) hK hik e 9999
        have hlt : β k < w.heap.size := r.hp.lt hlive
        have hkeeps : ∀ o', Keeps (fun i => i ≠ β k) w { w with heap := w.heap.setIfInBounds (β k) o' } := fun o' => ⟨rfl, rfl, rfl, by simp, fun b hb => (MapKept.heap_set h1).2 b hb⟩
        rcases h6 with ⟨f1, f2⟩ | ⟨j, hj, f1, f2⟩
        · refine ⟨{ w with heap := w.heap.setIfInBounds (β k) (.map (ents.push { key := .string ⟨x.toArray⟩, val := V, born := clock }) (clock + 1)) }, ?_, ?_⟩
          · simp [Instr.mapUpdate, run_under hu, run_getObj' h1, hck, f1, MapKept.run_setObj_map _ h1, Result.andThen]
          · refine r.replace hlive (ob := .smap K0 E0 (aput x v es)) trivial (fun i hi => (MapKept.heap_set h1).2 i hi) (hkeeps _) fun hG hD2 => ?_
            rw [aput_none f2]
            refine ⟨_, _, (MapKept.heap_set h1).1, by simp [h2], fun i hi => ?_, fun i j' hi hj' hlt' => ?_, ?_⟩
            · by_cases hi2 : i < ents.size
              · rw [Array.getElem_push_lt hi2, getD_append_lt (by omega)]
                exact ⟨(h3 i hi2).1, by have := (h3 i hi2).2.1; omega, hD2 (h3 i hi2).2.2⟩
              · have : i = ents.size := by simp at hi; omega
                subst this
                rw [Array.getElem_push_eq, getD_append_ge (by omega), show ents.size - es.length = 0 by omega]
                exact ⟨rfl, by simp, (hG hv).toD hfl⟩
            · by_cases hj2 : j' < ents.size
              · rw [Array.getElem_push_lt hj2, Array.getElem_push_lt (by omega : i < ents.size)]
                exact h4 i j' (by omega) hj2 hlt'
              · have : j' = ents.size := by simp at hj'; omega
                subst this
                rw [Array.getElem_push_eq, Array.getElem_push_lt hlt']
                exact (h3 i hlt').2.1
            · refine ⟨?_, fun u hu1 => ?_⟩
              case refine_2 =>
                rw [List.map_append, List.mem_append] at hu1
                rcases hu1 with hu1 | hu1
                · exact h5.2 u hu1
                · simp only [List.map_cons, List.map_nil, List.mem_singleton] at hu1
                  subst hu1; exact hx.str_len
              rw [List.map_append, List.nodup_append]
              refine ⟨h5.1, by simp, fun u hu1 v' hv' => ?_⟩
              simp only [List.map_cons, List.map_nil, List.mem_singleton] at hv'
              subst hv'
              obtain ⟨p, hp, rfl⟩ := List.mem_map.1 hu1
              obtain ⟨i, hi, rfl⟩ := List.getElem_of_mem hp
              have := f2 i hi
              simpa [List.getD_eq_getElem?_getD, List.getElem?_eq_getElem hi] using this
        · have hjk : ents[j].key = .string ⟨x.toArray⟩ := by rw [(h3 j hj).1, f2]
          refine ⟨{ w with heap := w.heap.setIfInBounds (β k) (.map (ents.modify j fun e => { e with key := .string ⟨x.toArray⟩, val := V }) clock) }, ?_, ?_⟩
          · simp [Instr.mapUpdate, run_under hu, run_getObj' h1, hck, f1, Array.getElem?_eq_getElem hj, hjk, MapKept.run_keyThatStays hik, MapKept.run_setObj_map _ h1, Result.andThen]
          · refine r.replace hlive (ob := .smap K0 E0 (aput x v es)) trivial (fun i hi => (MapKept.heap_set h1).2 i hi) (hkeeps _) fun hG hD2 => ?_
            rw [aput_at h5.1 (by omega) f2]
            have hgs : ∀ i, i < es.length → (es.set j (x, v)).getD i default = if j = i then (x, v) else es.getD i default := by
              intro i hi
              simp only [List.getD_eq_getElem?_getD, List.getElem?_set]
              by_cases e : j = i
              · subst e; simp [hi]
              · simp [e]
            refine ⟨_, _, (MapKept.heap_set h1).1, by simp [h2], fun i hi => ?_, fun i j' hi hj' hlt' => ?_, ?_⟩
            · have hi2 : i < ents.size := by simpa using hi
              rw [Array.getElem_modify, hgs i (by omega)]
              by_cases e : j = i
              · subst e
                rw [if_pos rfl, if_pos rfl]
                exact ⟨rfl, (h3 j hj).2.1, (hG hv).toD hfl⟩
              · rw [if_neg e, if_neg e]
                exact ⟨(h3 i hi2).1, (h3 i hi2).2.1, hD2 (h3 i hi2).2.2⟩
            · have hb2 : ∀ i (hi : i < (ents.modify j fun e => { e with key := .string ⟨x.toArray⟩, val := V }).size), ((ents.modify j fun e => { e with key := .string ⟨x.toArray⟩, val := V })[i]).born = (ents[i]'(by simpa using hi)).born := by
                intro i hi
                rw [Array.getElem_modify]
                split <;> rfl
              rw [hb2 i hi, hb2 j' hj']
              exact h4 i j' _ _ hlt'
            · have : (es.set j (x, v)).map (·.1) = es.map (·.1) := by
                rw [List.map_set]
                refine List.ext_getElem (by simp) fun n hn1 hn2 => ?_
                rw [List.getElem_set]
                split
                · rename_i e
                  subst e
                  have : j < es.length := by omega
                  simp only [List.getElem_map]
                  rw [← f2]; simp [List.getD_eq_getElem?_getD, List.getElem?_eq_getElem this]
                · rfl
              unfold KeysOk
              rw [this]; exact h5
      · cases h
    · cases h
  · cases h

theorem op_look {t : TypeId} {m x : Operand} (hg : gd ops s o = some true) (hop : o.op = .lookup t m x false) {v : AV} (hv : alook P s t (s.op m) (s.op x) = some v) {s' : AS} (h : s.put o.dst v = some s') : OpT P ops o s (· = s') :=
  op_runs hg fun c a w β κ r => by
    obtain ⟨V, hr, hG⟩ := alook_sound r (r.op m) (r.op x) hv
    refine ⟨V, w, β, κ, .inl ?_, put_spec r hG h⟩
    simp [execOp, hop, hr, Result.andThen]
theorem op_mset {t : TypeId} {m x y : Operand} (hg : gd ops s o = some true) (hop : o.op = .mapUpdate t m x y) (hd : o.dst = none) {s' : AS} (h : amset P s t (s.op m) (s.op x) (s.op y) = some s') : OpT P ops o s (· = s') :=
  op_runs hg fun c a w β κ r => by
    obtain ⟨w', hr, r'⟩ := amset_sound r (r.op m) (r.op x) (r.op y) h
    refine ⟨undef, w', β, κ, .inr ⟨?_, rfl⟩, by rw [hd]; exact r'⟩
    simp [execOp, hop, hr, Result.andThen]

theorem alook_congr {s' : AS} {t : TypeId} {m x : AV} (h : SameAt s s' m) : alook P s' t m x = alook P s t m x := by
  cases m <;> try rfl
  case amap k =>
    have := h k (by simp [AV.men])
    cases x <;> first | rfl | simp only [alook, this]
theorem loc_look {t : TypeId} {m x : Operand} (hg : gd ops s o = some true) (hop : o.op = .lookup t m x false) {v : AV} (hv : alook P s t (s.op m) (s.op x) = some v) {s1 : AS} (h : s.put o.dst v = some s1) : Loc P ops o s (.put o.dst v) :=
  loc_of rfl h fun s' ha _ h2 => op_look (by rw [agree_gd ha]; exact hg) hop (by
    rw [agree_op ha (x := m) (by simp [hop, Op.operands]), agree_op ha (x := x) (by simp [hop, Op.operands]), alook_congr fun k hk => ha.h m (by simp [hop, Op.operands]) k hk]; exact hv) h2
end
end Go.Ab
