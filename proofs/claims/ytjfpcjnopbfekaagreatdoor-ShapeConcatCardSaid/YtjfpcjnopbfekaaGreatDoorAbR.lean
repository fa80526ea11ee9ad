/- ABSTRACT STATES: pointers into rows of one's own: loads, stores. -/
import Derived.Test.YtjfpcjnopbfekaaGreatDoorAbW
set_option linter.unusedSimpArgs false
set_option linter.unusedVariables false
namespace Go.Ab
open Go.RowKit
section
variable {P : Program} {ops : Array Oper} {o : Oper} {s : AS}

/-- A load through a pointer to the cell j of the element n. -/
def rload (P : Program) (s : AS) (t : TypeId) (x : AV) (n j : Nat) : Option (Prop × AV) :=
  match x with
  | .hptr k o => match lk .gone s.h k with
    | .row _ sz xs => match agB P t, szOf P t with
      | some true, some m => some (o = n * sz + j ∧ n < xs.length ∧ j + m ≤ sz, .agg (((xs.getD n []).drop j).take m))
      | some false, some _ => some (o = n * sz + j ∧ n < xs.length ∧ j + 1 ≤ sz, (xs.getD n []).getD j .any)
      | _, _ => none
    | _ => none
  | _ => none

theorem row_cells {c : Cx P} {a : Act} {w : World} {β : Nat → Nat} {κ : Nat → Nat × Nat} (r : Rel c s a w β κ) {k : Nat} {e : TypeId} {sz : Nat} {xs : List (List AV)} (hk : lk .gone s.h k = .row e sz xs) {n : Nat} (hn : n < xs.length) :
    (xs.getD n []).length = sz ∧ 0 < sz ∧ ∃ cur : Array Value, w.heap[β k]? = some (.cells cur e (0, 0)) ∧ cur.size = (κ k).1 * sz ∧ xs.length ≤ (κ k).1 ∧ (κ k).1 ≤ maxLen ∧ (∀ i, i < xs.length → (xs.getD i []).length = sz) ∧ ∀ i j, i < xs.length → j < sz → i * sz + j < cur.size ∧ D w (c.XX s.h β) ((xs.getD i []).getD j .any) (cur.getD (i * sz + j) undef) := by
  have ho := r.hp.ob k
  rw [hk] at ho
  have hx : xs ≠ [] := by intro e; subst e; simp at hn
  obtain ⟨cur, h1, h2, h3, h4, h0, h5, h6⟩ := ho.2 hx
  refine ⟨h5 n hn, h0, cur, h1, h2, h3, h4, h5, fun i j hi hj => ⟨?_, h6 i j hi hj⟩⟩
  rw [h2]
  calc i * sz + j < i * sz + sz := by omega
    _ = (i + 1) * sz := by rw [Nat.add_mul, Nat.one_mul]
    _ ≤ (κ k).1 * sz := Nat.mul_le_mul_right _ (by omega)

theorem rload_sound {c : Cx P} {a : Act} {w : World} {β : Nat → Nat} {κ : Nat → Nat × Nat} (r : Rel c s a w β κ) {t : TypeId} {x v : AV} {X : Value} {n j : Nat} {p : Prop} (hg : G w (c.XX s.h β) β κ x X) (h : rload P s t x n j = some (p, v)) (hp : p) :
    ∃ V, (Instr.loadAt t X).run P w = .ok V w ∧ G w (c.XX s.h β) β κ v V := by
  unfold rload at h
  split at h
  · rename_i k o
    split at h
    · rename_i e sz xs hk
      split at h
      · rename_i m hag hsz
        cases h
        obtain ⟨rfl, hn, hj⟩ := hp
        obtain ⟨hl, h0, cur, h1, _, _, _, _, h2⟩ := row_cells r hk hn
        rw [hg.hptr_inv]
        refine ⟨_, ?_, .agg _ ((List.range m).map fun i => cur.getD (n * sz + j + i) undef).toArray (by rw [List.length_take, List.length_drop, hl]; simp; omega) fun i hi => ?_⟩
        · have := run_loadCells (P := P) w ⟨β k, n * sz + j, none⟩ m (fun i => cur.getD (n * sz + j + i) undef) (fun i hi => by
            rw [add_mk]; exact cell_of_cells h1 (by have := (h2 n (j + i) hn (by omega)).1; omega))
          simp only [Instr.loadAt, Instr.sureAddr, loadVar, pure_bind, Sem.run_bind, run_isAgg hag, run_sizeOf hsz, this, Result.andThen, if_true]; rfl
        · have hi' : i < m := by rw [List.length_take] at hi; omega
          rw [getD_take _ _ _ _ hi', getD_drop]
          have := (h2 n (j + i) hn (by omega)).2
          rw [show n * sz + (j + i) = n * sz + j + i by omega] at this
          simpa [Array.getD_eq_getD_getElem?, List.getElem?_map, hi'] using (G.d this : G w (c.XX s.h β) β κ _ _)
      · rename_i m hag hsz
        cases h
        obtain ⟨rfl, hn, hj⟩ := hp
        obtain ⟨hl, h0, cur, h1, _, _, _, _, h2⟩ := row_cells r hk hn
        rw [hg.hptr_inv]
        refine ⟨cur.getD (n * sz + j) undef, ?_, .d (h2 n j hn (by omega)).2⟩
        have := cell_of_cells h1 (h2 n j hn (by omega)).1
        simp [Instr.loadAt, Instr.sureAddr, loadVar, run_isAgg hag, this, go_sem]
      · cases h
    · cases h
  · cases h
theorem rload_congr {s' : AS} {x : AV} {t : TypeId} {n j : Nat} (h : SameAt s s' x) : rload P s' t x n j = rload P s t x n j := by
  cases x <;> simp only [rload]
  case hptr k o => rw [h k (by simp [AV.men])]
theorem op_rload {t : TypeId} {x : Operand} {n j : Nat} (hg : gd ops s o = some true) (hop : o.op = .load t x) {p : Prop} {v : AV} (hv : rload P s t (s.op x) n j = some (p, v)) (hp : p) {s' : AS} (h : s.put o.dst v = some s') : OpT P ops o s (· = s') :=
  op_runs hg fun c a w β κ r => by
    obtain ⟨V, hr, hG⟩ := rload_sound r (r.op x) hv hp
    refine ⟨V, w, β, κ, .inl ?_, put_spec r hG h⟩
    simp only [execOp, hop, Sem.run_bind, hr, Result.andThen]; rfl
theorem loc_rload {t : TypeId} {x : Operand} {n j : Nat} (hg : gd ops s o = some true) (hop : o.op = .load t x) {p : Prop} {v : AV} (hv : rload P s t (s.op x) n j = some (p, v)) (hp : p) {s1 : AS} (h : s.put o.dst v = some s1) : Loc P ops o s (.put o.dst v) :=
  loc_of rfl h fun s' ha _ h2 => op_rload (by rw [agree_gd ha]; exact hg) hop (by
    have hx : x ∈ o.op.operands := by rw [hop]; simp [Op.operands]
    rw [agree_op ha hx, rload_congr (fun k hk => ha.h x hx k hk)]; exact hv) hp h2

/-- A store of an element's cells. -/
def rstore (P : Program) (s : AS) (t : TypeId) (x y : AV) (n j : Nat) : Option (Prop × AS) :=
  match x, avCells y, szOf P t with
  | .hptr k o, some vs, some m => match lk .gone s.h k with
    | .row e sz xs => if vs.length = m ∧ vs.all (fun v => v.one && v.fl) = true then some (o = n * sz + j ∧ n < xs.length ∧ j + m ≤ sz, ⟨s.n, s.t, ins k (.row e sz (xs.set n (splice (xs.getD n []) j vs))) s.h⟩) else none
    | _ => none
  | _, _, _ => none
theorem set_getD {α : Type} (l : List α) (n : Nat) (x d : α) (i : Nat) (hn : n < l.length) : (l.set n x).getD i d = if i = n then x else l.getD i d := by
  simp only [List.getD_eq_getElem?_getD, List.getElem?_set]
  by_cases h : n = i
  · subst h; simp [hn]
  · rw [if_neg h, if_neg (fun e => h e.symm)]
theorem rstore_sound {c : Cx P} {a : Act} {w : World} {β : Nat → Nat} {κ : Nat → Nat × Nat} (r : Rel c s a w β κ) {t : TypeId} {x y : AV} {X Y : Value} {n j : Nat} {p : Prop} (hx : G w (c.XX s.h β) β κ x X) (hy : G w (c.XX s.h β) β κ y Y) {s' : AS} (h : rstore P s t x y n j = some (p, s')) (hp : p) :
    ∃ w', (Instr.storeAt t X Y).run P w = .ok () w' ∧ Rel c s' a w' β κ := by
  unfold rstore at h
  split at h
  · rename_i k off vs m hvs hm
    split at h
    · rename_i e sz xs hk
      split at h
      · rename_i hc
        obtain ⟨hc1, hc3⟩ := hc
        cases h
        obtain ⟨rfl, hn, hj⟩ := hp
        obtain ⟨hl, h0, cur, h1, hcs, hcap1, hcap2, hall, h2⟩ := row_cells r hk hn
        obtain ⟨g1, g2⟩ := avCells_spec hy hvs
        have hfl : ∀ i, i < vs.length → (vs.getD i .any).one = true ∧ (vs.getD i .any).fl = true := by
          intro i hi
          have := List.all_eq_true.1 hc3 (vs.getD i .any) (by rw [List.getD_eq_getElem?_getD, List.getElem?_eq_getElem hi]; exact List.getElem_mem _)
          simpa [Bool.and_eq_true] using this
        have hone : ∀ v ∈ Y.cells.toList, v.oneCell' = true := by
          intro v hv
          obtain ⟨i, hi, rfl⟩ := List.getElem_of_mem hv
          have hi' : i < Y.cells.size := by simpa using hi
          have := g2 i (by omega)
          have e1 : Y.cells.getD i undef = Y.cells.toList[i] := by simp [Array.getD_eq_getD_getElem?, Array.getElem?_eq_getElem hi']
          rw [e1] at this
          exact this.one (hfl i (by omega)).1
        have hend : n * sz + j + Y.cells.size ≤ cur.size := by
          have := (h2 n (sz - 1) hn (by omega)).1
          omega
        have hst := run_storeCells_at P (β k) (n * sz + j) e Y.cells.toList 0 cur w h1 (by simp; omega) hone
        simp only [Nat.add_zero, Array.length_toList] at hst
        generalize hoff : n * sz + j = off at *
        let new : Array Value := (cur.toList.take off ++ Y.cells.toList ++ cur.toList.drop (off + Y.cells.size)).toArray
        have hnewsz : new.size = cur.size := by simp [new]; omega
        have hnew : ∀ i, new.getD i undef = if off ≤ i ∧ i < off + vs.length then Y.cells.getD (i - off) undef else cur.getD i undef := by
          intro i
          have hl1 : (cur.toList.take off).length = off := by simp; omega
          have hN : new.getD i undef = (cur.toList.take off ++ Y.cells.toList ++ cur.toList.drop (off + Y.cells.size)).getD i undef := by
            simp [new, Array.getD_eq_getD_getElem?, List.getD_eq_getElem?_getD]
          rw [hN]
          by_cases h4 : i < off
          · rw [if_neg (by omega), List.append_assoc, getD_append_lt (by omega), getD_take _ _ _ _ h4]
            simp [Array.getD_eq_getD_getElem?, List.getD_eq_getElem?_getD]
          · by_cases h5 : i < off + vs.length
            · rw [if_pos ⟨by omega, h5⟩, List.append_assoc, getD_append_ge (by omega), hl1, getD_append_lt (by simp; omega)]
              simp [Array.getD_eq_getD_getElem?, List.getD_eq_getElem?_getD]
            · rw [if_neg (by omega), getD_append_ge (by simp; omega), getD_drop]
              have : off + Y.cells.size + (i - (cur.toList.take off ++ Y.cells.toList).length) = i := by simp; omega
              rw [this]
              simp [Array.getD_eq_getD_getElem?, List.getD_eq_getElem?_getD]
        refine ⟨w.setRow (β k) new, ?_, ?_⟩
        · rw [hx.hptr_inv]
          simp only [Instr.storeAt, Instr.sureAddr, pure_bind, storeVar, Sem.run_bind, run_sizeOf hm, Result.andThen]
          rw [if_neg (by omega)]
          exact hst
        · have hlive : (lk .gone s.h k).live := by rw [hk]; intro e; subst e; simp at hn
          have hbk : β k < w.heap.size := r.hp.lt hlive
          let xs' := xs.set n (splice (xs.getD n []) j vs)
          have hxs' : xs' ≠ [] := by
            intro e
            have : xs'.length = xs.length := by simp [xs']
            rw [e] at this; simp at this; omega
          have hown : ∀ i, own (ins k (.row e sz xs') s.h) β i ↔ own s.h β i := by
            intro i
            constructor
            · rintro ⟨j, hl, hj⟩
              by_cases ej : j = k
              · subst ej; exact ⟨j, hlive, hj⟩
              · rw [lk_ins, if_neg ej] at hl; exact ⟨j, hl, hj⟩
            · rintro ⟨j, hl, hj⟩
              by_cases ej : j = k
              · subst ej; exact ⟨j, by rw [lk_ins, if_pos rfl]; exact hxs', hj⟩
              · exact ⟨j, by rw [lk_ins, if_neg ej]; exact hl, hj⟩
          have hXX : c.XX (ins k (.row e sz xs') s.h) β = c.XX s.h β := by funext i; simp only [Cx.XX, hown]
          have hw : ∀ i, ¬ c.XX s.h β i → i < w.heap.size → (w.setRow (β k) new).heap[i]? = w.heap[i]? := fun i hi _ => setRow_heap_ne _ _ _ (fun e => hi (.inr ⟨k, hlive, e.symm⟩))
          have hG : ∀ {v : AV} {V : Value}, G w (c.XX s.h β) β κ v V → G (w.setRow (β k) new) (c.XX s.h β) β κ v V := fun hg => hg.mono hw (fun _ h _ => h) (fun _ _ => ⟨rfl, rfl⟩)
          have hD : ∀ {v : AV} {V : Value}, D w (c.XX s.h β) v V → D (w.setRow (β k) new) (c.XX s.h β) v V := fun hg => hg.mono hw (fun _ h _ => h)
          have hlive2 : ∀ {i}, (lk .gone (ins k (.row e sz xs') s.h) i).live → (lk .gone s.h i).live := by
            intro i hi
            rw [lk_ins] at hi
            by_cases ei : i = k
            · subst ei; exact hlive
            · rw [if_neg ei] at hi; exact hi
          refine ⟨r.df, r.sz, fun i => ?_, ⟨fun q => ?_, fun i j hi hj e => r.hp.inj i j (hlive2 hi) (hlive2 hj) e, ?_, fun j hj => r.hp.nk j (hlive2 hj), fun j hj => r.hp.nx j (hlive2 hj), r.hp.fix⟩⟩
          · show G _ (c.XX (ins k _ s.h) β) β κ _ _
            rw [hXX]; exact hG (r.tm i)
          · show HO _ (c.XX (ins k (.row e sz xs') s.h) β) β κ q (lk .gone (ins k (.row e sz xs') s.h) q)
            rw [hXX, lk_ins]
            by_cases ej : q = k
            · subst ej
              rw [if_pos rfl]
              have hlen' : xs'.length = xs.length := by simp [xs']
              have hold := r.hp.ob q
              rw [hk] at hold
              have hsp : (splice (xs.getD n []) j vs).length = sz := by rw [splice_len (by omega)]; exact hl
              have hgd : ∀ i, xs'.getD i [] = if i = n then splice (xs.getD n []) j vs else xs.getD i [] := fun i => set_getD xs n _ [] i hn
              refine ⟨by rw [hlen']; exact hold.1, fun _ => ⟨new, setRow_heap_eq w _ cur e new h1, by rw [hnewsz]; exact hcs, by rw [hlen']; exact hcap1, hcap2, h0, fun i hi => ?_, fun i l hi hl2 => ?_⟩⟩
              · rw [hgd]
                split
                · exact hsp
                · rw [hlen'] at hi; exact hall i hi
              · rw [hlen'] at hi
                rw [hgd, hnew]
                by_cases ei : i = n
                · subst ei
                  rw [if_pos rfl, splice_getD (by omega)]
                  by_cases h6 : j ≤ l ∧ l < j + vs.length
                  · rw [if_pos h6, if_pos (by omega), show i * sz + l - off = l - j by omega]
                    exact hD ((g2 (l - j) (by omega)).toD (hfl (l - j) (by omega)).2)
                  · rw [if_neg h6, if_neg (by omega)]
                    exact hD (h2 i l hi hl2).2
                · rw [if_neg ei, if_neg ?_]
                  · exact hD (h2 i l hi hl2).2
                  · rcases Nat.lt_or_ge i n with h7 | h7
                    · have h8 : (i + 1) * sz ≤ n * sz := Nat.mul_le_mul_right _ h7
                      rw [Nat.add_mul, Nat.one_mul] at h8
                      omega
                    · have h8 : (n + 1) * sz ≤ i * sz := Nat.mul_le_mul_right _ (by omega)
                      rw [Nat.add_mul, Nat.one_mul] at h8
                      omega
            · rw [if_neg ej]
              refine (r.hp.ob q).mono hw (fun _ h _ => h) (fun _ _ => ⟨rfl, rfl⟩) ⟨rfl, rfl⟩ fun hl => setRow_heap_ne _ _ _ fun e => ej (r.hp.inj q k hl hlive e)
          · refine r.hp.kp.trans (K' := c.K) ⟨rfl, rfl, rfl, by simp [World.setRow], fun b hb => setRow_heap_ne _ _ _ fun e => r.hp.nk k hlive (e ▸ hb)⟩ (fun _ h => h)
      · cases h
    · cases h
  · cases h
theorem op_rstore {t : TypeId} {x y : Operand} {n j : Nat} (hg : gd ops s o = some true) (hop : o.op = .store t x y) (hd : o.dst = none) {p : Prop} {s' : AS} (h : rstore P s t (s.op x) (s.op y) n j = some (p, s')) (hp : p) : OpT P ops o s (· = s') :=
  op_runs hg fun c a w β κ r => by
    obtain ⟨w', hr, r'⟩ := rstore_sound r (r.op x) (r.op y) h hp
    refine ⟨undef, w', β, κ, .inr ⟨?_, rfl⟩, by rw [hd]; exact r'⟩
    simp only [execOp, hop, Sem.run_bind, hr, Result.andThen]
    rfl
end
end Go.Ab
