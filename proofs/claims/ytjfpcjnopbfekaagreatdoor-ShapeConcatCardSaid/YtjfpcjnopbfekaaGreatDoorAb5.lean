/- ABSTRACT STATES: the other operations that only compute; the whole of them as one function. -/
import Derived.Test.YtjfpcjnopbfekaaGreatDoorAb4
set_option linter.unusedSimpArgs false
set_option linter.unusedVariables false
namespace Go.Ab
open Go.RowKit

theorem add_mk (b o j : Nat) : (⟨b, o, none⟩ : Addr).add j = ⟨b, o + j, none⟩ := by
  unfold Addr.add; split <;> simp_all

theorem cell_of_cells {w : World} {b i : Nat} {cur : Array Value} {e : TypeId} {fr : Nat × Nat} (h : w.heap[b]? = some (.cells cur e fr)) (hi : i < cur.size) : w.cell? ⟨b, i, none⟩ = some (cur.getD i undef) := by
  simp [World.cell?, h, Array.getD_eq_getD_getElem?, Array.getElem?_eq_getElem hi]

theorem getD_drop {α : Type} (l : List α) (o j : Nat) (d : α) : (l.drop o).getD j d = l.getD (o + j) d := by
  simp [List.getD_eq_getElem?_getD]

theorem cells_of {P : Program} {c : Cx P} {s : AS} {a : Act} {w : World} {β : Nat → Nat} {κ : Nat → Nat × Nat} (r : Rel c s a w β κ) {v : AV} {V : Value} (hg : G w (c.XX s.h β) β κ v V) {cs : List AV} (hc : cellsAt s v = some cs) :
    ∃ (b o : Nat) (cv : Nat → Value), V = .pointer (some ⟨b, o, none⟩) ∧ (∀ j, j < cs.length → w.cell? ⟨b, o + j, none⟩ = some (cv j)) ∧ ∀ j, j < cs.length → G w (c.XX s.h β) β κ (cs.getD j .any) (cv j) := by
  cases v <;> simp only [cellsAt, reduceCtorEq, Option.some.injEq] at hc
  case dptr cs' =>
    subst hc
    have := hg.dptr_inv
    cases this with
    | dptr _ b o cv h0 h1 h2 h3 => exact ⟨b, o, cv, rfl, h2, fun j hj => .d (h3 j hj)⟩
  case hptr k o =>
    split at hc
    · rename_i e cs' hk
      cases hc
      have ho := r.hp.ob k
      rw [hk] at ho
      obtain ⟨cur, h1, h2, h3⟩ := ho
      refine ⟨β k, o, fun j => cur.getD (o + j) undef, hg.hptr_inv, fun j hj => ?_, fun j hj => ?_⟩
      · simp at hj; exact cell_of_cells h1 (by omega)
      · simp at hj; rw [getD_drop]; exact h3 (o + j) (by omega)
    · cases hc

def aload (P : Program) (s : AS) (t : TypeId) (v : AV) : Option AV :=
  match cellsAt s v, agB P t, szOf P t with
  | some cs, some true, some n => if n ≤ cs.length then some (.agg (cs.take n)) else none
  | some cs, some false, some _ => if 0 < cs.length then some (cs.getD 0 .any) else none
  | _, _, _ => none

theorem getD_take {α : Type} (l : List α) (n j : Nat) (d : α) (h : j < n) : (l.take n).getD j d = l.getD j d := by
  simp [List.getD_eq_getElem?_getD, h]

theorem aload_sound {P : Program} {c : Cx P} {s : AS} {a : Act} {w : World} {β : Nat → Nat} {κ : Nat → Nat × Nat} (r : Rel c s a w β κ) {t : TypeId} {v0 v : AV} {V0 : Value} (hg : G w (c.XX s.h β) β κ v0 V0) (h : aload P s t v0 = some v) :
    ∃ V, (Instr.loadAt t V0).run P w = .ok V w ∧ G w (c.XX s.h β) β κ v V := by
  unfold aload at h
  split at h
  · rename_i cs n hc hag hsz
    obtain ⟨b, o, cv, e, h1, h2⟩ := cells_of r hg hc
    split at h
    · rename_i hn
      cases h
      refine ⟨_, ?_, .agg (cs.take n) ((List.range n).map cv).toArray (by simp; omega) fun i hi => ?_⟩
      · have := run_loadCells (P := P) w ⟨b, o, none⟩ n cv (fun j hj => by rw [add_mk]; exact h1 j (by omega))
        rw [e]; simp only [Instr.loadAt, Instr.sureAddr, loadVar, pure_bind, Sem.run_bind, run_isAgg hag, run_sizeOf hsz, this, Result.andThen, if_true]; rfl
      · have hi' : i < n := by simp at hi; omega
        rw [getD_take _ _ _ _ hi']
        simpa [Array.getD_eq_getD_getElem?, List.getElem?_map, hi'] using h2 i (by omega)
    · cases h
  · rename_i cs n hc hag hsz
    obtain ⟨b, o, cv, e, h1, h2⟩ := cells_of r hg hc
    split at h
    · rename_i hn
      cases h
      refine ⟨cv 0, ?_, h2 0 hn⟩
      have := h1 0 hn
      simp only [Nat.add_zero] at this
      rw [e]; simp [Instr.loadAt, Instr.sureAddr, loadVar, run_isAgg hag, this, go_sem]
    · cases h
  · cases h

/-- A struct's field: its place and its type. -/
def fieldOf (P : Program) (t : TypeId) (f : Nat) : Option (Nat × TypeId) :=
  match P.underlying t with
  | some (.struct fs) => match fs[f]? with | some fd => some (fd.offset, fd.type) | none => none
  | _ => none

def afieldAddr (P : Program) (t : TypeId) (f : Nat) (v : AV) : Option AV :=
  match fieldOf P t f with
  | some (off, ft) => match szOf P ft with
    | some n => if n = 0 then none else match v with
      | .dptr cs => if off < cs.length then some (.dptr (cs.drop off)) else none
      | .hptr k o => some (.hptr k (o + off))
      | _ => none
    | none => none
  | none => none

theorem fieldOf_spec {P : Program} {t : TypeId} {f off : Nat} {ft : TypeId} (h : fieldOf P t f = some (off, ft)) : ∃ fs fd, P.underlying t = some (.struct fs) ∧ fs[f]? = some fd ∧ fd.offset = off ∧ fd.type = ft := by
  unfold fieldOf at h
  split at h
  · rename_i fs hu
    split at h
    · rename_i fd hf; cases h; exact ⟨fs, fd, hu, hf, rfl, rfl⟩
    · cases h
  · cases h

theorem afieldAddr_sound {P : Program} {w : World} {X : Nat → Prop} {β : Nat → Nat} {κ : Nat → Nat × Nat} {t : TypeId} {f : Nat} {v v' : AV} {V : Value} (hg : G w X β κ v V) (h : afieldAddr P t f v = some v') :
    ∃ V', (Instr.fieldAt t V f).run P w = .ok V' w ∧ G w X β κ v' V' := by
  unfold afieldAddr at h
  split at h
  · rename_i off ft hf
    obtain ⟨fs, fd, hu, hfd, rfl, rfl⟩ := fieldOf_spec hf
    split at h
    · rename_i n hn
      split at h
      · cases h
      · rename_i hn0
        split at h
        · rename_i cs
          split at h
          · rename_i hl
            cases h
            have := hg.dptr_inv
            cases this with
            | dptr _ b o cv h0 h1 h2 h3 =>
              refine ⟨.pointer (some ⟨b, o + fd.offset, none⟩), ?_, .d (.dptr (cs.drop fd.offset) b (o + fd.offset) (fun j => cv (fd.offset + j)) (by simp; omega) h1 (fun j hj => ?_) (fun j hj => ?_))⟩
              · simp [Instr.fieldAt, run_under hu, hfd, Instr.sureAddr, fieldPlace, run_sizeOf hn, hn0, add_mk, go_sem]
              · simp at hj; rw [Nat.add_assoc]; exact h2 _ (by omega)
              · simp at hj; rw [getD_drop]; exact h3 _ (by omega)
          · cases h
        · rename_i k o
          cases h
          refine ⟨.pointer (some ⟨β k, o + fd.offset, none⟩), ?_, .hptr k (o + fd.offset)⟩
          rw [hg.hptr_inv]
          simp [Instr.fieldAt, run_under hu, hfd, Instr.sureAddr, fieldPlace, run_sizeOf hn, hn0, add_mk, go_sem]
        · cases h
    · cases h
  · cases h

/-- A part of a value's cells. -/
def apart (P : Program) (t : TypeId) (cs : List AV) (off : Nat) : Option AV :=
  match agB P t, szOf P t with
  | some true, some n => if off + n ≤ cs.length then some (.agg ((cs.drop off).take n)) else none
  | some false, some _ => if off < cs.length then some (cs.getD off .any) else none
  | _, _ => none

theorem apart_sound {P : Program} {w : World} {X : Nat → Prop} {β : Nat → Nat} {κ : Nat → Nat × Nat} {t : TypeId} {cs : List AV} {vs : Array Value} {off : Nat} {v : AV} (hl : cs.length = vs.size) (hg : ∀ i, i < cs.length → G w X β κ (cs.getD i .any) (vs.getD i undef))
    (h : apart P t cs off = some v) : ∃ V, (part t vs off).run P w = .ok V w ∧ G w X β κ v V := by
  unfold apart at h
  split at h
  · rename_i n hag hsz
    split at h
    · rename_i hn
      cases h
      refine ⟨.agg (vs.extract off (off + n)), ?_, .agg _ _ (by simp; omega) fun i hi => ?_⟩
      · simp [part, run_isAgg hag, run_sizeOf hsz, go_sem]
      · have hi' : i < n := by simp at hi; omega
        rw [getD_take _ _ _ _ hi', getD_drop]
        have := hg (off + i) (by omega)
        have e : (vs.extract off (off + n)).getD i undef = vs.getD (off + i) undef := by
          simp only [Array.getD_eq_getD_getElem?, Array.getElem?_extract]
          rw [if_pos (by omega)]
        rw [e]; exact this
    · cases h
  · rename_i n hag hsz
    split at h
    · rename_i hn
      cases h
      have hn' : off < vs.size := by omega
      refine ⟨vs.getD off undef, ?_, hg off hn⟩
      simp [part, run_isAgg hag, Array.getElem?_eq_getElem hn', Array.getD_eq_getD_getElem?, go_sem]
    · cases h
  · cases h
end Go.Ab
