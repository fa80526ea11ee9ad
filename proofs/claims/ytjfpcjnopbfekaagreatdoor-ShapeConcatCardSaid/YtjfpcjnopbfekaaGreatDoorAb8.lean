/- ABSTRACT STATES: statements on code (Tri), on lists of operations (TriL), on one operation (OpT); their rules. -/
import Derived.Test.YtjfpcjnopbfekaaGreatDoorAb7
set_option linter.unusedSimpArgs false
set_option linter.unusedVariables false
namespace Go.Ab
open Go.RowKit

def lift {P : Program} (c : Cx P) (Q : Exit → AS → Prop) : Exit → Act → World → Prop := fun e a w => ∃ s β κ, Q e s ∧ Rel c s a w β κ

/-- FROM EVERY WORLD IN WHICH THE STATE s HOLDS the code comes to an end e in a state of Q. -/
def Tri (P : Program) (cd : Code) (Q : Exit → AS → Prop) (s : AS) : Prop := ∀ (c : Cx P) a w β κ, Rel c s a w β κ → cd.wp P (lift c Q) a w
/-- The same of the operations that are still to come in a region whose order is fixed. -/
def TriL (P : Program) (ops : Array Oper) (rest : List Oper) (Q : Exit → AS → Prop) (s : AS) : Prop := ∀ (c : Cx P) a w β κ, Rel c s a w β κ → wpList P ops (lift c Q) rest a w
/-- One operation leads from the state s into states of N. -/
def OpT (P : Program) (ops : Array Oper) (o : Oper) (s : AS) (N : AS → Prop) : Prop :=
  ∀ (c : Cx P) a w β κ, Rel c s a w β κ → ∀ (K : Act → World → Prop) (Q : Exit → Act → World → Prop), (∀ s' a' w' β' κ', N s' → Rel c s' a' w' β' κ' → K a' w') →
    if Region.wanted o (yielded ops a.tmps) then o.wp P a w K Q else K (a.put o.dst undef) w

section rules
variable {P : Program} {Q : Exit → AS → Prop} {s : AS}

theorem Tri.mono {cd : Code} {Q' : Exit → AS → Prop} (h : Tri P cd Q s) (hq : ∀ e s, Q e s → Q' e s) : Tri P cd Q' s :=
  fun c a w β κ r => wp_mono (h c a w β κ r) fun e a w ⟨s, β, κ, q, r⟩ => ⟨s, β, κ, hq e s q, r⟩

def thn (N : AS → Prop) (Q : Exit → AS → Prop) : Exit → AS → Prop
  | .normal, s => N s
  | e, s => Q e s

theorem tri_skip (h : Q .normal s) : Tri P .skip Q s := fun _ _ _ β κ r => wp_skip ⟨s, β, κ, h, r⟩
theorem tri_ret (h : Q .ret s) : Tri P .ret Q s := fun _ _ _ β κ r => wp_ret ⟨s, β, κ, h, r⟩
theorem tri_exit {id : Nat} (h : Q (.exit id) s) : Tri P (.exit id) Q s := fun _ _ _ β κ r => wp_exit ⟨s, β, κ, h, r⟩
theorem tri_seq {x y : Code} (h : Tri P x (thn (Tri P y Q) Q) s) : Tri P (.seq x y) Q s := fun c a w β κ r =>
  wp_seq (wp_mono (h c a w β κ r) fun e a' w' ⟨s', β', κ', q, r'⟩ => by
    cases e with
    | normal => exact (q : Tri P y Q s') c a' w' β' κ' r'
    | exit id => exact ⟨s', β', κ', q, r'⟩
    | goto l => exact ⟨s', β', κ', q, r'⟩
    | ret => exact ⟨s', β', κ', q, r'⟩
    | panic ch => exact ⟨s', β', κ', q, r'⟩
    | outgrown => exact ⟨s', β', κ', q, r'⟩)
theorem tri_cond {x : Operand} {y z : Code} {b : Bool} (hx : s.op x = .bool b) (ht : b = true → Tri P y Q s) (hf : b = false → Tri P z Q s) : Tri P (.cond x y z) Q s := fun c a w β κ r => by
  have h := r.op x
  rw [hx] at h
  exact wp_cond_split h.bool_inv (fun e => ht e c a w β κ r) (fun e => hf e c a w β κ r)
theorem tri_true {x : Operand} {y z : Code} (hx : s.op x = .bool true) (ht : Tri P y Q s) : Tri P (.cond x y z) Q s := tri_cond hx (fun _ => ht) (fun e => by cases e)
theorem tri_false {x : Operand} {y z : Code} (hx : s.op x = .bool false) (hf : Tri P z Q s) : Tri P (.cond x y z) Q s := tri_cond hx (fun e => by cases e) (fun _ => hf)

def blk (id : Nat) (Q : Exit → AS → Prop) : Exit → AS → Prop
  | .exit id', s => bif Nat.beq id' id then Q .normal s else Q (.exit id') s
  | e, s => Q e s
theorem tri_block {id : Nat} {y : Code} (h : Tri P y (blk id Q) s) : Tri P (.block id y) Q s := fun c a w β κ r =>
  wp_block (wp_mono (h c a w β κ r) fun e a' w' ⟨s', β', κ', q, r'⟩ => by
    cases e with
    | normal => exact ⟨s', β', κ', q, r'⟩
    | exit id' =>
      simp only [blk] at q
      simp only [Exit.inBlock]
      by_cases hid : id' = id
      · subst hid; rw [Nat.beq_refl] at q; rw [if_pos rfl]; exact ⟨s', β', κ', q, r'⟩
      · rw [beq_f hid] at q; rw [if_neg hid]; exact ⟨s', β', κ', q, r'⟩
    | goto l => exact ⟨s', β', κ', q, r'⟩
    | ret => exact ⟨s', β', κ', q, r'⟩
    | panic ch => exact ⟨s', β', κ', q, r'⟩
    | outgrown => exact ⟨s', β', κ', q, r'⟩)

/-- A LOOP: a family of states, with a number that every round lowers. -/
theorem tri_loop {ι : Type} {y : Code} (S : ι → AS) (φ : ι → Prop) (μ : ι → Nat) (i₀ : ι) (h₀ : φ i₀) (hs : s = S i₀)
    (round : ∀ i, φ i → Tri P y (thn (fun s' => ∃ j, φ j ∧ μ j < μ i ∧ s' = S j) Q) (S i)) : Tri P (.loop y) Q s := fun c a w β κ r => by
  subst hs
  refine wp_loop_ghost (fun n a w => ∃ i β κ, φ i ∧ μ i = n ∧ Rel c (S i) a w β κ) (μ i₀) ⟨i₀, β, κ, h₀, rfl, r⟩ ?_
  rintro n a w ⟨i, β, κ, hi, rfl, r⟩
  refine wp_mono (round i hi c a w β κ r) fun e a' w' ⟨s', β', κ', q, r'⟩ => ?_
  cases e with
  | normal =>
    obtain ⟨j, hj, hlt, rfl⟩ := q
    exact ⟨μ j, hlt, j, β', κ', hj, rfl, r'⟩
  | exit id => exact ⟨s', β', κ', q, r'⟩
  | goto l => exact ⟨s', β', κ', q, r'⟩
  | ret => exact ⟨s', β', κ', q, r'⟩
  | panic ch => exact ⟨s', β', κ', q, r'⟩
  | outgrown => exact ⟨s', β', κ', q, r'⟩

theorem tri_sel {cd : Code} (ts hs : List Nat) (h : Tri P cd Q ⟨s.n, sel ts s.t, sel hs s.h⟩) : Tri P cd Q s := fun c a w β κ r => h c a w β κ (r.sel ts hs)

theorem l_nil {ops : Array Oper} (h : Q .normal s) : TriL P ops [] Q s := fun _ _ _ β κ r => wpList_nil ⟨s, β, κ, h, r⟩
theorem l_cons {ops : Array Oper} {o : Oper} {rest : List Oper} (h : OpT P ops o s (TriL P ops rest Q)) : TriL P ops (o :: rest) Q s := fun c a w β κ r =>
  wpList_step fun K hK => h c a w β κ r K _ fun s' a' w' β' κ' hn r' => hK a' w' (hn c a' w' β' κ' r')
theorem tri_region {id : Nat} {l : List Oper} (h : TriL P l.toArray l Q s) : Tri P (.region id l.toArray false) Q s := fun c a w β κ r => wp_region_lit (h c a w β κ r)

theorem OpT.mono {ops : Array Oper} {o : Oper} {N N' : AS → Prop} (h : OpT P ops o s N) (hn : ∀ s, N s → N' s) : OpT P ops o s N' :=
  fun c a w β κ r K Q hK => h c a w β κ r K Q fun s' a' w' β' κ' n r' => hK s' a' w' β' κ' (hn s' n) r'
theorem l_sel {ops : Array Oper} {rest : List Oper} (ts hs : List Nat) (h : TriL P ops rest Q ⟨s.n, sel ts s.t, sel hs s.h⟩) : TriL P ops rest Q s := fun c a w β κ r => h c a w β κ (r.sel ts hs)
end rules

/-! ### one operation -/
section step
variable {P : Program} {ops : Array Oper} {o : Oper} {s : AS}

def gd (ops : Array Oper) (s : AS) (o : Oper) : Option Bool :=
  match o.guard with
  | none => some true
  | some (j, b) => match (match ops[j]? with | some x => x.dst | none => none) with
    | some t => bif Nat.blt t s.n then (match lk .any s.t t with | .bool c => some (c == b) | .tup [] => some false | _ => none) else none
    | none => none

theorem gd_spec {c : Cx P} {a : Act} {w : World} {β : Nat → Nat} {κ : Nat → Nat × Nat} (r : Rel c s a w β κ) {b : Bool} (h : gd ops s o = some b) : Region.wanted o (yielded ops a.tmps) = b := by
  unfold gd at h
  unfold Region.wanted
  split at h
  · rename_i e; rw [e]; cases h; rfl
  · rename_i j b' e
    rw [e]
    split at h
    · rename_i t ht
      have ht' : (ops[j]?).bind (·.dst) = some t := by
        split at ht
        · rename_i x hx; rw [hx]; exact ht
        · cases ht
      cases hlt : Nat.blt t s.n with
      | false => rw [hlt] at h; cases h
      | true =>
        rw [hlt] at h
        have hlt' : t < a.tmps.size := by rw [r.sz]; simpa [Nat.blt_eq] using hlt
        have hg := r.tm t
        simp only [cond_true] at h
        split at h
        · rename_i cc e2
          rw [e2] at hg
          cases h
          have := hg.bool_inv
          simp only [Array.getD_eq_getD_getElem?, Array.getElem?_eq_getElem hlt', Option.getD_some] at this
          simp [yielded, ht', Array.getElem?_eq_getElem hlt', this]
        · rename_i e2
          rw [e2] at hg
          cases h
          obtain ⟨vs, eV, hl, _⟩ := hg.tup_inv
          simp only [Array.getD_eq_getD_getElem?, Array.getElem?_eq_getElem hlt', Option.getD_some] at eV
          simp [yielded, ht', Array.getElem?_eq_getElem hlt', eV]
        · cases h
    · cases h

def AS.put (s : AS) (dst : Option Tmp) (v : AV) : Option AS :=
  match dst with
  | none => some s
  | some t => bif Nat.blt t s.n then some ⟨s.n, ins t v s.t, s.h⟩ else none

theorem put_spec {c : Cx P} {a : Act} {w : World} {β : Nat → Nat} {κ : Nat → Nat × Nat} (r : Rel c s a w β κ) {dst : Option Tmp} {v : AV} {V : Value} (hg : G w (c.XX s.h β) β κ v V) {s' : AS} (h : s.put dst v = some s') : Rel c s' (a.put dst V) w β κ := by
  cases dst with
  | none => cases h; exact r
  | some t =>
    simp only [AS.put] at h
    cases hlt : Nat.blt t s.n with
    | false => rw [hlt] at h; cases h
    | true =>
      rw [hlt] at h; cases h
      exact r.put (by simpa [Nat.blt_eq] using hlt) hg

theorem op_skip (hg : gd ops s o = some false) {s' : AS} (h : s.put o.dst (.tup []) = some s') : OpT P ops o s (· = s') := fun c a w β κ r K Q hK => by
  rw [gd_spec r hg]
  exact hK s' _ w β κ rfl (put_spec r (.d (.tup [] #[] rfl (fun i hi => by simp at hi))) h)

/-- An operation that hands back a value, or none, in some world. -/
theorem op_runs (hg : gd ops s o = some true) {s' : AS}
    (h : ∀ (c : Cx P) a w β κ, Rel c s a w β κ → ∃ V w' β' κ', ((execOp a.eval o).run P w = .ok (.value V) w' ∨ ((execOp a.eval o).run P w = .ok .skip w' ∧ V = undef)) ∧ Rel c s' (a.put o.dst V) w' β' κ') : OpT P ops o s (· = s') := fun c a w β κ r K Q hK => by
  rw [gd_spec r hg]
  obtain ⟨V, w', β', κ', hr, r'⟩ := h c a w β κ r
  simp only [if_true]
  unfold Oper.wp
  rcases hr with hr | ⟨hr, rfl⟩ <;> rw [hr]
  · exact hK s' _ w' β' κ' rfl r'
  · exact hK s' _ w' β' κ' rfl r'

theorem op_val (hg : gd ops s o = some true) {p : Prop} {v : AV} (hv : aval P s o.op = some (p, v)) (hp : p) {s' : AS} (h : s.put o.dst v = some s') : OpT P ops o s (· = s') :=
  op_runs hg fun c a w β κ r => by
    obtain ⟨dst, op, ty, pos, af, g⟩ := o
    obtain ⟨V, hr, hG⟩ := aval_sound r hv hp dst ty pos af g
    exact ⟨V, w, β, κ, .inl hr, put_spec r hG h⟩
end step
end Go.Ab
