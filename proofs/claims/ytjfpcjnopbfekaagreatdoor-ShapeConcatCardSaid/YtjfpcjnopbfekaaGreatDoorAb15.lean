/- ABSTRACT STATES: a region that draws its order: one walk in the order of the text serves every order. -/
import Derived.Test.YtjfpcjnopbfekaaGreatDoorAb14
set_option linter.unusedSimpArgs false
set_option linter.unusedVariables false
namespace Go.Ab
open Go.RowKit

/-- What an operation puts down: slots' values, objects; the keys that are new. -/
structure Eff where
  ws : List (Nat × AV)
  os : List (Nat × AO)
  fr : List Nat
  ex : List (Nat × Nat)

section lists
variable {α : Type}
def insL (l : List (Nat × α)) (m : List (Nat × α)) : List (Nat × α) := l.foldr (fun p m => ins p.1 p.2 m) m
def lkO : List (Nat × α) → Nat → Option α
  | [], _ => none
  | (k, v) :: l, i => bif Nat.beq i k then some v else lkO l i
theorem lk_insL (d : α) (m : List (Nat × α)) (i : Nat) : ∀ (l : List (Nat × α)), lk d (insL l m) i = (lkO l i).getD (lk d m i)
  | [] => rfl
  | (k, v) :: l => by
    have h : insL ((k, v) :: l) m = ins k v (insL l m) := rfl
    rw [h, lk_ins, lk_insL d m i l]
    simp only [lkO]
    by_cases e : i = k
    · subst e; simp
    · rw [if_neg e, beq_f e]; rfl
/-- Who writes last. -/
def lw (wr : Eff → Option α) : List Eff → List Bool → Option α
  | e :: es, b :: bs => match lw wr es bs with
    | some v => some v
    | none => if b then wr e else none
  | _, _ => none
theorem lw_congr {wr : Eff → Option α} : ∀ {es : List Eff} {bs bs' : List Bool}, bs.length = bs'.length → (∀ (j : Nat) (e : Eff), es[j]? = some e → wr e ≠ none → bs[j]? = bs'[j]?) → lw wr es bs = lw wr es bs'
  | [], bs, bs', _, _ => by cases bs <;> cases bs' <;> rfl
  | e :: es, [], [], _, _ => rfl
  | e :: es, [], _ :: _, h, _ => by simp at h
  | e :: es, _ :: _, [], h, _ => by simp at h
  | e :: es, b :: bs, b' :: bs', h, hj => by
    simp only [lw]
    rw [lw_congr (es := es) (bs := bs) (bs' := bs') (by simpa using h) fun j e' h1 h2 => by simpa using hj (j + 1) e' (by simpa using h1) h2]
    split
    · rfl
    · cases hw : wr e with
      | none => simp
      | some v =>
        have := hj 0 e rfl (by rw [hw]; simp)
        simp only [List.getElem?_cons_zero, Option.some.injEq] at this
        rw [this]
theorem lw_none {wr : Eff → Option α} : ∀ {es : List Eff} {bs : List Bool}, (∀ (j : Nat) (e : Eff), es[j]? = some e → bs[j]? = some true → wr e = none) → lw wr es bs = none
  | [], bs, _ => by cases bs <;> rfl
  | e :: es, [], _ => rfl
  | e :: es, b :: bs, h => by
    simp only [lw]
    rw [lw_none (es := es) (bs := bs) fun j e' h1 h2 => h (j + 1) e' (by simpa using h1) (by simpa using h2)]
    cases b with
    | false => rfl
    | true => simpa using h 0 e rfl rfl
theorem lw_at {wr : Eff → Option α} {v : α} : ∀ {es : List Eff} {bs : List Bool} {i : Nat} {e : Eff}, es[i]? = some e → bs[i]? = some true → wr e = some v → (∀ (j : Nat) (e' : Eff), i < j → es[j]? = some e' → bs[j]? = some true → wr e' = none) → lw wr es bs = some v
  | [], _, i, e, h, _, _, _ => by simp at h
  | _ :: _, [], i, e, _, h, _, _ => by simp at h
  | e0 :: es, b :: bs, 0, e, h, hb, hw, hj => by
    simp only [List.getElem?_cons_zero, Option.some.injEq] at h hb
    subst h; subst hb
    simp only [lw]
    rw [lw_none (es := es) (bs := bs) fun j e' h1 h2 => hj (j + 1) e' (by omega) (by simpa using h1) (by simpa using h2)]
    simpa using hw
  | e0 :: es, b :: bs, i + 1, e, h, hb, hw, hj => by
    simp only [lw]
    rw [lw_at (es := es) (bs := bs) (i := i) (e := e) (by simpa using h) (by simpa using hb) hw fun j e' h0 h1 h2 => hj (j + 1) e' (by omega) (by simpa using h1) (by simpa using h2)]
theorem lw_mem {wr : Eff → Option α} {v : α} : ∀ {es : List Eff} {bs : List Bool}, lw wr es bs = some v → ∃ (j : Nat) (e : Eff), es[j]? = some e ∧ bs[j]? = some true ∧ wr e = some v
  | [], bs, h => by cases bs <;> cases h
  | e :: es, [], h => by cases h
  | e :: es, b :: bs, h => by
    simp only [lw] at h
    split at h
    · rename_i v' hv
      cases h
      obtain ⟨j, e', h1, h2, h3⟩ := lw_mem hv
      exact ⟨j + 1, e', by simpa using h1, by simpa using h2, h3⟩
    · cases b with
      | false => cases h
      | true => exact ⟨0, e, rfl, rfl, by simpa using h⟩
end lists

def Eff.app (e : Eff) (s : AS) : AS := ⟨s.n, insL e.ws s.t, insL e.os s.h⟩

/-- Two states that an operation cannot tell apart. -/
structure Agree (ops : Array Oper) (o : Oper) (s s' : AS) : Prop where
  n : s'.n = s.n
  t : ∀ t ∈ o.looksAt ops, lk .any s'.t t = lk .any s.t t
  h : ∀ x ∈ o.op.operands, ∀ k, AV.men k (s.op x) = true → lk .gone s'.h k = lk .gone s.h k

/-- Nothing leads to the key k. -/
def Free (k : Nat) (s : AS) : Prop := (∀ t, AV.men k (lk .any s.t t) = false) ∧ ∀ j, AO.men k (lk .gone s.h j) = false

/-- Nothing leads to the key k but the slot t. -/
def Only (k t : Nat) (s : AS) : Prop := (∀ i, i ≠ t → AV.men k (lk .any s.t i) = false) ∧ ∀ j, AO.men k (lk .gone s.h j) = false

/-- The operation has this effect, in every state that it cannot tell from s. -/
def Loc (P : Program) (ops : Array Oper) (o : Oper) (s : AS) (e : Eff) : Prop :=
  ∀ s', Agree ops o s s' → (∀ k ∈ e.fr, Free k s') → (∀ p ∈ e.ex, Only p.1 p.2 s') → OpT P ops o s' (fun s'' => Same (e.app s') s'')

/-- The operations, one behind the other. -/
def Chain (P : Program) (ops : Array Oper) : List Oper → List Eff → AS → AS → Prop
  | [], [], s, s' => s' = s
  | o :: os, e :: es, s, s' => Loc P ops o s e ∧ Chain P ops os es (e.app s) s'
  | _, _, _, _ => False

/-! ### the order's constraints -/
def aft (o : Oper) : List Nat := o.after.toList.filterMap fun e => if Region.binds .any e then some e.on else none
def mrg : List Nat → List Nat → List Nat
  | [], r => r
  | x :: l, r => mrg l (bif r.any (Nat.beq x) then r else x :: r)
theorem mem_mrg {y : Nat} : ∀ (l r : List Nat), y ∈ mrg l r → y ∈ l ∨ y ∈ r
  | [], r, h => .inr h
  | x :: l, r, h => by
    have h' : y ∈ mrg l (bif r.any (Nat.beq x) then r else x :: r) := h
    rcases mem_mrg l _ h' with h1 | h1
    · exact .inl (List.mem_cons_of_mem _ h1)
    · cases hc : r.any (Nat.beq x) with
      | true => rw [hc] at h1; exact .inr h1
      | false =>
        rw [hc] at h1
        rcases List.mem_cons.1 h1 with rfl | h1
        · exact .inl (by simp)
        · exact .inr h1
/-- What comes ahead of each operation. -/
def clos : List Oper → List (List Nat) → List (List Nat)
  | [], acc => acc
  | o :: os, acc => clos os (acc ++ [(aft o).foldr (fun j r => mrg (j :: acc.getD j []) r) []])


def idxs : Nat → List Nat
  | 0 => []
  | n + 1 => idxs n ++ [n]


/-- What an operation looks at: slots; the values of its operands. -/
def infos (ops : Array Oper) : List Oper → List Eff → AS → List (List Nat × List AV)
  | o :: os, e :: es, s => (o.looksAt ops, o.op.operands.toList.map s.op) :: infos ops os es (e.app s)
  | _, _, _ => []
/-- Two operations of which one puts down what the other puts down or looks at. -/
def conf (e1 e2 : Eff) (r1 r2 : List Nat × List AV) : Bool :=
  e1.ws.any (fun p => e2.ws.any (fun q => Nat.beq p.1 q.1) || r2.1.any (Nat.beq p.1)) || e2.ws.any (fun q => r1.1.any (Nat.beq q.1)) ||
  e1.os.any (fun p => e2.os.any (fun q => Nat.beq p.1 q.1) || r2.2.any (AV.men p.1)) || e2.os.any (fun q => r1.2.any (AV.men q.1))
def bernB (cl : List (List Nat)) (es : List Eff) (rs : List (List Nat × List AV)) : Bool :=
  (es.zip rs).zipIdx.all fun (x, i) => (es.zip rs).zipIdx.all fun (y, j) => !Nat.blt i j || !conf x.1 y.1 x.2 y.2 || (cl.getD j []).any (Nat.beq i)

def tailB : Nat → List Oper → Bool
  | _, [] => true
  | k, o :: os => (aft o).any (Nat.beq k) && tailB (k + 1) os
def backB : Nat → List Oper → Bool
  | _, [] => true
  | i, o :: os => (aft o).all (fun j => Nat.blt j i) && backB (i + 1) os


def drawB (l : List Oper) (n : Nat) (es : List Eff) (s : AS) : Bool :=
  Nat.beq es.length n && Nat.ble n l.length && bernB (clos l []) es (infos l.toArray (l.take n) es s) && backB 0 l &&
  (match l.drop n with | [] => true | _ :: os => (idxs n).all (fun j => ((clos l []).getD n []).any (Nat.beq j)) && tailB n os)

/-! ### the state when only some have come up -/
def sL : List Eff → List Bool → AS → AS
  | e :: es, b :: bs, s => sL es bs (if b then e.app s else s)
  | _, _, s => s

theorem app_t {e : Eff} {s : AS} (i : Nat) : lk .any (e.app s).t i = (lkO e.ws i).getD (lk .any s.t i) := lk_insL .any s.t i e.ws
theorem app_h {e : Eff} {s : AS} (i : Nat) : lk .gone (e.app s).h i = (lkO e.os i).getD (lk .gone s.h i) := lk_insL .gone s.h i e.os
theorem app_n {e : Eff} {s : AS} : (e.app s).n = s.n := rfl
theorem sL_n : ∀ (es : List Eff) (bs : List Bool) (s : AS), (sL es bs s).n = s.n
  | [], bs, s => by cases bs <;> rfl
  | e :: es, [], s => rfl
  | e :: es, b :: bs, s => by rw [sL, sL_n es bs]; split <;> rfl
theorem sL_t (t : Nat) : ∀ (es : List Eff) (bs : List Bool) (s : AS), lk .any (sL es bs s).t t = (lw (fun e => lkO e.ws t) es bs).getD (lk .any s.t t)
  | [], bs, s => by cases bs <;> rfl
  | e :: es, [], s => rfl
  | e :: es, b :: bs, s => by
    rw [sL, sL_t t es bs]
    simp only [lw]
    cases lw (fun e => lkO e.ws t) es bs with
    | some v => rfl
    | none =>
      simp only [Option.getD_none]
      cases b with
      | false => simp
      | true => simp [app_t]
theorem sL_h (k : Nat) : ∀ (es : List Eff) (bs : List Bool) (s : AS), lk .gone (sL es bs s).h k = (lw (fun e => lkO e.os k) es bs).getD (lk .gone s.h k)
  | [], bs, s => by cases bs <;> rfl
  | e :: es, [], s => rfl
  | e :: es, b :: bs, s => by
    rw [sL, sL_h k es bs]
    simp only [lw]
    cases lw (fun e => lkO e.os k) es bs with
    | some v => rfl
    | none =>
      simp only [Option.getD_none]
      cases b with
      | false => simp
      | true => simp [app_h]

theorem lkO_any {α : Type} {l : List (Nat × α)} {i : Nat} (h : lkO l i ≠ none) : l.any (fun p => Nat.beq p.1 i) = true := by
  induction l with
  | nil => exact absurd rfl h
  | cons p l ih =>
    obtain ⟨k, v⟩ := p
    simp only [lkO] at h
    simp only [List.any_cons, Bool.or_eq_true]
    by_cases e : i = k
    · subst e; exact .inl (Nat.beq_refl i)
    · rw [beq_f e] at h; exact .inr (ih h)
theorem lkO_ex {α : Type} {l : List (Nat × α)} {i : Nat} (h : lkO l i ≠ none) : ∃ p ∈ l, p.1 = i := by
  obtain ⟨p, hp, hb⟩ := List.any_eq_true.1 (lkO_any h)
  exact ⟨p, hp, beq_t.1 hb⟩

/-- One more has come up. -/
theorem sL_set {es : List Eff} {bs : List Bool} {i : Nat} {e : Eff} (he : es[i]? = some e) (hb : bs[i]? = some false)
    (ht : ∀ t, lkO e.ws t ≠ none → ∀ (j : Nat) (e' : Eff), i < j → es[j]? = some e' → bs[j]? = some true → lkO e'.ws t = none)
    (hh : ∀ k, lkO e.os k ≠ none → ∀ (j : Nat) (e' : Eff), i < j → es[j]? = some e' → bs[j]? = some true → lkO e'.os k = none) (s : AS) : Same (e.app (sL es bs s)) (sL es (bs.set i true) s) := by
  have hi : i < bs.length := (List.getElem?_eq_some_iff.1 hb).1
  have hset : ∀ j, j ≠ i → (bs.set i true)[j]? = bs[j]? := fun j hj => by rw [List.getElem?_set, if_neg (fun h => hj h.symm)]
  have hseti : (bs.set i true)[i]? = some true := by rw [List.getElem?_set, if_pos rfl, if_pos hi]
  refine ⟨by rw [sL_n, app_n, sL_n], fun t => ?_, fun k => ?_⟩
  · rw [app_t, sL_t, sL_t]
    cases hw : lkO e.ws t with
    | none =>
      rw [Option.getD_none, lw_congr (bs := bs.set i true) (bs' := bs) (by simp) fun j e' h1 h2 => ?_]
      refine hset j ?_
      rintro rfl
      rw [he] at h1; cases h1; exact h2 hw
    | some v =>
      rw [lw_at he hseti hw fun j e' h0 h1 h2 => ht t (by rw [hw]; simp) j e' h0 h1 (by rw [← hset j (by omega)]; exact h2)]
      rfl
  · rw [app_h, sL_h, sL_h]
    cases hw : lkO e.os k with
    | none =>
      rw [Option.getD_none, lw_congr (bs := bs.set i true) (bs' := bs) (by simp) fun j e' h1 h2 => ?_]
      refine hset j ?_
      rintro rfl
      rw [he] at h1; cases h1; exact h2 hw
    | some v =>
      rw [lw_at he hseti hw fun j e' h0 h1 h2 => hh k (by rw [hw]; simp) j e' h0 h1 (by rw [← hset j (by omega)]; exact h2)]
      rfl
end Go.Ab
