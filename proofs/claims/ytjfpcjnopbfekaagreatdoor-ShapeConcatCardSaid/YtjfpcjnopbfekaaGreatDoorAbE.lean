/- ABSTRACT STATES: effects on own memory that may come up in any order. -/
import Derived.Test.YtjfpcjnopbfekaaGreatDoorAbR
set_option linter.unusedSimpArgs false
set_option linter.unusedVariables false
namespace Go.Ab
open Go.RowKit
section
variable {P : Program} {ops : Array Oper} {o : Oper} {s s' : AS}

theorem AV.pg_free {k : Nat} {v : AV} (h : AV.men k v = false) : AV.pg k v = v := by unfold AV.pg; rw [h]; rfl
theorem map_pg_free {k : Nat} : ∀ {cs : List AV}, AV.menL k cs = false → cs.map (AV.pg k) = cs
  | [], _ => rfl
  | c :: cs, h => by
    simp only [AV.menL, Bool.or_eq_false_iff] at h
    rw [List.map_cons, AV.pg_free h.1, map_pg_free h.2]
theorem AO.pg_free {k : Nat} {o : AO} (h : AO.men k o = false) : AO.pg k o = o := by
  cases o with
  | cells e cs => exact congrArg (AO.cells e) (map_pg_free h)
  | _ => rfl
theorem same_pg {k : Nat} (h : Free k s) : Same s ⟨s.n, pgT k s.t, pgH k s.h⟩ := ⟨rfl, fun i => by
  show lk .any (pgT k s.t) i = lk .any s.t i
  rw [lk_pgT, AV.pg_free (h.1 i)], fun i => by
  show lk .gone (pgH k s.h) i = lk .gone s.h i
  rw [lk_pgH, AO.pg_free (h.2 i)]⟩

/-- A new object. -/
theorem loc_new {k : Nat} {t : TypeId} {x : AV} {cs : List AV} (hcs : avCells x = some cs) (hk : (Nat.blt k s.n && Nat.blt k 1000 && !AV.men k x) = true)
    (h : ∀ s', Agree ops o s s' → ∀ s2, abox s' t x k = some s2 → OpT P ops o s' (· = s2)) : Loc P ops o s ⟨[(k, .hptr k 0)], [(k, .cells t cs)], [k], []⟩ := by
  intro s' ha hf _
  have hfk := hf k (by simp)
  simp only [Bool.and_eq_true, Bool.not_eq_true'] at hk
  have hb : abox s' t x k = some ⟨s'.n, ins k (.hptr k 0) (pgT k s'.t), ins k (.cells t cs) (pgH k s'.h)⟩ := by
    unfold abox
    rw [AV.pg_free hk.2, hcs]
    simp only [AS.fresh]
    rw [ha.n, hk.1.1, hk.1.2]; rfl
  refine (h s' ha _ hb).mono fun s'' e => ?_
  subst e
  have hs := same_pg hfk
  refine ⟨rfl, fun i => ?_, fun i => ?_⟩
  · show lk .any (ins k (.hptr k 0) (pgT k s'.t)) i = lk .any (insL [(k, .hptr k 0)] s'.t) i
    rw [lk_ins, lk_insL, lk_pgT, AV.pg_free (hfk.1 i)]
    simp only [lkO]
    by_cases e : i = k
    · subst e; simp
    · rw [if_neg e, beq_f e]; rfl
  · show lk .gone (ins k (.cells t cs) (pgH k s'.h)) i = lk .gone (insL [(k, .cells t cs)] s'.h) i
    rw [lk_ins, lk_insL, lk_pgH, AO.pg_free (hfk.2 i)]
    simp only [lkO]
    by_cases e : i = k
    · subst e; simp
    · rw [if_neg e, beq_f e]; rfl

/-- Append to an empty slice: a new row. -/
theorem loc_apN {x y : Operand} {t e : TypeId} {sz by_ k' : Nat} {ys : List (List AV)} (hg : gd ops s o = some true) (hop : o.op = .call ⟨.builtin .append, #[x, y], #[t, t]⟩) (hd : o.dst = some k') (he : elemOk P t = some (e, sz, by_))
    (hx : s.op x = .eslice) (hy : s.op y = .dslice ys ∨ (s.op y = .eslice ∧ ys = [])) (hE : EL sz ys) (hb : (0 + ys.length) * by_ ≤ 140737488355328) (h63 : 0 + ys.length ≤ 9223372036854775807) (hk : (Nat.blt k' s.n && Nat.blt k' 1000) = true) :
    Loc P ops o s ⟨[(k', .rslice k')], [(k', .row e sz ys)], [k'], []⟩ := by
  intro s' ha hf _
  have hfk := hf k' (by simp)
  have hx' : s'.op x = .eslice := by rw [agree_op ha (by rw [hop]; simp [Op.operands, Call.operands])]; exact hx
  have hy' : s'.op y = .dslice ys ∨ (s'.op y = .eslice ∧ ys = []) := by rw [agree_op ha (by rw [hop]; simp [Op.operands, Call.operands])]; exact hy
  have hgr : s'.grow k' k' e sz ([] ++ ys) = some ⟨s'.n, ins k' (.rslice k') (s'.drop2 k' k').t, ins k' (.row e sz ([] ++ ys)) (s'.drop2 k' k').h⟩ := by
    unfold AS.grow
    rw [ha.n, hk]; rfl
  refine (op_append (by rw [agree_gd ha]; exact hg) hop hd he (.inl ⟨hx', rfl⟩) hy' hE (by simpa using hb) (by simpa using h63) hgr).mono fun s'' e1 => ?_
  subst e1
  refine ⟨rfl, fun i => ?_, fun i => ?_⟩
  · show lk .any (ins k' (.rslice k') (pgT k' (pgT k' s'.t))) i = lk .any (insL [(k', .rslice k')] s'.t) i
    rw [lk_ins, lk_insL, lk_pgT, lk_pgT, AV.pg_free (hfk.1 i), AV.pg_free (hfk.1 i)]
    simp only [lkO]
    by_cases e : i = k'
    · subst e; simp
    · rw [if_neg e, beq_f e]; rfl
  · show lk .gone (ins k' (.row e sz ([] ++ ys)) (rm k' (pgH k' (pgH k' s'.h)))) i = lk .gone (insL [(k', .row e sz ys)] s'.h) i
    rw [lk_ins, lk_insL, lk_rm, lk_pgH, lk_pgH, AO.pg_free (hfk.2 i), AO.pg_free (hfk.2 i)]
    simp only [lkO]
    by_cases e : i = k'
    · subst e; simp
    · rw [if_neg e, if_neg e, beq_f e]; rfl
/-- Append to a row that one slot alone leads to. -/
theorem loc_apX {y : Operand} {t e : TypeId} {sz by_ k k' tx : Nat} {xs ys : List (List AV)} (hg : gd ops s o = some true) (hop : o.op = .call ⟨.builtin .append, #[.tmp tx, y], #[t, t]⟩) (hd : o.dst = some k') (he : elemOk P t = some (e, sz, by_))
    (hx : lk .any s.t tx = .rslice k) (hrow : lk .gone s.h k = .row e sz xs) (hy : s.op y = .dslice ys ∨ (s.op y = .eslice ∧ ys = [])) (hE : EL sz ys) (hb : (xs.length + ys.length) * by_ ≤ 140737488355328) (h63 : xs.length + ys.length ≤ 9223372036854775807)
    (hk : (Nat.blt k' s.n && Nat.blt k' 1000 && !Nat.beq k k' && !Nat.beq tx k') = true) :
    Loc P ops o s ⟨[(k', .rslice k'), (tx, .any)], [(k', .row e sz (xs ++ ys)), (k, .gone)], [k'], [(k, tx)]⟩ := by
  intro s' ha hf ho
  have hfk := hf k' (by simp)
  have hok := ho (k, tx) (by simp)
  simp only [Bool.and_eq_true, Bool.not_eq_true'] at hk
  obtain ⟨⟨hk1, hk2⟩, hk3⟩ := hk
  have hkk : k ≠ k' := fun e => by rw [e, Nat.beq_refl] at hk2; cases hk2
  have htk : tx ≠ k' := fun e => by rw [e, Nat.beq_refl] at hk3; cases hk3
  have hxo : Operand.tmp tx ∈ o.op.operands := by rw [hop]; simp [Op.operands, Call.operands]
  have hx' : s'.op (.tmp tx) = .rslice k := by rw [agree_op ha hxo]; exact hx
  have hrow' : lk .gone s'.h k = .row e sz xs := by rw [ha.h _ hxo k (by show AV.men k (lk .any s.t tx) = true; rw [hx]; simp [AV.men])]; exact hrow
  have hy' : s'.op y = .dslice ys ∨ (s'.op y = .eslice ∧ ys = []) := by rw [agree_op ha (by rw [hop]; simp [Op.operands, Call.operands])]; exact hy
  have hgr : s'.grow k k' e sz (xs ++ ys) = some ⟨s'.n, ins k' (.rslice k') (s'.drop2 k k').t, ins k' (.row e sz (xs ++ ys)) (s'.drop2 k k').h⟩ := by
    unfold AS.grow
    rw [ha.n, hk1.1, hk1.2]; rfl
  refine (op_append (by rw [agree_gd ha]; exact hg) hop hd he (.inr ⟨hx', hrow'⟩) hy' hE hb h63 hgr).mono fun s'' e1 => ?_
  subst e1
  refine ⟨rfl, fun i => ?_, fun i => ?_⟩
  · show lk .any (ins k' (.rslice k') (pgT k (pgT k' s'.t))) i = lk .any (insL [(k', .rslice k'), (tx, .any)] s'.t) i
    rw [lk_ins, lk_insL, lk_pgT, lk_pgT, AV.pg_free (hfk.1 i)]
    simp only [lkO]
    by_cases e : i = k'
    · subst e; simp
    · rw [if_neg e, beq_f e]
      by_cases e2 : i = tx
      · subst e2
        have hx2 : lk .any s'.t i = .rslice k := hx'
        simp [hx2, AV.pg, AV.men]
      · rw [beq_f e2, AV.pg_free (hok.1 i e2)]; rfl
  · show lk .gone (ins k' (.row e sz (xs ++ ys)) (rm k (pgH k (pgH k' s'.h)))) i = lk .gone (insL [(k', .row e sz (xs ++ ys)), (k, .gone)] s'.h) i
    rw [lk_ins, lk_insL, lk_rm, lk_pgH, lk_pgH, AO.pg_free (hfk.2 i), AO.pg_free (hok.2 i)]
    simp only [lkO]
    by_cases e : i = k'
    · subst e; simp
    · rw [if_neg e, beq_f e]
      by_cases e2 : i = k
      · subst e2; simp
      · rw [if_neg e2, beq_f e2]; rfl

theorem bif_so {α : Type} {b : Bool} {x : Option α} {y : α} (h : (bif b then x else none) = some y) : b = true ∧ x = some y := by
  cases b with
  | true => exact ⟨rfl, h⟩
  | false => cases h
def ysA : AV → Option (List (List AV))
  | .dslice ys => some ys
  | .eslice => some []
  | _ => none
theorem ysA_spec {v : AV} {ys : List (List AV)} (h : ysA v = some ys) : v = .dslice ys ∨ (v = .eslice ∧ ys = []) := by
  unfold ysA at h
  split at h
  · cases h; exact .inl rfl
  · cases h; exact .inr ⟨rfl, rfl⟩
  · cases h
/-- Append, the new row said in other words (zs). -/
def stepA (P : Program) (s : AS) (dst : Option Tmp) (zs : List (List AV)) : Op → Option (List Prop × Eff)
  | .call ⟨.builtin .append, ar, tys⟩ => match ar.toList, tys.toList, dst with
    | [x, y], [t, t'], some k' => bif Nat.beq t t' then (match elemOk P t, s.op x, ysA (s.op y) with
      | some (e, sz, by_), .eslice, some ys => bif Nat.blt k' s.n && Nat.blt k' 1000 then some ([EL sz ys, (0 + ys.length) * by_ ≤ 140737488355328, 0 + ys.length ≤ 9223372036854775807, ys = zs], ⟨[(k', .rslice k')], [(k', .row e sz zs)], [k'], []⟩) else none
      | some (e, sz, by_), .rslice k, some ys => (match x, lk .gone s.h k with
        | .tmp tx, .row e2 sz2 xs => bif Nat.beq e e2 && Nat.beq sz sz2 && (Nat.blt k' s.n && Nat.blt k' 1000 && !Nat.beq k k' && !Nat.beq tx k') then some ([EL sz ys, (xs.length + ys.length) * by_ ≤ 140737488355328, xs.length + ys.length ≤ 9223372036854775807, xs ++ ys = zs], ⟨[(k', .rslice k'), (tx, .any)], [(k', .row e sz zs), (k, .gone)], [k'], [(k, tx)]⟩) else none
        | _, _ => none)
      | _, _, _ => none) else none
    | _, _, _ => none
  | _ => none
theorem stepA_sound {zs : List (List AV)} {ps : List Prop} {e : Eff} (hg : gd ops s o = some true) (h : stepA P s o.dst zs o.op = some (ps, e)) (hp : ∀ p ∈ ps, p) : Loc P ops o s e := by
  unfold stepA at h
  split at h
  · rename_i ar tys hop
    split at h
    · rename_i x y t t' k' har hty hd
      cases ht : Nat.beq t t' with
      | false => rw [ht] at h; cases h
      | true =>
        rw [ht] at h
        have ht := beq_t.1 ht
        subst ht
        have e1 : ar = #[x, y] := by rw [← Array.toList_inj]; exact har
        have e2 : tys = #[t, t] := by rw [← Array.toList_inj]; exact hty
        subst e1; subst e2
        simp only [cond_true] at h
        split at h
        · rename_i e3 sz by_ ys he hx hy
          cases hk : (Nat.blt k' s.n && Nat.blt k' 1000) with
          | false => rw [hk] at h; cases h
          | true =>
            rw [hk] at h
            simp only [cond_true, Option.some.injEq, Prod.mk.injEq] at h
            obtain ⟨rfl, rfl⟩ := h
            have h1 := hp (EL sz ys) (by simp)
            have h2 := hp ((0 + ys.length) * by_ ≤ 140737488355328) (by simp)
            have h3 := hp (0 + ys.length ≤ 9223372036854775807) (by simp)
            have h4 := hp (ys = zs) (by simp)
            subst h4
            exact loc_apN hg hop hd he hx (ysA_spec hy) h1 h2 h3 hk
        · rename_i e3 sz by_ k ys he hx hy
          split at h
          · rename_i tx e4 sz4 xs hrow
            cases hk : (Nat.beq e3 e4 && Nat.beq sz sz4 && (Nat.blt k' s.n && Nat.blt k' 1000 && !Nat.beq k k' && !Nat.beq tx k')) with
            | false => rw [hk] at h; cases h
            | true =>
              rw [hk] at h
              simp only [cond_true, Option.some.injEq, Prod.mk.injEq] at h
              obtain ⟨rfl, rfl⟩ := h
              rw [Bool.and_eq_true, Bool.and_eq_true] at hk
              have q1 := beq_t.1 hk.1.1
              have q2 := beq_t.1 hk.1.2
              subst q1; subst q2
              have h1 := hp (EL sz ys) (by simp)
              have h2 := hp ((xs.length + ys.length) * by_ ≤ 140737488355328) (by simp)
              have h3 := hp (xs.length + ys.length ≤ 9223372036854775807) (by simp)
              have h4 := hp (xs ++ ys = zs) (by simp)
              subst h4
              exact loc_apX hg hop hd he hx hrow (ysA_spec hy) h1 h2 h3 hk.2
          · cases h
        · cases h
    · cases h
  · cases h

def stepF (P : Program) (s : AS) (dst : Option Tmp) : Op → Option Eff
  | .box t x => match dst, avCells (s.op x) with
    | some k, some cs => bif Nat.blt k s.n && Nat.blt k 1000 && !AV.men k (s.op x) then some ⟨[(k, .hptr k 0)], [(k, .cells t cs)], [k], []⟩ else none
    | _, _ => none
  | .alloc t => match dst, zeroOf P t with
    | some k, some z => match avCells (AV.of z) with
      | some cs => bif Nat.blt k s.n && Nat.blt k 1000 && !AV.men k (AV.of z) then some ⟨[(k, .hptr k 0)], [(k, .cells t cs)], [k], []⟩ else none
      | none => none
    | _, _ => none
  | .store t x y => match dst with
    | none => match s.op x, avCells (s.op y), szOf P t with
      | .hptr k off, some vs, some n => match lk .gone s.h k with
        | .cells e cs => bif decide (vs.length = n ∧ off + vs.length ≤ cs.length ∧ vs.all AV.one = true) then some ⟨[], [(k, .cells e (splice cs off vs))], [], []⟩ else none
        | _ => none
      | _, _, _ => none
    | some _ => none
  | _ => none
theorem bif_some' {α : Type} {b : Bool} {x y : α} (h : (bif b then some x else none) = some y) : b = true ∧ x = y := by
  cases b with
  | true => exact ⟨rfl, Option.some.inj h⟩
  | false => cases h
theorem stepF_sound {e : Eff} (hg : gd ops s o = some true) (h : stepF P s o.dst o.op = some e) : Loc P ops o s e := by
  unfold stepF at h
  split at h
  · rename_i t x hop
    split at h
    · rename_i k cs hd hcs
      obtain ⟨hk, rfl⟩ := bif_some' h
      refine loc_new hcs hk fun s' ha s2 hb => ?_
      have hx : s'.op x = s.op x := agree_op ha (by rw [hop]; simp [Op.operands])
      exact op_box (by rw [agree_gd ha]; exact hg) hop hd (by rw [hx]; exact hb)
    · cases h
  · rename_i t hop
    split at h
    · rename_i k z hd hz
      split at h
      · rename_i cs hcs
        obtain ⟨hk, rfl⟩ := bif_some' h
        exact loc_new hcs hk fun s' ha s2 hb => op_alloc (by rw [agree_gd ha]; exact hg) hop hd hz hb
      · cases h
    · cases h
  · rename_i t x y hop
    split at h
    · rename_i hd
      split at h
      · rename_i k off vs n hx hvs hn
        split at h
        · rename_i e2 cs hk
          obtain ⟨hc, rfl⟩ := bif_some' h
          have hc := of_decide_eq_true hc
          intro s' ha _ _
          have hxo : x ∈ o.op.operands := by rw [hop]; simp [Op.operands]
          have hyo : y ∈ o.op.operands := by rw [hop]; simp [Op.operands]
          have hx' : s'.op x = .hptr k off := by rw [agree_op ha hxo]; exact hx
          have hy' : s'.op y = s.op y := agree_op ha hyo
          have hk' : lk .gone s'.h k = .cells e2 cs := by rw [ha.h x hxo k (by rw [hx]; simp [AV.men])]; exact hk
          have hst : astore P s' t (s'.op x) (s'.op y) = some ⟨s'.n, s'.t, ins k (.cells e2 (splice cs off vs)) s'.h⟩ := by
            unfold astore
            rw [hx', hy', hvs, hn]
            simp only [hk']
            rw [if_pos hc]
          refine (op_store (by rw [agree_gd ha]; exact hg) hop hd hst).mono fun s'' e => ?_
          subst e
          exact ⟨rfl, fun _ => rfl, fun i => rfl⟩
        · cases h
      · cases h
    · cases h
  · cases h
end
end Go.Ab
