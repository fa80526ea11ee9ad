/- PATHS: a way through code, from a state to where it leaves what is to be shown next, as one computation. -/
import Derived.Test.YtjfpcjnopbfekaaGreatDoorAb22
import Derived.Test.YtjfpcjnopbfekaaGreatDoorAbS
set_option linter.unusedSimpArgs false
set_option linter.unusedVariables false
namespace Go.Ab
open Go.RowKit Go.Sh

inductive Fr where
  | seq (c : Code)
  | blk (id : Nat)
  | bar (S : AS)

def kont (P : Program) : List Fr → (Exit → AS → Prop) → Exit → AS → Prop
  | [], Q => Q
  | .seq c :: fs, Q => thn (Tri P c (kont P fs Q)) (kont P fs Q)
  | .blk id :: fs, Q => blk id (kont P fs Q)
  | .bar S :: fs, Q => thn (fun s => Cv s S) (kont P fs Q)

def popN : List Fr → Option Code × List Fr
  | .seq c :: fs => (some c, fs)
  | .blk _ :: fs => popN fs
  | .bar S :: fs => (none, .bar S :: fs)
  | [] => (none, [])
def popE (id : Nat) : List Fr → Option (List Fr)
  | .seq _ :: fs => popE id fs
  | .blk j :: fs => bif Nat.beq id j then some fs else popE id fs
  | .bar _ :: fs => popE id fs
  | [] => none

inductive Sg where
  | rg (n : Nat) (d1 d2 : List Dir)
  | cv (cs : List Cd)
  | eqT (t : Nat) (v : AV)
inductive Leaf where
  | at (c : Code) (fs : List Fr) (s : AS)
  | nrm (fs : List Fr) (s : AS)
  | ret (s : AS)

def runR (P : Program) (ops : Array Oper) (dr : Bool) (k : Nat) (d1 d2 : List Dir) (s : AS) : Option (List Prop × AS × List Oper) :=
  bif dr then runD P ops.toList k d1 d2 s else runS P ops.toList.toArray ops.toList d2 s

def path (P : Program) : Nat → List Sg → Code → List Fr → AS → Option (List Prop × Leaf)
  | 0, _, c, fs, s => some ([], .at c fs s)
  | n + 1, .cv cs :: sg, c, fs, s => match conv cs s with
    | some s' => path P n sg c fs s'
    | none => none
  | n + 1, .eqT t v :: sg, c, fs, s => match path P n sg c fs ⟨s.n, ins t v s.t, s.h⟩ with
    | some (ps, lf) => some ((lk .any s.t t = v) :: ps, lf)
    | none => none
  | n + 1, sg, .seq x y, fs, s => path P n sg x (.seq y :: fs) s
  | n + 1, sg, .skip, fs, s => match popN fs with
    | (some c, fs') => path P n sg c fs' s
    | (none, fs') => some ([], .nrm fs' s)
  | n + 1, .rg k d1 d2 :: sg, .region _ ops dr, fs, s => match runR P ops dr k d1 d2 s with
    | some (ps, s', []) => match popN fs with
      | (some c, fs') => match path P n sg c fs' s' with
        | some (qs, lf) => some (ps ++ qs, lf)
        | none => none
      | (none, fs') => some (ps, .nrm fs' s')
    | _ => none
  | n + 1, sg, .cond x y z, fs, s => match s.op x with
    | .bool true => path P n sg y fs s
    | .bool false => path P n sg z fs s
    | _ => none
  | n + 1, sg, .block id y, fs, s => path P n sg y (.blk id :: fs) s
  | n + 1, sg, .exit id, fs, s => match popE id fs with
    | some fs1 => match popN fs1 with
      | (some c, fs') => path P n sg c fs' s
      | (none, fs') => some ([], .nrm fs' s)
    | none => none
  | _ + 1, _, .ret, _, s => some ([], .ret s)
  | _ + 1, _, .loop y, fs, s => some ([], .at (.loop y) fs s)
  | _ + 1, _, _, _, _ => none

section
variable {P : Program} {Q : Exit → AS → Prop}

theorem kont_n : ∀ {fs : List Fr} {s : AS}, (∀ c fs', popN fs = (some c, fs') → Tri P c (kont P fs' Q) s) → (∀ fs', popN fs = (none, fs') → kont P fs' Q .normal s) → kont P fs Q .normal s
  | [], s, _, h => h _ rfl
  | .seq c :: fs, s, h, _ => h _ _ rfl
  | .blk id :: fs, s, h, h2 => kont_n (fs := fs) h h2
  | .bar S :: fs, s, _, h => h _ rfl
theorem kont_e {id : Nat} : ∀ {fs fs1 : List Fr} {s : AS}, popE id fs = some fs1 → kont P fs1 Q .normal s → kont P fs Q (.exit id) s
  | [], _, s, h, _ => by cases h
  | .seq c :: fs, _, s, h, h2 => kont_e (fs := fs) h h2
  | .bar S :: fs, _, s, h, h2 => kont_e (fs := fs) h h2
  | .blk j :: fs, fs1, s, h, h2 => by
    simp only [popE] at h
    simp only [kont, blk]
    cases e : Nat.beq id j with
    | true => rw [e] at h; cases h; exact h2
    | false => rw [e] at h; exact kont_e (fs := fs) h h2
theorem kont_r : ∀ {fs : List Fr} {s : AS}, Q .ret s → kont P fs Q .ret s
  | [], _, h => h
  | .seq _ :: fs, _, h => kont_r (fs := fs) h
  | .blk _ :: fs, _, h => kont_r (fs := fs) h
  | .bar _ :: fs, _, h => kont_r (fs := fs) h

def LeafOk (P : Program) (Q : Exit → AS → Prop) : Leaf → Prop
  | .at c fs s => Tri P c (kont P fs Q) s
  | .nrm fs s => kont P fs Q .normal s
  | .ret s => Q .ret s

theorem runR_sound (hm : P.follows .mixedOrders = true) {id k : Nat} {ops : Array Oper} {dr : Bool} {d1 d2 : List Dir} {s s' : AS} {ps : List Prop} {Q' : Exit → AS → Prop} (h : runR P ops dr k d1 d2 s = some (ps, s', [])) (hp : All ps) (hq : Q' .normal s') : Tri P (.region id ops dr) Q' s := by
  have e : ops = ops.toList.toArray := by simp
  unfold runR at h
  cases dr with
  | true =>
    simp only [cond_true] at h
    rw [e]; exact tri_drawn hm k d1 d2 h hp hq
  | false =>
    simp only [cond_false] at h
    have h' := tri_run (id := id) d2 h hp hq
    rw [← e] at h'
    exact h'

theorem path_sound (hm : P.follows .mixedOrders = true) : ∀ (n : Nat) {sg : List Sg} {c : Code} {fs : List Fr} {s : AS} {ps : List Prop} {lf : Leaf}, path P n sg c fs s = some (ps, lf) → All ps → LeafOk P Q lf → Tri P c (kont P fs Q) s
  | 0, sg, c, fs, s, ps, lf, h, _, hl => by simp only [path] at h; cases h; exact hl
  | n + 1, sg, c, fs, s, ps, lf, h, hp, hl => by
    unfold path at h
    split at h
    · rename_i e; cases e
    · rename_i n' cs sg' c' fs' s' e
      cases e
      split at h
      · rename_i s2 hc
        exact (conv_sound _ hc).tri (path_sound hm n h hp hl)
      · cases h
    · rename_i n' t v sg' c' fs' s' e
      cases e
      split at h
      · rename_i ps1 lf1 hpath
        cases h
        obtain ⟨p1, p2⟩ := All.cons.1 hp
        have ht := path_sound hm n hpath p2 hl
        exact fun c a w β κ r => ht c a w β κ (r.same (Same.symm' (same_rwT p1)))
      · cases h
    · rename_i n' e _ _; cases e
      exact tri_seq (path_sound hm n h hp hl)
    · rename_i n' e _ _; cases e
      refine tri_skip (kont_n (fun c fs' e => ?_) (fun fs' e => ?_))
      · rw [e] at h; exact path_sound hm n h hp hl
      · rw [e] at h; cases h; exact hl
    · rename_i n' k d1 d2 sg' id ops dr fs0 s0 e
      cases e
      split at h
      · rename_i ps1 s1 hr
        split at h
        · rename_i c1 fs1 e1
          split at h
          · rename_i qs lf1 hpath
            cases h
            obtain ⟨p1, p2⟩ := All.append.1 hp
            refine runR_sound hm hr p1 (kont_n (fun c2 fs2 e2 => ?_) (fun fs2 e2 => ?_))
            · rw [e1] at e2; cases e2; exact path_sound hm n hpath p2 hl
            · rw [e1] at e2; cases e2
          · cases h
        · rename_i fs1 e1
          cases h
          refine runR_sound hm hr hp (kont_n (fun c2 fs2 e2 => ?_) (fun fs2 e2 => ?_))
          · rw [e1] at e2; cases e2
          · rw [e1] at e2; cases e2; exact hl
      · cases h
    · rename_i n' x y z fs0 s0 e _ _
      cases e
      split at h
      · rename_i hb; exact tri_true hb (path_sound hm n h hp hl)
      · rename_i hb; exact tri_false hb (path_sound hm n h hp hl)
      · cases h
    · rename_i n' e _ _; cases e
      exact tri_block (path_sound hm n h hp hl)
    · rename_i n' e _ _; cases e
      split at h
      · rename_i fs1 he
        refine tri_exit (kont_e he (kont_n (fun c fs' e => ?_) (fun fs' e => ?_)))
        · rw [e] at h; exact path_sound hm n h hp hl
        · rw [e] at h; cases h; exact hl
      · cases h
    · rename_i n' e _ _; cases e
      cases h
      exact tri_ret (kont_r hl)
    · rename_i n' e _ _; cases e
      cases h
      exact hl
    · cases h
end
end Go.Ab
