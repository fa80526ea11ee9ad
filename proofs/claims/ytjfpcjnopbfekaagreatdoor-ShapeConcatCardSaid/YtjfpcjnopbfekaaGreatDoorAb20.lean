/- ABSTRACT STATES: regions as computations; where a function's walk begins. -/
import Derived.Test.YtjfpcjnopbfekaaGreatDoorAb19
set_option linter.unusedSimpArgs false
set_option linter.unusedVariables false
namespace Go.Ab
open Go.RowKit
section
variable {P : Program} {Q : Exit → AS → Prop} {s s' : AS} {l : List Oper} {id : Nat}

theorem tri_run (ds : List Dir) {ps : List Prop} (h : runS P l.toArray l ds s = some (ps, s', [])) (hp : All ps) (hq : Q .normal s') : Tri P (.region id l.toArray false) Q s :=
  tri_region (runS_sound ds h hp (l_nil hq))
theorem tri_part (ds : List Dir) {ps : List Prop} {os : List Oper} (h : runS P l.toArray l ds s = some (ps, s', os)) (hp : All ps) (hq : TriL P l.toArray os Q s') : Tri P (.region id l.toArray false) Q s :=
  tri_region (runS_sound ds h hp hq)
theorem l_run {ops : Array Oper} {os : List Oper} (ds : List Dir) {ps : List Prop} (h : runS P ops os ds s = some (ps, s', [])) (hp : All ps) (hq : Q .normal s') : TriL P ops os Q s :=
  runS_sound ds h hp (l_nil hq)

/-- A region that draws its order. -/
def runD (P : Program) (l : List Oper) (n : Nat) (d1 d2 : List Dir) (s : AS) : Option (List Prop × AS × List Oper) :=
  match runE P l.toArray (l.take n) d1 s with
  | some (ps, es) => bif drawB l n es s && freeB (clos l []) es s && onlyB (clos l []) es s then (match runS P l.toArray (l.drop n) d2 (apps es s) with
    | some (qs, r) => some (ps ++ qs, r)
    | none => none) else none
  | none => none
theorem tri_drawn (hm : P.follows .mixedOrders = true) (n : Nat) (d1 d2 : List Dir) {ps : List Prop} (h : runD P l n d1 d2 s = some (ps, s', [])) (hp : All ps) (hq : Q .normal s') : Tri P (.region id l.toArray true) Q s := by
  unfold runD at h
  split at h
  · rename_i ps1 es he
    obtain ⟨hc, h2⟩ := bif_some h
    split at h2
    · rename_i qs r hr
      simp only [Option.some.injEq, Prod.mk.injEq] at h2
      obtain ⟨h3, h4⟩ := h2
      subst h3; subst h4
      obtain ⟨p1, p2⟩ := All.append.1 hp
      exact tri_draw hm n es hc (runE_sound he p1) (runS_sound d2 hr p2 (l_nil hq))
    · cases h2
  · cases h

def bodyOf (f : Func) : Code := match f.body with | some c => c | none => .skip
def hasBody (f : Func) : Bool := match f.body with | some _ => true | none => false
theorem bodyOf_spec {f : Func} (h : hasBody f = true) : f.body = some (bodyOf f) := by
  unfold hasBody at h; unfold bodyOf
  split at h
  · rename_i c e; rw [e]
  · cases h

/-- WHERE A WALK BEGINS. -/
theorem acall {f : FuncId} {fn : Func} {args : List AV} {h : List (Nat × AO)} {Post : AV → List (Nat × AO) → Prop} (hf : P.funcs[f]? = some fn) (n : Nat) (rs : List ResultVar) (hok : (hasBody fn && Nat.beq fn.ntmps n && Nat.ble args.length n) = true) (hrs : fn.results.toList = rs)
    (ht : Tri P (bodyOf fn) (retQ P rs Post) ⟨n, slots0 args 0, h⟩) : ACall P f args h Post := by
  simp only [Bool.and_eq_true, Nat.beq_eq, Nat.ble_eq] at hok
  exact acall_enter hf (bodyOf_spec hok.1.1) n hok.1.2 rs hrs hok.2 ht
end
end Go.Ab
