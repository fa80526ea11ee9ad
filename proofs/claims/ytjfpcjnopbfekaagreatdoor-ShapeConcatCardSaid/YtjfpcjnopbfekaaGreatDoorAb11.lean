/- ABSTRACT STATES: a function's contract (ACall); how it is proved and used. -/
import Derived.Test.YtjfpcjnopbfekaaGreatDoorAb10
set_option linter.unusedSimpArgs false
set_option linter.unusedVariables false
namespace Go.Ab
open Go.RowKit

/-- CALLED WITH VALUES FOR WHICH args STAND, the own memory being h, the function returns a value for which some v stands, the own memory being then some h', with Post v h'. -/
def ACall (P : Program) (f : FuncId) (args : List AV) (h : List (Nat × AO)) (Post : AV → List (Nat × AO) → Prop) : Prop :=
  ∀ (c : Cx P) (vs : List Value), vs.length = args.length → RelH c h c.W c.β c.κ → (∀ i, i < args.length → G c.W (c.XX h c.β) c.β c.κ (args.getD i .any) (vs.getD i undef)) →
    Calls P f vs.toArray c.W fun e w' => ∃ V v h' β' κ', e = .returned V ∧ Post v h' ∧ RelH c h' w' β' κ' ∧ G w' (c.XX h' β') β' κ' v V
/-- It returns v, and touches nothing. -/
def AFn (P : Program) (f : FuncId) (args : List AV) (v : AV) : Prop := ACall P f args [] fun r h => r = v ∧ h = []

theorem ACall.mono {P : Program} {f : FuncId} {args : List AV} {h : List (Nat × AO)} {Q Q' : AV → List (Nat × AO) → Prop} (hc : ACall P f args h Q) (hq : ∀ v h, Q v h → Q' v h) : ACall P f args h Q' :=
  fun c vs hl hr hg => (hc c vs hl hr hg).mono fun _ _ ⟨V, v, h', β', κ', e, q, r⟩ => ⟨V, v, h', β', κ', e, hq _ _ q, r⟩

def slots0 : List AV → Nat → List (Nat × AV)
  | [], _ => []
  | a :: as, i => (i, a) :: slots0 as (i + 1)

theorem lk_slots0 : ∀ (as : List AV) (i k : Nat), lk .any (slots0 as k) i = if i < k then .any else as.getD (i - k) .any
  | [], i, k => by simp [slots0, lk]
  | a :: as, i, k => by
    simp only [slots0, lk, lk_slots0 as i (k + 1)]
    by_cases h : i = k
    · subst h; simp
    · rw [beq_f h]
      simp only [cond_false]
      by_cases h2 : i < k
      · rw [if_pos (by omega), if_pos h2]
      · rw [if_neg (by omega), if_neg h2, show i - k = (i - (k + 1)) + 1 by omega, List.getD_cons_succ]

/-- One result. -/
def ares1 (P : Program) (s : AS) : ResultVar → Option AV
  | .tmp t => some (lk .any s.t t)
  | .cell a t => aload P s t (lk .any s.t a)
def aresL (P : Program) (s : AS) : List ResultVar → Option (List AV)
  | [] => some []
  | r :: rs => match ares1 P s r, aresL P s rs with | some v, some vs => some (v :: vs) | _, _ => none
def ares (P : Program) (s : AS) (rs : List ResultVar) : Option AV :=
  match aresL P s rs with
  | some [v] => some v
  | some vs => some (.tup vs)
  | none => none

def resRun : ResultVar → Array Value → Sem Value
  | .tmp t, tmps => pure (tmps.getD t undef)
  | .cell a t, tmps => do loadVar t (← asAddr (tmps.getD a undef))

theorem ares1_sound {P : Program} {s : AS} {c : Cx P} {a : Act} {w : World} {β : Nat → Nat} {κ : Nat → Nat × Nat} (r : Rel c s a w β κ) {x : ResultVar} {v : AV} (h : ares1 P s x = some v) :
    ∃ V, (resRun x a.tmps).run P w = .ok V w ∧ G w (c.XX s.h β) β κ v V := by
  cases x with
  | tmp t => cases h; exact ⟨_, rfl, r.tm t⟩
  | cell ad t =>
    simp only [ares1] at h
    obtain ⟨V, hr, hG⟩ := aload_sound r (r.tm ad) h
    refine ⟨V, ?_, hG⟩
    unfold aload at h
    cases hc : cellsAt s (lk .any s.t ad) with
    | none => rw [hc] at h; simp at h
    | some cs =>
      obtain ⟨b, o, cv, e, _⟩ := cells_of r (r.tm ad) hc
      rw [e] at hr
      simp only [resRun, e, asAddr, pure_bind]
      simpa [Instr.loadAt, Instr.sureAddr] using hr

theorem aresL_sound {P : Program} {s : AS} {c : Cx P} {a : Act} {w : World} {β : Nat → Nat} {κ : Nat → Nat × Nat} (r : Rel c s a w β κ) : ∀ {rs : List ResultVar} {vs : List AV}, aresL P s rs = some vs →
    ∃ Vs : List Value, (rs.mapM fun x => resRun x a.tmps).run P w = .ok Vs w ∧ vs.length = Vs.length ∧ ∀ i, i < vs.length → G w (c.XX s.h β) β κ (vs.getD i .any) (Vs.getD i undef)
  | [], vs, h => by cases h; exact ⟨[], by simp, rfl, fun i hi => by simp at hi⟩
  | x :: rs, vs, h => by
    unfold aresL at h
    split at h
    · rename_i v vs' h1 h2
      cases h
      obtain ⟨V, hr, hG⟩ := ares1_sound r h1
      obtain ⟨Vs, hrs, hl, hGs⟩ := aresL_sound r h2
      refine ⟨V :: Vs, ?_, by simp [hl], fun i hi => ?_⟩
      · simp only [List.mapM_cons, Sem.run_bind, hr, hrs, Result.andThen, Sem.run_pure]
      · cases i with
        | zero => exact hG
        | succ i => simpa using hGs i (by simpa using hi)
    · cases h

theorem ares_sound {P : Program} {s : AS} {c : Cx P} {a : Act} {w : World} {β : Nat → Nat} {κ : Nat → Nat × Nat} (r : Rel c s a w β κ) {fn : Func} {v : AV} (h : ares P s fn.results.toList = some v) :
    ∃ V, (results fn a.tmps).run P w = .ok V w ∧ G w (c.XX s.h β) β κ v V := by
  unfold ares at h
  have key : (results fn a.tmps) = (do let vs ← fn.results.toList.mapM (fun x => resRun x a.tmps); pure (if h : vs.toArray.size = 1 then vs.toArray[0] else .tuple vs.toArray)) := by
    have k0 : (results fn a.tmps) = (do let vs ← fn.results.mapM (fun x => resRun x a.tmps); pure (if h : vs.size = 1 then vs[0] else .tuple vs)) := by
      unfold results
      congr 1
      congr 1
      funext x
      cases x <;> rfl
    rw [k0, Array.mapM_eq_mapM_toList]
    simp only [bind_map_left]
  split at h
  · rename_i v' h1
    cases h
    obtain ⟨Vs, hr, hl, hG⟩ := aresL_sound r h1
    match Vs, hl with
    | [V], _ =>
      refine ⟨V, ?_, hG 0 (by simp)⟩
      rw [key]; simp only [Sem.run_bind, hr, Result.andThen]
      simp [go_sem]
  · rename_i vs h0 h1
    cases h
    obtain ⟨Vs, hr, hl, hG⟩ := aresL_sound r h1
    refine ⟨.tuple Vs.toArray, ?_, .tup _ _ (by simpa using hl) fun i hi => ?_⟩
    · rw [key]; simp only [Sem.run_bind, hr, Result.andThen]
      have : ¬ (Vs.toArray.size = 1) := by
        intro e
        have : vs.length = 1 := by rw [hl]; simpa using e
        match vs, this with
        | [x], _ => exact h0 x rfl
      rw [dif_neg this]; rfl
    · have := hG i hi
      simpa [Array.getD_eq_getD_getElem?, List.getD_eq_getElem?_getD] using this
  · cases h

/-- What is asked where the body ends. -/
def retQ (P : Program) (rs : List ResultVar) (Post : AV → List (Nat × AO) → Prop) : Exit → AS → Prop
  | .ret, s => ∃ v ks, ares P s rs = some v ∧ Post v (sel ks s.h)
  | .normal, s => ∃ v ks, ares P s rs = some v ∧ Post v (sel ks s.h)
  | _, _ => False

theorem retQ_sound {P : Program} {fn : Func} {Post : AV → List (Nat × AO) → Prop} {s : AS} {c : Cx P} {a : Act} {w : World} {β : Nat → Nat} {κ : Nat → Nat × Nat} (r : Rel c s a w β κ) (h : ∃ v ks, ares P s fn.results.toList = some v ∧ Post v (sel ks s.h)) :
    a.defers = [] ∧ ∃ V, (results fn a.tmps).run P w = .ok V w ∧ ∃ V' v h' β' κ', Ending.returned V = .returned V' ∧ Post v h' ∧ RelH c h' w β' κ' ∧ G w (c.XX h' β') β' κ' v V' := by
  obtain ⟨v, ks, hv, hp⟩ := h
  obtain ⟨V, hr, hG⟩ := ares_sound r hv
  refine ⟨r.df, V, hr, V, v, _, β, κ, rfl, hp, r.hp.sel ks, hG.mono (fun _ _ _ => rfl) (fun b hb _ hb' => hb (hb'.imp id own_sel)) (fun _ _ => ⟨rfl, rfl⟩)⟩

theorem acall_enter {P : Program} {f : FuncId} {fn : Func} {cd : Code} {args : List AV} {h : List (Nat × AO)} {Post : AV → List (Nat × AO) → Prop} (hf : P.funcs[f]? = some fn) (hb : fn.body = some cd) (n : Nat) (hn : fn.ntmps = n) (rs : List ResultVar) (hrs : fn.results.toList = rs) (hl : args.length ≤ n)
    (ht : Tri P cd (retQ P rs Post) ⟨n, slots0 args 0, h⟩) : ACall P f args h Post := by
  subst hn; subst hrs
  intro c vs hvl hr hg
  refine calls_of_wp hf hb ?_
  have r : Rel c ⟨fn.ntmps, slots0 args 0, h⟩ { tmps := vs.toArray ++ Array.replicate (fn.ntmps - vs.toArray.size) undef, defers := [] } c.W c.β c.κ := by
    refine ⟨rfl, by simp; omega, fun i => ?_, hr⟩
    show G _ _ _ _ (lk .any (slots0 args 0) i) _
    rw [lk_slots0, if_neg (by omega), Nat.sub_zero]
    by_cases hi : i < args.length
    · have := hg i hi
      have e : (vs.toArray ++ Array.replicate (fn.ntmps - vs.toArray.size) undef).getD i undef = vs.getD i undef := by
        simp [Array.getD_eq_getD_getElem?, Array.getElem?_append, hvl, hi, List.getD_eq_getElem?_getD]
      rw [e]; exact this
    · have : args.getD i .any = .any := by simp [List.getD_eq_getElem?_getD, List.getElem?_eq_none (Nat.le_of_not_lt hi)]
      rw [this]; exact .d (.any _)
  refine wp_mono (ht c _ c.W c.β c.κ r) fun e a w ⟨s, β, κ, q, r'⟩ => ?_
  cases e with
  | normal => exact retQ_sound r' q
  | ret => exact retQ_sound r' q
  | exit id => exact q.elim
  | goto l => exact q.elim
  | panic ch => exact q.elim
  | outgrown => exact q.elim
end Go.Ab
