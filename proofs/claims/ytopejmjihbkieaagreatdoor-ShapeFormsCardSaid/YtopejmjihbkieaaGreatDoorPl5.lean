/- PLAIN LAWS: binds, variables. -/
import Derived.Test.YtopejmjihbkieaaGreatDoorPl4
set_option linter.unusedSimpArgs false
set_option linter.unusedVariables false
namespace Go.Proofs.YtopejmjihbkieaaGreatDoor
open Go.Ab Go.Sh
abbrev bd0 : Bind := ⟨0, [], ⟨0, []⟩, ⟨[], []⟩, []⟩
theorem eta_B (b : Bind) : Bind.mk b.Kind b.Var b.Dim b.Row b.Elem = b := rfl
def isB (k : Int) (v : Str) (b : Bind) : Bool := b.Kind == k && b.Var == v
theorem find_out (l : List Bind) (p : Bind → Bool) : ∀ x : Option Nat, (match x with | some j => ((j : Nat) : Int) | none => -1) = idxOf p l →
    ((some (match x with | some j => Out.ret ((j : Nat) : Int) | none => Out.brk ()) : Option (Out Unit Int)).bind (Sh.aft fun _ => some (-1))) = some (idxOf p l)
  | none, hx => by rw [← hx]; rfl
  | some j, hx => by rw [← hx]; rfl
theorem shape_find_eq (l : List Bind) (k : Int) (v : Str) : shape_find l k v = some (idxOf (isB k v) l) := by
  unfold shape_find slices_IndexFunc_api_Bind
  rw [cnt_find (f := fun j => ((j : Nat) : Int)) (fun j => isB k v (l.getD j bd0)) _ _ () (fun j u _ _ => by
    unfold shape_find_1 isB
    simp only
    cases (l.getD j bd0).Kind == k
    · rfl
    · cases (l.getD j bd0).Var == v <;> rfl)]
  exact congrArg (fun o : Option Int => o.bind fun y => some y) (find_out l (isB k v) _ (find_idx0 (isB k v) bd0 l))
theorem ref11_Find_eq (l : List Bind) (k : Int) (v : Str) : ref11_Find l k v = some (idxOf (isB k v) l) := by
  unfold ref11_Find
  rw [cnt_find (f := fun j => ((j : Nat) : Int)) (fun j => isB k v (l.getD j bd0)) _ _ () (fun j u _ _ => by
    unfold isB
    cases (l.getD j bd0).Kind == k
    · rfl
    · cases (l.getD j bd0).Var == v <;> rfl)]
  exact find_out l (isB k v) _ (find_idx0 (isB k v) bd0 l)
def zeroL (l : Linear) : Bool := l.Const == 0 && l.Terms.isEmpty
def zeroS (s : Shape) : Bool := s.Row.isEmpty && s.Dims.isEmpty
def elemTy (s : Str) : Bool := s == [105, 110, 116] || (s == [98, 111, 111, 108] || elemS s)
def validB (b : Bind) : Bool :=
  bif b.Kind == 1 then (nameS b.Var && (validL b.Dim && (zeroS b.Row && b.Elem.isEmpty)))
  else bif b.Kind == 2 then (nameS b.Var && (validS b.Row && (zeroL b.Dim && b.Elem.isEmpty)))
  else bif b.Kind == 3 then (elemS b.Var && (elemTy b.Elem && (zeroL b.Dim && zeroS b.Row))) else false
def okB (b : Bind) : Prop := b.Var.length ≤ 1000000 ∧ okL b.Dim ∧ okS b.Row
theorem okB_few {b : Bind} (h : fewB b = true) : okB b := by
  simp only [fewB, Bool.and_eq_true, decide_eq_true_eq] at h
  exact ⟨by omega, okL_few h.2.2.1, okS_few h.2.2.2⟩
theorem dec_pos {α : Type} (l : List α) : decide (((l.length : Nat) : Int) > 0) = !l.isEmpty := by
  cases l with
  | nil => rfl
  | cons x l => rw [decide_eq_true (by simp)]; rfl
theorem shape_bound_eq (b : Bind) (h : okB b) : shape_bound b = some (validB b) := by
  unfold shape_bound validB zeroL zeroS elemTy
  rw [linear_Name_eq _ h.1, linear_Valid_eq _ h.2.1.1 h.2.1.2, shape_Valid_eq _ h.2.2, shape_ElemVar_eq, shape_ElemVar_eq, len_beq0, len_beq0, nil_beq, nil_beq]
  cases b.Dim.Const == 0 <;> cases b.Row.Row.isEmpty <;> simp only [cond_true, cond_false, Option.bind_some, Bool.true_and, Bool.false_and] <;>
  (cases b.Kind == 1
   · cases b.Kind == 2
     · cases b.Kind == 3
       · rfl
       · cases elemS b.Var
         · rfl
         · cases b.Elem == [105, 110, 116] <;> cases b.Elem == [98, 111, 111, 108] <;> cases elemS b.Elem <;> cases b.Dim.Terms.isEmpty <;> cases b.Row.Dims.isEmpty <;> rfl
     · cases nameS b.Var
       · rfl
       · cases validS b.Row <;> cases b.Dim.Terms.isEmpty <;> cases b.Elem.isEmpty <;> rfl
   · cases nameS b.Var
     · rfl
     · cases validL b.Dim <;> cases b.Row.Dims.isEmpty <;> cases b.Elem.isEmpty <;> rfl)
theorem ref11_validBind_eq (b : Bind) : ref11_validBind b = some (validB b) := by
  unfold ref11_validBind validB zeroL zeroS elemTy ref11_zero ref11_Elem
  rw [ref04_Name_eq, ref04_Valid_eq, ref11_Valid_eq, ref11_ElemVar_eq, ref11_ElemVar_eq, len_beq0, dec_pos, nil_beq, nil_beq]
  cases b.Dim.Const == 0 <;> cases b.Row.Row.isEmpty <;> simp only [cond_true, cond_false, Option.bind_some, Bool.true_and, Bool.false_and] <;>
  (cases b.Kind == 1
   · cases b.Kind == 2
     · cases b.Kind == 3
       · rfl
       · cases elemS b.Var
         · rfl
         · cases b.Elem == [105, 110, 116] <;> cases b.Elem == [98, 111, 111, 108] <;> cases elemS b.Elem <;> cases b.Dim.Terms.isEmpty <;> cases b.Row.Dims.isEmpty <;> rfl
     · cases nameS b.Var
       · rfl
       · cases validS b.Row <;> cases b.Dim.Terms.isEmpty <;> cases b.Elem.isEmpty <;> rfl
   · cases nameS b.Var
     · rfl
     · cases validL b.Dim <;> cases b.Row.Dims.isEmpty <;> cases b.Elem.isEmpty <;> rfl)
def validBP (l : List Bind) (j : Nat) : Bool := validB (l.getD j bd0) && !decide (idxOf (isB (l.getD j bd0).Kind (l.getD j bd0).Var) (l.take j) ≥ 0)
def validBs (l : List Bind) : Bool := (List.range' 0 (l.length - 0)).all (validBP l)
theorem okB_getD {l : List Bind} (h : ∀ b ∈ l, okB b) (j : Nat) : okB (l.getD j bd0) := by
  rw [List.getD_eq_getElem?_getD]
  cases h1 : l[j]? with
  | none => exact ⟨by simp, ⟨by simp, fun t ht => by simp at ht⟩, ⟨by simp, fun t ht => by simp at ht⟩⟩
  | some x => exact h x (List.mem_of_getElem? h1)
theorem shape_ValidBinds_eq (l : List Bind) (h : ∀ b ∈ l, okB b) : shape_ValidBinds l = some (validBs l) := by
  unfold shape_ValidBinds validBs
  rw [cnt_all (validBP l) _ _ () (fun j u _ _ => by
    have e := shape_bound_eq (l.getD j bd0) (okB_getD h j)
    have e2 := shape_find_eq (l.take j) (l.getD j bd0).Kind (l.getD j bd0).Var
    simp only [eta_L, eta_S, eta_B]
    rw [e, e2]
    simp only [Option.bind_some, validBP]
    cases validB (l.getD j bd0)
    · rfl
    · cases decide (idxOf (isB (l.getD j bd0).Kind (l.getD j bd0).Var) (l.take j) ≥ 0) <;> rfl), aft_bif]
  cases (List.range' 0 (l.length - 0)).all (validBP l) <;> rfl
theorem ref11_ValidBinds_eq (l : List Bind) : ref11_ValidBinds l = some (validBs l) := by
  unfold ref11_ValidBinds validBs
  rw [cnt_all (validBP l) _ _ () (fun j u _ _ => by
    have e := ref11_validBind_eq (l.getD j bd0)
    have e2 := ref11_Find_eq (l.take j) (l.getD j bd0).Kind (l.getD j bd0).Var
    simp only [eta_L, eta_S, eta_B]
    rw [e, e2]
    simp only [Option.bind_some, validBP]
    cases validB (l.getD j bd0)
    · rfl
    · cases decide (idxOf (isB (l.getD j bd0).Kind (l.getD j bd0).Var) (l.take j) ≥ 0) <;> rfl), aft_bif]
  cases (List.range' 0 (l.length - 0)).all (validBP l) <;> rfl

/-! ### variables -/
def mkV (k : Int) (v : Str) : Bind := Bind.mk k v (Linear.mk 0 []) (Shape.mk [] []) []
def addV (k : Int) (out : List Bind) (v : Str) : List Bind := bif decide (idxOf (isB k v) out ≥ 0) then out else out ++ [mkV k v]
theorem addV_len (k : Int) (out : List Bind) (v : Str) : (addV k out v).length ≤ out.length + 1 := by
  unfold addV
  cases decide (idxOf (isB k v) out ≥ 0) <;> simp
theorem linear_Vars_eq (l : Linear) (h : l.Terms.length ≤ 1000000) : linear_Vars l = some (l.Terms.map (·.Var)) := by
  unfold linear_Vars
  obtain ⟨s', e1, e2, _⟩ := cnt_go (fin := fun _ s => s) (body := fun i18 s17 =>
    grd ((s17.length + 1) * 16 ≤ 140737488355328) <|
    some (.go (s17 ++ [((l.Terms.getD i18 ⟨[], 0⟩).Var)]))) (ε := List Str) (ρ := Empty) (fun j s => s ++ [(l.Terms.getD j ⟨[], 0⟩).Var]) (fun j s => s.length = j) (l.Terms.length - 0) 0 [] rfl (fun j s _ hj hI => by
      refine ⟨by rw [grd_pos (by omega)], by simp [hI]⟩)
  rw [e1]
  simp only [Option.bind_some, aftE, Option.some.injEq]
  rw [e2]
  have := foldl_getD (fun (s : List Str) (t : Coef) => s ++ [t.Var]) ⟨[], 0⟩ l.Terms 0 []
  rw [this]
  simp only [List.drop_zero]
  have gen : ∀ (ts : List Coef) (s : List Str), ts.foldl (fun s t => s ++ [t.Var]) s = s ++ ts.map (·.Var) := by
    intro ts
    induction ts with
    | nil => intro s; simp
    | cons t ts ih => intro s; simp [ih]
  rw [gen]; rfl
def varsS (s : Shape) : List Bind := s.Dims.foldl (fun out l => l.Terms.foldl (fun out t => addV 1 out t.Var) out) (bif s.Row.isEmpty then [] else [mkV 2 s.Row])
theorem foldl_len (ts : List Coef) : ∀ out : List Bind, (ts.foldl (fun out t => addV 1 out t.Var) out).length ≤ out.length + ts.length := by
  induction ts with
  | nil => intro out; simp
  | cons t ts ih =>
    intro out
    have h1 := ih (addV 1 out t.Var)
    have h2 := addV_len 1 out t.Var
    simp only [List.foldl_cons, List.length_cons]
    omega
theorem validL_len {l : Linear} (h : validL l = true) : l.Terms.length ≤ 12 := by
  simp only [validL, Bool.and_eq_true, decide_eq_true_eq] at h
  exact h.2.2
theorem validS_dims {s : Shape} (h : validS s = true) : s.Dims.length ≤ 6 ∧ ∀ j, (s.Dims.getD j ⟨0, []⟩).Terms.length ≤ 12 := by
  simp only [validS, Bool.and_eq_true, decide_eq_true_eq, List.all_eq_true] at h
  refine ⟨h.2.1, fun j => ?_⟩
  rw [List.getD_eq_getElem?_getD]
  cases h1 : s.Dims[j]? with
  | none => simp
  | some x => exact validL_len (h.1 x (List.mem_of_getElem? h1))
theorem shape_Vars_eq (s : Shape) (h : okS s) : shape_Vars s = some (bif validS s then varsS s else []) := by
  unfold shape_Vars
  rw [shape_Valid_eq s h]
  simp only [Option.bind_some]
  cases hv : validS s with
  | false => rfl
  | true =>
    obtain ⟨h6, h12⟩ := validS_dims hv
    simp only [cond_true]
    rw [nil_beq]
    have hinit : ((bif s.Row.isEmpty then some [] else some [(Bind.mk 2 s.Row (Linear.mk 0 []) (Shape.mk [] []) [])] : Option (List Bind))) = some (bif s.Row.isEmpty then [] else [mkV 2 s.Row]) := by cases s.Row.isEmpty <;> rfl
    rw [hinit]
    simp only [Option.bind_some]
    have hil : (bif s.Row.isEmpty then [] else [mkV 2 s.Row] : List Bind).length ≤ 1 := by cases s.Row.isEmpty <;> simp
    generalize hi : (bif s.Row.isEmpty then [] else [mkV 2 s.Row] : List Bind) = init at hil
    have hbody : ∀ (j : Nat) (out : List Bind), j < s.Dims.length → out.length ≤ 1 + 12 * j →
        ((linear_Vars (Linear.mk ((s.Dims.getD j ⟨0, []⟩).Const) ((s.Dims.getD j ⟨0, []⟩).Terms))).bind fun y360 =>
      (cnt (σ := (List Bind)) (ε := ((List Bind) × Nat)) (ρ := Empty) (fun i410 s409 =>
        (shape_find s409 1 (y360.getD i410 [])).bind fun y448 =>
        ((
          bif decide (y448 < 0) then (
            grd ((s409.length + 1) * 112 ≤ 140737488355328) <|
            some ((s409 ++ [(Bind.mk 1 (y360.getD i410 []) (Linear.mk 0 []) (Shape.mk [] []) [])]), true)
          ) else (
            some (s409, false)
          )
        ) : Option ((List Bind) × Bool)).bind fun v455 =>
        some (.go v455.1)
      ) (fun i410 s409 => (s409, i410)) (y360.length - 0) 0 out).bind <| aftE fun u471 =>
      some (Stp.go u471.1 : Stp (List Bind) (List Bind) Empty)) = some (.go ((s.Dims.getD j ⟨0, []⟩).Terms.foldl (fun out t => addV 1 out t.Var) out)) := by
      intro j out hj hout
      rw [eta_L, linear_Vars_eq _ (by have := h12 j; omega)]
      simp only [Option.bind_some]
      generalize hts : (s.Dims.getD j ⟨0, []⟩).Terms = ts
      have hlen : ts.length ≤ 12 := by rw [← hts]; exact h12 j
      have hget : ∀ i, (ts.map (·.Var)).getD i [] = (ts.getD i ⟨[], 0⟩).Var := fun i => by
        simp only [List.getD_eq_getElem?_getD, List.getElem?_map]
        cases ts[i]? <;> rfl
      obtain ⟨s', e1, e2, _⟩ := cnt_go (fin := fun i410 s409 => (s409, i410)) (body := fun i410 s409 =>
        (shape_find s409 1 ((ts.map (·.Var)).getD i410 [])).bind fun y448 =>
        ((
          bif decide (y448 < 0) then (
            grd ((s409.length + 1) * 112 ≤ 140737488355328) <|
            some ((s409 ++ [(Bind.mk 1 ((ts.map (·.Var)).getD i410 []) (Linear.mk 0 []) (Shape.mk [] []) [])]), true)
          ) else (
            some (s409, false)
          )
        ) : Option ((List Bind) × Bool)).bind fun v455 =>
        some (.go v455.1)) (ε := ((List Bind) × Nat)) (ρ := Empty) (fun i out => addV 1 out (ts.getD i ⟨[], 0⟩).Var) (fun i o => o.length ≤ out.length + i) ((ts.map (·.Var)).length - 0) 0 out (by omega) (fun i o _ hi hI => by
          rw [shape_find_eq, hget]
          simp only [Option.bind_some, addV]
          have := addV_len 1 o (ts.getD i ⟨[], 0⟩).Var
          simp only [addV] at this
          have hi2 : i < ts.length := by simpa using hi
          refine ⟨?_, by omega⟩
          generalize hq : idxOf (isB 1 (ts.getD i ⟨[], 0⟩).Var) o = q
          by_cases hq0 : q < 0
          · rw [decide_eq_true hq0, decide_eq_false (show ¬ q ≥ 0 by omega), cond_true, grd_pos (by omega)]; rfl
          · rw [decide_eq_false hq0, decide_eq_true (show q ≥ 0 by omega)]; rfl)
      rw [e1]
      simp only [Option.bind_some, aftE, Option.some.injEq]
      rw [e2, show (ts.map (·.Var)).length - 0 = ts.length - 0 by simp]
      have := foldl_getD (fun (o : List Bind) (t : Coef) => addV 1 o t.Var) ⟨[], 0⟩ ts 0 out
      rw [this]; rfl
    obtain ⟨s', e1, e2, _⟩ := cnt_go (σ := List Bind) (ε := List Bind) (ρ := Empty) (fin := fun _ s => s) (fun j out => (s.Dims.getD j ⟨0, []⟩).Terms.foldl (fun out t => addV 1 out t.Var) out) (fun j o => o.length ≤ 1 + 12 * j) (s.Dims.length - 0) 0 init (by omega) (fun j o _ hj hI => ⟨hbody j o (by omega) hI, by
      have := foldl_len (s.Dims.getD j ⟨0, []⟩).Terms o
      have := h12 j
      omega⟩)
    rw [e1]
    simp only [Option.bind_some, aftE, Option.some.injEq]
    rw [e2]
    have := foldl_getD (fun (o : List Bind) (l : Linear) => l.Terms.foldl (fun out t => addV 1 out t.Var) o) ⟨0, []⟩ s.Dims 0 init
    rw [this, ← hi]; rfl
theorem ref11_AddVar_eq (k : Int) (v : Str) (out : List Bind) (h : out.length ≤ 1000000) : ref11_AddVar k v out = some (addV k out v) := by
  unfold ref11_AddVar addV
  rw [ref11_Find_eq]
  simp only [Option.bind_some]
  cases decide (idxOf (isB k v) out ≥ 0)
  · simp only [cond_false]; rw [grd_pos (by omega)]; rfl
  · rfl
theorem whl_count {body : List Bind × Int → Option (Stp (List Bind × Int) (List Bind × Int) Empty)} (len : Nat) (g : Nat → List Bind → List Bind) (I : Nat → List Bind → Prop) : ∀ (k i n : Nat) (o : List Bind), i + k = len → k < n → I i o →
    (∀ j o, i ≤ j → j < len → I j o → body (o, ((j : Nat) : Int)) = some (.go (g j o, (((j + 1 : Nat)) : Int))) ∧ I (j + 1) (g j o)) → (∀ o, body (o, ((len : Nat) : Int)) = some (.brk (o, ((len : Nat) : Int)))) →
    whl body n (o, ((i : Nat) : Int)) = some (.brk ((List.range' i k).foldl (fun o j => g j o) o, ((len : Nat) : Int))) ∧ I len ((List.range' i k).foldl (fun o j => g j o) o)
  | 0, i, n, o, hik, hn, hI, h, he => by
    obtain ⟨m, rfl⟩ : ∃ m, n = m + 1 := ⟨n - 1, by omega⟩
    have : i = len := by omega
    subst this
    refine ⟨?_, hI⟩
    show (body (o, ((i : Nat) : Int))).bind (stp (whl body m)) = _
    rw [he o]; rfl
  | k + 1, i, n, o, hik, hn, hI, h, he => by
    obtain ⟨m, rfl⟩ : ∃ m, n = m + 1 := ⟨n - 1, by omega⟩
    obtain ⟨h1, h2⟩ := h i o (Nat.le_refl _) (by omega) hI
    have ih := whl_count len g I k (i + 1) m (g i o) (by omega) (by omega) h2 (fun j o h1 h2 => h j o (by omega) h2) he
    rw [List.range'_succ, List.foldl_cons]
    refine ⟨?_, ih.2⟩
    show (body (o, ((i : Nat) : Int))).bind (stp (whl body m)) = _
    rw [h1]
    exact ih.1
theorem ref11_Vars_eq (s : Shape) : ref11_Vars s = some (bif validS s then varsS s else []) := by
  unfold ref11_Vars
  rw [ref11_Valid_eq]
  simp only [Option.bind_some]
  cases hv : validS s with
  | false => rfl
  | true =>
    obtain ⟨h6, h12⟩ := validS_dims hv
    simp only [cond_true]
    rw [nil_beq, ref11_AddVar_eq 2 s.Row [] (by simp)]
    have hinit : ((bif s.Row.isEmpty then some [] else ((some (addV 2 [] s.Row)).bind fun y22 => some y22) : Option (List Bind))) = some (bif s.Row.isEmpty then [] else [mkV 2 s.Row]) := by cases s.Row.isEmpty <;> rfl
    rw [hinit]
    simp only [Option.bind_some]
    have hil : (bif s.Row.isEmpty then [] else [mkV 2 s.Row] : List Bind).length ≤ 1 := by cases s.Row.isEmpty <;> simp
    generalize hi : (bif s.Row.isEmpty then [] else [mkV 2 s.Row] : List Bind) = init at hil
    obtain ⟨s', e1, e2, _⟩ := cnt_go (σ := List Bind) (ε := List Bind) (ρ := Empty) (fin := fun _ s => s) (body := fun i141 s140 =>
      (whl (σ := ((List Bind) × Int)) (ε := ((List Bind) × Int)) (ρ := Empty) (fun s240 =>
        bif decide (s240.2 < ((((s.Dims.getD i141 ⟨0, []⟩).Terms).length : Nat) : Int)) then (
          grd (0 ≤ s240.2 ∧ s240.2 < (((s.Dims.getD i141 ⟨0, []⟩).Terms).length : Int)) <|
          (ref11_AddVar 1 ((((s.Dims.getD i141 ⟨0, []⟩).Terms).getD s240.2.toNat ⟨[], 0⟩).Var) s240.1).bind fun y264 =>
          some (.go (y264, (w64 (s240.2 + 1))))
        ) else (
          some (.brk (s240.1, s240.2))
        )
      ) 4294967296 (s140, 0)).bind <| aftE fun u270 =>
      some (.go u270.1)) (fun j out => (s.Dims.getD j ⟨0, []⟩).Terms.foldl (fun out t => addV 1 out t.Var) out) (fun j o => o.length ≤ 1 + 12 * j) (s.Dims.length - 0) 0 init (by omega) (fun j out _ hj hI => by
        have hlen := h12 j
        refine ⟨?_, by have := foldl_len (s.Dims.getD j ⟨0, []⟩).Terms out; omega⟩
        generalize hts : (s.Dims.getD j ⟨0, []⟩).Terms = ts at hlen
        have hw := whl_count (body := fun s240 =>
        bif decide (s240.2 < ((ts.length : Nat) : Int)) then (
          grd (0 ≤ s240.2 ∧ s240.2 < (ts.length : Int)) <|
          (ref11_AddVar 1 ((ts.getD s240.2.toNat ⟨[], 0⟩).Var) s240.1).bind fun y264 =>
          some (.go (y264, (w64 (s240.2 + 1))))
        ) else (
          some (.brk (s240.1, s240.2))
        )) ts.length (fun i o => addV 1 o (ts.getD i ⟨[], 0⟩).Var) (fun i o => o.length ≤ out.length + i) ts.length 0 4294967296 out (by omega) (by omega) (by omega) (fun i o _ hi hI => by
          have := addV_len 1 o (ts.getD i ⟨[], 0⟩).Var
          refine ⟨?_, by omega⟩
          simp only
          rw [decide_eq_true (show ((i : Nat) : Int) < ((ts.length : Nat) : Int) by omega), cond_true, grd_pos (by omega)]
          rw [Int.toNat_natCast, ref11_AddVar_eq _ _ _ (by omega), w64_id (by unfold I64; omega)]
          rfl) (fun o => by simp only; rw [decide_eq_false (by omega)]; rfl)
        have e0 : (((0 : Nat)) : Int) = 0 := rfl
        rw [e0] at hw
        rw [hw.1]
        simp only [Option.bind_some, aftE, Option.some.injEq, Stp.go.injEq]
        have := foldl_getD (fun (o : List Bind) (t : Coef) => addV 1 o t.Var) ⟨[], 0⟩ ts 0 out
        rw [Nat.sub_zero] at this
        rw [this]; rfl)
    rw [e1]
    simp only [Option.bind_some, aftE, Option.some.injEq]
    rw [e2]
    have := foldl_getD (fun (o : List Bind) (l : Linear) => l.Terms.foldl (fun out t => addV 1 out t.Var) o) ⟨0, []⟩ s.Dims 0 init
    rw [this, ← hi]; rfl
theorem ref11_SameVars_self (l : List Bind) : ref11_SameVars l l = some true := by
  unfold ref11_SameVars
  rw [beq_self_eq_true]
  simp only [cond_true]
  rw [cnt_all (r := false) (fun _ => true) _ _ () (fun j u _ hj => by
    rw [grd_pos (by omega)]
    simp), aft_bif]
  have ha : ∀ l : List Nat, l.all (fun _ => true) = true := by
    intro l
    induction l with
    | nil => rfl
    | cons x l ih => rw [List.all_cons, ih]; rfl
  rw [ha]; rfl
theorem ref11_Rank_val (s : Shape) : ref11_Rank s = some (bif validS s then (bif s.Row.isEmpty then (((s.Dims.length : Nat) : Int), true) else (0, false)) else (0, false)) := by
  unfold ref11_Rank
  rw [ref11_Valid_eq, nil_beq]
  simp only [Option.bind_some]
  cases validS s <;> cases s.Row.isEmpty <;> rfl
/-- The statement ShapeForms, the example of the document left aside. -/
theorem forms_of_awake (ha : law11_awake = some true) (x0 x1 : Shape) (x2 : Framewiselaw11_Forms) : law11_ShapeForms x0 x1 x2 = some true := by
  unfold law11_ShapeForms
  rw [ha, ref11_Few_eq, ref11_Few_eq, ref11_FewBinds_eq]
  simp only [Option.bind_some, cond_true]
  cases h0 : fewS x0 with
  | false => rfl
  | true =>
    simp only [cond_true]
    cases h1 : fewS x1 with
    | false => rfl
    | true =>
      simp only [cond_true]
      cases h2 : fewBs x2.Binds with
      | false => rfl
      | true =>
        simp only [cond_true]
        cases decide (((x2.Text.length : Nat) : Int) > 60) with
        | true => rfl
        | false =>
          simp only [cond_false]
          have k0 := okS_few h0
          have k2 : ∀ b ∈ x2.Binds, okB b := by
            simp only [fewBs, Bool.and_eq_true, List.all_eq_true] at h2
            exact fun b hb => okB_few (h2.1 b hb)
          rw [shape_Rank_eq x0 k0, ref11_Rank_val, shape_Valid_eq x0 k0, ref11_Valid_eq, shape_Vars_eq x0 k0, ref11_Vars_eq, shape_Equal_eq, shape_Equal_eq, ref11_Equal_eq, shape_ValidBinds_eq _ k2, ref11_ValidBinds_eq, shape_ElemVar_eq, ref11_ElemVar_eq]
          simp only [Option.bind_some, beq_self_eq_true, cond_true]
          rw [ref11_SameVars_self]
          simp
end Go.Proofs.YtopejmjihbkieaaGreatDoor
