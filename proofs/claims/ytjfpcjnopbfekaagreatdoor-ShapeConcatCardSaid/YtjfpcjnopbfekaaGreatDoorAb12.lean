/- ABSTRACT STATES: calls. -/
import Derived.Test.YtjfpcjnopbfekaaGreatDoorAb11
import Derived.Shelf.Abstract
set_option linter.unusedSimpArgs false
set_option linter.unusedVariables false
namespace Go.Ab
open Go.RowKit
section
variable {P : Program} {ops : Array Oper} {o : Oper} {s : AS}

/-- Whatever has been made since: what was there is as it was. -/
theorem Rel.later {c : Cx P} {a : Act} {w w' : World} {β : Nat → Nat} {κ : Nat → Nat × Nat} (r : Rel c s a w β κ) (k : Keeps (fun b => b < w.heap.size) w w') : Rel c s a w' β κ := by
  have hw : ∀ i, ¬ c.XX s.h β i → i < w.heap.size → w'.heap[i]? = w.heap[i]? := fun i _ hi => k.block i hi
  exact ⟨r.df, r.sz, fun i => (r.tm i).mono hw (fun _ h _ => h) (fun _ _ => ⟨rfl, rfl⟩), ⟨fun j => (r.hp.ob j).mono hw (fun _ h _ => h) (fun _ _ => ⟨rfl, rfl⟩) ⟨rfl, rfl⟩ (fun hl => k.block _ (r.hp.lt hl)),
    r.hp.inj, r.hp.kp.trans k (fun b hb => r.Klt b hb), r.hp.nk, r.hp.nx, r.hp.fix⟩⟩

theorem call_run {f : FuncId} (he : Go.Proofs.Enters P f) {x : Operand} {ar : Array Operand} {tys : Array TypeId} (hop : o.op = .call ⟨.value x, ar, tys⟩) {a : Act} {w : World} {Vs : Array Value} (hx : a.eval x = .func (.func f) #[] Vs) :
    (execOp a.eval o).run P w = .ok (.enter f (ar.map a.eval ++ Vs)) w := by
  simp only [execOp, hop, resolve, hx, Deferred.ofValue, pure_bind, invoke, Array.empty_append]
  exact he _ w

/-- Only numbers, bools, strings. -/
def AV.sc1 : AV → Bool
  | .bool _ | .int _ _ | .str _ | .nilI | .eslice => true
  | _ => false
def AV.sc : AV → Bool
  | .tup vs => vs.all AV.sc1
  | .agg vs => vs.all AV.sc1
  | v => AV.sc1 v

theorem D.sc1 {w w' : World} {X X' : Nat → Prop} {v : AV} {V : Value} (h : D w X v V) (hs : AV.sc1 v = true) : D w' X' v V := by
  cases h <;> first | (simp [AV.sc1] at hs; done) | exact .bool _ | exact .int _ _ | exact .str _ (by assumption) | exact .nilI | exact .eslice _
theorem G.sc1 {w w' : World} {X X' : Nat → Prop} {β : Nat → Nat} {κ : Nat → Nat × Nat} {v : AV} {V : Value} (h : G w X β κ v V) (hs : AV.sc1 v = true) : D w' X' v V := by
  cases h <;> first | exact D.sc1 ‹_› hs | (simp [AV.sc1] at hs; done)
theorem all_getD {α : Type} {p : α → Bool} {l : List α} {i : Nat} {d : α} (h : l.all p = true) (hi : i < l.length) : p (l.getD i d) = true := by
  rw [List.getD_eq_getElem?_getD, List.getElem?_eq_getElem hi]
  exact List.all_eq_true.1 h _ (List.getElem_mem hi)
theorem G.sc {w w' : World} {X X' : Nat → Prop} {β : Nat → Nat} {κ : Nat → Nat × Nat} {v : AV} {V : Value} (h : G w X β κ v V) (hs : AV.sc v = true) : D w' X' v V := by
  unfold AV.sc at hs
  split at hs
  · obtain ⟨vs, rfl, hl, hg⟩ := h.tup_inv
    exact .tup _ _ hl fun i hi => (hg i hi).sc1 (all_getD hs hi)
  · obtain ⟨vs, rfl, hl, hg⟩ := h.agg_inv
    exact .agg _ _ hl fun i hi => (hg i hi).sc1 (all_getD hs hi)
  · exact h.sc1 hs

/-- A row of one's own, as one looks at it who does not write. -/
def AV.vw1 (h : List (Nat × AO)) : AV → AV
  | .rslice k => match lk .gone h k with
    | .row _ _ xs => .dslice xs
    | _ => .any
  | .hptr k o => match lk .gone h k with
    | .cells _ cs => bif Nat.blt o cs.length && AV.flL (cs.drop o) then .dptr (cs.drop o) else .any
    | _ => .any
  | v => bif AV.fl v then v else .any
def AV.vw (h : List (Nat × AO)) : AV → AV
  | .agg cs => .agg (cs.map (AV.vw1 h))
  | .fn f cs => .fn f (cs.map (AV.vw1 h))
  | v => AV.vw1 h v

theorem G.vw1 {c : Cx P} {h : List (Nat × AO)} {w : World} {β : Nat → Nat} {κ : Nat → Nat × Nat} (r : RelH c h w β κ) {v : AV} {V : Value} (hg : G w (c.XX h β) β κ v V) : D w c.X (AV.vw1 h v) V := by
  have up : ∀ {v V}, D w (c.XX h β) v V → D w c.X v V := fun hd => hd.mono (fun _ _ _ => rfl) (fun b hb _ hb' => hb (.inl hb'))
  unfold AV.vw1
  split
  · rename_i k
    split
    · rename_i e sz xs hk
      have ho := r.ob k
      rw [hk] at ho
      rcases hg.rslice_inv with ⟨h0, e1⟩ | ⟨h0, ad, rfl⟩
      · have hne : xs ≠ [] := by intro e; subst e; rw [ho.1] at h0; simp at h0
        obtain ⟨cur, h1, h2, h3, h4, h5, h6, h7⟩ := ho.2 hne
        have hlive : (lk .gone h k).live := by rw [hk]; exact hne
        rw [e1, ho.1]
        refine .dslice xs (β k) 0 (κ k).1 sz (fun i j => cur.getD (i * sz + j) undef) h3 h4 h5 (r.nx k hlive) h6 (fun i j hi hj => ?_) (fun i j hi hj => up (h7 i j hi hj))
        rw [Nat.zero_add]
        refine cell_of_cells h1 ?_
        rw [h2]
        have : (i + 1) * sz ≤ (κ k).1 * sz := Nat.mul_le_mul_right _ (by omega)
        rw [Nat.add_mul] at this; omega
      · have : xs = [] := List.eq_nil_of_length_eq_zero (by rw [← ho.1]; exact h0)
        subst this
        exact .dnil _ _ (Nat.zero_le _)
    · exact .any _
  · rename_i k o
    split
    · rename_i e cs hk
      have ho := r.ob k
      rw [hk] at ho
      obtain ⟨cur, h1, h2, h3⟩ := ho
      rw [hg.hptr_inv]
      cases hc : (Nat.blt o cs.length && AV.flL (cs.drop o)) with
      | false => exact .any _
      | true =>
        simp only [Bool.and_eq_true, Nat.blt_eq] at hc
        have hlive : (lk .gone h k).live := by rw [hk]; trivial
        refine .dptr (cs.drop o) (β k) o (fun j => cur.getD (o + j) undef) (by simp; omega) (r.nx k hlive) (fun j hj => ?_) (fun j hj => ?_)
        · simp at hj; exact cell_of_cells h1 (by omega)
        · simp at hj
          refine up ((?_ : G w (c.XX h β) β κ ((cs.drop o).getD j .any) (cur.getD (o + j) undef)).toD (flL_getD (by simpa using hj) hc.2))
          rw [getD_drop]; exact h3 (o + j) (by omega)
    · exact .any _
  · rename_i hne
    cases hf : AV.fl v with
    | false => exact .any _
    | true => exact up (hg.toD hf)
theorem G.vw {c : Cx P} {h : List (Nat × AO)} {w : World} {β : Nat → Nat} {κ : Nat → Nat × Nat} (r : RelH c h w β κ) {v : AV} {V : Value} (hg : G w (c.XX h β) β κ v V) : D w c.X (AV.vw h v) V := by
  unfold AV.vw
  split
  · obtain ⟨vs, rfl, hl, hgs⟩ := hg.agg_inv
    refine .agg _ _ (by simpa using hl) fun i hi => ?_
    have e : ∀ cs : List AV, (cs.map (AV.vw1 h)).getD i .any = AV.vw1 h (cs.getD i .any) := fun cs => getD_map (AV.vw1 h) cs i .any .any rfl
    rw [e]
    exact (hgs i (by simpa using hi)).vw1 r
  · obtain ⟨vs, rfl, hl, hgs⟩ := hg.fn_inv
    refine .fn _ _ _ (by simpa using hl) fun i hi => ?_
    have e : ∀ cs : List AV, (cs.map (AV.vw1 h)).getD i .any = AV.vw1 h (cs.getD i .any) := fun cs => getD_map (AV.vw1 h) cs i .any .any rfl
    rw [e]
    exact (hgs i (by simpa using hi)).vw1 r
  · exact hg.vw1 r

/-- The arguments of a call, with what the function value has captured. -/
def AS.args (s : AS) (ar : Array Operand) (caps : List AV) : List AV := ar.toList.map s.op ++ caps

theorem args_spec {c : Cx P} {a : Act} {w : World} {β : Nat → Nat} {κ : Nat → Nat × Nat} (r : Rel c s a w β κ) (ar : Array Operand) {caps : List AV} {Vs : Array Value} (hl : caps.length = Vs.size) (hg : ∀ i, i < caps.length → G w (c.XX s.h β) β κ (caps.getD i .any) (Vs.getD i undef)) :
    (ar.map a.eval ++ Vs).size = (s.args ar caps).length ∧ ∀ i, i < (s.args ar caps).length → G w (c.XX s.h β) β κ ((s.args ar caps).getD i .any) ((ar.map a.eval ++ Vs).toList.getD i undef) := by
  refine ⟨by simp [AS.args, hl], fun i hi => ?_⟩
  by_cases h : i < ar.size
  · have := r.op ar[i]
    have e1 : (s.args ar caps).getD i .any = s.op ar[i] := by
      simp [AS.args, List.getD_eq_getElem?_getD, List.getElem?_append, h]
    have e2 : (ar.map a.eval ++ Vs).toList.getD i undef = a.eval ar[i] := by
      simp [List.getD_eq_getElem?_getD, List.getElem?_append, h]
    rw [e1, e2]; exact this
  · have hi' : i - ar.size < caps.length := by simp [AS.args] at hi; omega
    have := hg (i - ar.size) hi'
    have e1 : (s.args ar caps).getD i .any = caps.getD (i - ar.size) .any := by
      unfold AS.args; rw [getD_append_ge (by simp; omega)]; simp
    have e2 : (ar.map a.eval ++ Vs).toList.getD i undef = Vs.getD (i - ar.size) undef := by
      simp only [Array.toList_append]
      rw [getD_append_ge (by simp; omega)]
      simp [List.getD_eq_getElem?_getD, Array.getD_eq_getD_getElem?]
    rw [e1, e2]; exact this

def okRes (fl : Bool) (v : AV) : Bool := if fl then AV.fl v else AV.sc v

/-- A CALL. 'fl = true': the arguments lead into no own memory; the result may be anything that does not. 'fl = false': the function also looks at rows of one's own; the result is numbers, bools, strings. -/
theorem op_call {f : FuncId} (he : Go.Proofs.Enters P f) {x : Operand} {ar : Array Operand} {tys : Array TypeId} (hg : gd ops s o = some true) (hop : o.op = .call ⟨.value x, ar, tys⟩) {caps : List AV} (hx : s.op x = .fn f caps) (fl : Bool)
    {args : List AV} (hargs : (if fl then (if AV.flL (s.args ar caps) then some (s.args ar caps) else none) else some ((s.args ar caps).map (AV.vw s.h))) = some args) {Post : AV → List (Nat × AO) → Prop} (hc : ACall P f args [] Post) {N : AS → Prop}
    (hN : ∀ v h', Post v h' → okRes fl v = true ∧ ∃ s', s.put o.dst v = some s' ∧ N s') : OpT P ops o s N := fun c a w β κ r K Q hK => by
  rw [gd_spec r hg]
  simp only [if_true]
  have hX := r.op x
  rw [hx] at hX
  obtain ⟨Vs, eV, hl, hgs⟩ := hX.fn_inv
  obtain ⟨a1, a2⟩ := args_spec r ar hl hgs
  unfold Oper.wp
  rw [call_run he hop eV]
  let X' : Nat → Prop := if fl then c.XX s.h β else c.X
  have hX' : ∀ b, X' b → b < w.heap.size := by
    intro b hb
    have hx : c.X b → b < w.heap.size := fun h => Nat.lt_of_lt_of_le (c.hX b h) r.hp.kp.size
    cases fl with
    | true =>
      rcases (hb : c.XX s.h β b) with h | ⟨k, h1, rfl⟩
      · exact hx h
      · exact r.hp.lt h1
    | false => exact hx hb
  let c' : Cx P := ⟨fun b => b < w.heap.size, X', w, β, κ, fun _ h => h, hX', fun w' hk => c.gp w' (r.hp.kp.trans hk fun b hb => r.Klt b hb)⟩
  have hlen : args.length = (s.args ar caps).length := by
    cases fl with
    | true => split at hargs; · rename_i h; simp at h; split at hargs <;> cases hargs; rfl
              · rename_i h; simp at h
    | false => simp at hargs; rw [← hargs]; simp
  have hD : ∀ i, i < args.length → D w X' (args.getD i .any) ((ar.map a.eval ++ Vs).toList.getD i undef) := by
    intro i hi
    have h2 := a2 i (by omega)
    cases fl with
    | true =>
      simp only [if_true] at hargs
      split at hargs
      · rename_i hf
        cases hargs
        exact h2.toD (flL_getD hi hf)
      · cases hargs
    | false =>
      simp only [Bool.false_eq_true, if_false, Option.some.injEq] at hargs
      subst hargs
      have e : ((s.args ar caps).map (AV.vw s.h)).getD i .any = AV.vw s.h ((s.args ar caps).getD i .any) := getD_map (AV.vw s.h) _ i .any .any rfl
      rw [e]
      exact h2.vw r.hp
  have hcall := hc c' (ar.map a.eval ++ Vs).toList (by simp [hlen, ← a1]) ⟨fun _ => trivial, fun _ _ h => h.elim, Keeps.refl _ _, fun _ h => h.elim, fun _ h => h.elim, fun _ _ => ⟨rfl, rfl⟩⟩
    (fun i hi => .d ((hD i hi).mono (fun _ _ _ => rfl) (fun b hb _ hb' => hb (hb'.resolve_right (fun ⟨_, h, _⟩ => h.elim)))))
  simp only [Array.toArray_toList] at hcall
  refine hcall.mono fun e w' ⟨V, v, h', β', κ', e1, hp, hr', hG⟩ => ?_
  subst e1
  obtain ⟨h1, s', h2, h3⟩ := hN v h' hp
  have r2 := r.later hr'.kp
  have hGv : G w' (c.XX s.h β) β κ v V := by
    cases fl with
    | true => exact .d ((hG.toD h1).mono (fun _ _ _ => rfl) (fun b hb _ hb' => hb (.inl hb')))
    | false => exact .d (hG.sc h1)
  exact hK s' _ w' β κ h3 (put_spec r2 hGv h2)
end
end Go.Ab
