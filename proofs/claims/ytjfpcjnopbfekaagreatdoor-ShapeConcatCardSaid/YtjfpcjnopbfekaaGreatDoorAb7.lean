/- ABSTRACT STATES: what aval says of an operation holds of the model's operation. -/
import Derived.Test.YtjfpcjnopbfekaaGreatDoorAb6
set_option linter.unusedSimpArgs false
set_option linter.unusedVariables false
namespace Go.Ab
open Go.RowKit
variable {P : Program} {c : Cx P} {s : AS} {a : Act} {w : World} {β : Nat → Nat} {κ : Nat → Nat × Nat}

/-- The model's operation gives a value for which v stands, and leaves the world alone. -/
def Gives (P : Program) (c : Cx P) (s : AS) (a : Act) (w : World) (β : Nat → Nat) (κ : Nat → Nat × Nat) (o : Oper) (v : AV) : Prop :=
  ∃ V, (execOp a.eval o).run P w = .ok (.value V) w ∧ G w (c.XX s.h β) β κ v V

theorem gives_of {o : Oper} {v : AV} {m : Sem Value} (he : execOp a.eval o = (do pure (.value (← m)))) (h : ∃ V, m.run P w = .ok V w ∧ G w (c.XX s.h β) β κ v V) : Gives P c s a w β κ o v := by
  obtain ⟨V, h1, h2⟩ := h
  refine ⟨V, ?_, h2⟩
  rw [he]
  simp [h1, Result.andThen]

theorem G.dptr_ptr {w : World} {X : Nat → Prop} {β : Nat → Nat} {κ : Nat → Nat × Nat} {V : Value} {cs : List AV} (h : G w X β κ (.dptr cs) V) : ∃ b o, V = .pointer (some ⟨b, o, none⟩) := by cases h with | d h => cases h; exact ⟨_, _, rfl⟩

theorem aval_sound (r : Rel c s a w β κ) {op : Op} {p : Prop} {v : AV} (h : aval P s op = some (p, v)) (hp : p) (dst : Option Tmp) (ty : TypeId) (pos : String) (af : Array Edge) (g : Option (Nat × Bool)) :
    Gives P c s a w β κ ⟨dst, op, ty, pos, af, g⟩ v := by
  unfold aval at h
  split at h
  · cases h; exact ⟨_, rfl, r.op _⟩
  · cases h; exact ⟨_, rfl, r.op _⟩
  · rename_i x y z
    have hx := r.op x
    split at h
    · rename_i e; rw [e] at hx; cases h
      refine ⟨_, ?_, r.op y⟩
      simp only [execOp, hx.bool_inv, asBool, pure_bind]; rfl
    · rename_i e; rw [e] at hx; cases h
      refine ⟨_, ?_, r.op z⟩
      simp only [execOp, hx.bool_inv, asBool, pure_bind]; rfl
    · cases h
  · rename_i t x
    split at h
    · rename_i v' hv; cases h; exact gives_of rfl (aload_sound r (r.op x) hv)
    · cases h
  · rename_i t x f
    split at h
    · rename_i v' hv; cases h; exact gives_of rfl (afieldAddr_sound (r.op x) hv)
    · cases h
  · rename_i t x f
    have hx := r.op x
    split at h
    · rename_i cs off ft e hf
      rw [e] at hx
      split at h
      · rename_i v' hv; cases h
        obtain ⟨fs, fd, hu, hfd, rfl, rfl⟩ := fieldOf_spec hf
        obtain ⟨vs, eV, hl, hgs⟩ := hx.agg_inv
        obtain ⟨V', hr, hg'⟩ := apart_sound hl hgs hv (P := P)
        refine gives_of rfl ⟨V', ?_, hg'⟩
        simp only [Instr.field, Sem.run_bind, run_under hu, Result.andThen, hfd, eV, asAgg, pure_bind]
        exact hr
      · cases h
    · cases h
  · rename_i x i
    have hx := r.op x
    split at h
    · rename_i vs e
      rw [e] at hx
      split at h
      · rename_i hi; cases h
        obtain ⟨Vs, eV, hl, hgs⟩ := hx.tup_inv
        refine gives_of rfl ⟨Vs.getD i undef, ?_, hgs i hi⟩
        have hi' : i < Vs.size := by omega
        rw [eV]
        simp [Instr.extract, Array.getElem?_eq_getElem hi', Array.getD_eq_getD_getElem?, go_sem]
      · cases h
    · cases h
  · rename_i op _ x
    have hx := r.op x
    split at h
    · rename_i b e
      rw [e] at hx; cases h
      exact gives_of rfl ⟨_, by rw [hx.bool_inv]; rfl, .d (.bool _)⟩
    · rename_i k n e
      split at h
      · rw [e] at hx; cases h
        refine gives_of rfl ⟨_, ?_, .d (.int _ _)⟩
        rw [hx.int_inv]
        simp only [Op.unary, Op.intArith]
        rw [wrap64 hp]; rfl
      · cases h
    · cases h
  · rename_i op t x y u
    exact abin_sound r h hp _ _ _ _ _
  · rename_i x
    have hx := r.op x
    split at h
    · rename_i k o e
      rw [e] at hx; cases h
      refine ⟨_, ?_, hx⟩
      simp only [execOp, hx.hptr_inv]; rfl
    · rename_i cs e
      rw [e] at hx; cases h
      refine ⟨_, ?_, hx⟩
      obtain ⟨b, o, e2⟩ := hx.dptr_ptr
      simp only [execOp, e2]; rfl
    · cases h
  · rename_i f first caps
    split at h
    · rename_i hf; cases h
      refine gives_of rfl ⟨.func (.func f) #[] (caps.map a.eval), ?_, .fn f _ _ (by simp) fun i hi => ?_⟩
      · have : first = #[] := Array.size_eq_zero_iff.1 hf
        subst this; simp [Instr.makeFunc, go_sem]
      · have hi' : i < caps.size := by simpa using hi
        have := r.op (caps[i])
        simpa [List.getD_eq_getElem?_getD, Array.getD_eq_getD_getElem?, List.getElem?_map, Array.getElem?_eq_getElem hi'] using this
    · split at h
      · rename_i x e1 e2
        split at h
        · rename_i k o e3
          cases h
          have hx := r.op x
          rw [e3] at hx
          have e4 : first = #[x] := by rw [← Array.toList_inj]; exact e1
          have e5 : caps = #[] := by rw [← Array.toList_inj]; exact e2
          subst e4; subst e5
          refine gives_of rfl ⟨.func (.func f) #[.pointer (some ⟨β k, o, none⟩)] #[], ?_, .bm f k o⟩
          have hx2 := hx.hptr_inv
          simp only [List.map_toArray, List.map_cons, List.map_nil, hx2]
          rfl
        · cases h
      · cases h
  · rename_i t x lo hi
    exact gives_of rfl (aslice_sound r (r.op x) h hp)
  · rename_i t x i
    exact gives_of rfl (aindex_sound r (r.op x) h hp)
  · rename_i t x i
    exact gives_of rfl (aindexAddr_sound r (r.op x) h hp)
  · rename_i u t x
    have hx := r.op x
    split at h
    · rename_i k k' n hk e
      rw [e] at hx
      split at h
      · rename_i k2 hu; cases h
        refine gives_of rfl ⟨_, ?_, .d (.int _ _)⟩
        rw [hx.int_inv]
        simp only [convert, Sem.run_bind, run_under hu, run_under (uInt_spec hk), Result.andThen]
        rfl
      · cases h
    · rename_i l e
      rw [e] at hx
      split at h
      · rename_i hb; cases h
        simp only [Bool.and_eq_true] at hb
        refine gives_of rfl ⟨_, ?_, .d (.str _ hx.str_len)⟩
        rw [hx.str_inv]
        simp only [convert, Sem.run_bind, run_under (isStr_spec hb.1), run_under (isStr_spec hb.2), Result.andThen]
        rfl
      · cases h
    · cases h
  · rename_i cl
    obtain ⟨callee, args, argTypes⟩ := cl
    simp only at h
    split at h
    · rename_i x t h1 h2
      split at h
      · rename_i v' hv; cases h
        obtain ⟨V', hr, hg⟩ := alen_sound r (r.op x) hv (ty := ty)
        refine ⟨V', ?_, hg⟩
        have e1 : args = #[x] := by rw [← Array.toArray_toList (xs := args), h1]
        have e2 : argTypes = #[t] := by rw [← Array.toArray_toList (xs := argTypes), h2]
        subst e1; subst e2
        simp only [execOp, resolve, pure_bind, invoke, builtin, List.map_toArray, List.map_cons, List.map_nil, Sem.run_bind, hr, Result.andThen]
        rfl
      · cases h
    · rename_i x y h1
      split at h
      · rename_i k m k' n ex ey; cases h
        have hx := r.op x; have hy := r.op y
        rw [ex] at hx; rw [ey] at hy
        have e1 : args = #[x, y] := by rw [← Array.toArray_toList (xs := args), h1]
        subst e1
        refine ⟨_, ?_, .d (.int _ _)⟩
        simp only [execOp, resolve, pure_bind, invoke, builtin, List.map_toArray, List.map_cons, List.map_nil, hx.int_inv, hy.int_inv]
        rfl
      · cases h
    · rename_i x y h1
      split at h
      · rename_i k m k' n ex ey; cases h
        have hx := r.op x; have hy := r.op y
        rw [ex] at hx; rw [ey] at hy
        have e1 : args = #[x, y] := by rw [← Array.toArray_toList (xs := args), h1]
        subst e1
        refine ⟨_, ?_, .d (.int _ _)⟩
        simp only [execOp, resolve, pure_bind, invoke, builtin, List.map_toArray, List.map_cons, List.map_nil, hx.int_inv, hy.int_inv]
        rfl
      · cases h
    · cases h
  · cases h
end Go.Ab
