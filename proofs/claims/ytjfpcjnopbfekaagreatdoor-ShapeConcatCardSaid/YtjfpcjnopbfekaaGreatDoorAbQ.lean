/- THE LIBRARY's CONTRACTS: slices.Grow from a slice without elements and without room. -/
import Derived.Test.YtjfpcjnopbfekaaGreatDoorAbL
import Derived.Shelf.Spec.SlicesGrow
set_option linter.unusedSimpArgs false
set_option linter.unusedVariables false
namespace Go.Ab
open Go.RowKit Go.Sh Go.Proofs
section
variable {P : Program} {ρ : Go.Shelf.Ren}
theorem G.intQ_inv {w : World} {X : Nat → Prop} {β : Nat → Nat} {κ : Nat → Nat × Nat} {k : IntKind} {n : Int} {V : Value} (h : G w X β κ (.int k n) V) : V = .int k n := by
  cases h with
  | d h => exact h.int_inv
/-- No room is asked for. -/
theorem acall_Grow0 (L : Lays8.n4 P ρ) : ACall P (ρ.f 4) [.eslice, .int .i64 0] [] (fun r _ => r = .eslice) := by
  intro c vs hl hr hg
  have h0 : G c.W (c.XX [] c.β) c.β c.κ .eslice (vs.getD 0 undef) := hg 0 (by simp)
  have h1 : G c.W (c.XX [] c.β) c.β c.κ (.int .i64 0) (vs.getD 1 undef) := hg 1 (by simp)
  obtain ⟨ad, e0⟩ := h0.eslice_inv
  rw [vs2 (vs := vs) (by simpa using hl), e0, h1.intQ_inv]
  refine (Any8.slices_Grow_room L ad 0 0 0 c.W (Nat.le_refl _) (by omega) (by omega) (by omega)).mono fun e w' ⟨e2, e3⟩ => ?_
  subst e3
  exact ⟨_, .eslice, [], c.β, c.κ, e2, rfl, hr, .d (.eslice _)⟩
/-- Room for n elements. -/
theorem acall_Grow (L : Lays8.n4 P ρ) {sz by_ : Nat} (he : elemOk P (ρ.t 22) = some (ρ.t 25, sz, by_)) (n : Nat) (h0 : 0 < n) (hb : n * by_ ≤ 140737488355328) (h63 : n ≤ 4611686018427387904) :
    ACall P (ρ.f 4) [.eslice, .int .i64 (n : Int)] [] (fun v h => v = .gslice 0 ∧ h = [(0, .room (ρ.t 25) sz)]) := by
  obtain ⟨hu, i, z, hi, hz, rfl, rfl, hzs, hsz⟩ := elemOk_spec he
  intro c vs hl hr hg
  have g0 : G c.W (c.XX [] c.β) c.β c.κ .eslice (vs.getD 0 undef) := hg 0 (by simp)
  have g1 : G c.W (c.XX [] c.β) c.β c.κ (.int .i64 (n : Int)) (vs.getD 1 undef) := hg 1 (by simp)
  obtain ⟨ad, e0⟩ := g0.eslice_inv
  rw [vs2 (vs := vs) (by simpa using hl), e0, g1.intQ_inv]
  refine (Any8.slices_Grow_grow L i z hi hz hsz ad 0 0 n [] c.W (Nat.le_refl _) (by omega) (by simpa using hb) (by omega) (by simp) (fun _ => rfl) (fun a _ j v hj => by simp at hj)).mono fun e w' ⟨e2, e3⟩ => ?_
  obtain ⟨C, hC⟩ : ∃ C, C = grownCap c.W (0 + n) 0 (ρ.t 25) := ⟨_, rfl⟩
  have hCn : 0 + n ≤ C := by rw [hC]; exact grownCap_ge c.W _ _ _
  have hCm : C ≤ maxLen := by rw [hC]; exact grownCap_le_maxLen c.W _ _ _ (by unfold maxLen; omega)
  rw [← hC] at e2 e3
  obtain ⟨arr, harr⟩ : ∃ arr, arr = (([] : List Value).toArray ++ Builtin.zeroCells z.cells (0 + n - 0) ++ Builtin.zeroCells z.cells (C - (0 + n))) := ⟨_, rfl⟩
  rw [← harr] at e3
  have hasz : arr.size = C * i.size := by
    rw [harr]
    simp only [Array.size_append, List.size_toArray, List.length_nil, size_zeroCells, hzs, Nat.zero_add, Nat.sub_zero, ← Nat.add_mul]
    congr 1; omega
  subst e3
  have hr' := hr.drew
  have hnew : (c.W.drew.alloc (.cells arr (ρ.t 25))).heap[c.W.heap.size]? = some (.cells arr (ρ.t 25) (0, 0)) := heap_new c.W.drew _
  obtain ⟨r1, _⟩ := hr'.anew (w' := c.W.drew.alloc (.cells arr (ρ.t 25))) (k := 0) (by decide) (fun j _ => rfl) c.W.heap.size (C, 0) (Nat.le_refl _) (fun b hb2 => heap_old c.W.drew _ hb2) (keeps_alloc _ c.W.drew _ c.hK) (o := .room (ρ.t 25) i.size)
    ⟨arr, by rw [upd_same]; exact hnew, by rw [upd_same]; exact hasz, by rw [upd_same]; exact hCm, hsz⟩
  refine ⟨_, .gslice 0, [(0, .room (ρ.t 25) i.size)], upd c.β 0 c.W.heap.size, upd c.κ 0 (C, 0), e2, ⟨rfl, rfl⟩, r1, ?_⟩
  have := G.gslice (w := c.W.drew.alloc (.cells arr (ρ.t 25))) (X := c.XX [(0, .room (ρ.t 25) i.size)] (upd c.β 0 c.W.heap.size)) (β := upd c.β 0 c.W.heap.size) (κ := upd c.κ 0 (C, 0)) 0
  rw [upd_same, upd_same] at this
  exact this
end
end Go.Ab
namespace Go.Ab
open Go.RowKit Go.Sh
/-! ### slices.Concat -/
section
variable {P : Program} {Q : Exit → AS → Prop} {c : Code} {fs : List Fr}
theorem p_loopW {ι : Type} (S : ι → AS) (hc : isLoop c = true) (φ : ι → Prop) (μ : ι → Nat) (i₀ : ι) (h₀ : φ i₀)
    (round : ∀ i, φ i → ∃ T, (T = dead ∨ ∃ j, φ j ∧ μ j < μ i ∧ T = S j) ∧ Tri P (loopBody c) (kont P (.bar T :: fs) Q) (S i)) : Tri P c (kont P fs Q) (S i₀) := by
  rw [isLoop_spec hc]; exact loop_lift S φ μ i₀ h₀ round
end
def catC {α : Type} (c : α → List AV) (x : List α) : List AV := [.dslice (x.map c)]
theorem take1 {α : Type} (d : α) : ∀ (l : List α) (i : Nat), i < l.length → l.take (i + 1) = l.take i ++ [l.getD i d]
  | [], i, h => by simp at h
  | x :: l, 0, _ => rfl
  | x :: l, i + 1, h => by
    rw [List.take_succ_cons, take1 d l i (by simpa using h), List.take_succ_cons]; rfl
theorem flat_step {α : Type} (ls : List (List α)) (i : Nat) (h : i < ls.length) : (ls.take (i + 1)).flatten = (ls.take i).flatten ++ ls.getD i [] := by
  rw [take1 [] ls i h]; simp
theorem flat_le {α : Type} (ls : List (List α)) (i : Nat) : (ls.take i).flatten.length ≤ ls.flatten.length := by
  have : ls.flatten = (ls.take i).flatten ++ (ls.drop i).flatten := by rw [← List.flatten_append, List.take_append_drop]
  rw [this, List.length_append]; omega
end Go.Ab
