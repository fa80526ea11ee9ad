/- THE LIBRARY's CONTRACTS that change a row of the caller's own: slices.Sort at []string. -/
import Derived.Test.YtjfpcjnopbfekaaGreatDoorAbL
import Derived.Test.YtjfpcjnopbfekaaGreatDoorAbN
set_option linter.unusedSimpArgs false
set_option linter.unusedVariables false
namespace Go.Ab
open Go.RowKit Go.Sh Go.Proofs Go.Sort
section
variable {P : Program} {ρ : Go.Shelf.Ren}
def sortS (xs : List Str) : List Str := xs.mergeSort fun x y => decide (x ≤ y)
def lib_Sort (xs : List Str) : Option (List Str) := grd (xs.length < 4611686018427387904) <| some (sortS xs)
theorem acall_Sort (L : Lays.n190 P ρ) (xs r : List Str) (H : lib_Sort xs = some r) :
    ACall P (ρ.f 190) [.rslice 1000] [(1000, .row (ρ.t 9) 1 (xs.map strC))] (fun v h => v = .tup [] ∧ h = [(1000, .row (ρ.t 9) 1 (r.map strC))]) := by
  unfold lib_Sort at H
  refine grd_e H fun hn H => ?_
  refine some_e H fun e => ?_
  subst e
  have hlen : (sortS xs).length = xs.length := List.length_mergeSort ..
  intro c vs hl hr hg
  have hv : vs = [vs.getD 0 undef] := vs1 (by simpa using hl)
  have h0 : G c.W (c.XX [(1000, .row (ρ.t 9) 1 (xs.map strC))] c.β) c.β c.κ (.rslice 1000) (vs.getD 0 undef) := hg 0 (by simp)
  have ho : HO c.W (c.XX [(1000, .row (ρ.t 9) 1 (xs.map strC))] c.β) c.β c.κ 1000 (.row (ρ.t 9) 1 (xs.map strC)) := hr.ob 1000
  have hk2 : (c.κ 1000).2 = xs.length := by simpa using ho.1
  have hlk : ∀ (ys : List Str) k, lk AO.gone [(1000, AO.row (ρ.t 9) 1 (ys.map strC))] k = if k = 1000 then .row (ρ.t 9) 1 (ys.map strC) else .gone := by
    intro ys k
    simp only [lk]
    by_cases e : k = 1000
    · subst e; simp
    · rw [beq_f e]; simp [e]
  have hlive : ∀ (ys : List Str) k, (lk AO.gone [(1000, AO.row (ρ.t 9) 1 (ys.map strC))] k).live → k = 1000 ∧ ys ≠ [] := by
    intro ys k h
    rw [hlk] at h
    by_cases e : k = 1000
    · subst e; rw [if_pos rfl] at h; exact ⟨rfl, fun e => by subst e; exact h rfl⟩
    · rw [if_neg e] at h; exact h.elim
  rcases h0.rslice_inv with ⟨hpos, hV⟩ | ⟨hz, ad, hV⟩
  · -- a row with elements
    have hne : xs ≠ [] := by intro e; subst e; rw [hk2] at hpos; simp at hpos
    obtain ⟨cur, h1, h2, h3, h4, h5, h6, h7⟩ := ho.2 (by simpa using hne)
    simp only [List.length_map, Nat.mul_one] at h2 h3 h6 h7
    have hcur : ∀ j (hj : j < xs.length), cur.getD j undef = encStr xs[j] ∧ xs[j].length ≤ maxLen := by
      intro j hj
      have := h7 j 0 hj (by omega)
      rw [Nat.add_zero, map_getD_at (d := ([] : Str)) hj] at this
      have e1 : (strC (xs.getD j [])).getD 0 .any = .str xs[j] := by
        show AV.str (xs.getD j []) = _
        rw [List.getD_eq_getElem?_getD, List.getElem?_eq_getElem hj]; rfl
      rw [e1] at this
      have := this.str_inv
      exact ⟨this.1, this.2⟩
    have hsz : c.β 1000 < c.W.heap.size := (Array.getElem?_eq_some_iff.1 h1).1
    have hH : Holds encStr c.W (c.β 1000) 0 xs.toArray := by
      intro j hj
      have hj : j < xs.length := by simpa using hj
      rw [Nat.zero_add]
      refine ⟨?_, ?_⟩
      · rw [cell_of_cells h1 (by omega), (hcur j hj).1]
        simp [hj]
      · simp [World.frozen?, h1]
    rw [hv, hV, hk2]
    refine (Any.slices_Sort_string L (c.β 1000) 0 (c.κ 1000).1 xs c.W hH hsz hn).mono fun e w' ⟨e1, n, os, e2⟩ => ?_
    have hsortE : (xs.mergeSort fun x y => decide (x ≤ y)) = sortS xs := rfl
    rw [hsortE] at e2
    subst e2
    let cur' := putCells encStr 0 (sortS xs).toArray cur
    have hblk : (grow (putRow encStr (Sort.ahead c.W n) (c.β 1000) 0 (sortS xs).toArray) os).heap[c.β 1000]? = some (.cells cur' (ρ.t 9) (0, 0)) := by
      simp only [grow, putRow, mapBlock, Sort.ahead]
      rw [Array.getElem?_append_left (by simpa using hsz), Array.getElem?_modify, if_pos rfl, h1]
      rfl
    have hoth : ∀ b, b ≠ c.β 1000 → b < c.W.heap.size → (grow (putRow encStr (Sort.ahead c.W n) (c.β 1000) 0 (sortS xs).toArray) os).heap[b]? = c.W.heap[b]? := by
      intro b hb hlt
      simp only [grow, putRow, mapBlock, Sort.ahead]
      rw [Array.getElem?_append_left (by simpa using hlt), Array.getElem?_modify, if_neg (Ne.symm hb)]
    have hcs : cur'.size = cur.size := by simp [cur', putCells]
    have hnK : ¬ c.K (c.β 1000) := hr.nk 1000 (by rw [hlk, if_pos rfl]; simpa [AO.live] using hne)
    refine ⟨_, .tup [], [(1000, .row (ρ.t 9) 1 ((sortS xs).map strC))], c.β, c.κ, e1, ⟨rfl, rfl⟩, ⟨fun k => ?_, fun i j hi hj _ => ?_, ⟨rfl, rfl, rfl, ?_, fun b hb => hoth b (fun e => hnK (e ▸ hb)) (c.hK b hb)⟩, fun k hk => ?_, fun k hk => ?_, fun k hk => ⟨rfl, rfl⟩⟩, .d (.tup _ _ rfl (fun i hi => by simp at hi))⟩
    · rw [hlk]
      by_cases ek : k = 1000
      · subst ek
        rw [if_pos rfl]
        refine ⟨by simp [hk2, hlen], fun _ => ⟨cur', hblk, by rw [hcs, h2]; simp, by simpa [hlen] using h3, h4, by omega, fun i hi => ?_, fun i j hi hj => ?_⟩⟩
        · have hi : i < (sortS xs).length := by simpa using hi
          rw [map_getD_at (d := ([] : Str)) hi]; rfl
        · have hi : i < (sortS xs).length := by simpa using hi
          have ej : j = 0 := by omega
          subst ej
          rw [Nat.mul_one, Nat.add_zero, map_getD_at (d := ([] : Str)) hi]
          have e1 : (strC ((sortS xs).getD i [])).getD 0 .any = .str (sortS xs)[i] := by
            show AV.str ((sortS xs).getD i []) = _
            rw [List.getD_eq_getElem?_getD, List.getElem?_eq_getElem hi]; rfl
          have e2 : cur'.getD i undef = encStr (sortS xs)[i] := by
            have hic : i < cur.size := by omega
            simp [cur', putCells, Array.getD_eq_getD_getElem?, hic, hi]
          rw [e1, e2]
          refine .str _ ?_
          have hm : (sortS xs)[i] ∈ xs := (List.mem_mergeSort (le := fun x y => decide (x ≤ y))).1 (List.getElem_mem hi)
          obtain ⟨j, hj, e3⟩ := List.getElem_of_mem hm
          rw [← e3]; exact (hcur j hj).2
      · rw [if_neg ek]; trivial
    · rw [(hlive _ _ hi).1, (hlive _ _ hj).1]
    · simp [grow, Sort.ahead]
    · obtain ⟨rfl, _⟩ := hlive _ _ hk; exact hnK
    · obtain ⟨rfl, _⟩ := hlive _ _ hk
      exact hr.nx 1000 (by rw [hlk, if_pos rfl]; simpa [AO.live] using hne)
  · -- none
    have hx : xs = [] := List.eq_nil_of_length_eq_zero (by omega)
    subst hx
    rw [hv, hV]
    refine (Any.slices_Sort_string_none L ad 0 c.W).mono fun e w' ⟨e1, e2⟩ => ?_
    subst e2
    exact ⟨_, .tup [], [(1000, .row (ρ.t 9) 1 (([] : List Str).map strC))], c.β, c.κ, e1, ⟨rfl, by simp [sortS]⟩, hr, .d (.tup _ _ rfl (fun i hi => by simp at hi))⟩
end
end Go.Ab
