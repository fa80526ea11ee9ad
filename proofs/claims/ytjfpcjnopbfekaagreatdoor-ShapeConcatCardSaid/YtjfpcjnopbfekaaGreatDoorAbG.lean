/- ABSTRACT STATES: append to a slice of one's own that has room and no elements. -/
import Derived.Test.YtjfpcjnopbfekaaGreatDoorAb13
set_option linter.unusedSimpArgs false
set_option linter.unusedVariables false
namespace Go.Ab
open Go.RowKit
section
variable {P : Program} {ops : Array Oper} {o : Oper} {s : AS}

theorem G.gslice_inv {w : World} {X : Nat → Prop} {β : Nat → Nat} {κ : Nat → Nat × Nat} {k : Nat} {V : Value} (h : G w X β κ (.gslice k) V) : V = .slice (some ⟨β k, 0, none⟩) 0 (κ k).1 := by
  cases h with
  | d h => cases h
  | gslice k => rfl

/-- Nothing is appended. -/
theorem op_appendG0 {x y : Operand} {t e : TypeId} {sz by_ k : Nat} (hg : gd ops s o = some true) (hop : o.op = .call ⟨.builtin .append, #[x, y], #[t, t]⟩) (he : elemOk P t = some (e, sz, by_))
    (hx : s.op x = .gslice k) (hy : s.op y = .dslice []) {s' : AS} (h : s.put o.dst (.gslice k) = some s') : OpT P ops o s (· = s') :=
  op_runs hg fun c a w β κ r => by
    obtain ⟨hu, i, z, hi, hz, rfl, rfl, hzs, hsz⟩ := elemOk_spec he
    have hX := r.op x; have hY := r.op y
    rw [hx] at hX; rw [hy] at hY
    have eX := hX.gslice_inv
    obtain ⟨hd, ad2, cap2, eY, _⟩ := hY.dslice_inv
    have hrun := append_zero (P := P) (w := w) hu hi (some ⟨β k, 0, none⟩) 0 (κ k).1 (Nat.zero_le _) ad2 cap2 o.type
    refine ⟨_, w, β, κ, .inl ?_, put_spec r (.gslice k) h⟩
    have e0 : a.eval y = .slice ad2 0 cap2 := eY
    simp only [execOp, hop, resolve, invoke, builtin, Sem.run_bind, Sem.run_pure, Result.andThen_ok, List.map_toArray, List.map_cons, List.map_nil, eX, e0, hrun]

/-- Elements are appended: it becomes a row. -/
theorem op_appendG {x y : Operand} {t e : TypeId} {sz by_ k k' : Nat} {ys : List (List AV)} (hg : gd ops s o = some true) (hop : o.op = .call ⟨.builtin .append, #[x, y], #[t, t]⟩) (hd : o.dst = some k') (he : elemOk P t = some (e, sz, by_))
    (hx : s.op x = .gslice k) (hk : lk .gone s.h k = .room e sz) (hy : s.op y = .dslice ys) (hys : ys ≠ [])
    (hE : EL sz ys) (hb : ys.length * by_ ≤ 140737488355328) (h63 : ys.length ≤ 9223372036854775807) {s' : AS} (h : s.grow k k' e sz ys = some s') : OpT P ops o s (· = s') :=
  op_runs hg fun c a w β κ r => by
    obtain ⟨hu, i, z, hi, hz, rfl, rfl, hzs, hsz⟩ := elemOk_spec he
    have hX := r.op x; have hY := r.op y
    rw [hx] at hX; rw [hy] at hY
    have eX := hX.gslice_inv
    obtain ⟨eYd, ad2, cap2, eY, _⟩ := hY.dslice_inv
    have hexec : ∀ {V V' w'}, a.eval x = V' → (Builtin.append_ #[t, t] o.type #[V', a.eval y]).run P w = .ok V w' → (execOp a.eval o).run P w = .ok (.value V) w' := by
      intro V V' w' e1 hr
      simp only [execOp, hop, resolve, invoke, builtin, Sem.run_bind, Sem.run_pure, Result.andThen_ok, List.map_toArray, List.map_cons, List.map_nil, e1, hr]
    have hEl : ∀ j, j < ys.length → (ys.getD j []).length = i.size := by
      intro j hj
      exact (hE _ (by rw [List.getD_eq_getElem?_getD, List.getElem?_eq_getElem hj]; exact List.getElem_mem hj)).1
    have hlive : (lk .gone s.h k).live := by rw [hk]; trivial
    have ho := r.hp.ob k
    rw [hk] at ho
    obtain ⟨cur, q1, q2, q4, q5⟩ := ho
    obtain ⟨bd, cap, news, e1, n1, n2, n3, n4⟩ := news_of eYd hE hys
    have hm : 0 < ys.length := by cases ys with | nil => exact absurd rfl hys | cons _ _ => simp
    have hij : ∀ i' j, i' < ys.length → j < i.size → i' * i.size + j < news.length := by
      intro i' j hi' hj
      rw [n1]
      have : (i' + 1) * i.size ≤ ys.length * i.size := Nat.mul_le_mul_right _ hi'
      rw [Nat.add_mul] at this; omega
    by_cases hroom : ys.length ≤ (κ k).1
    · have hfit : 0 * i.size + news.length ≤ cur.size := by rw [n1, q2, Nat.zero_mul, Nat.zero_add]; exact Nat.mul_le_mul_right _ hroom
      let arr : Array Value := (cur.toList.take (0 * i.size) ++ news ++ cur.toList.drop (0 * i.size + news.length)).toArray
      have hrun : (Builtin.append_ #[t, t] o.type #[.slice (some ⟨β k, 0, none⟩) 0 (κ k).1, a.eval y]).run P w = .ok (.slice (some ⟨β k, 0, none⟩) (0 + ys.length) (κ k).1) (w.setRow (β k) arr) := by
        rw [e1]; exact run_append_room (P := P) w t o.type e i hu hi (β k) 0 (κ k).1 cur q1 bd ys.length cap news n1 n2 n3 (by omega) hfit
      have hasz : arr.size = (κ k).1 * i.size := by
        rw [← q2]; simp [arr]; omega
      obtain ⟨β', κ', r'⟩ := row_same (w' := w.setRow (β k) arr) r h hlive arr hys hsz (fun j hj => setRow_heap_ne _ _ _ hj) ⟨rfl, rfl, rfl, by simp, fun b hb => setRow_heap_ne _ _ _ hb⟩ (setRow_heap_eq w _ cur e arr q1) hEl hasz hroom q4 (fun i' j hi' hj => by
        rw [← toList_getD]
        simp only [arr, Nat.zero_mul, List.take_zero, List.nil_append]
        rw [vgetD_append_lt (hij i' j hi' hj)]
        exact n4 _ j hi' hj)
      refine ⟨_, _, β', κ', .inl (hexec eX hrun), ?_⟩
      rw [hd, Nat.zero_add]; exact r'
    · let C := grownCap w (0 + ys.length) (κ k).1 e
      have hC : 0 + ys.length ≤ C := grownCap_ge w _ _ _
      have hCm : C ≤ maxLen := grownCap_le_maxLen w _ _ _ (by unfold maxLen; omega)
      let arr : Array Value := (([] : List Value).toArray ++ news.toArray) ++ Builtin.zeroCells z.cells (C - (0 + ys.length))
      have hrun : (Builtin.append_ #[t, t] o.type #[.slice (some ⟨β k, 0, none⟩) 0 (κ k).1, a.eval y]).run P w = .ok (.slice (some ⟨w.heap.size, 0, none⟩) (0 + ys.length) C) (w.drew.alloc (.cells arr e)) := by
        rw [e1]
        exact run_append_grow (P := P) w t o.type e i z hu hi hz ⟨β k, 0, none⟩ 0 (κ k).1 [] (by simp) (fun j v hv => by simp at hv) bd ys.length cap news n1 n2 (by omega) (by omega) (growslice_fits (by omega) (by simpa using hb))
      have hasz : arr.size = C * i.size := by
        simp only [arr, Array.size_append, List.size_toArray, List.length_nil, size_zeroCells, n1, hzs, Nat.zero_add, ← Nat.add_mul]
        congr 1; omega
      obtain ⟨β', κ', r'⟩ := row_new r h arr C hys hsz hEl hasz (by omega) hCm (fun i' j hi' hj => by
        have e2 : arr.getD (i' * i.size + j) undef = news.getD (i' * i.size + j) undef := by
          have := hij i' j hi' hj
          simp [arr, Array.getD_eq_getD_getElem?, Array.getElem?_append, this, List.getD_eq_getElem?_getD]
        rw [e2]; exact n4 i' j hi' hj)
      refine ⟨_, _, β', κ', .inl (hexec eX hrun), ?_⟩
      rw [hd, show 0 + ys.length = ys.length from Nat.zero_add _]
      simpa using r'
end
end Go.Ab
