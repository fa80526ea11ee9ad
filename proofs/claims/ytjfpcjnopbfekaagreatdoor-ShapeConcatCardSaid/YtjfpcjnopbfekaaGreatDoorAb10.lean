/- ABSTRACT STATES: struct and slice literals; new maps. -/
import Derived.Test.YtjfpcjnopbfekaaGreatDoorAb9
set_option linter.unusedSimpArgs false
set_option linter.unusedVariables false
namespace Go.Ab
open Go.RowKit
section
variable {P : Program} {ops : Array Oper} {o : Oper} {s : AS}

def afill (place : Nat → Option (Nat × Nat)) : List AV → List (Nat × AV) → Option (List AV)
  | cs, [] => some cs
  | cs, (i, v) :: rest => match place i, avCells v with
    | some (off, size), some vs => if vs.length = size ∧ off + vs.length ≤ cs.length then afill place (splice cs off vs) rest else none
    | _, _ => none

theorem fold_fill (off : Nat) : ∀ (l : List Value) (k : Nat) (cells : Array Value), off + k + l.length ≤ cells.size →
    ((l.zipIdx k).foldl (fun cs (x : Value × Nat) => cs.setIfInBounds (off + x.2) x.1) cells).size = cells.size ∧
    ∀ i, ((l.zipIdx k).foldl (fun cs (x : Value × Nat) => cs.setIfInBounds (off + x.2) x.1) cells).getD i undef = if off + k ≤ i ∧ i < off + k + l.length then l.getD (i - (off + k)) undef else cells.getD i undef
  | [], k, cells, _ => by
    refine ⟨rfl, fun i => ?_⟩
    rw [if_neg (by simp)]; rfl
  | v :: l, k, cells, h => by
    simp only [List.length_cons] at h
    simp only [List.zipIdx_cons, List.foldl_cons]
    obtain ⟨h1, h2⟩ := fold_fill off l (k + 1) (cells.setIfInBounds (off + k) v) (by simp; omega)
    refine ⟨by simpa using h1, fun i => ?_⟩
    rw [h2 i]
    have hlt : off + k < cells.size := by omega
    by_cases e : i = off + k
    · subst e
      rw [if_neg (by omega), if_pos ⟨by omega, by simp⟩]
      simp [Array.getD_eq_getD_getElem?, hlt]
    · by_cases hi : off + (k + 1) ≤ i ∧ i < off + (k + 1) + l.length
      · rw [if_pos hi, if_pos ⟨by omega, by simp; omega⟩]
        rw [show i - (off + k) = (i - (off + (k + 1))) + 1 by omega, List.getD_cons_succ]
      · rw [if_neg hi, if_neg (by simp; omega)]
        have e' : ¬ off + k = i := fun h => e h.symm
        simp [Array.getD_eq_getD_getElem?, e']

theorem afill_sound {w : World} {X : Nat → Prop} {β : Nat → Nat} {κ : Nat → Nat × Nat} {place : Nat → Option (Nat × Nat)} : ∀ (parts : List (Nat × AV)) (vals : List (Nat × Value)) (cs : List AV) (arr : Array Value), parts.length = vals.length →
    (∀ i, i < parts.length → (parts.getD i default).1 = (vals.getD i default).1 ∧ G w X β κ (parts.getD i default).2 (vals.getD i default).2) →
    arr.size = cs.length → (∀ i, i < cs.length → G w X β κ (cs.getD i .any) (arr.getD i undef)) → ∀ cs', afill place cs parts = some cs' →
    ∃ arr', Instr.fill place arr vals = some arr' ∧ arr'.size = cs'.length ∧ ∀ i, i < cs'.length → G w X β κ (cs'.getD i .any) (arr'.getD i undef)
  | [], [], cs, arr, _, _, h1, h2, cs', h => by cases h; exact ⟨arr, rfl, h1, h2⟩
  | [], _ :: _, _, _, hl, _, _, _, _, _ => by simp at hl
  | _ :: _, [], _, _, hl, _, _, _, _, _ => by simp at hl
  | (i, v) :: parts, (j, V) :: vals, cs, arr, hl, hp, h1, h2, cs', h => by
    obtain ⟨e, hG⟩ := hp 0 (by simp)
    simp only [List.getD_cons_zero] at e hG
    subst e
    unfold afill at h
    split at h
    · rename_i off size vs hpl hvs
      split at h
      · rename_i hc
        obtain ⟨g1, g2⟩ := avCells_spec hG hvs
        obtain ⟨f1, f2⟩ := fold_fill off V.cells.toList 0 arr (by simp; omega)
        have hf : Instr.fill place arr ((i, V) :: vals) = Instr.fill place (V.cells.zipIdx.foldl (fun cs (x : Value × Nat) => cs.setIfInBounds (off + x.2) x.1) arr) vals := by
          simp only [Instr.fill, hpl]
          rw [if_neg]
          rw [g1, hc.1]
          simp; omega
        rw [hf]
        have hz : (V.cells.zipIdx.foldl (fun cs (x : Value × Nat) => cs.setIfInBounds (off + x.2) x.1) arr) = (V.cells.toList.zipIdx.foldl (fun cs (x : Value × Nat) => cs.setIfInBounds (off + x.2) x.1) arr) := by
          rw [← Array.foldl_toList]; simp
        rw [hz]
        refine afill_sound parts vals (splice cs off vs) _ (by simpa using hl) (fun i hi => by simpa using hp (i + 1) (by simp; omega)) (by rw [f1, h1, splice_len hc.2]) (fun i hi => ?_) cs' h
        rw [f2, splice_getD hc.2]
        rw [splice_len hc.2] at hi
        simp only [Nat.add_zero, Array.length_toList]
        by_cases h3 : off ≤ i ∧ i < off + vs.length
        · rw [if_pos h3, if_pos (by omega)]
          have := g2 (i - off) (by omega)
          have e2 : V.cells.toList.getD (i - off) undef = V.cells.getD (i - off) undef := by simp [Array.getD_eq_getD_getElem?, List.getD_eq_getElem?_getD]
          rw [e2]; exact this
        · rw [if_neg h3, if_neg (by omega)]; exact h2 i hi
      · cases h
    · cases h

def abuild (P : Program) (t : TypeId) (parts : List (Nat × AV)) : Option AV :=
  match P.info? t, P.underlying t with
  | some it, some (.array _ e) =>
    match it.zero, P.info? e with
    | some z, some ie => (match afill (fun i => some (i * ie.size, ie.size)) (z.cells.toList.map AV.of1) parts with | some cs => some (.agg cs) | none => none)
    | _, _ => none
  | some it, some (.struct fields) =>
    match it.zero, fields.toList.mapM (fun f => (P.info? f.type).map fun i => (f.offset, i.size)) with
    | some z, some places => (match afill (places.toArray[·]?) (z.cells.toList.map AV.of1) parts with | some cs => some (.agg cs) | none => none)
    | _, _ => none
  | _, _ => none

theorem G_zero {w : World} {X : Nat → Prop} {β : Nat → Nat} {κ : Nat → Nat × Nat} (z : Array Value) (i : Nat) (hi : i < (z.toList.map AV.of1).length) : G w X β κ ((z.toList.map AV.of1).getD i .any) (z.getD i undef) := by
  rw [getD_of1 _ _ (by simpa using hi)]; exact .d (D.of1 w X _)

theorem abuild_sound {w : World} {X : Nat → Prop} {β : Nat → Nat} {κ : Nat → Nat × Nat} {t : TypeId} {parts : List (Nat × AV)} {vals : Array (Nat × Value)} (hl : parts.length = vals.size)
    (hp : ∀ i, i < parts.length → (parts.getD i default).1 = (vals.toList.getD i default).1 ∧ G w X β κ (parts.getD i default).2 (vals.toList.getD i default).2) {v : AV} (h : abuild P t parts = some v) :
    ∃ V, (Instr.build t vals).run P w = .ok V w ∧ G w X β κ v V := by
  unfold abuild at h
  split at h
  · rename_i it n e hit hu
    split at h
    · rename_i z ie hz hie
      split at h
      · rename_i cs hcs
        cases h
        obtain ⟨arr, h1, h2, h3⟩ := afill_sound (w := w) (X := X) (β := β) (κ := κ) parts vals.toList _ z.cells (by simpa using hl) hp (by simp) (G_zero _) cs hcs
        refine ⟨_, run_build (P := P) w t vals arr ?_, .agg _ _ h2.symm h3⟩
        simp only [Program.built, hit, hu, hz, hie, h1]
      · cases h
    · cases h
  · rename_i it fields hit hu
    split at h
    · rename_i z places hz hpl
      split at h
      · rename_i cs hcs
        cases h
        obtain ⟨arr, h1, h2, h3⟩ := afill_sound (w := w) (X := X) (β := β) (κ := κ) parts vals.toList _ z.cells (by simpa using hl) hp (by simp) (G_zero _) cs hcs
        refine ⟨_, run_build (P := P) w t vals arr ?_, .agg _ _ h2.symm h3⟩
        simp only [Program.built, hit, hu, hz, hpl, h1]
      · cases h
    · cases h
  · cases h

def AS.parts (s : AS) (ps : Array (Nat × Operand)) : List (Nat × AV) := ps.toList.map fun p => (p.1, s.op p.2)

theorem parts_spec {c : Cx P} {a : Act} {w : World} {β : Nat → Nat} {κ : Nat → Nat × Nat} (r : Rel c s a w β κ) (ps : Array (Nat × Operand)) : (s.parts ps).length = (ps.map fun p => (p.1, a.eval p.2)).size ∧
    ∀ i, i < (s.parts ps).length → ((s.parts ps).getD i default).1 = ((ps.map fun p => (p.1, a.eval p.2)).toList.getD i default).1 ∧ G w (c.XX s.h β) β κ ((s.parts ps).getD i default).2 ((ps.map fun p => (p.1, a.eval p.2)).toList.getD i default).2 := by
  refine ⟨by simp [AS.parts], fun i hi => ?_⟩
  have hi' : i < ps.size := by simpa [AS.parts] using hi
  have := r.op (ps[i]).2
  simp [AS.parts, List.getD_eq_getElem?_getD, Array.getElem?_eq_getElem hi']
  exact this

theorem op_build {t : TypeId} {ps : Array (Nat × Operand)} (hg : gd ops s o = some true) (hop : o.op = .build t ps) {v : AV} (hv : abuild P t (s.parts ps) = some v) {s' : AS} (h : s.put o.dst v = some s') : OpT P ops o s (· = s') :=
  op_runs hg fun c a w β κ r => by
    obtain ⟨h1, h2⟩ := parts_spec r ps
    obtain ⟨V, hr, hG⟩ := abuild_sound (P := P) h1 h2 hv
    refine ⟨V, w, β, κ, .inl ?_, put_spec r hG h⟩
    simp only [execOp, hop, Sem.run_bind]
    have : (fun x : Nat × Operand => (x.1, a.eval x.2)) = fun p => (p.1, a.eval p.2) := rfl
    show ((Instr.build t (ps.map fun p => (p.1, a.eval p.2))).run P w).andThen _ = _
    rw [hr]; rfl

/-! ### what leads into no own memory -/
mutual
def AV.fl : AV → Bool
  | .hptr _ _ => false
  | .rslice _ => false
  | .gslice _ => false
  | .amap _ => false
  | .bm _ _ _ => false
  | .agg cs => AV.flL cs
  | .tup cs => AV.flL cs
  | .fn _ cs => AV.flL cs
  | _ => true
def AV.flL : List AV → Bool
  | [] => true
  | c :: cs => AV.fl c && AV.flL cs
end
theorem flL_getD : ∀ {cs : List AV} {i : Nat}, i < cs.length → AV.flL cs = true → AV.fl (cs.getD i .any) = true
  | [], i, h, _ => by simp at h
  | c :: cs, 0, _, h => by simp only [AV.flL, Bool.and_eq_true] at h; exact h.1
  | c :: cs, i + 1, hi, h => by
    simp only [AV.flL, Bool.and_eq_true] at h
    simp only [List.getD_cons_succ]
    exact flL_getD (by simpa using hi) h.2
theorem G.toD {w : World} {X : Nat → Prop} {β : Nat → Nat} {κ : Nat → Nat × Nat} {v : AV} {V : Value} (h : G w X β κ v V) (hf : AV.fl v = true) : D w X v V := by
  induction h with
  | d h => exact h
  | hptr k o => cases hf
  | rslice k _ => cases hf
  | rslice0 k a _ => cases hf
  | gslice k => cases hf
  | amap k => cases hf
  | bm f k o => cases hf
  | fn f cs vs h1 h2 ih =>
    exact .fn f cs vs h1 fun i hi => ih i hi (flL_getD hi (by simpa [AV.fl] using hf))
  | agg cs vs h1 h2 ih => exact .agg cs vs h1 fun i hi => ih i hi (flL_getD hi (by simpa [AV.fl] using hf))
  | tup cs vs h1 h2 ih => exact .tup cs vs h1 fun i hi => ih i hi (flL_getD hi (by simpa [AV.fl] using hf))

/-- A new object that nobody writes to. -/
theorem Rel.more {P : Program} {c : Cx P} {a : Act} {w : World} {β : Nat → Nat} {κ : Nat → Nat × Nat} (r : Rel c s a w β κ) (ob : Obj) : Rel c s a (w.alloc ob) β κ ∧ (∀ {v V}, G w (c.XX s.h β) β κ v V → G (w.alloc ob) (c.XX s.h β) β κ v V) ∧ ¬ c.XX s.h β w.heap.size := by
  have hw : ∀ i, ¬ c.XX s.h β i → i < w.heap.size → (w.alloc ob).heap[i]? = w.heap[i]? := fun i _ hi => heap_old w ob hi
  refine ⟨⟨r.df, r.sz, fun i => (r.tm i).mono hw (fun _ h _ => h) (fun _ _ => ⟨rfl, rfl⟩), ⟨fun k => (r.hp.ob k).mono hw (fun _ h _ => h) (fun _ _ => ⟨rfl, rfl⟩) ⟨rfl, rfl⟩ (fun hl => heap_old w ob (r.hp.lt hl)),
    r.hp.inj, r.hp.kp.trans (keeps_alloc _ _ _ r.Klt) (fun _ h => h), r.hp.nk, r.hp.nx, r.hp.fix⟩⟩, fun hg => hg.mono hw (fun _ h _ => h) (fun _ _ => ⟨rfl, rfl⟩), ?_⟩
  rintro (hx | ⟨k, hl, hk⟩)
  · have := c.hX _ hx
    have := r.hp.kp.size
    omega
  · have := r.hp.lt hl; omega

/-- A slice literal, complete and in order. -/
def inOrder : Nat → List (Nat × AV) → Bool
  | _, [] => true
  | k, (i, _) :: ps => Nat.beq i k && inOrder (k + 1) ps
def pcells (n : Nat) : List (Nat × AV) → Option (List (List AV))
  | [] => some []
  | (_, v) :: ps => match avCells v, pcells n ps with
    | some cs, some r => if cs.length = n ∧ AV.flL cs = true then some (cs :: r) else none
    | _, _ => none

def abuildSlice (P : Program) (t : TypeId) (len : Nat) (parts : List (Nat × AV)) : Option AV :=
  match uSl P t with
  | some e => match szOf P e, zeroOf P e with
    | some n, some z => if n = 0 ∨ 16777216 < len * n ∨ z.cells.size ≠ n then none else
      if len = 0 then (match parts with | [] => some .eslice | _ => none) else
      (match pcells n parts with | some xs => if inOrder 0 parts && Nat.beq xs.length len then some (.dslice xs) else none | none => none)
    | _, _ => none
  | none => none

theorem pcells_spec {n : Nat} : ∀ {ps : List (Nat × AV)} {xs : List (List AV)}, pcells n ps = some xs → xs.length = ps.length ∧ UL n xs ∧ (∀ x ∈ xs, AV.flL x = true) ∧ ∀ i, i < xs.length → avCells (ps.getD i default).2 = some (xs.getD i [])
  | [], xs, h => by cases h; exact ⟨rfl, fun x hx => (by cases hx), fun x hx => (by cases hx), fun i hi => (by simp at hi)⟩
  | (j, v) :: ps, xs, h => by
    unfold pcells at h
    split at h
    · rename_i cs r hcs hr
      split at h
      · rename_i hc
        cases h
        obtain ⟨h1, h2, h3, h4⟩ := pcells_spec hr
        refine ⟨by simp [h1], fun x hx => ?_, fun x hx => ?_, fun i hi => ?_⟩
        · rcases List.mem_cons.1 hx with rfl | hx
          · exact hc.1
          · exact h2 x hx
        · rcases List.mem_cons.1 hx with rfl | hx
          · exact hc.2
          · exact h3 x hx
        · cases i with
          | zero => exact hcs
          | succ i => simpa using h4 i (by simpa using hi)
      · cases h
    · cases h

theorem flatten_getD {n : Nat} : ∀ {xs : List (List AV)}, UL n xs → ∀ {i j : Nat}, i < xs.length → j < n → xs.flatten.getD (i * n + j) .any = (xs.getD i []).getD j .any
  | [], _, i, j, hi, _ => by simp at hi
  | x :: xs, h, i, j, hi, hj => by
    have hx : x.length = n := h x (by simp)
    cases i with
    | zero => simp only [Nat.zero_mul, Nat.zero_add, List.flatten_cons, List.getD_cons_zero]; exact getD_append_lt (by omega)
    | succ i =>
      rw [List.flatten_cons, getD_append_ge (by rw [Nat.add_mul]; omega), List.getD_cons_succ, ← flatten_getD (fun y hy => h y (by simp [hy])) (by simpa using hi) hj]
      congr 1
      rw [hx, Nat.add_mul]; omega
theorem flatten_len {n : Nat} : ∀ {xs : List (List AV)}, UL n xs → xs.flatten.length = xs.length * n
  | [], _ => by simp
  | x :: xs, h => by
    have hx : x.length = n := h x (by simp)
    rw [List.flatten_cons, List.length_append, flatten_len fun y hy => h y (by simp [hy]), hx, List.length_cons, Nat.add_mul]
    omega

theorem afill_order {n : Nat} : ∀ (ps : List (Nat × AV)) (k : Nat) (xs : List (List AV)) (cs : List AV), pcells n ps = some xs → inOrder k ps = true → (k + ps.length) * n ≤ cs.length →
    afill (fun i => some (i * n, n)) cs ps = some (cs.take (k * n) ++ xs.flatten ++ cs.drop ((k + ps.length) * n))
  | [], k, xs, cs, h, _, _ => by cases h; simp [afill]
  | (i, v) :: ps, k, xs, cs, h, ho, hl => by
    simp only [inOrder, Bool.and_eq_true] at ho
    have ei : i = k := beq_t.1 ho.1
    subst ei
    unfold pcells at h
    split at h
    · rename_i vs r hvs hr
      split at h
      · rename_i hc
        cases h
        simp only [List.length_cons] at hl
        have hkn : i * n + n ≤ cs.length := by
          have : (i + 1) * n ≤ (i + (ps.length + 1)) * n := Nat.mul_le_mul_right _ (by omega)
          rw [Nat.add_mul] at this; omega
        simp only [afill, hvs]
        rw [if_pos ⟨hc.1, by rw [hc.1]; exact hkn⟩]
        have hsl : (splice cs (i * n) vs).length = cs.length := splice_len (by rw [hc.1]; exact hkn)
        rw [afill_order ps (i + 1) r _ hr ho.2 (by rw [hsl]; rw [show i + 1 + ps.length = i + (ps.length + 1) by omega]; exact hl)]
        have e1 : (cs.take (i * n)).length = i * n := by simp; omega
        have e2 : (splice cs (i * n) vs).take ((i + 1) * n) = cs.take (i * n) ++ vs := by
          unfold splice
          rw [List.take_left' (by simp [hc.1, Nat.add_mul]; omega)]
        have e3 : (splice cs (i * n) vs).drop ((i + 1 + ps.length) * n) = cs.drop ((i + (ps.length + 1)) * n) := by
          unfold splice
          have e4 : (i + 1 + ps.length) * n = (i * n + n) + ps.length * n := by rw [Nat.add_mul, Nat.add_mul]; omega
          have e5 : (i + (ps.length + 1)) * n = (i * n + n) + ps.length * n := by rw [Nat.add_mul, Nat.add_mul]; omega
          rw [e4, e5, ← List.drop_drop, List.drop_left' (by simp [hc.1]; omega), List.drop_drop, hc.1]
        rw [e2, e3]
        simp [List.append_assoc]
      · cases h
    · cases h

theorem abuildSlice_sound {P : Program} {c : Cx P} {a : Act} {w : World} {β : Nat → Nat} {κ : Nat → Nat × Nat} (r : Rel c s a w β κ) {t : TypeId} {len : Nat} {parts : List (Nat × AV)} {vals : Array (Nat × Value)} (hl : parts.length = vals.size)
    (hp : ∀ i, i < parts.length → (parts.getD i default).1 = (vals.toList.getD i default).1 ∧ G w (c.XX s.h β) β κ (parts.getD i default).2 (vals.toList.getD i default).2) {v : AV} (h : abuildSlice P t len parts = some v) :
    ∃ V ob, (Instr.buildSlice t len vals).run P w = .ok V (w.alloc ob) ∧ D (w.alloc ob) (c.XX s.h β) v V := by
  unfold abuildSlice at h
  split at h
  · rename_i e he
    split at h
    · rename_i n z hn hz
      split at h
      · cases h
      · rename_i hc
        simp only [not_or, Nat.not_lt] at hc
        obtain ⟨hn0, hc1, hc2⟩ := hc
        have hc2 : z.cells.size = n := by simpa using hc2
        have hnb : ¬ (len * n > 2 ^ 24) := by omega
        split at h
        · rename_i hl0
          subst hl0
          split at h
          · cases h
            have : vals = #[] := Array.size_eq_zero_iff.1 (by simpa using hl.symm)
            subst this
            refine ⟨.slice (some ⟨w.heap.size, 0, none⟩) 0 0, .cells #[] e, ?_, .eslice _⟩
            simp only [Instr.buildSlice, Sem.run_bind, run_under (uSl_spec he), Result.andThen, run_sizeOf hn]
            simp [Instr.fill, newRow, go_sem]
          · cases h
        · rename_i hl0
          split at h
          · rename_i xs hxs
            split at h
            · rename_i hcc
              cases h
              simp only [Bool.and_eq_true] at hcc
              obtain ⟨p1, p2, p3, p4⟩ := pcells_spec hxs
              have hxl : xs.length = len := beq_t.1 hcc.2
              let zs : Array Value := (Array.range (len * n)).map (z.cells[· % z.cells.size]!)
              have hzs : zs.size = len * n := by simp [zs]
              have hle : (0 + parts.length) * n ≤ (zs.toList.map AV.of1).length := by simp [hzs, ← p1, hxl]
              obtain ⟨arr, a1, a2, a3⟩ := afill_sound (w := w) (X := c.XX s.h β) (β := β) (κ := κ) parts vals.toList (zs.toList.map AV.of1) zs (by simpa using hl) hp (by simp) (G_zero _) _ (afill_order parts 0 xs _ hxs hcc.1 hle)
              have hflat : (List.take (0 * n) (zs.toList.map AV.of1) ++ xs.flatten ++ List.drop ((0 + parts.length) * n) (zs.toList.map AV.of1)) = xs.flatten := by
                rw [Nat.zero_mul, List.take_zero, List.nil_append, List.drop_eq_nil_of_le (by simp [hzs, ← p1, hxl]), List.append_nil]
              rw [hflat] at a2 a3
              have hfl := flatten_len p2
              refine ⟨.slice (some ⟨w.heap.size, 0, none⟩) len len, .cells arr e, ?_, ?_⟩
              · simp only [Instr.buildSlice, Sem.run_bind, run_under (uSl_spec he), Result.andThen, run_sizeOf hn]
                rw [if_neg hnb]
                have h0 : ¬ (len * n = 0) := by rw [Nat.mul_eq_zero]; omega
                simp only [h0, if_false, Sem.run_bind, run_zero hz, Result.andThen, pure_bind]
                have : Instr.fill (fun i => some (i * n, n)) ((Array.range (len * n)).map (z.cells[· % z.cells.size]!)) vals.toList = some arr := a1
                rw [this]
                simp [newRow, go_sem]
              · obtain ⟨_, r2, r3⟩ := r.more (.cells arr e)
                have hd := D.dslice (w := w.alloc (.cells arr e)) (X := c.XX s.h β) xs w.heap.size 0 len n (fun i j => arr.getD (i * n + j) undef) (by omega) (by unfold maxLen; have : len * 1 ≤ len * n := Nat.mul_le_mul_left _ (by omega); omega) (by omega) r3
                  (fun i hi => p2.getD hi) (fun i j hi hj => ?_) (fun i j hi hj => ?_)
                · rw [hxl] at hd; exact hd
                · have : i * n + j < arr.size := by
                    rw [a2, hfl]
                    have : (i + 1) * n ≤ xs.length * n := Nat.mul_le_mul_right _ hi
                    rw [Nat.add_mul] at this; omega
                  rw [Nat.zero_add]
                  exact cell_of_cells (heap_new w _) this
                · have hij : i * n + j < xs.flatten.length := by
                    rw [hfl]
                    have : (i + 1) * n ≤ xs.length * n := Nat.mul_le_mul_right _ hi
                    rw [Nat.add_mul] at this; omega
                  have := r2 (a3 (i * n + j) hij)
                  rw [flatten_getD p2 hi hj] at this
                  refine this.toD ?_
                  have hxm : xs.getD i [] ∈ xs := by
                    rw [List.getD_eq_getElem?_getD, List.getElem?_eq_getElem hi]; exact List.getElem_mem hi
                  exact flL_getD (by rw [p2.getD hi]; exact hj) (p3 _ hxm)
            · cases h
          · cases h
    · cases h
  · cases h

theorem op_buildSlice {t : TypeId} {len : Nat} {ps : Array (Nat × Operand)} (hg : gd ops s o = some true) (hop : o.op = .buildSlice t len ps) {v : AV} (hv : abuildSlice P t len (s.parts ps) = some v) {s' : AS} (h : s.put o.dst v = some s') : OpT P ops o s (· = s') :=
  op_runs hg fun c a w β κ r => by
    obtain ⟨h1, h2⟩ := parts_spec r ps
    obtain ⟨V, ob, hr, hD⟩ := abuildSlice_sound r h1 h2 hv
    refine ⟨V, w.alloc ob, β, κ, .inl ?_, put_spec (r.more ob).1 (.d hD) h⟩
    simp only [execOp, hop]
    show ((Instr.buildSlice t len (ps.map fun p => (p.1, a.eval p.2))) >>= fun x => pure (Next.value x)).run P w = _
    rw [Sem.run_bind, hr]; rfl

/-- make(map[K]V). -/
def amakeMap (P : Program) (s : AS) (t : TypeId) (k : Nat) : Option AS :=
  match P.underlying t with
  | some (.map K E) => s.fresh k (.smap K E []) (.amap k)
  | _ => none
theorem op_makeMap {t : TypeId} {k : Nat} (hg : gd ops s o = some true) (hop : o.op = .makeMap t none) (hd : o.dst = some k) {s' : AS} (h : amakeMap P s t k = some s') : OpT P ops o s (· = s') :=
  op_runs hg fun c a w β κ r => by
    unfold amakeMap at h
    split at h
    · rename_i K E hu
      refine ⟨.map (some w.heap.size), w.alloc (.map #[] 0), _, _, .inl ?_, by
        rw [hd]
        refine fresh_spec r h (Nat.le_refl _) (fun i hi => heap_old w _ hi) (keeps_alloc _ _ _ r.Klt) (cap := (0, 0)) ⟨#[], 0, by rw [upd_same]; exact heap_new w _, rfl, fun i hi => by simp at hi, fun i j hi => by simp at hi, by simp [KeysOk]⟩ ?_
        have := G.amap (w := w.alloc (.map #[] 0)) (X := c.XX (ins k (.smap K E []) (pgH k s.h)) (upd β k w.heap.size)) (β := upd β k w.heap.size) (κ := upd κ k (0, 0)) k
        rwa [upd_same] at this⟩
      simp only [execOp, hop, Instr.makeMap, Option.map_none]
      simp [go_sem]
    · cases h
end
end Go.Ab
