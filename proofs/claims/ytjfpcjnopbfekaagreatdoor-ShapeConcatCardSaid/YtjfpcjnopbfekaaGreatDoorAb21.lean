/- ABSTRACT STATES: what a printed walk uses. -/
import Derived.Test.YtjfpcjnopbfekaaGreatDoorAb20
set_option linter.unusedSimpArgs false
set_option linter.unusedVariables false
namespace Go.Ab
open Go.RowKit
section
variable {P : Program} {Q : Exit → AS → Prop} {s s' : AS} {l : List Oper} {id : Nat}

/-- Of a state only these slots and objects. -/
def AS.only (s : AS) (ts hs : List Nat) : AS := ⟨s.n, sel ts s.t, sel hs s.h⟩
def trm (ts hs : List Nat) : Option (List Prop × AS × List Oper) → Option (List Prop × AS × List Oper)
  | some (ps, s, os) => some (ps, s.only ts hs, os)
  | none => none
theorem trm_spec {ts hs : List Nat} {x : Option (List Prop × AS × List Oper)} {ps : List Prop} {os : List Oper} (h : trm ts hs x = some (ps, s', os)) : ∃ s2, x = some (ps, s2, os) ∧ s' = s2.only ts hs := by
  unfold trm at h
  split at h
  · cases h; exact ⟨_, rfl, rfl⟩
  · cases h

theorem l_only {ops : Array Oper} {rest : List Oper} (ts hs : List Nat) (h : TriL P ops rest Q (s.only ts hs)) : TriL P ops rest Q s := l_sel ts hs h
theorem tri_only {cd : Code} (ts hs : List Nat) (h : Tri P cd Q (s.only ts hs)) : Tri P cd Q s := tri_sel ts hs h
theorem l_nil_only {ops : Array Oper} (ts hs : List Nat) (h : Q .normal (s.only ts hs)) : TriL P ops [] Q s := l_only ts hs (l_nil h)

/-- A region. -/
theorem t_run (ts hs : List Nat) (ds : List Dir) {ps : List Prop} (hp : All ps) (h : trm ts hs (runS P l.toArray l ds s) = some (ps, s', [])) (hq : Q .normal s') : Tri P (.region id l.toArray false) Q s := by
  obtain ⟨s2, h1, rfl⟩ := trm_spec h
  exact tri_region (runS_sound ds h1 hp (l_nil_only ts hs hq))
theorem t_part (ts hs : List Nat) (ds : List Dir) {ps : List Prop} {os : List Oper} (hp : All ps) (h : trm ts hs (runS P l.toArray l ds s) = some (ps, s', os)) (hq : TriL P l.toArray os Q s') : Tri P (.region id l.toArray false) Q s := by
  obtain ⟨s2, h1, rfl⟩ := trm_spec h
  exact tri_region (runS_sound ds h1 hp (l_only ts hs hq))
theorem l_part {ops : Array Oper} {os os' : List Oper} (ts hs : List Nat) (ds : List Dir) {ps : List Prop} (hp : All ps) (h : trm ts hs (runS P ops os ds s) = some (ps, s', os')) (hq : TriL P ops os' Q s') : TriL P ops os Q s := by
  obtain ⟨s2, h1, rfl⟩ := trm_spec h
  exact runS_sound ds h1 hp (l_only ts hs hq)
theorem l_end {ops : Array Oper} {os : List Oper} (ts hs : List Nat) (ds : List Dir) {ps : List Prop} (hp : All ps) (h : trm ts hs (runS P ops os ds s) = some (ps, s', [])) (hq : Q .normal s') : TriL P ops os Q s := by
  obtain ⟨s2, h1, rfl⟩ := trm_spec h
  exact runS_sound ds h1 hp (l_nil_only ts hs hq)
theorem t_draw (hm : P.follows .mixedOrders = true) (n : Nat) (ts hs : List Nat) (d1 d2 : List Dir) {ps : List Prop} (hp : All ps) (h : trm ts hs (runD P l n d1 d2 s) = some (ps, s', [])) (hq : Q .normal s') : Tri P (.region id l.toArray true) Q s := by
  obtain ⟨s2, h1, rfl⟩ := trm_spec h
  unfold runD at h1
  split at h1
  · rename_i ps1 es he
    obtain ⟨hc, h2⟩ := bif_some h1
    split at h2
    · rename_i qs r hr
      simp only [Option.some.injEq, Prod.mk.injEq] at h2
      obtain ⟨h3, h4⟩ := h2
      subst h3; subst h4
      obtain ⟨p1, p2⟩ := All.append.1 hp
      exact tri_draw hm n es hc (runE_sound he p1) (runS_sound d2 hr p2 (l_nil_only ts hs hq))
    · cases h2
  · cases h1

/-- A LOOP: a family of states, with a number that every round lowers. -/
theorem t_loop {ι : Type} {y : Code} (S : ι → AS) (φ : ι → Prop) (μ : ι → Nat) (i₀ : ι) (ts hs : List Nat) (h₀ : φ i₀) (hS₀ : s.only ts hs = S i₀)
    (round : ∀ i, φ i → Tri P y (thn (fun s' => ∃ j ts hs, φ j ∧ μ j < μ i ∧ s'.only ts hs = S j) Q) (S i)) : Tri P (.loop y) Q s := fun c a w β κ r => by
  have r := r.sel ts hs
  have e : s.only ts hs = S i₀ := hS₀
  unfold AS.only at e
  rw [e] at r
  refine wp_loop_ghost (fun n a w => ∃ i β κ, φ i ∧ μ i = n ∧ Rel c (S i) a w β κ) (μ i₀) ⟨i₀, β, κ, h₀, rfl, r⟩ ?_
  rintro n a w ⟨i, β, κ, hi, rfl, r⟩
  refine wp_mono (round i hi c a w β κ r) fun e a' w' ⟨s', β', κ', q, r'⟩ => ?_
  cases e with
  | normal =>
    obtain ⟨j, ts, hs, hj, hlt, hS⟩ := q
    have r2 := r'.sel ts hs
    unfold AS.only at hS
    rw [hS] at r2
    exact ⟨μ j, hlt, j, β', κ', hj, rfl, r2⟩
  | exit id => exact ⟨s', β', κ', q, r'⟩
  | goto l => exact ⟨s', β', κ', q, r'⟩
  | ret => exact ⟨s', β', κ', q, r'⟩
  | panic ch => exact ⟨s', β', κ', q, r'⟩
  | outgrown => exact ⟨s', β', κ', q, r'⟩

/-- Where several ways meet: every way leads to a state of the family. -/
theorem t_join {ι : Type} {x y : Code} (S : ι → AS) (φ : ι → Prop) (h : Tri P x (thn (fun s' => ∃ j ts hs, φ j ∧ s'.only ts hs = S j) Q) s) (h2 : ∀ j, φ j → Tri P y Q (S j)) : Tri P (.seq x y) Q s :=
  tri_seq (h.mono fun e s' q => by
    cases e with
    | normal =>
      obtain ⟨j, ts, hs, hj, hS⟩ := q
      exact tri_only ts hs (hS ▸ h2 j hj)
    | _ => exact q)

theorem all_nil : All [] := trivial
theorem all_cons {p : Prop} {ps : List Prop} (h : p) (h2 : All ps) : All (p :: ps) := All.cons.2 ⟨h, h2⟩
theorem all_app {ps qs : List Prop} (h : All ps) (h2 : All qs) : All (ps ++ qs) := All.append.2 ⟨h, h2⟩

theorem AFn.eq {f : FuncId} {args : List AV} {v v' : AV} (h : AFn P f args v) (e : v = v') : ACall P f args [] fun r _ => r = v' := ACall.mono h fun _ _ hr => hr.1.trans e
theorem AFn.is {f : FuncId} {args : List AV} {v : AV} (h : AFn P f args v) : ACall P f args [] fun r _ => r = v := ACall.mono h fun _ _ hr => hr.1

/-- &l[i]. -/
theorem ix {α : Type} {f : α → List AV} {l : List α} {n : Nat} {sz : Nat} (d : α) (hf : ∀ x, (f x).length = sz) (h0 : 0 < sz) (h : n < l.length) :
    All [((0 : Int) ≤ (n : Int) ∧ (n : Int) < ((l.map f).length : Int)) ∧ (((l.map f).getD (n : Int).toNat []).length = sz ∧ 0 < sz), AV.dptr ((l.map f).getD (n : Int).toNat []) = .dptr (f (l.getD n d))] := by
  have e : (l.map f).getD (n : Int).toNat [] = f (l.getD n d) := by
    simp [List.getD_eq_getElem?_getD, List.getElem?_eq_getElem h]
  refine ⟨⟨⟨by omega, by simpa using h⟩, ?_, h0⟩, ?_⟩
  · rw [e]; exact hf _
  · rw [e]; rfl

/-- &l[n], n a number of Go. -/
theorem ixz {α : Type} {f : α → List AV} {l : List α} {n : Int} {sz : Nat} (d : α) (hf : ∀ x, (f x).length = sz) (h0 : 0 < sz) (h : 0 ≤ n ∧ n < l.length) :
    All [((0 : Int) ≤ n ∧ n < ((l.map f).length : Int)) ∧ (((l.map f).getD n.toNat []).length = sz ∧ 0 < sz), AV.dptr ((l.map f).getD n.toNat []) = .dptr (f (l.getD n.toNat d))] := by
  have hn : n.toNat < l.length := by omega
  have e : (l.map f).getD n.toNat [] = f (l.getD n.toNat d) := by
    simp [List.getD_eq_getElem?_getD, List.getElem?_eq_getElem hn]
  refine ⟨⟨⟨h.1, by simpa using h.2⟩, ?_, h0⟩, ?_⟩
  · rw [e]; exact hf _
  · rw [e]; rfl
theorem lenm {α : Type} (f : α → List AV) (l : List α) : AV.int .i64 ((l.map f).length : Nat) = .int .i64 (l.length : Nat) := by rw [List.length_map]

/-! ### lengths -/
def lens1 : AV → List Prop
  | .str l => [l.length ≤ 9223372036854775807]
  | .dslice xs => [xs.length ≤ 9223372036854775807]
  | _ => []
def lensC : List AV → List Prop
  | [] => []
  | c :: cs => lens1 c ++ lensC cs
def lens : AV → List Prop
  | .agg cs => lensC cs
  | .tup cs => lensC cs
  | v => lens1 v
theorem lens1_all {w : World} {X : Nat → Prop} {β : Nat → Nat} {κ : Nat → Nat × Nat} {v : AV} {V : Value} (h : G w X β κ v V) : All (lens1 v) := by
  unfold lens1
  split
  · exact h.str_len
  · obtain ⟨_, _, _, _, h1, h2⟩ := h.dslice_inv
    exact Nat.le_trans h1 h2
  · trivial
theorem lensC_all {w : World} {X : Nat → Prop} {β : Nat → Nat} {κ : Nat → Nat × Nat} : ∀ {cs : List AV} {vs : Nat → Value}, (∀ i, i < cs.length → G w X β κ (cs.getD i .any) (vs i)) → All (lensC cs)
  | [], _, _ => trivial
  | c :: cs, vs, h => All.append.2 ⟨lens1_all (h 0 (by simp)), lensC_all (vs := fun i => vs (i + 1)) fun i hi => by simpa using h (i + 1) (by simpa using hi)⟩
theorem lens_all {w : World} {X : Nat → Prop} {β : Nat → Nat} {κ : Nat → Nat × Nat} {v : AV} {V : Value} (h : G w X β κ v V) : All (lens v) := by
  unfold lens
  split
  · obtain ⟨vs, _, _, hg⟩ := h.agg_inv
    exact lensC_all hg
  · obtain ⟨vs, _, _, hg⟩ := h.tup_inv
    exact lensC_all hg
  · exact lens1_all h
/-- No string, no slice is longer than Go's numbers go. -/
theorem t_lens {cd : Code} (t : Nat) {ps : List Prop} (h : lens (lk .any s.t t) = ps) (ht : All ps → Tri P cd Q s) : Tri P cd Q s := fun c a w β κ r =>
  ht (h ▸ lens_all (r.tm t)) c a w β κ r

/-- The step of a loop over a map. -/
theorem t_next {o : Oper} {rest : List Oper} {it : Operand} {k : Nat} {es : List (List UInt8 × AV)} {seen : List Nat} (hg : gd (o :: rest).toArray s o = some true) (hop : o.op = .next it false) (hi : s.op it = .hptr k 0) (hk : lk .gone s.h k = .iter es seen)
    (s0 : AS) (h0 : s.put o.dst (.tup [.bool false]) = some s0) (s1 : Nat → AS) (h1 : ∀ i, AS.put ⟨s.n, s.t, ins k (.iter es (seen ++ [i])) s.h⟩ o.dst (.tup [.bool true, .str (es.getD i default).1, (es.getD i default).2]) = some (s1 i))
    (t0 : (∀ i, i < es.length → i ∈ seen) → TriL P (o :: rest).toArray rest Q s0) (t1 : ∀ i, i < es.length → i ∉ seen → TriL P (o :: rest).toArray rest Q (s1 i)) : Tri P (.region id (o :: rest).toArray false) Q s :=
  tri_region (l_cons (op_next hg hop hi hk (fun ha => ⟨s0, h0, t0 ha⟩) (fun i hi hn => ⟨s1 i, h1 i, t1 i hi hn⟩)))

/-- The same, the state behind it said in other words. -/
theorem t_run_eq {s2 : AS} (ts hs : List Nat) (ds : List Dir) {ps : List Prop} (hp : All ps) (h : trm ts hs (runS P l.toArray l ds s) = some (ps, s', [])) (e : s' = s2) (hq : Q .normal s2) : Tri P (.region id l.toArray false) Q s := t_run ts hs ds hp h (e ▸ hq)
theorem t_draw_eq {s2 : AS} (hm : P.follows .mixedOrders = true) (n : Nat) (ts hs : List Nat) (d1 d2 : List Dir) {ps : List Prop} (hp : All ps) (h : trm ts hs (runD P l n d1 d2 s) = some (ps, s', [])) (e : s' = s2) (hq : Q .normal s2) : Tri P (.region id l.toArray true) Q s := t_draw hm n ts hs d1 d2 hp h (e ▸ hq)

/-- A row that has grown by one. -/
theorem map_snoc {α : Type} (f : α → List AV) (l : List α) (x : α) : l.map f ++ [f x] = (l ++ [x]).map f := by simp
end
end Go.Ab
