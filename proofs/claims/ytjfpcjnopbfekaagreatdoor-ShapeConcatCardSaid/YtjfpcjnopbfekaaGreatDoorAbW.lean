/- ABSTRACT STATES: numbers that wrap around; empty slices as arguments. -/
import Derived.Test.YtjfpcjnopbfekaaGreatDoorAbI
import Derived.Laws.StructEq
set_option linter.unusedSimpArgs false
set_option linter.unusedVariables false
namespace Go.Ab
open Go.RowKit

/-! ### an empty slice is a slice that nobody writes to -/
def modAt {α : Type} (f : α → α) : Nat → List α → List α
  | _, [] => []
  | 0, x :: xs => f x :: xs
  | i + 1, x :: xs => x :: modAt f i xs
theorem modAt_len {α : Type} (f : α → α) : ∀ (i : Nat) (l : List α), (modAt f i l).length = l.length
  | _, [] => by simp [modAt]
  | 0, x :: xs => by simp [modAt]
  | i + 1, x :: xs => by simp [modAt, modAt_len f i xs]
theorem modAt_getD {α : Type} (f : α → α) (d : α) : ∀ (i : Nat) (l : List α) (j : Nat), (modAt f i l).getD j d = l.getD j d ∨ (modAt f i l).getD j d = f (l.getD j d)
  | _, [], j => by simp [modAt]
  | 0, x :: xs, 0 => by simp [modAt]
  | 0, x :: xs, j + 1 => by simp [modAt]
  | i + 1, x :: xs, 0 => by simp [modAt]
  | i + 1, x :: xs, j + 1 => by simpa [modAt] using modAt_getD f d i xs j

/-- At a place inside a value: 'eslice' is said as 'dslice []'. -/
def AV.wk0 : AV → AV
  | .eslice => .dslice []
  | v => v
def AV.at (f : AV → AV) (i j : Nat) : AV → AV
  | .agg cs => .agg (modAt f i cs)
  | .tup cs => .tup (modAt f i cs)
  | .fn g cs => .fn g (modAt f i cs)
  | .dptr cs => .dptr (modAt f i cs)
  | .dslice xs => .dslice (modAt (modAt f j) i xs)
  | v => v
def AV.wk : List (Nat × Nat) → AV → AV
  | [] => AV.wk0
  | (i, j) :: p => AV.at (AV.wk p) i j

theorem modAt_all {α : Type} {f : α → α} {d : α} {R : α → Prop} (hf : ∀ x, R x → R (f x)) (i : Nat) (l : List α) (j : Nat) (h : R (l.getD j d)) : R ((modAt f i l).getD j d) := by
  rcases modAt_getD f d i l j with e | e
  · rw [e]; exact h
  · rw [e]; exact hf _ h

theorem D.wk0 {w : World} {X : Nat → Prop} {v : AV} {V : Value} (h : D w X v V) : D w X (AV.wk0 v) V := by
  unfold AV.wk0
  split
  · cases h with | eslice a => exact .dnil a 0 (Nat.zero_le _)
  · exact h
theorem D.at {w : World} {X : Nat → Prop} {f : AV → AV} (hf : ∀ v V, D w X v V → D w X (f v) V) (i j : Nat) {v : AV} {V : Value} (h : D w X v V) : D w X (AV.at f i j v) V := by
  unfold AV.at
  split
  · cases h with | agg cs vs hl hg => exact .agg _ vs (by rw [modAt_len]; exact hl) fun j hj => modAt_all (R := fun x => D w X x (vs.getD j undef)) (fun x hx => hf _ _ hx) i _ j (hg j (by rw [modAt_len] at hj; exact hj))
  · cases h with | tup cs vs hl hg => exact .tup _ vs (by rw [modAt_len]; exact hl) fun j hj => modAt_all (R := fun x => D w X x (vs.getD j undef)) (fun x hx => hf _ _ hx) i _ j (hg j (by rw [modAt_len] at hj; exact hj))
  · cases h with | fn g cs vs hl hg => exact .fn _ _ vs (by rw [modAt_len]; exact hl) fun j hj => modAt_all (R := fun x => D w X x (vs.getD j undef)) (fun x hx => hf _ _ hx) i _ j (hg j (by rw [modAt_len] at hj; exact hj))
  · cases h with | dptr cs b o cv h0 h1 h2 h3 => exact .dptr _ b o cv (by rw [modAt_len]; exact h0) h1 (fun j hj => h2 j (by rw [modAt_len] at hj; exact hj)) fun j hj => modAt_all (R := fun x => D w X x (cv j)) (fun x hx => hf _ _ hx) i _ j (h3 j (by rw [modAt_len] at hj; exact hj))
  · rename_i xs
    cases h with
    | dnil a cap hc => cases i <;> exact .dnil a cap hc
    | dslice _ b o cap sz cv h1 h2 h0 h3 h4 h5 h6 =>
      have key : ∀ a, ((modAt (modAt f j) i xs).getD a []).length = (xs.getD a []).length := fun a =>
        modAt_all (R := fun x => x.length = (xs.getD a []).length) (fun x hx => by rw [modAt_len]; exact hx) i xs a rfl
      have key2 : ∀ a k, a < xs.length → k < sz → D w X (((modAt (modAt f j) i xs).getD a []).getD k .any) (cv a k) := fun a k ha hk =>
        modAt_all (R := fun x => D w X (x.getD k .any) (cv a k)) (fun x hx => modAt_all (R := fun y => D w X y (cv a k)) (fun y hy => hf _ _ hy) j x k hx) i xs a (h6 a k ha hk)
      have hl := modAt_len (modAt f j) i xs
      rw [← hl]
      exact .dslice _ b o cap sz cv (by rw [modAt_len]; exact h1) h2 h0 h3 (fun a ha => by rw [key]; exact h4 a (by rw [modAt_len] at ha; exact ha))
        (fun a k ha hk => h5 a k (by rw [modAt_len] at ha; exact ha) hk) (fun a k ha hk => key2 a k (by rw [modAt_len] at ha; exact ha) hk)
  · exact h
theorem D.wk {w : World} {X : Nat → Prop} : ∀ (p : List (Nat × Nat)) {v : AV} {V : Value}, D w X v V → D w X (AV.wk p v) V
  | [], _, _, h => h.wk0
  | (i, j) :: p, _, _, h => D.at (fun _ _ h => D.wk p h) i j h
theorem G.wk {w : World} {X : Nat → Prop} {β : Nat → Nat} {κ : Nat → Nat × Nat} : ∀ (p : List (Nat × Nat)) {v : AV} {V : Value}, G w X β κ v V → G w X β κ (AV.wk p v) V
  | [], v, V, h => by
    cases h with
    | d h => exact .d h.wk0
    | hptr k o => exact .hptr k o
    | rslice k h => exact .rslice k h
    | rslice0 k a h => exact .rslice0 k a h
    | gslice k => exact .gslice k
    | amap k => exact .amap k
    | bm f k o => exact .bm f k o
    | fn f cs vs h1 h2 => exact .fn f cs vs h1 h2
    | agg cs vs h1 h2 => exact .agg cs vs h1 h2
    | tup cs vs h1 h2 => exact .tup cs vs h1 h2
  | (i, j) :: p, v, V, h => by
    cases h with
    | d h => exact .d (h.wk _)
    | hptr k o => exact .hptr k o
    | rslice k h => exact .rslice k h
    | rslice0 k a h => exact .rslice0 k a h
    | gslice k => exact .gslice k
    | amap k => exact .amap k
    | bm f k o => exact .bm f k o
    | fn f cs vs h1 h2 => exact .fn _ _ vs (by rw [modAt_len]; exact h1) fun j hj => modAt_all (R := fun x => G w X β κ x (vs.getD j undef)) (fun x hx => G.wk p hx) i cs j (h2 j (by rw [modAt_len] at hj; exact hj))
    | agg cs vs h1 h2 => exact .agg _ vs (by rw [modAt_len]; exact h1) fun j hj => modAt_all (R := fun x => G w X β κ x (vs.getD j undef)) (fun x hx => G.wk p hx) i cs j (h2 j (by rw [modAt_len] at hj; exact hj))
    | tup cs vs h1 h2 => exact .tup _ vs (by rw [modAt_len]; exact h1) fun j hj => modAt_all (R := fun x => G w X β κ x (vs.getD j undef)) (fun x hx => G.wk p hx) i cs j (h2 j (by rw [modAt_len] at hj; exact hj))

theorem men_wk (k : Nat) : ∀ (p : List (Nat × Nat)) (v : AV), AV.men k (AV.wk p v) = true → AV.men k v = true := by
  have hl : ∀ (f : AV → AV), (∀ v, AV.men k (f v) = true → AV.men k v = true) → ∀ (i : Nat) (cs : List AV), AV.menL k (modAt f i cs) = true → AV.menL k cs = true := by
    intro f hf i cs
    induction cs generalizing i with
    | nil => intro h; simpa [modAt] using h
    | cons c cs ih =>
      cases i with
      | zero =>
        simp only [modAt, AV.menL, Bool.or_eq_true]
        exact fun h => h.imp (hf c) id
      | succ i =>
        simp only [modAt, AV.menL, Bool.or_eq_true]
        exact fun h => h.imp id (ih i)
  intro p
  induction p with
  | nil =>
    intro v h
    simp only [AV.wk] at h
    unfold AV.wk0 at h
    split at h
    · simp [AV.men] at h
    · exact h
  | cons ij p ih =>
    intro v h
    obtain ⟨i, j⟩ := ij
    simp only [AV.wk] at h
    unfold AV.at at h
    split at h
    · simp only [AV.men] at h ⊢; exact hl _ ih i _ h
    · simp only [AV.men] at h ⊢; exact hl _ ih i _ h
    · simp only [AV.men] at h ⊢; exact hl _ ih i _ h
    · simp [AV.men] at h
    · simp [AV.men] at h
    · exact h


/-- In a slot. -/
def AS.wkT (s : AS) (t : Nat) (p : List (Nat × Nat)) : AS := ⟨s.n, ins t (AV.wk p (lk .any s.t t)) s.t, s.h⟩
theorem Rel.wkT {P : Program} {c : Cx P} {s : AS} {a : Act} {w : World} {β : Nat → Nat} {κ : Nat → Nat × Nat} (r : Rel c s a w β κ) (t : Nat) (p : List (Nat × Nat)) : Rel c (s.wkT t p) a w β κ := by
  refine ⟨r.df, r.sz, fun i => ?_, r.hp⟩
  show G w _ β κ (lk .any (ins t _ s.t) i) _
  rw [lk_ins]
  by_cases h : i = t
  · subst h; rw [if_pos rfl]; exact (r.tm i).wk p
  · rw [if_neg h]; exact r.tm i

/-- An argument said in other words. -/
def wkArgs : List (Nat × List (Nat × Nat)) → List AV → List AV
  | [], xs => xs
  | (i, p) :: ps, xs => wkArgs ps (modAt (AV.wk p) i xs)
theorem wkArgs_len : ∀ (ps : List (Nat × List (Nat × Nat))) (xs : List AV), (wkArgs ps xs).length = xs.length
  | [], xs => rfl
  | (i, p) :: ps, xs => by rw [wkArgs, wkArgs_len ps, modAt_len]
theorem wkArgs_G {w : World} {X : Nat → Prop} {β : Nat → Nat} {κ : Nat → Nat × Nat} {V : Value} {j : Nat} : ∀ (ps : List (Nat × List (Nat × Nat))) (xs : List AV), G w X β κ (xs.getD j .any) V → G w X β κ ((wkArgs ps xs).getD j .any) V
  | [], xs, h => h
  | (i, p) :: ps, xs, h => wkArgs_G ps _ (modAt_all (R := fun x => G w X β κ x V) (fun x hx => hx.wk p) i xs j h)
theorem ACall.wk {P : Program} {f : FuncId} {args : List AV} {h : List (Nat × AO)} {Q : AV → List (Nat × AO) → Prop} (ps : List (Nat × List (Nat × Nat))) (hc : ACall P f (wkArgs ps args) h Q) : ACall P f args h Q :=
  fun c vs hl hr hg => hc c vs (by rw [wkArgs_len]; exact hl) hr fun i hi => wkArgs_G ps args (hg i (by rw [wkArgs_len] at hi; exact hi))

/-! ### numbers that wrap around -/
def w64 (n : Int) : Int := IntKind.i64.wrap n
theorem w64_id {n : Int} (h : I64 n) : w64 n = n := wrap64 h
/-- Two structs, field by field. -/
def eqF (P : Program) (xs ys : List AV) : List Field → Option Bool
  | [] => some true
  | f :: fs => bif f.name == "_" then none else bif Nat.blt f.offset xs.length && Nat.blt f.offset ys.length then (match P.underlying f.type, xs.getD f.offset .any, ys.getD f.offset .any with
    | some (.int _), .int k a, .int k' b => bif decide (k = k') then (match eqF P xs ys fs with | some r => some ((a == b) && r) | none => none) else none
    | some .bool, .bool a, .bool b => (match eqF P xs ys fs with | some r => some ((a == b) && r) | none => none)
    | some .string, .str a, .str b => (match eqF P xs ys fs with | some r => some ((a == b) && r) | none => none)
    | _, _, _ => none) else none
def fsOf (P : Program) (t : TypeId) : Option (List Field) := match P.underlying t with | some (.struct fs) => bif !P.stoodInHeld t && !P.eqGuardType P.depth t then some fs.toList else none | _ => none
def awr (P : Program) (s : AS) : Op → Option (Prop × AV)
  | .binOp op t x y _ => match s.op x, s.op y with
    | .agg xs, .agg ys => match fsOf P t with
      | some fs => match eqF P xs ys fs with
        | some r => match op with
          | .eql => some (True, .bool r)
          | .neq => some (True, .bool !r)
          | _ => none
        | none => none
      | none => none
    | .int .i64 a, .int .i64 b => match op with
      | .add => some (True, .int .i64 (w64 (a + b)))
      | .sub => some (True, .int .i64 (w64 (a - b)))
      | .mul => some (True, .int .i64 (w64 (a * b)))
      | .quo => some (b ≠ 0, .int .i64 (w64 (a.tdiv b)))
      | _ => none
    | _, _ => none
  | .unOp .neg _ x => match s.op x with
    | .int .i64 a => some (True, .int .i64 (w64 (0 - a)))
    | _ => none
  | .index t x i => match s.op x, s.op i with
    | .agg cs, .int _ n => match uArr P t with
      | some (len, e) => match agB P e, szOf P e with
        | some false, some 1 => some (0 ≤ n ∧ n < len ∧ n < cs.length, cs.getD n.toNat .any)
        | _, _ => none
      | none => none
    | _, _ => none
  | _ => none
section
variable {P : Program} {ops : Array Oper} {o : Oper} {s : AS}
theorem run_part1 {w : World} {t : TypeId} {vs : Array Value} {off : Nat} (hag : agB P t = some false) (h : off < vs.size) : (part t vs off).run P w = .ok (vs.getD off undef) w := by
  simp [part, run_isAgg hag, Array.getElem?_eq_getElem h, Array.getD_eq_getD_getElem?, go_sem]
theorem eqF_sound {w : World} {X : Nat → Prop} {β : Nat → Nat} {κ : Nat → Nat × Nat} {xs ys : List AV} {Xs Ys : Array Value} (hx : xs.length = Xs.size) (hy : ys.length = Ys.size) (gx : ∀ i, i < xs.length → G w X β κ (xs.getD i .any) (Xs.getD i undef)) (gy : ∀ i, i < ys.length → G w X β κ (ys.getD i .any) (Ys.getD i undef)) (d : Nat) :
    ∀ (fs : List Field) (r : Bool), eqF P xs ys fs = some r → (Op.eqFields (d + 1) Xs Ys fs).run P w = .ok r w
  | [], r, h => by cases h; rfl
  | f :: fs, r, h => by
    unfold eqF at h
    cases hn : f.name == "_" with
    | true => rw [hn] at h; cases h
    | false =>
      rw [hn] at h
      simp only [cond_false] at h
      obtain ⟨hb, h⟩ := (show (Nat.blt f.offset xs.length && Nat.blt f.offset ys.length) = true ∧ _ from by
        cases hb : (Nat.blt f.offset xs.length && Nat.blt f.offset ys.length) with
        | true => rw [hb] at h; exact ⟨rfl, h⟩
        | false => rw [hb] at h; cases h)
      simp only [Bool.and_eq_true, Nat.blt_eq] at hb
      have g1 := gx f.offset hb.1
      have g2 := gy f.offset hb.2
      have hne : f.name ≠ "_" := by simpa using hn
      simp only [Op.eqFields, ne_eq, hne, not_false_eq_true, if_true, Sem.run_bind]
      split at h
      · rename_i k' k a k2 b hu e1 e2
        rw [e1] at g1; rw [e2] at g2
        have hag : agB P f.type = some false := by simp [agB, hu]
        cases hk : decide (k = k2) with
        | false => rw [hk] at h; cases h
        | true =>
          rw [hk] at h
          have hk := of_decide_eq_true hk
          subst hk
          simp only [cond_true] at h
          split at h
          · rename_i r' hr
            cases h
            have q1 := run_part1 (P := P) (w := w) (vs := Xs) hag (by omega : f.offset < Xs.size)
            have q2 := run_part1 (P := P) (w := w) (vs := Ys) hag (by omega : f.offset < Ys.size)
            simp only [q1, q2, g1.int_inv, g2.int_inv, Result.andThen, run_equalIn_int w d f.type k k' a b hu]
            cases hab : a == b with
            | true => simp [eqF_sound hx hy gx gy d fs r' hr]
            | false => simp
          · cases h
      · rename_i a b hu e1 e2
        rw [e1] at g1; rw [e2] at g2
        have hag : agB P f.type = some false := by simp [agB, hu]
        split at h
        · rename_i r' hr
          cases h
          have q1 := run_part1 (P := P) (w := w) (vs := Xs) hag (by omega : f.offset < Xs.size)
          have q2 := run_part1 (P := P) (w := w) (vs := Ys) hag (by omega : f.offset < Ys.size)
          simp only [q1, q2, g1.bool_inv, g2.bool_inv, Result.andThen, run_equalIn_bool' w d f.type a b hu]
          cases hab : a == b with
          | true => simp [eqF_sound hx hy gx gy d fs r' hr]
          | false => simp
        · cases h
      · rename_i a b hu e1 e2
        rw [e1] at g1; rw [e2] at g2
        have hag : agB P f.type = some false := by simp [agB, hu]
        split at h
        · rename_i r' hr
          cases h
          have q1 := run_part1 (P := P) (w := w) (vs := Xs) hag (by omega : f.offset < Xs.size)
          have q2 := run_part1 (P := P) (w := w) (vs := Ys) hag (by omega : f.offset < Ys.size)
          simp only [q1, q2, g1.str_inv, g2.str_inv, Result.andThen, run_equalIn_string w d f.type _ _ hu, toList_mk]
          cases hab : a == b with
          | true => simp [eqF_sound hx hy gx gy d fs r' hr]
          | false => simp
        · cases h
      · cases h
theorem awr_sound {c : Cx P} {a : Act} {w : World} {β : Nat → Nat} {κ : Nat → Nat × Nat} (r : Rel c s a w β κ) {op : Op} {p : Prop} {v : AV} (h : awr P s op = some (p, v)) (hp : p) (dst : Option Tmp) (ty : TypeId) (pos : String) (af : Array Edge) (g : Option (Nat × Bool)) :
    Gives P c s a w β κ ⟨dst, op, ty, pos, af, g⟩ v := by
  unfold awr at h
  split at h
  · rename_i op t x y u
    have hx := r.op x; have hy := r.op y
    split at h
    · rename_i xs ys ex ey
      rw [ex] at hx; rw [ey] at hy
      obtain ⟨Xs, eX, lx, gx⟩ := hx.agg_inv
      obtain ⟨Ys, eY, ly, gy⟩ := hy.agg_inv
      split at h
      · rename_i fs hfs
        unfold fsOf at hfs
        split at hfs
        · rename_i fsA hu
          cases hst : (!P.stoodInHeld t && !P.eqGuardType P.depth t) with
          | false => rw [hst] at hfs; cases hfs
          | true =>
            rw [hst] at hfs; cases hfs
            simp only [Bool.and_eq_true, Bool.not_eq_true'] at hst
            have hfo : P.fieldsOf t = fsA := by simp [Program.fieldsOf, hu]
            split at h
            · rename_i rr hr
              have hrun := eqF_sound (w := w) (X := c.XX s.h β) (β := β) (κ := κ) lx ly gx gy 9998 fsA.toList rr hr
              have hst2 := run_equalIn_struct (P := P) w 9999 t Xs Ys (by rw [hfo]; exact hu) hst.1
              rw [hfo] at hst2
              split at h
              · cases h; refine ⟨_, ?_, .d (.bool _)⟩
                simp only [execOp, eX, eY, Sem.run_bind, run_eqGuard_agg w .eql t x y Xs Ys hst.2, Result.andThen, run_eql_struct, hst2, hrun]; rfl
              · cases h; refine ⟨_, ?_, .d (.bool _)⟩
                simp only [execOp, eX, eY, Sem.run_bind, run_eqGuard_agg w .neq t x y Xs Ys hst.2, Result.andThen, run_neq_struct, hst2, hrun]; rfl
              · cases h
            · cases h
        · cases hfs
      · cases h
    · rename_i m n ex ey
      rw [ex] at hx; rw [ey] at hy
      have ex := hx.int_inv; have ey := hy.int_inv
      unfold Gives
      generalize a.eval = ρ at ex ey ⊢
      split at h
      · cases h; refine ⟨_, ?_, .d (.int _ _)⟩
        simp [execOp, ex, ey, eqGuard, binOp, Op.intArith, go_sem] <;> rfl
      · cases h; refine ⟨_, ?_, .d (.int _ _)⟩
        simp [execOp, ex, ey, eqGuard, binOp, Op.intArith, go_sem] <;> rfl
      · cases h; refine ⟨_, ?_, .d (.int _ _)⟩
        simp [execOp, ex, ey, eqGuard, binOp, Op.intArith, go_sem] <;> rfl
      · cases h; refine ⟨_, ?_, .d (.int _ _)⟩
        simp [execOp, ex, ey, eqGuard, binOp, Op.intDiv, go_sem]
        simp [hp, w64]
      · cases h
    · cases h
  · rename_i t x
    have hx := r.op x
    split at h
    · rename_i n e
      rw [e] at hx; cases h
      refine gives_of rfl ⟨_, ?_, .d (.int _ _)⟩
      rw [hx.int_inv]
      simp only [Op.unary, Op.intArith]; rfl
    · cases h
  · rename_i t x i
    have hx := r.op x; have hi := r.op i
    split at h
    · rename_i cs k n ex ei
      rw [ex] at hx; rw [ei] at hi
      split at h
      · rename_i len e hA
        split at h
        · rename_i hag hsz
          cases h
          obtain ⟨vs, eV, hl, hgs⟩ := hx.agg_inv
          have hn : n.toNat < cs.length := by omega
          have hap : apart P e cs (n.toNat * 1) = some (cs.getD n.toNat .any) := by
            unfold apart; rw [hag, hsz]; simp [hn]
          obtain ⟨V', hr, hg'⟩ := apart_sound hl hgs hap (P := P)
          refine gives_of rfl ⟨V', ?_, hg'⟩
          rw [hi.int_inv, eV]
          have h0 : (0 : Int) ≤ n ∧ n < (len : Int) := ⟨hp.1, hp.2.1⟩
          simp only [Instr.index, asIntOf, pure_bind, Sem.run_bind, run_under (uArr_spec hA), Result.andThen, if_pos h0, run_sizeOf hsz]
          exact hr
        · cases h
      · cases h
    · cases h
  · cases h
theorem op_wr (hg : gd ops s o = some true) {p : Prop} {v : AV} (hv : awr P s o.op = some (p, v)) (hp : p) {s' : AS} (h : s.put o.dst v = some s') : OpT P ops o s (· = s') :=
  op_runs hg fun c a w β κ r => by
    obtain ⟨dst, op, ty, pos, af, g⟩ := o
    obtain ⟨V, hr, hG⟩ := awr_sound (P := P) r hv hp dst ty pos af g
    exact ⟨V, w, β, κ, .inl hr, put_spec r hG h⟩
theorem awr_congr {s' : AS} {op : Op} (h1 : ∀ x ∈ op.operands, s'.op x = s.op x) : awr P s' op = awr P s op := by
  cases op
  case binOp op t x y u => simp only [awr, h1 x (by simp [Op.operands]), h1 y (by simp [Op.operands])]
  case unOp u t x => cases u <;> first | rfl | simp only [awr, h1 x (by simp [Op.operands])]
  case index t x i => simp only [awr, h1 x (by simp [Op.operands]), h1 i (by simp [Op.operands])]
  all_goals rfl
theorem loc_wr (hg : gd ops s o = some true) {p : Prop} {v : AV} (hv : awr P s o.op = some (p, v)) (hp : p) {s1 : AS} (h : s.put o.dst v = some s1) : Loc P ops o s (.put o.dst v) :=
  loc_of rfl h fun s' ha _ h2 => op_wr (by rw [agree_gd ha]; exact hg) (by rw [awr_congr (fun x hx => agree_op ha hx)]; exact hv) hp h2

theorem Same.wkT {t : Nat} {v : AV} (p : List (Nat × Nat)) {s1 s2 : AS} (e : Same ((Eff.put (some t) v).app s1) s2) : Same ((Eff.put (some t) (AV.wk p v)).app s1) (s2.wkT t p) := by
  refine ⟨e.n, fun i => ?_, e.h⟩
  have e1 : ∀ i, lk .any s2.t i = lk .any (ins t v s1.t) i := e.t
  show lk .any (ins t (AV.wk p (lk .any s2.t t)) s2.t) i = lk .any (ins t (AV.wk p v) s1.t) i
  rw [lk_ins, lk_ins, e1, e1, lk_ins, lk_ins, if_pos rfl]
  split <;> rfl
theorem loc_wk {dst : Option Tmp} {v : AV} (p : List (Nat × Nat)) (h : Loc P ops o s (.put dst v)) : Loc P ops o s (.put dst (AV.wk p v)) := by
  intro s' ha h1 h2 c a w β κ r K Q hK
  cases dst with
  | none => exact h s' ha h1 h2 c a w β κ r K Q hK
  | some t => exact h s' ha h1 h2 c a w β κ r K Q fun s'' a' w' β' κ' e r' => hK (s''.wkT t p) a' w' β' κ' (Same.wkT p e) (r'.wkT t p)
def wkAll : List (List (Nat × Nat)) → AV → AV
  | [], v => v
  | p :: ps, v => wkAll ps (AV.wk p v)
theorem loc_wkAll {dst : Option Tmp} : ∀ (ps : List (List (Nat × Nat))) {v : AV}, Loc P ops o s (.put dst v) → Loc P ops o s (.put dst (wkAll ps v))
  | [], _, h => h
  | p :: ps, _, h => loc_wkAll ps (loc_wk p h)
end
end Go.Ab
