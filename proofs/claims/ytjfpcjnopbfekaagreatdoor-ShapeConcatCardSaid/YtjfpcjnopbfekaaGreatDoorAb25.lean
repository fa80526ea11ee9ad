/- PATHS: what the printed walks use besides. -/
import Derived.Test.YtjfpcjnopbfekaaGreatDoorAb24
set_option linter.unusedSimpArgs false
set_option linter.unusedVariables false
namespace Go.Sh
abbrev Str := List UInt8
def aftE {ε β : Type} (f : ε → Option β) : Out ε Empty → Option β
  | .brk e => f e
theorem aft_brk {ε β : Type} {f : ε → Option β} {e : ε} {v : β} (h : aft f (.brk e) = some v) : f e = some v := h
theorem aft_ret {ε β : Type} {f : ε → Option β} {x v : β} (h : aft f (.ret x) = some v) : some x = some v := h
theorem aftE_brk {ε β : Type} {f : ε → Option β} {e : ε} {v : β} (h : aftE f (.brk e) = some v) : f e = some v := h
theorem out_brk {σ ε ρ : Type} {e : ε} {R : Out ε ρ} (h : outOf (.brk e : Stp σ ε ρ) R) : R = .brk e := h
theorem out_ret {σ ε ρ : Type} {x : ρ} {R : Out ε ρ} (h : outOf (.ret x : Stp σ ε ρ) R) : R = .ret x := h
/-- Maps. -/
def mget {V : Type} (d : V) (x : Str) : List (Str × V) → V
  | [] => d
  | (k, n) :: m => if k = x then n else mget d x m
def mput {V : Type} (x : Str) (n : V) : List (Str × V) → List (Str × V)
  | [] => [(x, n)]
  | (k, u) :: m => if k = x then (x, n) :: m else (k, u) :: mput x n m
end Go.Sh
namespace Go.Ab
open Go.RowKit Go.Sh
theorem sl_drop (l : List UInt8) (a : Nat) : AV.str ((l.drop a).take (l.length - a)) = .str (l.drop a) := by
  congr 1
  exact List.take_of_length_le (by simp)
theorem sl_take (l : List UInt8) (b : Nat) : AV.str ((l.drop 0).take (b - 0)) = .str (l.take b) := by simp
theorem slm_drop {α : Type} (c : α → List AV) (l : List α) (a : Nat) : AV.dslice (((l.map c).drop a).take ((l.map c).length - a)) = .dslice ((l.drop a).map c) := by
  congr 1
  rw [List.take_of_length_le (by simp), List.map_drop]
theorem slm_take {α : Type} (c : α → List AV) (l : List α) (b : Nat) : AV.dslice (((l.map c).drop 0).take (b - 0)) = .dslice ((l.take b).map c) := by simp [List.map_take]
theorem slm_mid {α : Type} (c : α → List AV) (l : List α) (a b : Nat) : AV.dslice (((l.map c).drop a).take (b - a)) = .dslice (((l.drop a).take (b - a)).map c) := by simp [List.map_take, List.map_drop]
theorem EL_of {α : Type} {c : α → List AV} {sz : Nat} (h : ∀ x, (c x).length = sz ∧ (c x).all (fun v => v.one && v.fl) = true) (l : List α) : EL sz (l.map c) := by
  intro y hy
  obtain ⟨x, _, rfl⟩ := List.mem_map.1 hy
  refine ⟨(h x).1, fun v hv => ?_⟩
  have := List.all_eq_true.1 (h x).2 v hv
  simpa [Bool.and_eq_true] using this
theorem apR {α : Type} {c : α → List AV} {sz : Nat} (h : ∀ x, (c x).length = sz ∧ (c x).all (fun v => v.one && v.fl) = true) (xs ys : List α) (by_ : Nat) (hb : 0 < by_) (hc : (xs.length + ys.length) * by_ ≤ 140737488355328) :
    All [EL sz (ys.map c), ((xs.map c).length + (ys.map c).length) * by_ ≤ 140737488355328, (xs.map c).length + (ys.map c).length ≤ 9223372036854775807] := by
  refine ⟨EL_of h ys, by simpa using hc, ?_⟩
  have : xs.length + ys.length ≤ (xs.length + ys.length) * by_ := Nat.le_mul_of_pos_right _ hb
  show (xs.map c).length + (ys.map c).length ≤ _
  simp only [List.length_map]
  omega
theorem apQ {α : Type} (e sz : Nat) (c : α → List AV) (xs ys : List α) : AO.row e sz (xs.map c ++ ys.map c) = .row e sz ((xs ++ ys).map c) := by rw [List.map_append]
theorem apQ0 {α : Type} (e sz : Nat) (c : α → List AV) (ys : List α) : AO.row e sz (([] : List α).map c ++ ys.map c) = .row e sz (ys.map c) := rfl
theorem apE {α : Type} {c : α → List AV} {sz : Nat} (h : ∀ x, (c x).length = sz ∧ (c x).all (fun v => v.one && v.fl) = true) (ys : List α) (by_ : Nat) (hb : 0 < by_) (hc : ys.length * by_ ≤ 140737488355328) :
    All [EL sz (ys.map c), (ys.map c).length * by_ ≤ 140737488355328, (ys.map c).length ≤ 9223372036854775807] := by
  refine ⟨EL_of h ys, by simpa using hc, ?_⟩
  have : ys.length ≤ ys.length * by_ := Nat.le_mul_of_pos_right _ hb
  show (ys.map c).length ≤ _
  simp only [List.length_map]
  omega
theorem wrap_u8 (x : UInt8) : IntKind.wrap .i64 (x.toNat : Int) = (x.toNat : Int) := wrap64 ⟨by omega, by have := x.toNat_lt; omega⟩
theorem u8_add (x y : UInt8) : AV.int .u8 (IntKind.wrap .u8 ((x.toNat : Int) + (y.toNat : Int))) = .int .u8 ((x + y).toNat : Int) := by
  congr 1
theorem u8_sub (x y : UInt8) : AV.int .u8 (IntKind.wrap .u8 ((x.toNat : Int) - (y.toNat : Int))) = .int .u8 ((x - y).toNat : Int) := by
  congr 1
  simp only [IntKind.wrap, IntKind.signed, IntKind.bits, Bool.false_and, Bool.false_eq_true, if_false, UInt8.toNat_sub]
  have h1 := x.toNat_lt; have h2 := y.toNat_lt
  omega
/-- An error: nil or not. -/
def errV (t : TypeId) (ok : Bool) : AV := bif ok then .nilI else .iface t .any
def hd1 : List AV → AV
  | v :: _ => v
  | [] => .any
def mapV {V : Type} (c : V → List AV) (p : Str × V) : List UInt8 × AV := (p.1, hd1 (c p.2))
theorem aget_mapV {V : Type} {c : V → List AV} (x : List UInt8) (d : V) : ∀ (m : List (Str × V)), aget x (hd1 (c d)) (m.map (mapV c)) = hd1 (c (mget d x m))
  | [] => rfl
  | (k, n) :: m => by
    simp only [List.map_cons, mapV, aget, mget]
    split
    · rfl
    · exact aget_mapV x d m
theorem aput_mapV {V : Type} {c : V → List AV} (x : List UInt8) (n : V) : ∀ (m : List (Str × V)), aput x (hd1 (c n)) (m.map (mapV c)) = (mput x n m).map (mapV c)
  | [] => rfl
  | (k, u) :: m => by
    simp only [List.map_cons, mapV, aput, mput]
    split
    · rfl
    · rw [List.map_cons]; exact congrArg _ (aput_mapV x n m)
section
variable {P : Program} {Q : Exit → AS → Prop} {s : AS}
def lensH (s : AS) (k i : Nat) : List Prop := match lk .gone s.h k with
  | .cells _ cs => bif Nat.blt i cs.length then lens1 (cs.getD i .any) else []
  | _ => []
theorem t_lensH {cd : Code} (k i : Nat) {ps : List Prop} (h : lensH s k i = ps) (ht : All ps → Tri P cd Q s) : Tri P cd Q s := fun c a w β κ r => by
  refine ht ?_ c a w β κ r
  subst h
  unfold lensH
  split
  · rename_i e cs he
    cases hb : Nat.blt i cs.length with
    | false => trivial
    | true =>
      have := r.hp.ob k
      rw [he] at this
      obtain ⟨cur, _, _, h3⟩ := this
      exact lens1_all (h3 i (by simpa [Nat.blt_eq] using hb))
  · trivial
def rowLen (s : AS) (k : Nat) : Option Nat := match lk .gone s.h k with
  | .row _ _ xs => some xs.length
  | _ => none
theorem t_lensR {cd : Code} (k : Nat) {n : Nat} (h : rowLen s k = some n) (ht : n ≤ 9223372036854775807 → Tri P cd Q s) : Tri P cd Q s := fun c a w β κ r => by
  refine ht ?_ c a w β κ r
  unfold rowLen at h
  split at h
  · rename_i e sz xs he
    cases h
    have := r.hp.ob k
    rw [he] at this
    by_cases hx : xs = []
    · subst hx; simp
    · obtain ⟨cur, _, _, h3, h4, _⟩ := this.2 hx
      exact Nat.le_trans h3 h4
  · cases h
end
theorem AFn.is' {P : Program} {f : FuncId} {args : List AV} {v : AV} (h : AFn P f args v) : ACall P f args [] fun r _ => r = v := AFn.is h
end Go.Ab
namespace Go.Ab
open Go.RowKit Go.Sh
theorem rlP {α : Type} {f : α → List AV} {l : List α} {n : Nat} (sz j m : Nat) (hn : n < l.length) (hj : j + m ≤ sz) : n * sz + j = n * sz + j ∧ n < (l.map f).length ∧ j + m ≤ sz := ⟨rfl, by simpa using hn, hj⟩
theorem map_getD_at {α : Type} {f : α → List AV} {l : List α} {n : Nat} (d : α) (h : n < l.length) : (l.map f).getD n [] = f (l.getD n d) := by
  simp [List.getD_eq_getElem?_getD, List.getElem?_eq_getElem h]
theorem rl1 {α : Type} {f : α → List AV} {l : List α} {n : Nat} (d : α) (j : Nat) (h : n < l.length) : ((l.map f).getD n []).getD j .any = (f (l.getD n d)).getD j .any := by rw [map_getD_at d h]
theorem rlA {α : Type} {f : α → List AV} {l : List α} {n : Nat} (d : α) (j m : Nat) (h : n < l.length) : AV.agg ((((l.map f).getD n []).drop j).take m) = .agg (((f (l.getD n d)).drop j).take m) := by rw [map_getD_at d h]
theorem rsQ {α : Type} {f : α → List AV} (e sz : Nat) (l : List α) (n : Nat) (d x : α) (j : Nat) (vs : List AV) (h : n < l.length) (hx : splice (f (l.getD n d)) j vs = f x) : AO.row e sz ((l.map f).set n (splice ((l.map f).getD n []) j vs)) = .row e sz ((l.set n x).map f) := by
  rw [map_getD_at d h, hx, List.map_set]
end Go.Ab
namespace Go.Ab
open Go.RowKit Go.Sh
theorem apXP {α : Type} {c : α → List AV} {sz : Nat} (h : ∀ x, (c x).length = sz ∧ (c x).all (fun v => v.one && v.fl) = true) (xs ys : List α) (by_ : Nat) (hb : 0 < by_) (hc : (xs.length + ys.length) * by_ ≤ 140737488355328) {zs : List (List AV)} (hz : xs.map c ++ ys.map c = zs) :
    All [EL sz (ys.map c), ((xs.map c).length + (ys.map c).length) * by_ ≤ 140737488355328, (xs.map c).length + (ys.map c).length ≤ 9223372036854775807, xs.map c ++ ys.map c = zs] := by
  obtain ⟨h1, h2, h3⟩ := apR h xs ys by_ hb hc
  exact ⟨h1, h2, h3, hz⟩
end Go.Ab
