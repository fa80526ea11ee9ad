/- ABSTRACT STATES: the operations that only compute: what they give. -/
import Derived.Test.YtjfpcjnopbfekaaGreatDoorAb2
set_option linter.unusedSimpArgs false
set_option linter.unusedVariables false
namespace Go.Ab
open Go.RowKit

/-! ### what a value must be -/
section inv
variable {w : World} {X : Nat → Prop} {β : Nat → Nat} {κ : Nat → Nat × Nat} {V : Value}
theorem G.bool_inv {b : Bool} (h : G w X β κ (.bool b) V) : V = .bool b := by cases h with | d h => cases h; rfl
theorem G.int_inv {k : IntKind} {n : Int} (h : G w X β κ (.int k n) V) : V = .int k n := by cases h with | d h => cases h; rfl
theorem G.str_inv {s : List UInt8} (h : G w X β κ (.str s) V) : V = .string ⟨s.toArray⟩ := by cases h with | d h => cases h; rfl
theorem G.str_len {s : List UInt8} (h : G w X β κ (.str s) V) : s.length ≤ maxLen := by cases h with | d h => cases h; assumption
theorem G.hptr_inv {k o : Nat} (h : G w X β κ (.hptr k o) V) : V = .pointer (some ⟨β k, o, none⟩) := by cases h with | d h => cases h | hptr => rfl
theorem G.rslice_inv {k : Nat} (h : G w X β κ (.rslice k) V) : (0 < (κ k).2 ∧ V = .slice (some ⟨β k, 0, none⟩) (κ k).2 (κ k).1) ∨ ((κ k).2 = 0 ∧ ∃ a, V = .slice a 0 0) := by
  cases h with
  | d h => cases h
  | rslice _ h => exact .inl ⟨h, rfl⟩
  | rslice0 _ a h => exact .inr ⟨h, a, rfl⟩
theorem G.rslice_len {k : Nat} (h : G w X β κ (.rslice k) V) : ∃ a c, V = .slice a (κ k).2 c := by
  rcases h.rslice_inv with ⟨_, h⟩ | ⟨h0, a, h⟩
  · exact ⟨_, _, h⟩
  · exact ⟨a, 0, by rw [h0]; exact h⟩
theorem G.amap_inv {k : Nat} (h : G w X β κ (.amap k) V) : V = .map (some (β k)) := by cases h with | d h => cases h | amap => rfl
theorem G.bm_inv {f : FuncId} {k o : Nat} (h : G w X β κ (.bm f k o) V) : V = .func (.func f) #[.pointer (some ⟨β k, o, none⟩)] #[] := by cases h with | d h => cases h | bm => rfl
theorem G.nilI_inv (h : G w X β κ .nilI V) : V = .nilIface := by cases h with | d h => cases h; rfl
theorem G.lit_inv {v : Value} (h : G w X β κ (.lit v) V) : V = v := by cases h with | d h => cases h; rfl
theorem G.eslice_inv (h : G w X β κ .eslice V) : ∃ a, V = .slice a 0 0 := by cases h with | d h => cases h; exact ⟨_, rfl⟩
theorem G.dslice_inv {xs : List (List AV)} (h : G w X β κ (.dslice xs) V) : D w X (.dslice xs) V ∧ ∃ a cap, V = .slice a xs.length cap ∧ xs.length ≤ cap ∧ cap ≤ maxLen := by
  cases h with | d h => exact ⟨h, by cases h with
    | dnil a cap h => exact ⟨a, cap, rfl, Nat.zero_le _, h⟩
    | dslice _ b o cap sz cv h1 h2 => exact ⟨_, cap, rfl, h1, h2⟩⟩
theorem G.dptr_inv {cs : List AV} (h : G w X β κ (.dptr cs) V) : D w X (.dptr cs) V := by cases h with | d h => exact h
theorem G.agg_inv {cs : List AV} (h : G w X β κ (.agg cs) V) : ∃ vs : Array Value, V = .agg vs ∧ cs.length = vs.size ∧ ∀ i, i < cs.length → G w X β κ (cs.getD i .any) (vs.getD i undef) := by
  cases h with
  | d h => cases h with | agg _ vs h1 h2 => exact ⟨vs, rfl, h1, fun i hi => .d (h2 i hi)⟩
  | agg _ vs h1 h2 => exact ⟨vs, rfl, h1, h2⟩
theorem G.tup_inv {cs : List AV} (h : G w X β κ (.tup cs) V) : ∃ vs : Array Value, V = .tuple vs ∧ cs.length = vs.size ∧ ∀ i, i < cs.length → G w X β κ (cs.getD i .any) (vs.getD i undef) := by
  cases h with
  | d h => cases h with | tup _ vs h1 h2 => exact ⟨vs, rfl, h1, fun i hi => .d (h2 i hi)⟩
  | tup _ vs h1 h2 => exact ⟨vs, rfl, h1, h2⟩
theorem G.fn_inv {f : FuncId} {cs : List AV} (h : G w X β κ (.fn f cs) V) : ∃ vs : Array Value, V = .func (.func f) #[] vs ∧ cs.length = vs.size ∧ ∀ i, i < cs.length → G w X β κ (cs.getD i .any) (vs.getD i undef) := by
  cases h with
  | d h => cases h with | fn _ _ vs h1 h2 => exact ⟨vs, rfl, h1, fun i hi => .d (h2 i hi)⟩
  | fn _ _ vs h1 h2 => exact ⟨vs, rfl, h1, h2⟩
end inv

/-! ### constants -/
def AV.of1 : Value → AV
  | .bool b => .bool b
  | .int k n => .int k n
  | .string s => if s.data.toList.length ≤ 9223372036854775807 then .str s.data.toList else .lit (.string s)
  | .slice _ 0 0 => .eslice
  | .nilIface => .nilI
  | v => .lit v
def AV.of : Value → AV
  | .agg cs => .agg (cs.toList.map AV.of1)
  | .tuple cs => .tup (cs.toList.map AV.of1)
  | v => AV.of1 v

theorem D.of1 (w : World) (X : Nat → Prop) (v : Value) : D w X (AV.of1 v) v := by
  unfold AV.of1
  split
  · exact .bool _
  · exact .int _ _
  · split
    · exact .str _ (by assumption)
    · exact .lit _
  · exact .eslice _
  · exact .nilI
  · exact .lit _
theorem getD_of1 (cs : Array Value) (i : Nat) (hi : i < cs.size) : (cs.toList.map AV.of1).getD i .any = AV.of1 (cs.getD i undef) := by
  simp [List.getD_eq_getElem?_getD, Array.getD_eq_getD_getElem?, Array.getElem?_eq_getElem hi]
theorem D.of (w : World) (X : Nat → Prop) (v : Value) : D w X (AV.of v) v := by
  unfold AV.of
  split
  · exact .agg _ _ (by simp) fun i hi => by rw [getD_of1 _ _ (by simpa using hi)]; exact D.of1 w X _
  · exact .tup _ _ (by simp) fun i hi => by rw [getD_of1 _ _ (by simpa using hi)]; exact D.of1 w X _
  · exact D.of1 w X v

def AS.op (s : AS) : Operand → AV
  | .tmp t => lk .any s.t t
  | .const v => AV.of v
  | .global g => .lit (.pointer (some ⟨g, 0, none⟩))
  | .func f => .fn f []

theorem Rel.op {P : Program} {c : Cx P} {s : AS} {a : Act} {w : World} {β : Nat → Nat} {κ : Nat → Nat × Nat} (r : Rel c s a w β κ) (x : Operand) : G w (c.XX s.h β) β κ (s.op x) (a.eval x) := by
  cases x with
  | tmp t => exact r.tm t
  | const v => exact .d (D.of w _ v)
  | global g => exact .d (.lit _)
  | func f => exact .d (.fn f [] #[] rfl (fun i hi => by simp at hi))

/-! ### tables -/
def szOf (P : Program) (t : TypeId) : Option Nat := match P.info? t with | some i => some i.size | none => none
def agB (P : Program) (t : TypeId) : Option Bool := match P.underlying t with | some (.struct _) => some true | some (.array _ _) => some true | some _ => some false | none => none
theorem run_sizeOf {P : Program} {w : World} {t : TypeId} {n : Nat} (h : szOf P t = some n) : (sizeOf t).run P w = .ok n w := by
  unfold szOf at h
  cases hi : P.info? t with
  | none => simp [hi] at h
  | some i => simp [hi] at h; simp [sizeOf, typeInfo, hi, h, go_sem]
theorem run_isAgg {P : Program} {w : World} {t : TypeId} {b : Bool} (h : agB P t = some b) : (isAgg t).run P w = .ok b w := by
  unfold agB at h
  cases hi : P.underlying t with
  | none => simp [hi] at h
  | some d => cases d <;> simp [hi] at h <;> subst h <;> simp [isAgg, underlying, hi, go_sem]
theorem run_under {P : Program} {w : World} {t : TypeId} {d : TypeDesc} (h : P.underlying t = some d) : (underlying t).run P w = .ok d w := by
  simp [underlying, h, go_sem]
end Go.Ab
