/- ABSTRACT STATES: what an operation gives that only computes (aval), and that the model's operation gives it (aval_sound). -/
import Derived.Test.YtjfpcjnopbfekaaGreatDoorAb3
set_option linter.unusedSimpArgs false
set_option linter.unusedVariables false
namespace Go.Ab
open Go.RowKit

/-- The cells that a pointer leads to. -/
def cellsAt (s : AS) : AV → Option (List AV)
  | .dptr cs => some cs
  | .hptr k o => match lk .gone s.h k with
    | .cells _ cs => some (cs.drop o)
    | _ => none
  | _ => none

def I64 (n : Int) : Prop := -9223372036854775808 ≤ n ∧ n ≤ 9223372036854775807

def ibin (op : BinOp) (k : IntKind) (a b : Int) : Option (Prop × AV) :=
  match op with
  | .add => match k with | .i64 => some (I64 (a + b), .int .i64 (a + b)) | _ => some (True, .int k (k.wrap (a + b)))
  | .sub => match k with | .i64 => some (I64 (a - b), .int .i64 (a - b)) | _ => some (True, .int k (k.wrap (a - b)))
  | .mul => match k with | .i64 => some (I64 (a * b), .int .i64 (a * b)) | _ => some (True, .int k (k.wrap (a * b)))
  | .quo => match k with | .i64 => some (b ≠ 0 ∧ I64 (a.tdiv b), .int .i64 (a.tdiv b)) | _ => some (b ≠ 0, .int k (k.wrap (a.tdiv b)))
  | .rem => some (b ≠ 0, .int k (a.tmod b))
  | .eql => some (True, .bool (a == b))
  | .neq => some (True, .bool (a != b))
  | .lss => some (True, .bool (a < b))
  | .leq => some (True, .bool (a ≤ b))
  | .gtr => some (True, .bool (a > b))
  | .geq => some (True, .bool (a ≥ b))
  | _ => none

def sbin (op : BinOp) (a b : List UInt8) : Option (Prop × AV) :=
  match op with
  | .add => some (a.length + b.length ≤ 9223372036854775807, .str (a ++ b))
  | .eql => some (True, .bool (a == b))
  | .neq => some (True, .bool !(a == b))
  | .lss => some (True, .bool (Op.bytesLess a b))
  | .leq => some (True, .bool (Op.bytesLess a b || a == b))
  | .gtr => some (True, .bool !(Op.bytesLess a b || a == b))
  | .geq => some (True, .bool !(Op.bytesLess a b))
  | _ => none

def isB (P : Program) (t : TypeId) : Bool := match P.underlying t with | some .bool => true | _ => false
def isI (P : Program) (t : TypeId) : Bool := match P.underlying t with | some (.interface _) => true | _ => false
def isK : Operand → Bool | .const _ => true | _ => false

def abin (P : Program) (s : AS) (op : BinOp) (t : TypeId) (x y : Operand) : Option (Prop × AV) :=
  match s.op x, s.op y with
  | .int k a, .int k' b => if k = k' then ibin op k a b else none
  | .str a, .str b => sbin op a b
  | .bool a, .bool b => if isB P t then (match op with | .eql => some (True, .bool (a == b)) | .neq => some (True, .bool !(a == b)) | _ => none) else none
  | .nilI, .nilI => if isI P t && (isK x || isK y) then (match op with | .eql => some (True, .bool true) | .neq => some (True, .bool false) | _ => none) else none
  | .iface _ _, .nilI => if isI P t then (match op with | .eql => some (True, .bool false) | .neq => some (True, .bool true) | _ => none) else none
  | _, _ => none

theorem size_mk (l : List UInt8) : ByteArray.size ⟨l.toArray⟩ = l.length := by simp [ByteArray.size]
theorem toList_mk (l : List UInt8) : ByteArray.toList ⟨l.toArray⟩ = l := by simp [go_sem]
theorem append_mk (a b : List UInt8) : (⟨a.toArray⟩ : ByteArray) ++ ⟨b.toArray⟩ = ⟨(a ++ b).toArray⟩ := by
  apply ByteArray.ext; simp

theorem wrap64 {n : Int} (h : I64 n) : IntKind.i64.wrap n = n := by
  obtain ⟨h1, h2⟩ := h
  simp only [IntKind.wrap, IntKind.signed, IntKind.bits, Bool.true_and, decide_eq_true_eq, show ((2 : Int) ^ 64) = 18446744073709551616 from by decide, show ((2 : Int) ^ (64 - 1)) = 9223372036854775808 from by decide]
  split <;> omega

theorem ibin_sound {P : Program} {w : World} {X : Nat → Prop} {β : Nat → Nat} {κ : Nat → Nat × Nat} {ρ : Operand → Value} {op : BinOp} {t : TypeId} {x y : Operand} {u : TypeId} {k : IntKind} {m n : Int} {p : Prop} {v : AV}
    (ex : ρ x = .int k m) (ey : ρ y = .int k n) (h : ibin op k m n = some (p, v)) (hp : p) (dst : Option Tmp) (ty : TypeId) (pos : String) (af : Array Edge) (g : Option (Nat × Bool)) :
    ∃ V, (execOp ρ ⟨dst, .binOp op t x y u, ty, pos, af, g⟩).run P w = .ok (.value V) w ∧ G w X β κ v V := by
  cases op
  case add =>
    cases k <;> simp only [ibin, Option.some.injEq, Prod.mk.injEq] at h <;> obtain ⟨rfl, rfl⟩ := h <;> refine ⟨_, ?_, .d (.int _ _)⟩ <;>
      simp [execOp, ex, ey, eqGuard, binOp, Op.intArith, go_sem] <;> first | rfl | (rw [wrap64 hp])
  case sub =>
    cases k <;> simp only [ibin, Option.some.injEq, Prod.mk.injEq] at h <;> obtain ⟨rfl, rfl⟩ := h <;> refine ⟨_, ?_, .d (.int _ _)⟩ <;>
      simp [execOp, ex, ey, eqGuard, binOp, Op.intArith, go_sem] <;> first | rfl | (rw [wrap64 hp])
  case mul =>
    cases k <;> simp only [ibin, Option.some.injEq, Prod.mk.injEq] at h <;> obtain ⟨rfl, rfl⟩ := h <;> refine ⟨_, ?_, .d (.int _ _)⟩ <;>
      simp [execOp, ex, ey, eqGuard, binOp, Op.intArith, go_sem] <;> first | rfl | (rw [wrap64 hp])
  case quo =>
    cases k <;> simp only [ibin, Option.some.injEq, Prod.mk.injEq] at h <;> obtain ⟨rfl, rfl⟩ := h <;> refine ⟨_, ?_, .d (.int _ _)⟩ <;>
      simp [execOp, ex, ey, eqGuard, binOp, Op.intDiv, go_sem] <;> first | (simp [hp]; done) | (rw [if_neg hp.1]; simp [wrap64 hp.2])
  case rem =>
    simp only [ibin, Option.some.injEq, Prod.mk.injEq] at h
    obtain ⟨rfl, rfl⟩ := h
    refine ⟨_, ?_, .d (.int _ _)⟩
    simp [execOp, ex, ey, eqGuard, binOp, Op.intDiv, go_sem]; simp [hp]
  case eql | neq | lss | leq | gtr | geq =>
    simp only [ibin, Option.some.injEq, Prod.mk.injEq] at h
    obtain ⟨rfl, rfl⟩ := h
    refine ⟨_, ?_, .d (.bool _)⟩
    simp [execOp, ex, ey, eqGuard, binOp, Op.intCmp, go_sem] <;> rfl
  all_goals simp [ibin] at h

theorem sbin_sound {P : Program} {w : World} {X : Nat → Prop} {β : Nat → Nat} {κ : Nat → Nat × Nat} {ρ : Operand → Value} {op : BinOp} {t : TypeId} {x y : Operand} {u : TypeId} {m n : List UInt8} {p : Prop} {v : AV}
    (ex : ρ x = .string ⟨m.toArray⟩) (ey : ρ y = .string ⟨n.toArray⟩) (h : sbin op m n = some (p, v)) (hp : p) (dst : Option Tmp) (ty : TypeId) (pos : String) (af : Array Edge) (g : Option (Nat × Bool)) :
    ∃ V, (execOp ρ ⟨dst, .binOp op t x y u, ty, pos, af, g⟩).run P w = .ok (.value V) w ∧ G w X β κ v V := by
  cases op
  case add =>
    simp only [sbin, Option.some.injEq, Prod.mk.injEq] at h
    obtain ⟨rfl, rfl⟩ := h
    refine ⟨_, ?_, .d (.str _ (by rw [List.length_append]; exact hp))⟩
    have e : ¬ ((m.length : Int) + n.length > IntKind.i64.max) := by
      rw [show IntKind.i64.max = 9223372036854775807 from by decide]; omega
    have e' : (m.length : Int) + n.length ≤ 9223372036854775807 := by omega
    simp [execOp, ex, ey, eqGuard, binOp, Op.stringOp, go_sem, e', append_mk]
  case eql | neq | lss | leq | gtr | geq =>
    simp only [sbin, Option.some.injEq, Prod.mk.injEq] at h
    obtain ⟨rfl, rfl⟩ := h
    refine ⟨_, ?_, .d (.bool _)⟩
    simp [execOp, ex, ey, eqGuard, binOp, Op.stringOp, go_sem] <;> rfl
  all_goals simp [sbin] at h

theorem run_eqIn_bool {P : Program} {w : World} {t : TypeId} (h : P.underlying t = some .bool) (d : Nat) (a b : Bool) : (Op.equalIn (d + 1) t (.bool a) (.bool b)).run P w = .ok (a == b) w := by
  simp [Op.equalIn, run_under h, go_sem]
theorem run_eqIn_nn {P : Program} {w : World} {t : TypeId} {ms : Array (String × TypeId)} (h : P.underlying t = some (.interface ms)) (d : Nat) : (Op.equalIn (d + 1) t .nilIface .nilIface).run P w = .ok true w := by
  simp [Op.equalIn, run_under h, go_sem]
theorem run_eqIn_in {P : Program} {w : World} {t : TypeId} {ms : Array (String × TypeId)} (h : P.underlying t = some (.interface ms)) (d : Nat) (e : TypeId) (v : Value) : (Op.equalIn (d + 1) t (.iface e v) .nilIface).run P w = .ok false w := by
  simp [Op.equalIn, run_under h, go_sem]

theorem bbin_sound {P : Program} {w : World} {X : Nat → Prop} {β : Nat → Nat} {κ : Nat → Nat × Nat} {ρ : Operand → Value} {op : BinOp} {t : TypeId} {x y : Operand} {u : TypeId} {m n : Bool} {p : Prop} {v : AV} (hb : isB P t = true)
    (ex : ρ x = .bool m) (ey : ρ y = .bool n) (h : (match op with | .eql => some (True, AV.bool (m == n)) | .neq => some (True, AV.bool !(m == n)) | _ => none) = some (p, v)) (dst : Option Tmp) (ty : TypeId) (pos : String) (af : Array Edge) (g : Option (Nat × Bool)) :
    ∃ V, (execOp ρ ⟨dst, .binOp op t x y u, ty, pos, af, g⟩).run P w = .ok (.value V) w ∧ G w X β κ v V := by
  have hu : P.underlying t = some .bool := by
    unfold isB at hb; split at hb
    · assumption
    · cases hb
  cases op
  case eql | neq =>
    simp only [Option.some.injEq, Prod.mk.injEq] at h
    obtain ⟨_, rfl⟩ := h
    refine ⟨_, ?_, .d (.bool _)⟩
    have e : (Op.equal t (.bool m) (.bool n)).run P w = .ok (m == n) w := run_eqIn_bool hu 9999 m n
    simp [execOp, ex, ey, eqGuard, binOp, e, go_sem] <;> rfl
  all_goals simp at h

theorem nbin_sound {P : Program} {w : World} {X : Nat → Prop} {β : Nat → Nat} {κ : Nat → Nat × Nat} {ρ : Operand → Value} {op : BinOp} {t : TypeId} {x y : Operand} {u : TypeId} {p : Prop} {v : AV} (hb : isI P t = true) (hk : (isK x || isK y) = true)
    (ex : ρ x = .nilIface) (ey : ρ y = .nilIface) (h : (match op with | .eql => some (True, AV.bool true) | .neq => some (True, AV.bool false) | _ => none) = some (p, v)) (dst : Option Tmp) (ty : TypeId) (pos : String) (af : Array Edge) (g : Option (Nat × Bool)) :
    ∃ V, (execOp ρ ⟨dst, .binOp op t x y u, ty, pos, af, g⟩).run P w = .ok (.value V) w ∧ G w X β κ v V := by
  obtain ⟨ms, hu⟩ : ∃ ms, P.underlying t = some (.interface ms) := by
    unfold isI at hb; split at hb
    · exact ⟨_, by assumption⟩
    · cases hb
  cases op
  case eql | neq =>
    simp only [Option.some.injEq, Prod.mk.injEq] at h
    obtain ⟨_, rfl⟩ := h
    refine ⟨_, ?_, .d (.bool _)⟩
    have e : (Op.equal t .nilIface .nilIface).run P w = .ok true w := run_eqIn_nn hu 9999
    cases x <;> cases y <;> simp only [isK, Bool.or_self, Bool.or_true, Bool.true_or, Bool.false_eq_true] at hk <;> simp [execOp, ex, ey, eqGuard, binOp, e, go_sem]
  all_goals simp at h

theorem ibin2_sound {P : Program} {w : World} {X : Nat → Prop} {β : Nat → Nat} {κ : Nat → Nat × Nat} {ρ : Operand → Value} {op : BinOp} {t : TypeId} {x y : Operand} {u : TypeId} {p : Prop} {v : AV} (hb : isI P t = true) {d : TypeId} {V0 : Value}
    (ex : ρ x = .iface d V0) (ey : ρ y = .nilIface) (h : (match op with | .eql => some (True, AV.bool false) | .neq => some (True, AV.bool true) | _ => none) = some (p, v)) (dst : Option Tmp) (ty : TypeId) (pos : String) (af : Array Edge) (g : Option (Nat × Bool)) :
    ∃ V, (execOp ρ ⟨dst, .binOp op t x y u, ty, pos, af, g⟩).run P w = .ok (.value V) w ∧ G w X β κ v V := by
  obtain ⟨ms, hu⟩ : ∃ ms, P.underlying t = some (.interface ms) := by
    unfold isI at hb; split at hb
    · exact ⟨_, by assumption⟩
    · cases hb
  cases op
  case eql | neq =>
    simp only [Option.some.injEq, Prod.mk.injEq] at h
    obtain ⟨_, rfl⟩ := h
    refine ⟨_, ?_, .d (.bool _)⟩
    have e : (Op.equal t (.iface d V0) .nilIface).run P w = .ok false w := run_eqIn_in hu 9999 d V0
    simp [execOp, ex, ey, eqGuard, binOp, e, go_sem]
  all_goals simp at h

theorem G.iface_inv {w : World} {X : Nat → Prop} {β : Nat → Nat} {κ : Nat → Nat × Nat} {V : Value} {t : TypeId} {v : AV} (h : G w X β κ (.iface t v) V) : ∃ V', V = .iface t V' ∧ D w X v V' := by cases h with | d h => cases h; exact ⟨_, rfl, by assumption⟩

theorem abin_sound {P : Program} {c : Cx P} {s : AS} {a : Act} {w : World} {β : Nat → Nat} {κ : Nat → Nat × Nat} (r : Rel c s a w β κ) {op : BinOp} {t : TypeId} {x y : Operand} {u : TypeId} {p : Prop} {v : AV} (h : abin P s op t x y = some (p, v)) (hp : p)
    (dst : Option Tmp) (ty : TypeId) (pos : String) (af : Array Edge) (g : Option (Nat × Bool)) :
    ∃ V, (execOp a.eval ⟨dst, .binOp op t x y u, ty, pos, af, g⟩).run P w = .ok (.value V) w ∧ G w (c.XX s.h β) β κ v V := by
  have hx := r.op x
  have hy := r.op y
  unfold abin at h
  split at h
  · rename_i k m k' n e1 e2
    rw [e1] at hx; rw [e2] at hy
    split at h
    · rename_i hk; subst hk
      exact ibin_sound hx.int_inv hy.int_inv h hp _ _ _ _ _
    · cases h
  · rename_i m n e1 e2
    rw [e1] at hx; rw [e2] at hy
    exact sbin_sound hx.str_inv hy.str_inv h hp _ _ _ _ _
  · rename_i m n e1 e2
    rw [e1] at hx; rw [e2] at hy
    split at h
    · exact bbin_sound (by assumption) hx.bool_inv hy.bool_inv h _ _ _ _ _
    · cases h
  · rename_i e1 e2
    rw [e1] at hx; rw [e2] at hy
    split at h
    · rename_i hb
      simp only [Bool.and_eq_true] at hb
      exact nbin_sound hb.1 hb.2 hx.nilI_inv hy.nilI_inv h _ _ _ _ _
    · cases h
  · rename_i e1 e2
    rw [e1] at hx; rw [e2] at hy
    obtain ⟨V', e3, _⟩ := hx.iface_inv
    split at h
    · exact ibin2_sound (by assumption) e3 hy.nilI_inv h _ _ _ _ _
    · cases h
  · cases h
end Go.Ab
