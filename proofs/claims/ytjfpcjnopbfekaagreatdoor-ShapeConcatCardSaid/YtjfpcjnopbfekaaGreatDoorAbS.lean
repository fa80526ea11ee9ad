/- WHAT A PROGRAM COMPUTES, AS PLAIN LEAN: the words in which it is said. No model in sight. -/
set_option linter.unusedSimpArgs false
set_option linter.unusedVariables false
namespace Go.Sh

/-- Behind a round of a loop: on, out, or away. -/
inductive Stp (σ ε ρ : Type) where
  | go (s : σ)
  | brk (e : ε)
  | ret (r : ρ)
/-- Behind a loop, or where ways meet: on, or away. -/
inductive Out (ε ρ : Type) where
  | brk (e : ε)
  | ret (r : ρ)

section
variable {α β σ ε ρ : Type}
def stp (k : σ → Option (Out ε ρ)) : Stp σ ε ρ → Option (Out ε ρ)
  | .go s => k s
  | .brk e => some (.brk e)
  | .ret r => some (.ret r)
/-- A loop that counts: k rounds at most. -/
def cnt (body : Nat → σ → Option (Stp σ ε ρ)) (fin : Nat → σ → ε) : Nat → Nat → σ → Option (Out ε ρ)
  | 0, i, s => some (.brk (fin i s))
  | k + 1, i, s => (body i s).bind (stp (cnt body fin k (i + 1)))
/-- Any loop: fewer than n rounds. -/
def whl (body : σ → Option (Stp σ ε ρ)) : Nat → σ → Option (Out ε ρ)
  | 0, _ => none
  | n + 1, s => (body s).bind (stp (whl body n))
def aft (f : ε → Option β) : Out ε β → Option β
  | .brk e => f e
  | .ret r => some r
/-- What must hold, else there is no answer. -/
def grd (p : Prop) [Decidable p] (x : Option α) : Option α := if p then x else none
def outOf : Stp σ ε ρ → Out ε ρ → Prop
  | .go _, _ => True
  | .brk e, r => r = .brk e
  | .ret x, r => r = .ret x

theorem bnd {m : Option α} {f : α → Option β} {v : β} {G : Prop} (H : m.bind f = some v) (k : ∀ y, m = some y → f y = some v → G) : G := by
  cases m with
  | none => cases H
  | some y => exact k y rfl H
theorem bsp {b : Bool} {x y : Option α} {v : α} {G : Prop} (H : (bif b then x else y) = some v) (t : b = true → x = some v → G) (f : b = false → y = some v → G) : G := by
  cases b with
  | true => exact t rfl H
  | false => exact f rfl H
theorem grd_e {p : Prop} [Decidable p] {x : Option α} {v : α} {G : Prop} (H : grd p x = some v) (k : p → x = some v → G) : G := by
  unfold grd at H
  split at H
  · exact k (by assumption) H
  · cases H
theorem some_e {x y : α} {G : Prop} (H : some x = some y) (k : x = y → G) : G := k (Option.some.inj H)
end
end Go.Sh
