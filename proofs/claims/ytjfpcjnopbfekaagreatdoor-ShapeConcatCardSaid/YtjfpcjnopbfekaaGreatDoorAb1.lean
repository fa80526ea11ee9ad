/- ABSTRACT STATES: the values and the memory of a walk, without addresses. Values (AV), own memory (AO), what they stand for in a world (D, G, HO), and that this lasts when other memory changes. No program in sight. -/
import Derived.WalkKit
import Derived.Below
import Derived.Orders
import Derived.Deep.LoopGhost
import Derived.Lib.LaidTab
set_option linter.unusedSimpArgs false
set_option linter.unusedVariables false
namespace Go.Ab

/-- A value as a walk knows it. 'dslice': a slice that nobody writes to, by what its elements' cells hold; 'dptr': a pointer to such cells; 'hptr', 'rslice', 'amap': into memory of the walk's own, by a key. -/
inductive AV where
  | any
  | bool (b : Bool)
  | int (k : IntKind) (n : Int)
  | str (s : List UInt8)
  | agg (cs : List AV)
  | tup (vs : List AV)
  | eslice
  | dslice (xs : List (List AV))
  | dptr (cs : List AV)
  | hptr (k off : Nat)
  | rslice (k : Nat)
  | amap (k : Nat)
  | dmap (es : List (List UInt8 × AV))
  | fn (f : FuncId) (caps : List AV)
  | iface (t : TypeId) (v : AV)
  | nilI
  | lit (v : Value)
  | bm (f : FuncId) (k off : Nat)
  | gslice (k : Nat)
  deriving Inhabited

/-- An object of the walk's own memory. -/
inductive AO where
  | gone
  | cells (e : TypeId) (cs : List AV)
  | row (e : TypeId) (sz : Nat) (xs : List (List AV))
  | smap (K E : TypeId) (es : List (List UInt8 × AV))
  | iter (es : List (List UInt8 × AV)) (seen : List Nat)
  | room (e : TypeId) (sz : Nat)
  deriving Inhabited

/-- It has a block of its own (a row without elements need not have one). -/
def AO.live : AO → Prop
  | .gone => False
  | .row _ _ xs => xs ≠ []
  | _ => True

section lists
variable {α : Type}
def lk (d : α) : List (Nat × α) → Nat → α
  | [], _ => d
  | (k, v) :: l, i => bif Nat.beq i k then v else lk d l i
def ins (k : Nat) (v : α) : List (Nat × α) → List (Nat × α)
  | [] => [(k, v)]
  | (j, u) :: l => bif Nat.blt k j then (k, v) :: (j, u) :: l else bif Nat.beq k j then (k, v) :: l else (j, u) :: ins k v l
def sel (ks : List Nat) : List (Nat × α) → List (Nat × α)
  | [] => []
  | (j, u) :: l => bif ks.any (Nat.beq j) then (j, u) :: sel ks l else sel ks l

theorem beq_t {i k : Nat} : Nat.beq i k = true ↔ i = k := by rw [Nat.beq_eq]
theorem beq_f {i k : Nat} (h : ¬ i = k) : Nat.beq i k = false := by rw [Bool.eq_false_iff]; exact fun e => h (beq_t.1 e)

theorem lk_ins (d : α) (k : Nat) (v : α) (l : List (Nat × α)) (i : Nat) : lk d (ins k v l) i = if i = k then v else lk d l i := by
  induction l with
  | nil =>
    simp only [ins, lk]
    by_cases h : i = k
    · subst h; simp
    · simp [h, beq_f h]
  | cons p l ih =>
    obtain ⟨j, u⟩ := p
    simp only [ins]
    by_cases h1 : k < j
    · rw [show Nat.blt k j = true by simpa [Nat.blt_eq] using h1]
      simp only [cond_true, lk]
      by_cases h : i = k
      · subst h; simp
      · simp [h, beq_f h]
    · rw [show Nat.blt k j = false by rw [Bool.eq_false_iff]; simpa [Nat.blt_eq] using h1]
      simp only [cond_false]
      by_cases h2 : k = j
      · subst h2
        simp only [Nat.beq_refl, cond_true, lk]
        by_cases h : i = k
        · subst h; simp
        · simp [h, beq_f h]
      · rw [beq_f h2]
        simp only [cond_false, lk, ih]
        by_cases h : i = k
        · subst h
          rw [beq_f h2]
          simp
        · simp [h]

theorem lk_sel (d : α) (ks : List Nat) (l : List (Nat × α)) (i : Nat) : lk d (sel ks l) i = lk d l i ∨ lk d (sel ks l) i = d := by
  by_cases hi : ks.any (Nat.beq i) = true
  · left
    induction l with
    | nil => rfl
    | cons p l ih =>
      obtain ⟨j, u⟩ := p
      simp only [sel]
      by_cases hj : ks.any (Nat.beq j) = true
      · simp only [hj, cond_true, lk, ih]
      · have : Nat.beq i j = false := by
          rw [Bool.eq_false_iff]; intro h
          rw [beq_t] at h
          exact hj (h ▸ hi)
        simp only [Bool.not_eq_true] at hj
        simp only [hj, cond_false, lk, this, ih]
  · right
    induction l with
    | nil => rfl
    | cons p l ih =>
      obtain ⟨j, u⟩ := p
      simp only [sel]
      by_cases hj : ks.any (Nat.beq j) = true
      · have : Nat.beq i j = false := by
          rw [Bool.eq_false_iff]; intro h
          rw [beq_t] at h
          exact hi (h ▸ hj)
        simp only [hj, cond_true, lk, this, cond_false, ih]
      · simp only [Bool.not_eq_true] at hj
        simp only [hj, cond_false, ih]
end lists

mutual
/-- Does it lead into the own memory at key k? -/
def AV.men (k : Nat) : AV → Bool
  | .hptr j _ => Nat.beq j k
  | .rslice j => Nat.beq j k
  | .gslice j => Nat.beq j k
  | .amap j => Nat.beq j k
  | .bm _ j _ => Nat.beq j k
  | .agg cs => AV.menL k cs
  | .tup cs => AV.menL k cs
  | .fn _ cs => AV.menL k cs
  | _ => false
def AV.menL (k : Nat) : List AV → Bool
  | [] => false
  | c :: cs => AV.men k c || AV.menL k cs
end

theorem menL_getD {k : Nat} : ∀ {cs : List AV} {i : Nat}, i < cs.length → AV.men k (cs.getD i .any) = true → AV.menL k cs = true
  | [], i, h, _ => by simp at h
  | c :: cs, 0, _, h => by simp only [List.getD_cons_zero] at h; simp [AV.menL, h]
  | c :: cs, i + 1, hi, h => by
    simp only [List.getD_cons_succ] at h
    simp [AV.menL, menL_getD (by simpa using hi) h]

/-- The keys of a map: each once, none longer than a string is. -/
def KeysOk (es : List (List UInt8 × AV)) : Prop := (es.map (·.1)).Nodup ∧ ∀ k ∈ es.map (·.1), k.length ≤ maxLen

/-! ### what a value stands for -/

/-- The values that lead into no own memory. 'X': the blocks that are, or may be, written to. -/
inductive D (w : World) (X : Nat → Prop) : AV → Value → Prop
  | any (v : Value) : D w X .any v
  | bool (b : Bool) : D w X (.bool b) (.bool b)
  | int (k : IntKind) (n : Int) : D w X (.int k n) (.int k n)
  | str (s : List UInt8) : s.length ≤ maxLen → D w X (.str s) (.string ⟨s.toArray⟩)
  | agg (cs : List AV) (vs : Array Value) : cs.length = vs.size → (∀ i, i < cs.length → D w X (cs.getD i .any) (vs.getD i undef)) → D w X (.agg cs) (.agg vs)
  | tup (cs : List AV) (vs : Array Value) : cs.length = vs.size → (∀ i, i < cs.length → D w X (cs.getD i .any) (vs.getD i undef)) → D w X (.tup cs) (.tuple vs)
  | eslice (a : Option Addr) : D w X .eslice (.slice a 0 0)
  | dnil (a : Option Addr) (cap : Nat) : cap ≤ maxLen → D w X (.dslice []) (.slice a 0 cap)
  | dslice (xs : List (List AV)) (b o cap sz : Nat) (cv : Nat → Nat → Value) : xs.length ≤ cap → cap ≤ maxLen → 0 < sz → ¬ X b → (∀ i, i < xs.length → (xs.getD i []).length = sz) →
      (∀ i j, i < xs.length → j < sz → w.cell? ⟨b, o + (i * sz + j), none⟩ = some (cv i j)) →
      (∀ i j, i < xs.length → j < sz → D w X ((xs.getD i []).getD j .any) (cv i j)) → D w X (.dslice xs) (.slice (some ⟨b, o, none⟩) xs.length cap)
  | dptr (cs : List AV) (b o : Nat) (cv : Nat → Value) : 0 < cs.length → ¬ X b → (∀ j, j < cs.length → w.cell? ⟨b, o + j, none⟩ = some (cv j)) →
      (∀ j, j < cs.length → D w X (cs.getD j .any) (cv j)) → D w X (.dptr cs) (.pointer (some ⟨b, o, none⟩))
  | fn (f : FuncId) (cs : List AV) (vs : Array Value) : cs.length = vs.size → (∀ i, i < cs.length → D w X (cs.getD i .any) (vs.getD i undef)) → D w X (.fn f cs) (.func (.func f) #[] vs)
  | dmap (es : List (List UInt8 × AV)) (b : Nat) (ents : Array MapEntry) (clock : Nat) : ¬ X b → w.heap[b]? = some (.map ents clock) → ents.size = es.length → (∀ i (h : i < ents.size), ents[i].key = .string ⟨(es.getD i default).1.toArray⟩ ∧ ents[i].born < clock) →
      (∀ i (h : i < ents.size), D w X (es.getD i default).2 ents[i].val) → (∀ i j (hi : i < ents.size) (hj : j < ents.size), i < j → ents[i].born < ents[j].born) → KeysOk es → D w X (.dmap es) (.map (some b))
  | nilI : D w X .nilI .nilIface
  | iface (t : TypeId) (v : AV) (V : Value) : D w X v V → D w X (.iface t v) (.iface t V)
  | lit (v : Value) : D w X (.lit v) v

theorem cell_of_heap {w w' : World} {b o : Nat} {v : Value} (h : w'.heap[b]? = w.heap[b]?) (hc : w.cell? ⟨b, o, none⟩ = some v) : w'.cell? ⟨b, o, none⟩ = some v :=
  (World.cell?_of_block (w := w) (w' := w') (a := ⟨b, o, none⟩) h).trans hc

theorem D.mono {w w' : World} {X X' : Nat → Prop} (hw : ∀ b, ¬ X b → b < w.heap.size → w'.heap[b]? = w.heap[b]?) (hX : ∀ b, ¬ X b → b < w.heap.size → ¬ X' b) :
    ∀ {v : AV} {V : Value}, D w X v V → D w' X' v V := by
  intro v V h
  have hc : ∀ {b o : Nat} {u : Value}, ¬ X b → w.cell? ⟨b, o, none⟩ = some u → w'.cell? ⟨b, o, none⟩ = some u := fun hb h =>
    cell_of_heap (hw _ hb (World.block_lt_of_cell? w _ h)) h
  have hX2 : ∀ {b o : Nat} {u : Value}, ¬ X b → w.cell? ⟨b, o, none⟩ = some u → ¬ X' b := fun hb h => hX _ hb (World.block_lt_of_cell? w _ h)
  induction h with
  | any v => exact .any v
  | bool b => exact .bool b
  | int k n => exact .int k n
  | str s hs => exact .str s hs
  | agg cs vs h1 _ ih => exact .agg cs vs h1 ih
  | tup cs vs h1 _ ih => exact .tup cs vs h1 ih
  | eslice a => exact .eslice a
  | dnil a cap h => exact .dnil a cap h
  | dslice xs b o cap sz cv h1 h2 h0 h3 h4 h5 _ ih =>
    by_cases hx : xs = []
    · subst hx; exact .dnil _ cap h2
    · have hl : 0 < xs.length := by cases xs with | nil => exact absurd rfl hx | cons _ _ => simp
      exact .dslice xs b o cap sz cv h1 h2 h0 (hX2 h3 (h5 0 0 hl h0)) h4 (fun i j hi hj => hc h3 (h5 i j hi hj)) ih
  | dptr cs b o cv h0 h1 h2 _ ih => exact .dptr cs b o cv h0 (hX2 h1 (h2 0 h0)) (fun j hj => hc h1 (h2 j hj)) ih
  | fn f cs vs h1 _ ih => exact .fn f cs vs h1 ih
  | dmap es b ents clock h1 h2 h3 h4 _ h6 h7 ih =>
    have hlt : b < w.heap.size := (Array.getElem?_eq_some_iff.1 h2).1
    exact .dmap es b ents clock (hX _ h1 hlt) (by rw [hw _ h1 hlt, h2]) h3 h4 ih h6 h7
  | nilI => exact .nilI
  | iface t v V _ ih => exact .iface t v V ih
  | lit v => exact .lit v

/-! ### own memory -/

/-- Every value. 'β': where the objects of the own memory lie; 'κ': the capacity of a row. -/
inductive G (w : World) (X : Nat → Prop) (β : Nat → Nat) (κ : Nat → Nat × Nat) : AV → Value → Prop
  | d {v : AV} {V : Value} : D w X v V → G w X β κ v V
  | hptr (k o : Nat) : G w X β κ (.hptr k o) (.pointer (some ⟨β k, o, none⟩))
  | rslice (k : Nat) : 0 < (κ k).2 → G w X β κ (.rslice k) (.slice (some ⟨β k, 0, none⟩) (κ k).2 (κ k).1)
  | rslice0 (k : Nat) (a : Option Addr) : (κ k).2 = 0 → G w X β κ (.rslice k) (.slice a 0 0)
  | gslice (k : Nat) : G w X β κ (.gslice k) (.slice (some ⟨β k, 0, none⟩) 0 (κ k).1)
  | amap (k : Nat) : G w X β κ (.amap k) (.map (some (β k)))
  | bm (f : FuncId) (k o : Nat) : G w X β κ (.bm f k o) (.func (.func f) #[.pointer (some ⟨β k, o, none⟩)] #[])
  | fn (f : FuncId) (cs : List AV) (vs : Array Value) : cs.length = vs.size → (∀ i, i < cs.length → G w X β κ (cs.getD i .any) (vs.getD i undef)) → G w X β κ (.fn f cs) (.func (.func f) #[] vs)
  | agg (cs : List AV) (vs : Array Value) : cs.length = vs.size → (∀ i, i < cs.length → G w X β κ (cs.getD i .any) (vs.getD i undef)) → G w X β κ (.agg cs) (.agg vs)
  | tup (cs : List AV) (vs : Array Value) : cs.length = vs.size → (∀ i, i < cs.length → G w X β κ (cs.getD i .any) (vs.getD i undef)) → G w X β κ (.tup cs) (.tuple vs)

theorem G.mono {w w' : World} {X X' : Nat → Prop} {β β' : Nat → Nat} {κ κ' : Nat → Nat × Nat} (hw : ∀ b, ¬ X b → b < w.heap.size → w'.heap[b]? = w.heap[b]?) (hX : ∀ b, ¬ X b → b < w.heap.size → ¬ X' b) :
    ∀ {v : AV} {V : Value}, G w X β κ v V → (∀ j, AV.men j v = true → β' j = β j ∧ κ' j = κ j) → G w' X' β' κ' v V := by
  intro v V h
  induction h with
  | d h => exact fun _ => .d (h.mono hw hX)
  | hptr k o => intro hm; rw [← (hm k (by simp [AV.men])).1]; exact .hptr k o
  | rslice k h => intro hm; rw [← (hm k (by simp [AV.men])).1, ← (hm k (by simp [AV.men])).2]; exact .rslice k (by rw [(hm k (by simp [AV.men])).2]; exact h)
  | rslice0 k a h => exact fun hm => .rslice0 k a (by rw [(hm k (by simp [AV.men])).2]; exact h)
  | gslice k => intro hm; rw [← (hm k (by simp [AV.men])).1, ← (hm k (by simp [AV.men])).2]; exact .gslice k
  | amap k => intro hm; rw [← (hm k (by simp [AV.men])).1]; exact .amap k
  | bm f k o => intro hm; rw [← (hm k (by simp [AV.men])).1]; exact .bm f k o
  | fn f cs vs h1 _ ih => exact fun hm => .fn f cs vs h1 fun i hi => ih i hi fun j hj => hm j (by simpa [AV.men] using menL_getD hi hj)
  | agg cs vs h1 _ ih => exact fun hm => .agg cs vs h1 fun i hi => ih i hi fun j hj => hm j (by simpa [AV.men] using menL_getD hi hj)
  | tup cs vs h1 _ ih => exact fun hm => .tup cs vs h1 fun i hi => ih i hi fun j hj => hm j (by simpa [AV.men] using menL_getD hi hj)

/-- One cell's value. -/
def AV.one : AV → Bool
  | .bool _ | .int _ _ | .str _ | .eslice | .dslice _ | .dptr _ | .hptr _ _ | .rslice _ | .gslice _ | .amap _ | .bm _ _ _ | .fn _ _ | .iface _ _ | .nilI => true
  | .lit v => v.oneCell'
  | _ => false

theorem D.one {w : World} {X : Nat → Prop} {v : AV} {V : Value} (h : D w X v V) (h1 : v.one = true) : V.oneCell' = true := by
  cases h <;> first | rfl | (simp [AV.one] at h1; done) | exact h1
theorem G.one {w : World} {X : Nat → Prop} {β : Nat → Nat} {κ : Nat → Nat × Nat} {v : AV} {V : Value} (h : G w X β κ v V) (h1 : v.one = true) : V.oneCell' = true := by
  cases h <;> first | rfl | (simp [AV.one] at h1; done) | exact D.one ‹_› h1

def AO.men (k : Nat) : AO → Bool
  | .gone => false
  | .cells _ cs => AV.menL k cs
  | .row _ _ _ => false
  | .room _ _ => false
  | .smap _ _ _ => false
  | .iter _ _ => false

/-- What an object is in memory. -/
def HO (w : World) (X : Nat → Prop) (β : Nat → Nat) (κ : Nat → Nat × Nat) (k : Nat) : AO → Prop
  | .gone => True
  | .cells e cs => ∃ cur : Array Value, w.heap[β k]? = some (.cells cur e (0, 0)) ∧ cur.size = cs.length ∧ ∀ i, i < cs.length → G w X β κ (cs.getD i .any) (cur.getD i undef)
  | .row e sz xs => (κ k).2 = xs.length ∧ (xs ≠ [] → ∃ cur : Array Value, w.heap[β k]? = some (.cells cur e (0, 0)) ∧ cur.size = (κ k).1 * sz ∧ xs.length ≤ (κ k).1 ∧ (κ k).1 ≤ maxLen ∧ 0 < sz ∧
      (∀ i, i < xs.length → (xs.getD i []).length = sz) ∧ ∀ i j, i < xs.length → j < sz → D w X ((xs.getD i []).getD j .any) (cur.getD (i * sz + j) undef))
  | .room e sz => ∃ cur : Array Value, w.heap[β k]? = some (.cells cur e (0, 0)) ∧ cur.size = (κ k).1 * sz ∧ (κ k).1 ≤ maxLen ∧ 0 < sz
  | .smap _ _ es => ∃ (ents : Array MapEntry) (clock : Nat), w.heap[β k]? = some (.map ents clock) ∧ ents.size = es.length ∧
      (∀ i (h : i < ents.size), ents[i].key = .string ⟨(es.getD i default).1.toArray⟩ ∧ ents[i].born < clock ∧ D w X (es.getD i default).2 ents[i].val) ∧
      (∀ i j (hi : i < ents.size) (hj : j < ents.size), i < j → ents[i].born < ents[j].born) ∧ KeysOk es
  | .iter es seen => ∃ (b : Nat) (ents : Array MapEntry) (clock : Nat) (sb : Array Nat), w.heap[β k]? = some (.mapIter (some b) clock sb clock) ∧ D w X (.dmap es) (.map (some b)) ∧ ¬ X b ∧ w.heap[b]? = some (.map ents clock) ∧
      sb.toList = seen.map (fun i => match ents[i]? with | some e => e.born | none => 0) ∧ ∀ i ∈ seen, i < ents.size

theorem HO.lt {w : World} {X : Nat → Prop} {β : Nat → Nat} {κ : Nat → Nat × Nat} {k : Nat} {o : AO} (h : HO w X β κ k o) (hl : o.live) : β k < w.heap.size := by
  cases o with
  | gone => exact hl.elim
  | cells e cs => obtain ⟨cur, h, _⟩ := h; exact (Array.getElem?_eq_some_iff.1 h).1
  | row e sz xs => obtain ⟨cur, h, _⟩ := h.2 hl; exact (Array.getElem?_eq_some_iff.1 h).1
  | smap K E es => obtain ⟨cur, c, h, _⟩ := h; exact (Array.getElem?_eq_some_iff.1 h).1
  | iter es seen => obtain ⟨_, _, _, _, h, _⟩ := h; exact (Array.getElem?_eq_some_iff.1 h).1
  | room e sz => obtain ⟨cur, h, _⟩ := h; exact (Array.getElem?_eq_some_iff.1 h).1

theorem any_getD {α : Type} {p : α → Bool} {l : List α} {d : α} {i : Nat} (hi : i < l.length) (h : p (l.getD i d) = true) : l.any p = true := by
  rw [List.any_eq_true]
  refine ⟨l.getD i d, ?_, h⟩
  rw [List.getD_eq_getElem?_getD, List.getElem?_eq_getElem hi]
  exact List.getElem_mem hi

theorem HO.mono {w w' : World} {X X' : Nat → Prop} {β β' : Nat → Nat} {κ κ' : Nat → Nat × Nat} {k : Nat} {o : AO} (hw : ∀ b, ¬ X b → b < w.heap.size → w'.heap[b]? = w.heap[b]?) (hX : ∀ b, ¬ X b → b < w.heap.size → ¬ X' b)
    (h : HO w X β κ k o) (hm : ∀ j, AO.men j o = true → β' j = β j ∧ κ' j = κ j) (hk : β' k = β k ∧ κ' k = κ k) (hb : o.live → w'.heap[β k]? = w.heap[β k]?) : HO w' X' β' κ' k o := by
  cases o with
  | gone => trivial
  | cells e cs =>
    obtain ⟨cur, h1, h2, h3⟩ := h
    exact ⟨cur, by rw [hk.1, hb trivial, h1], h2, fun i hi => (h3 i hi).mono hw hX fun j hj => hm j (by simpa [AO.men] using menL_getD hi hj)⟩
  | row e sz xs =>
    refine ⟨by rw [hk.2]; exact h.1, fun hx => ?_⟩
    obtain ⟨cur, h1, h2, h3, h4, h0, h5, h6⟩ := h.2 hx
    exact ⟨cur, by rw [hk.1, hb hx, h1], by rw [hk.2, h2], by rw [hk.2]; exact h3, by rw [hk.2]; exact h4, h0, h5, fun i j hi hj => (h6 i j hi hj).mono hw hX⟩
  | smap K E es =>
    obtain ⟨ents, clock, h1, h2, h3, h4, h5⟩ := h
    exact ⟨ents, clock, by rw [hk.1, hb trivial, h1], h2, fun i hi => ⟨(h3 i hi).1, (h3 i hi).2.1, ((h3 i hi).2.2).mono hw hX⟩, h4, h5⟩
  | iter es seen =>
    obtain ⟨b, ents, clock, sb, h1, h2, h3, h4, h5, h6⟩ := h
    have hlt : b < w.heap.size := (Array.getElem?_eq_some_iff.1 h4).1
    exact ⟨b, ents, clock, sb, by rw [hk.1, hb trivial, h1], h2.mono hw hX, hX _ h3 hlt, by rw [hw _ h3 hlt, h4], h5, h6⟩
  | room e sz =>
    obtain ⟨cur, h1, h2, h3, h4⟩ := h
    exact ⟨cur, by rw [hk.1, hb trivial, h1], by rw [hk.2, h2], by rw [hk.2]; exact h3, h4⟩

/-! ### states -/

/-- A state: the number of slots, the slots of which something is known, the own memory. -/
structure AS where
  n : Nat
  t : List (Nat × AV)
  h : List (Nat × AO)

/-- The blocks of K are as they were. -/
structure Keeps (K : Nat → Prop) (W w : World) : Prop where
  os : w.os = W.os
  tape : w.tape = W.tape
  output : w.output = W.output
  size : W.heap.size ≤ w.heap.size
  block : ∀ b, K b → w.heap[b]? = W.heap[b]?

theorem Keeps.refl (K : Nat → Prop) (w : World) : Keeps K w w := ⟨rfl, rfl, rfl, Nat.le_refl _, fun _ _ => rfl⟩
theorem Keeps.trans {K K' : Nat → Prop} {a b c : World} (h : Keeps K a b) (k : Keeps K' b c) (hK : ∀ b, K b → K' b) : Keeps K a c :=
  ⟨k.os.trans h.os, k.tape.trans h.tape, k.output.trans h.output, Nat.le_trans h.size k.size, fun i hi => (k.block i (hK i hi)).trans (h.block i hi)⟩

/-- The blocks that the own memory lies in. -/
def own (h : List (Nat × AO)) (β : Nat → Nat) (b : Nat) : Prop := ∃ k, (lk .gone h k).live ∧ β k = b
/-- WHAT THE PACKAGE-LEVEL VARIABLES HOLD on which the library's contracts lean (of those that the program has). -/
structure GP (P : Program) (w : World) : Prop where
  pow10 : P.globalNamed "internal/strconv.uint64pow10" ≠ none → Lib.TabIs P w "internal/strconv.uint64pow10" .u64 [1, 10, 100, 1000, 10000, 100000, 1000000, 10000000, 100000000, 1000000000, 10000000000, 100000000000, 1000000000000, 10000000000000, 100000000000000, 1000000000000000, 10000000000000000, 100000000000000000, 1000000000000000000, 10000000000000000000]
  syn : P.globalNamed "strconv.ErrSyntax" ≠ none → ∃ t p, w.var? P "strconv.ErrSyntax" = some #[.iface t p]
  rng : P.globalNamed "strconv.ErrRange" ≠ none → ∃ t p, w.var? P "strconv.ErrRange" = some #[.iface t p]
  len : ∀ g, P.globalNamed "internal/bytealg.MaxLen" = some g → ∃ m : Int, w.cell? ⟨g, 0, none⟩ = some (.int .i64 m)
/-- What a walk stands in: the blocks that must stay (K), that are not to be looked at as lasting (X), where memory that was handed in lies (β₀, κ₀: keys from 1000 on). -/
structure Cx (P : Program) where
  K : Nat → Prop
  X : Nat → Prop
  W : World
  β : Nat → Nat
  κ : Nat → Nat × Nat
  hK : ∀ b, K b → b < W.heap.size
  hX : ∀ b, X b → b < W.heap.size
  gp : ∀ w, Keeps K W w → GP P w

def Cx.XX {P : Program} (c : Cx P) (h : List (Nat × AO)) (β : Nat → Nat) (b : Nat) : Prop := c.X b ∨ own h β b

/-- The memory's part. -/
structure RelH {P : Program} (c : Cx P) (h : List (Nat × AO)) (w : World) (β : Nat → Nat) (κ : Nat → Nat × Nat) : Prop where
  ob : ∀ k, HO w (c.XX h β) β κ k (lk .gone h k)
  inj : ∀ k k', (lk .gone h k).live → (lk .gone h k').live → β k = β k' → k = k'
  kp : Keeps c.K c.W w
  nk : ∀ k, (lk .gone h k).live → ¬ c.K (β k)
  nx : ∀ k, (lk .gone h k).live → ¬ c.X (β k)
  fix : ∀ k, 1000 ≤ k → β k = c.β k ∧ κ k = c.κ k

structure Rel {P : Program} (c : Cx P) (s : AS) (a : Act) (w : World) (β : Nat → Nat) (κ : Nat → Nat × Nat) : Prop where
  df : a.defers = []
  sz : a.tmps.size = s.n
  tm : ∀ i, G w (c.XX s.h β) β κ (lk .any s.t i) (a.tmps.getD i undef)
  hp : RelH c s.h w β κ

def Rels {P : Program} (c : Cx P) (Q : AS → Prop) (a : Act) (w : World) : Prop := ∃ s β κ, Q s ∧ Rel c s a w β κ

theorem RelH.lt {P : Program} {c : Cx P} {h : List (Nat × AO)} {w : World} {β : Nat → Nat} {κ : Nat → Nat × Nat} (r : RelH c h w β κ) {k : Nat} (hl : (lk .gone h k).live) : β k < w.heap.size := (r.ob k).lt hl

theorem AV.men_any (k : Nat) : AV.men k .any = false := rfl
end Go.Ab
