/- ABSTRACT STATES: one function for all operations that only compute. -/
import Derived.Test.YtjfpcjnopbfekaaGreatDoorAb5
set_option linter.unusedSimpArgs false
set_option linter.unusedVariables false
namespace Go.Ab
open Go.RowKit

def uArr (P : Program) (t : TypeId) : Option (Nat × TypeId) := match P.underlying t with | some (.array n e) => some (n, e) | _ => none
def uSl (P : Program) (t : TypeId) : Option TypeId := match P.underlying t with | some (.slice e) => some e | _ => none
def uInt (P : Program) (t : TypeId) : Option IntKind := match P.underlying t with | some (.int k) => some k | _ => none
def isStr (P : Program) (t : TypeId) : Bool := match P.underlying t with | some .string => true | _ => false
def isStruct (P : Program) (t : TypeId) : Bool := match P.underlying t with | some (.struct _) => true | _ => false
def isMap (P : Program) (t : TypeId) : Bool := match P.underlying t with | some (.map _ _) => true | _ => false

theorem uArr_spec {P : Program} {t : TypeId} {n : Nat} {e : TypeId} (h : uArr P t = some (n, e)) : P.underlying t = some (.array n e) := by
  unfold uArr at h; split at h
  · cases h; assumption
  · cases h
theorem uSl_spec {P : Program} {t e : TypeId} (h : uSl P t = some e) : P.underlying t = some (.slice e) := by
  unfold uSl at h; split at h
  · cases h; assumption
  · cases h
theorem uInt_spec {P : Program} {t : TypeId} {k : IntKind} (h : uInt P t = some k) : P.underlying t = some (.int k) := by
  unfold uInt at h; split at h
  · cases h; assumption
  · cases h
theorem isStr_spec {P : Program} {t : TypeId} (h : isStr P t = true) : P.underlying t = some .string := by
  unfold isStr at h; split at h
  · assumption
  · cases h
theorem isMap_spec {P : Program} {t : TypeId} (h : isMap P t = true) : ∃ k e, P.underlying t = some (.map k e) := by
  unfold isMap at h; split at h
  · exact ⟨_, _, by assumption⟩
  · cases h

/-- len(x). -/
def alen (P : Program) (s : AS) (t : TypeId) (v : AV) : Option AV :=
  match v with
  | .str l => if isStr P t then some (.int .i64 l.length) else none
  | .eslice => match uSl P t with | some _ => some (.int .i64 0) | none => none
  | .dslice xs => match uSl P t with | some _ => some (.int .i64 xs.length) | none => none
  | .rslice k => match uSl P t with | some _ => (match lk .gone s.h k with | .row _ _ xs => some (.int .i64 xs.length) | _ => none) | none => none
  | .amap k => if isMap P t then (match lk .gone s.h k with | .smap _ _ es => some (.int .i64 es.length) | _ => none) else none
  | _ => match uArr P t with | some (n, _) => some (.int .i64 n) | none => none

/-- All of n cells. -/
def UL (n : Nat) (xs : List (List AV)) : Prop := ∀ x ∈ xs, x.length = n
theorem UL.getD {n : Nat} {xs : List (List AV)} (h : UL n xs) {i : Nat} (hi : i < xs.length) : (xs.getD i []).length = n := by
  rw [List.getD_eq_getElem?_getD, List.getElem?_eq_getElem hi]
  exact h _ (List.getElem_mem hi)
theorem UL.map {α : Type} {n : Nat} {f : α → List AV} (h : ∀ x, (f x).length = n) (l : List α) : UL n (l.map f) := by
  intro x hx
  obtain ⟨y, _, rfl⟩ := List.mem_map.1 hx
  exact h y

/-- A bound of a slice expression. -/
def abnd (s : AS) (d : Int) : Option Operand → Option Int
  | none => some d
  | some x => match s.op x with | .int _ n => some n | _ => none

/-- x[lo:hi]. -/
def aslice (P : Program) (s : AS) (t : TypeId) (v : AV) (lo hi : Option Operand) : Option (Prop × AV) :=
  match v with
  | .str l => if isStr P t then (match abnd s 0 lo, abnd s l.length hi with
    | some a, some b => some (0 ≤ a ∧ a ≤ b ∧ b ≤ l.length, .str ((l.drop a.toNat).take (b.toNat - a.toNat)))
    | _, _ => none) else none
  | .dslice xs => match uSl P t with
    | some e => (match szOf P e, abnd s 0 lo, abnd s xs.length hi with
      | some n, some a, some b => if n = 0 then none else some ((0 ≤ a ∧ a ≤ b ∧ b ≤ xs.length) ∧ UL n xs, .dslice ((xs.drop a.toNat).take (b.toNat - a.toNat)))
      | _, _, _ => none)
    | none => none
  | _ => none

/-- x[i]. -/
def aindex (P : Program) (s : AS) (t : TypeId) (v : AV) (i : Operand) : Option (Prop × AV) :=
  match v, s.op i with
  | .str l, .int _ n => if isStr P t then some (0 ≤ n ∧ n < l.length, .int .u8 ((l.getD n.toNat 0).toNat)) else none
  | .agg cs, .int _ n => match uArr P t with
    | some (len, e) => (match n with
      | .ofNat m => (match szOf P e with | some sz => if m < len then (match apart P e cs (m * sz) with | some v => some (True, v) | none => none) else none | none => none)
      | _ => none)
    | none => none
  | _, _ => none

/-- &x[i]. -/
def aindexAddr (P : Program) (s : AS) (t : TypeId) (v : AV) (i : Operand) : Option (Prop × AV) :=
  match s.op i with
  | .int _ n => (match v with
    | .dslice xs => (match uSl P t with
      | some e => (match szOf P e with
        | some sz => some ((0 ≤ n ∧ n < xs.length) ∧ ((xs.getD n.toNat []).length = sz ∧ 0 < sz), .dptr (xs.getD n.toNat []))
        | none => none)
      | none => none)
    | .rslice k => (match uSl P t with
      | some e => (match szOf P e, lk .gone s.h k with
        | some sz, .row _ _ xs => some (0 ≤ n ∧ n < xs.length, .hptr k (n.toNat * sz))
        | _, _ => none)
      | none => none)
    | .hptr k o => (match uArr P t with
      | some (len, e) => (match n with
        | .ofNat m => (match szOf P e with | some sz => if m < len then some (True, .hptr k (o + m * sz)) else none | none => none)
        | _ => none)
      | none => none)
    | _ => none)
  | _ => none

def aval (P : Program) (s : AS) : Op → Option (Prop × AV)
  | .move x => some (True, s.op x)
  | .assign x => some (True, s.op x)
  | .pick c a b => match s.op c with | .bool true => some (True, s.op a) | .bool false => some (True, s.op b) | _ => none
  | .load t x => match aload P s t (s.op x) with | some v => some (True, v) | none => none
  | .fieldAddr t x f => match afieldAddr P t f (s.op x) with | some v => some (True, v) | none => none
  | .field t x f => match s.op x, fieldOf P t f with
    | .agg cs, some (off, ft) => match apart P ft cs off with | some v => some (True, v) | none => none
    | _, _ => none
  | .extract x i => match s.op x with | .tup vs => if i < vs.length then some (True, vs.getD i .any) else none | _ => none
  | .unOp op _ x => match op, s.op x with
    | .not, .bool b => some (True, .bool (!b))
    | .neg, .int k n => match k with | .i64 => some (I64 (0 - n), .int .i64 (0 - n)) | _ => none
    | _, _ => none
  | .binOp op t x y _ => abin P s op t x y
  | .nilCheck x => match s.op x with | .hptr k o => some (True, .hptr k o) | .dptr cs => some (True, .dptr cs) | _ => none
  | .makeFunc (.func f) first caps => if first.size = 0 then some (True, .fn f (caps.toList.map s.op)) else match first.toList, caps.toList with
    | [x], [] => match s.op x with | .hptr k o => some (True, .bm f k o) | _ => none
    | _, _ => none
  | .slice t x lo hi none => aslice P s t (s.op x) lo hi
  | .index t x i => aindex P s t (s.op x) i
  | .indexAddr t x i => aindexAddr P s t (s.op x) i
  | .convert u t x => match uInt P t, s.op x with
    | some k, .int _ n => match P.underlying u with | some (.int _) => some (True, .int k (k.wrap n)) | _ => none
    | _, .str l => if isStr P t && isStr P u then some (True, .str l) else none
    | _, _ => none
  | .call c => match c.callee, c.args.toList, c.argTypes.toList with
    | .builtin .len, [x], [t] => match alen P s t (s.op x) with | some v => some (True, v) | none => none
    | .builtin .max, [x, y], _ => match s.op x, s.op y with | .int k a, .int _ b => some (True, .int k (if b > a then b else a)) | _, _ => none
    | .builtin .min, [x, y], _ => match s.op x, s.op y with | .int k a, .int _ b => some (True, .int k (if b < a then b else a)) | _, _ => none
    | _, _, _ => none
  | _ => none

section
variable {P : Program} {c : Cx P} {s : AS} {a : Act} {w : World} {β : Nat → Nat} {κ : Nat → Nat × Nat}

theorem run_getMap {m : Nat} {es : Array MapEntry} {k : Nat} (h : w.heap[m]? = some (.map es k)) : (getObj m).run P w = .ok (.map es k) w := by
  simp [getObj, Sem.run, h]

theorem alen_sound (r : Rel c s a w β κ) {t : TypeId} {v v' : AV} {V : Value} (hg : G w (c.XX s.h β) β κ v V) (h : alen P s t v = some v') {ty : TypeId} :
    ∃ V', (Builtin.len_ #[t] ty #[V]).run P w = .ok V' w ∧ G w (c.XX s.h β) β κ v' V' := by
  unfold alen at h
  split at h
  · split at h
    · cases h
      refine ⟨_, ?_, .d (.int _ _)⟩
      rw [hg.str_inv]
      simp [Builtin.len_, run_under (isStr_spec (by assumption)), goInt, size_mk, go_sem]
    · cases h
  · split at h
    · cases h
      obtain ⟨ad, e⟩ := hg.eslice_inv
      refine ⟨_, ?_, .d (.int _ _)⟩
      rw [e]
      simp [Builtin.len_, run_under (uSl_spec (by assumption)), goInt, go_sem]
    · cases h
  · split at h
    · cases h
      obtain ⟨_, ad, cap, e, _⟩ := hg.dslice_inv
      refine ⟨_, ?_, .d (.int _ _)⟩
      rw [e]
      simp [Builtin.len_, run_under (uSl_spec (by assumption)), goInt, go_sem]
    · cases h
  · rename_i k
    split at h
    · rename_i e0 hu
      split at h
      · rename_i e1 sz xs hk
        cases h
        refine ⟨_, ?_, .d (.int _ _)⟩
        obtain ⟨ad, cap, e⟩ := hg.rslice_len
        have ho := r.hp.ob k
        rw [hk] at ho
        rw [e, ho.1]
        simp [Builtin.len_, run_under (uSl_spec hu), goInt, go_sem]
      · cases h
    · cases h
  · rename_i k
    split at h
    · obtain ⟨K, E, hu⟩ := isMap_spec (by assumption)
      split at h
      · rename_i es hk
        cases h
        have ho := r.hp.ob k
        rw [hk] at ho
        obtain ⟨ents, clock, h1, h2, _⟩ := ho
        refine ⟨_, ?_, .d (.int _ _)⟩
        rw [hg.amap_inv]
        simp [Builtin.len_, run_under hu, goInt, run_getMap h1, h2, go_sem]
      · cases h
    · cases h
  · split at h
    · cases h
      refine ⟨_, ?_, .d (.int _ _)⟩
      simp [Builtin.len_, run_under (uArr_spec (by assumption)), goInt, go_sem]
    · cases h

theorem drop_take_arr (l : List UInt8) (i j : Nat) : (⟨l.toArray⟩ : ByteArray).extract i j = ⟨((l.drop i).take (j - i)).toArray⟩ := by
  apply ByteArray.ext
  simp [ByteArray.data_extract, List.extract_toArray]

theorem abnd_spec (r : Rel c s a w β κ) {d n : Int} {x : Option Operand} (h : abnd s d x = some n) : (x = none ∧ n = d) ∨ ∃ y k, x = some y ∧ a.eval y = .int k n := by
  cases x with
  | none => simp [abnd] at h; exact .inl ⟨rfl, h.symm⟩
  | some y =>
    simp only [abnd] at h
    split at h
    · rename_i k m e
      cases h
      have := r.op y
      rw [e] at this
      exact .inr ⟨y, k, rfl, this.int_inv⟩
    · cases h

theorem run_bound {k : IntKind} {n : Int} {m : Nat} {code : BoundsCode} (h0 : 0 ≤ n) (h1 : n ≤ m) : (Instr.sliceBound (.int k n) m code).run P w = .ok n.toNat w := by
  simp [Instr.sliceBound, asIntOf, h0, h1, go_sem]

theorem run_bounds (r : Rel c s a w β κ) {isS : Bool} {len cap : Nat} {lo hi : Option Operand} {x y : Int} (h1 : abnd s 0 lo = some x) (h2 : abnd s len hi = some y) (hx : 0 ≤ x) (hxy : x ≤ y) (hy : y ≤ len) (hlc : len ≤ cap) :
    (Instr.sliceBounds isS len cap (lo.map a.eval) (hi.map a.eval) none).run P w = .ok (x.toNat, y.toNat, cap) w := by
  have e2 : hi = none ∧ y = len ∨ ∃ z k, hi = some z ∧ a.eval z = .int k y := abnd_spec r h2
  have e1 := abnd_spec r h1
  rcases e1 with ⟨rfl, rfl⟩ | ⟨z1, k1, rfl, e1⟩ <;> rcases e2 with ⟨rfl, rfl⟩ | ⟨z2, k2, rfl, e2⟩
  · simp [Instr.sliceBounds, go_sem]
  · have b2 := run_bound (P := P) (w := w) (k := k2) (n := y) (m := cap) (code := if isS then .sliceAcap else .sliceAlen) (by omega) (by omega)
    simp only [Instr.sliceBounds, Option.map_some, Option.map_none, e2, pure_bind, Sem.run_bind, b2, Result.andThen]; rfl
  · have b1 := run_bound (P := P) (w := w) (k := k1) (n := x) (m := len) (code := if false = true then BoundsCode.slice3C else BoundsCode.sliceB) (by omega) (by omega)
    simp only [Instr.sliceBounds, Option.map_some, Option.map_none, e1, pure_bind, Sem.run_bind, b1, Result.andThen, Option.isSome]; rfl
  · have b2 := run_bound (P := P) (w := w) (k := k2) (n := y) (m := cap) (code := if isS then .sliceAcap else .sliceAlen) (by omega) (by omega)
    have b1 := run_bound (P := P) (w := w) (k := k1) (n := x) (m := y.toNat) (code := if false = true then BoundsCode.slice3C else BoundsCode.sliceB) (by omega) (by omega)
    simp only [Instr.sliceBounds, Option.map_some, Option.map_none, e1, e2, pure_bind, Sem.run_bind, b1, b2, Result.andThen, Option.isSome]; rfl

theorem run_slice_str (r : Rel c s a w β κ) {t : TypeId} {l : List UInt8} {lo hi : Option Operand} {x y : Int} (hu : P.underlying t = some .string) (h1 : abnd s 0 lo = some x) (h2 : abnd s l.length hi = some y) (hx : 0 ≤ x) (hxy : x ≤ y) (hy : y ≤ l.length) :
    (Instr.sliceAt t (.string ⟨l.toArray⟩) (lo.map a.eval) (hi.map a.eval) none).run P w = .ok (.string ⟨((l.drop x.toNat).take (y.toNat - x.toNat)).toArray⟩) w := by
  have hb := run_bounds (P := P) (w := w) r (isS := false) (cap := l.length) h1 h2 hx hxy hy (Nat.le_refl _)
  simp only [Instr.sliceAt, Instr.slice, Sem.run_bind, run_under hu, Result.andThen, size_mk, Option.isSome, Bool.false_eq_true, if_false, hb]
  simp [drop_take_arr, go_sem]

theorem run_slice_sl (r : Rel c s a w β κ) {t e : TypeId} {n : Nat} {ad : Option Addr} {len cap : Nat} {lo hi : Option Operand} {x y : Int} (hu : P.underlying t = some (.slice e)) (hn : szOf P e = some n) (h1 : abnd s 0 lo = some x) (h2 : abnd s len hi = some y) (hx : 0 ≤ x) (hxy : x ≤ y) (hy : y ≤ len) (hc : len ≤ cap) :
    (Instr.sliceAt t (.slice ad len cap) (lo.map a.eval) (hi.map a.eval) none).run P w = .ok (.slice (if cap = x.toNat then ad else ad.map (·.add (x.toNat * n))) (y.toNat - x.toNat) (cap - x.toNat)) w := by
  have hb := run_bounds (P := P) (w := w) r (isS := true) (cap := cap) h1 h2 hx hxy hy hc
  simp only [Instr.sliceAt, Instr.slice, Sem.run_bind, run_under hu, Result.andThen, run_sizeOf hn, hb]
  rfl

theorem aslice_sound (r : Rel c s a w β κ) {t : TypeId} {v v' : AV} {V : Value} (hg : G w (c.XX s.h β) β κ v V) {lo hi : Option Operand} {p : Prop} (h : aslice P s t v lo hi = some (p, v')) (hp : p) :
    ∃ V', (Instr.sliceAt t V (lo.map a.eval) (hi.map a.eval) none).run P w = .ok V' w ∧ G w (c.XX s.h β) β κ v' V' := by
  unfold aslice at h
  split at h
  · split at h
    · split at h
      · rename_i hS _ _ x y h1 h2
        cases h
        rw [hg.str_inv]
        exact ⟨_, run_slice_str r (isStr_spec hS) h1 h2 hp.1 hp.2.1 hp.2.2, .d (.str _ (Nat.le_trans (by simp; omega) hg.str_len))⟩
      · cases h
    · cases h
  · rename_i xs
    split at h
    · rename_i e he
      split at h
      · rename_i n x y hn h1 h2
        split at h
        · cases h
        · rename_i hn0
          cases h
          obtain ⟨⟨hx, hxy, hy⟩, hul⟩ := hp
          obtain ⟨hd, ad, cap, eV, hc1, hc2⟩ := hg.dslice_inv
          refine ⟨_, by rw [eV]; exact run_slice_sl r (uSl_spec he) hn h1 h2 hx hxy hy hc1, ?_⟩
          have hlen : ((xs.drop x.toNat).take (y.toNat - x.toNat)).length = y.toNat - x.toNat := by simp; omega
          by_cases hz : y.toNat - x.toNat = 0
          · have : (xs.drop x.toNat).take (y.toNat - x.toNat) = [] := by rw [hz]; rfl
            rw [this, hz]
            exact .d (.dnil _ _ (by omega))
          · cases hd with
            | dnil => cases eV; simp at hy; omega
            | dslice _ b o cap' sz cv k1 k2 k0 k3 k4 k5 k6 =>
              cases eV
              have hsz : sz = n := by rw [← k4 0 (by omega)]; exact hul.getD (by omega)
              subst hsz
              rw [if_neg (by omega)]
              have := D.dslice (w := w) (X := c.XX s.h β) ((xs.drop x.toNat).take (y.toNat - x.toNat)) b (o + x.toNat * sz) (cap - x.toNat) sz (fun i j => cv (x.toNat + i) j) (by omega) (by omega) k0 k3
                (fun i hi => by rw [getD_take _ _ _ _ (by omega), getD_drop]; exact k4 _ (by omega))
                (fun i j hi hj => by have := k5 (x.toNat + i) j (by omega) hj; rw [Nat.add_mul] at this; rw [show o + x.toNat * sz + (i * sz + j) = o + (x.toNat * sz + i * sz + j) by omega]; exact this)
                (fun i j hi hj => by rw [getD_take _ _ _ _ (by omega), getD_drop]; exact k6 _ j (by omega) hj)
              rw [hlen] at this
              simpa [add_mk] using G.d this
      · cases h
    · cases h
  · cases h

theorem aindex_sound (r : Rel c s a w β κ) {t : TypeId} {v v' : AV} {V : Value} (hg : G w (c.XX s.h β) β κ v V) {i : Operand} {p : Prop} (h : aindex P s t v i = some (p, v')) (hp : p) :
    ∃ V', (Instr.index t V (a.eval i)).run P w = .ok V' w ∧ G w (c.XX s.h β) β κ v' V' := by
  have hi := r.op i
  unfold aindex at h
  split at h
  · rename_i l k n e
    rw [e] at hi
    split at h
    · rename_i hS
      cases h
      rw [hi.int_inv, hg.str_inv]
      refine ⟨_, ?_, .d (.int _ _)⟩
      have hb : n.toNat < l.length := by omega
      have : (⟨l.toArray⟩ : ByteArray)[n.toNat]? = some (l.getD n.toNat 0) := by
        rw [getElem?_pos _ _ (by rw [size_mk]; exact hb)]
        simp [List.getD_eq_getElem?_getD, List.getElem?_eq_getElem hb]; rfl
      simp [Instr.index, asIntOf, run_under (isStr_spec hS), hp.1, this, go_sem]
    · cases h
  · rename_i cs k n e
    rw [e] at hi
    split at h
    · rename_i len et hA
      split at h
      · rename_i m
        split at h
        · rename_i sz hsz
          split at h
          · rename_i hm
            split at h
            · rename_i v2 hv2
              cases h
              obtain ⟨vs, eV, hl, hgs⟩ := hg.agg_inv
              obtain ⟨V', hr, hg'⟩ := apart_sound hl hgs hv2 (P := P)
              refine ⟨V', ?_, hg'⟩
              rw [hi.int_inv, eV]
              have h0 : (0 : Int) ≤ Int.ofNat m ∧ Int.ofNat m < (len : Int) := ⟨by simp, by simpa using hm⟩
              simp only [Instr.index, asIntOf, pure_bind, Sem.run_bind, run_under (uArr_spec hA), Result.andThen, if_pos h0, run_sizeOf hsz]
              exact hr
            · cases h
          · cases h
        · cases h
      · cases h
    · cases h
  · cases h

theorem aindexAddr_sound (r : Rel c s a w β κ) {t : TypeId} {v v' : AV} {V : Value} (hg : G w (c.XX s.h β) β κ v V) {i : Operand} {p : Prop} (h : aindexAddr P s t v i = some (p, v')) (hp : p) :
    ∃ V', (Instr.indexAt t V (a.eval i)).run P w = .ok V' w ∧ G w (c.XX s.h β) β κ v' V' := by
  have hi := r.op i
  unfold aindexAddr at h
  split at h
  · rename_i k n e
    rw [e] at hi
    split at h
    · rename_i xs
      split at h
      · rename_i et hS
        split at h
        · rename_i sz hsz
          cases h
          obtain ⟨⟨h0, h1⟩, h2, h3⟩ := hp
          have hb : n.toNat < xs.length := by omega
          obtain ⟨hd, ad, cap, eV, hc1, hc2⟩ := hg.dslice_inv
          cases hd with
          | dnil => simp at hb
          | dslice _ b o cap' sz' cv k1 k2 k0 k3 k4 k5 k6 =>
            have hsz' : sz' = sz := by rw [← k4 _ hb]; exact h2
            subst hsz'
            refine ⟨.pointer (some ⟨b, o + n.toNat * sz', none⟩), ?_, .d (.dptr _ b (o + n.toNat * sz') (fun j => cv n.toNat j) (by omega) k3 (fun j hj => ?_) (fun j hj => k6 _ j hb (by omega)))⟩
            · rw [hi.int_inv]
              simp [Instr.indexAt, asIntOf, run_under (uSl_spec hS), h0, h1, run_sizeOf hsz, add_mk, go_sem]
            · have := k5 n.toNat j hb (by omega)
              rwa [← Nat.add_assoc] at this
        · cases h
      · cases h
    · rename_i kk
      split at h
      · rename_i et hS
        split at h
        · rename_i sz _ _ xs hsz hk
          cases h
          refine ⟨.pointer (some ⟨β kk, n.toNat * sz, none⟩), ?_, .hptr _ _⟩
          have ho := r.hp.ob kk
          rw [hk] at ho
          rcases hg.rslice_inv with ⟨_, e⟩ | ⟨e0, _, _⟩
          case inr => rw [ho.1] at e0; omega
          rw [hi.int_inv, e, ho.1]
          simp [Instr.indexAt, asIntOf, run_under (uSl_spec hS), hp.1, hp.2, run_sizeOf hsz, add_mk, go_sem]
        · cases h
      · cases h
    · rename_i kk o
      split at h
      · rename_i len et hA
        split at h
        · rename_i m
          split at h
          · rename_i sz hsz
            split at h
            · rename_i hm
              cases h
              refine ⟨.pointer (some ⟨β kk, o + m * sz, none⟩), ?_, .hptr _ _⟩
              rw [hi.int_inv, hg.hptr_inv]
              have h0 : (0 : Int) ≤ Int.ofNat m ∧ Int.ofNat m < (len : Int) := ⟨by simp, by simpa using hm⟩
              have h0' : (0 : Int) ≤ (m : Int) ∧ (m : Int) < (len : Int) := h0
              simp [Instr.indexAt, asIntOf, run_under (uArr_spec hA), Instr.sureAddr, hm, run_sizeOf hsz, add_mk, go_sem]
            · cases h
          · cases h
        · cases h
      · cases h
    · cases h
  · cases h
end
end Go.Ab
