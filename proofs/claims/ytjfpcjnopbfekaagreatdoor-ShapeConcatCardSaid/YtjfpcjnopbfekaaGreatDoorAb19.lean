/- ABSTRACT STATES: a whole region as one computation. -/
import Derived.Test.YtjfpcjnopbfekaaGreatDoorAbK
import Derived.Test.YtjfpcjnopbfekaaGreatDoorAbG
set_option linter.unusedSimpArgs false
set_option linter.unusedVariables false
namespace Go.Ab
open Go.RowKit

/-- What is to be done with an operation: v: it computes; e: it computes this; s: its guard is not met; c: a call whose contract gives this value; b: a literal; ae: append to an empty slice that nobody writes to again;
l: a look into a map gives this; h: a call that is handed objects (their keys here and there), its value, what they have become; m: memory of the walk's own; ap: append to a row of one's own; apg: append to an empty slice with room of its own; en: the entry of a step; fm: (no operation) nobody writes to a map again; fz: (no operation) a row becomes a slice that nobody writes to again; er: (no operation) an empty slice becomes a row. -/
inductive Dir where
  | v
  | e (v : AV)
  | s
  | c (fl : Bool) (v : AV)
  | b
  | ae
  | l (v : AV)
  | h (ps : List (Nat × Nat)) (v : AV) (h1 : List (Nat × AO))
  | m
  | ap
  | fz (k : Nat)
  | fm (k : Nat)
  | en (i : Nat) (v : AV)
  | er (t k : Nat) (e : TypeId) (sz : Nat)
  | w
  | we (v : AV)
  | cf (fl : Bool) (v : AV)
  | cw (fl : Bool) (pl : List (Nat × List (Nat × Nat))) (v : AV)
  | wk (t : Nat) (p : List (Nat × Nat))
  | rwT (t : Nat) (v : AV)
  | rwH (k : Nat) (ob : AO)
  | rl (n j : Nat) (v : AV)
  | rs (n j : Nat)
  | apx (zs : List (List AV))
  | bw (pl : List (List (Nat × Nat)))
  | apg
  | hN (v : AV) (h1 : List (Nat × AO))
  | hR (ps : List (Nat × Nat)) (d : Nat) (v : AV) (h1 : List (Nat × AO))

def All : List Prop → Prop
  | [] => True
  | [p] => p
  | p :: ps => p ∧ All ps
theorem All.cons {p : Prop} {ps : List Prop} : All (p :: ps) ↔ p ∧ All ps := by
  cases ps with
  | nil => simp [All]
  | cons q qs => rfl
theorem All.append {ps qs : List Prop} : All (ps ++ qs) ↔ All ps ∧ All qs := by
  induction ps with
  | nil => simp [All]
  | cons p ps ih => rw [List.cons_append, All.cons, All.cons, ih, and_assoc]

/-- The operations that ask for something. -/
def asks : Op → Bool
  | .unOp _ _ _ => true
  | .binOp op _ _ _ _ => match op with | .add | .sub | .mul | .quo | .rem => true | _ => false
  | .slice _ _ _ _ _ => true
  | .index _ _ _ => true
  | .indexAddr _ _ _ => true
  | .call _ => true
  | .convert _ _ _ => true
  | _ => false

def asksW : Op → Bool
  | .binOp .quo _ _ _ _ => true
  | .index _ _ _ => true
  | _ => false
def prpW (op : Op) (p : Prop) : List Prop := if asksW op then [p] else []
def prp (op : Op) (p : Prop) : List Prop := if asks op then [p] else []

section
variable {P : Program} {ops : Array Oper} {o : Oper} {s s' : AS}

theorem gen1 {p q : Prop} {u v : AV} (hq : q) (h : some (q, u) = some (p, v)) : p := by
  cases h; exact hq
theorem ibin_true {op : BinOp} {k : IntKind} {a b : Int} {p : Prop} {v : AV} (ha : (match op with | .add | .sub | .mul | .quo | .rem => true | _ => false) = false) (h : ibin op k a b = some (p, v)) : p := by
  cases op <;> simp only [ibin, reduceCtorEq] at h ha <;> first | exact gen1 trivial h | cases h
theorem sbin_true {op : BinOp} {a b : List UInt8} {p : Prop} {v : AV} (ha : (match op with | .add | .sub | .mul | .quo | .rem => true | _ => false) = false) (h : sbin op a b = some (p, v)) : p := by
  cases op <;> simp only [sbin, reduceCtorEq] at h ha <;> first | exact gen1 trivial h | cases h
theorem abin_true {op : BinOp} {t : TypeId} {x y : Operand} {p : Prop} {v : AV} (ha : (match op with | .add | .sub | .mul | .quo | .rem => true | _ => false) = false) (h : abin P s op t x y = some (p, v)) : p := by
  unfold abin at h
  split at h
  · split at h
    · exact ibin_true ha h
    · cases h
  · exact sbin_true ha h
  · split at h
    · split at h <;> first | exact gen1 trivial h | cases h
    · cases h
  · split at h
    · split at h <;> first | exact gen1 trivial h | cases h
    · cases h
  · split at h
    · split at h <;> first | exact gen1 trivial h | cases h
    · cases h
  · cases h
theorem aval_true {op : Op} {p : Prop} {v : AV} (ha : asks op = false) (h : aval P s op = some (p, v)) : p := by
  unfold aval at h
  split at h
  case h_9 => exact abin_true ha h
  all_goals first
    | exact gen1 trivial h
    | (cases ha; done)
    | ((repeat' split at h) <;> first | exact gen1 trivial h | (cases h; done))
theorem prp_spec {op : Op} {p : Prop} {v : AV} (h : aval P s op = some (p, v)) (hp : All (prp op p)) : p := by
  unfold prp at hp
  cases ha : asks op with
  | true => rw [ha] at hp; exact hp
  | false => exact aval_true ha h

theorem awr_true {op : Op} {p : Prop} {v : AV} (ha : asksW op = false) (h : awr P s op = some (p, v)) : p := by
  unfold awr at h
  split at h
  · split at h
    · repeat' split at h
      all_goals first | exact gen1 trivial h | cases h
    · split at h
      · exact gen1 trivial h
      · exact gen1 trivial h
      · exact gen1 trivial h
      · cases ha
      · cases h
    · cases h
  · split at h
    · exact gen1 trivial h
    · cases h
  · cases ha
  · cases h
theorem prpW_spec {op : Op} {p : Prop} {v : AV} (h : awr P s op = some (p, v)) (hp : All (prpW op p)) : p := by
  unfold prpW at hp
  cases ha : asksW op with
  | true => rw [ha] at hp; exact hp
  | false => exact awr_true ha h

def okDst (s : AS) (dst : Option Tmp) : Bool := match dst with | none => true | some t => Nat.blt t s.n
theorem okDst_spec {dst : Option Tmp} (h : okDst s dst = true) (v : AV) : s.put dst v = some ((Eff.put dst v).app s) := by
  cases dst with
  | none => rfl
  | some t => simp only [okDst] at h; simp only [AS.put, h]; rfl

def callArgs (fl : Bool) (s : AS) (ar : Array Operand) (caps : List AV) : Option (List AV) :=
  if fl then (if AV.flL (s.args ar caps) then some (s.args ar caps) else none) else some ((s.args ar caps).map (AV.vw s.h))

def stepC (P : Program) (s : AS) (op : Op) (fl : Bool) (v : AV) : Option (List Prop) :=
  match op with
  | .call ⟨.value x, ar, _⟩ => match s.op x with
    | .fn f caps => match callArgs fl s ar caps with
      | some args => bif okRes fl v then some [Go.Proofs.Enters P f, ACall P f args [] fun r _ => r = v] else none
      | none => none
    | _ => none
  | _ => none
def stepCF (P : Program) (s : AS) (op : Op) (fl : Bool) (v : AV) : Option (List Prop) :=
  match op with
  | .call ⟨.value x, ar, _⟩ => match s.op x with
    | .fn f caps => match callArgs fl s ar caps with
      | some args => some [Go.Proofs.Enters P f, ACall P f args [] (fun r _ => r = v), okRes fl v = true]
      | none => none
    | _ => none
  | _ => none
def stepCW (P : Program) (s : AS) (op : Op) (fl : Bool) (pl : List (Nat × List (Nat × Nat))) (v : AV) : Option (List Prop) :=
  match op with
  | .call ⟨.value x, ar, _⟩ => match s.op x with
    | .fn f caps => match callArgs fl s ar caps with
      | some args => bif okRes fl v then some [Go.Proofs.Enters P f, ACall P f (wkArgs pl args) [] fun r _ => r = v] else none
      | none => none
    | _ => none
  | _ => none
def stepB (P : Program) (s : AS) : Op → Option AV
  | .build t ps => abuild P t (s.parts ps)
  | .buildSlice t len ps => abuildSlice P t len (s.parts ps)
  | _ => none
def stepAE (P : Program) (s : AS) : Op → Option (List Prop × AV)
  | .call ⟨.builtin .append, ar, tys⟩ => match ar.toList, tys.toList with
    | [x, y], [t, t'] => if t = t' then (match elemOk P t, s.op x, s.op y with
      | some (_, sz, by_), .eslice, .dslice ys => some ([EL sz ys, ys.length * by_ ≤ 140737488355328, ys.length ≤ 9223372036854775807], .dslice ys)
      | _, _, _ => none) else none
    | _, _ => none
  | _ => none

def stepRL (P : Program) (s : AS) (n j : Nat) : Op → Option (Prop × AV)
  | .load t x => rload P s t (s.op x) n j
  | _ => none
def stepRS (P : Program) (s : AS) (dst : Option Tmp) (n j : Nat) : Op → Option (Prop × AS)
  | .store t x y => match dst with | none => rstore P s t (s.op x) (s.op y) n j | some _ => none
  | _ => none
theorem stepRS_sound {n j : Nat} {p : Prop} (hg : gd ops s o = some true) (h : stepRS P s o.dst n j o.op = some (p, s')) (hp : p) : OpT P ops o s (· = s') := by
  unfold stepRS at h
  split at h
  · rename_i t x y hop
    split at h
    · rename_i hd; exact op_rstore hg hop hd h hp
    · cases h
  · cases h
def stepL (P : Program) (s : AS) : Op → Option AV
  | .lookup t m x false => match alook P s t (s.op m) (s.op x) with
    | some v => some v
    | none => alookD P t (s.op m) (s.op x)
  | _ => none

def isG (b : Bool) : Option Bool → Bool
  | some c => c == b
  | none => false
theorem isG_spec {b : Bool} {x : Option Bool} (h : isG b x = true) : x = some b := by
  cases x with
  | none => cases h
  | some c => simp only [isG, beq_iff_eq] at h; rw [h]

def stepE (P : Program) (ops : Array Oper) (s : AS) (o : Oper) (d : Dir) : Option (List Prop × AV) :=
  bif okDst s o.dst then (match d with
  | .s => bif isG false (gd ops s o) then some ([], .tup []) else none
  | .v => bif isG true (gd ops s o) then (match aval P s o.op with | some (p, v) => some (prp o.op p, v) | none => none) else none
  | .e v' => bif isG true (gd ops s o) then (match aval P s o.op with | some (p, v) => some (prp o.op p ++ [v = v'], v') | none => none) else none
  | .c fl v => bif isG true (gd ops s o) then (match stepC P s o.op fl v with | some ps => some (ps, v) | none => none) else none
  | .cf fl v => bif isG true (gd ops s o) then (match stepCF P s o.op fl v with | some ps => some (ps, v) | none => none) else none
  | .b => bif isG true (gd ops s o) then (match stepB P s o.op with | some v => some ([], v) | none => none) else none
  | .bw pl => bif isG true (gd ops s o) then (match stepB P s o.op with | some v => some ([], wkAll pl v) | none => none) else none
  | .ae => bif isG true (gd ops s o) then stepAE P s o.op else none
  | .l v' => bif isG true (gd ops s o) then (match stepL P s o.op with | some v => some ([v = v'], v') | none => none) else none
  | .rl n j v' => bif isG true (gd ops s o) then (match stepRL P s n j o.op with | some (p, v) => some ([p, v = v'], v') | none => none) else none
  | .w => bif isG true (gd ops s o) then (match awr P s o.op with | some (p, v) => some (prpW o.op p, v) | none => none) else none
  | .we v' => bif isG true (gd ops s o) then (match awr P s o.op with | some (p, v) => some (prpW o.op p ++ [v = v'], v') | none => none) else none
  | .cw fl pl v => bif isG true (gd ops s o) then (match stepCW P s o.op fl pl v with | some ps => some (ps, v) | none => none) else none
  | _ => none) else none

theorem bif_some {α : Type} {b : Bool} {x : Option α} {y : α} (h : (bif b then x else none) = some y) : b = true ∧ x = some y := by
  cases b with
  | true => exact ⟨rfl, h⟩
  | false => cases h

theorem stepE_sound {d : Dir} {ps : List Prop} {v : AV} (h : stepE P ops s o d = some (ps, v)) (hp : All ps) : Loc P ops o s (.put o.dst v) := by
  unfold stepE at h
  obtain ⟨hd, h⟩ := bif_some h
  cases d
  case s =>
    obtain ⟨hg, h⟩ := bif_some h
    cases h
    exact loc_skip (isG_spec hg) (okDst_spec hd _)
  case v =>
    obtain ⟨hg, h⟩ := bif_some h
    split at h
    · rename_i p v' hv
      cases h
      exact loc_val (isG_spec hg) hv (prp_spec hv hp) (okDst_spec hd _)
    · cases h
  case e v0 =>
    obtain ⟨hg, h⟩ := bif_some h
    split at h
    · rename_i p v' hv
      cases h
      obtain ⟨h1, h2⟩ := All.append.1 hp
      have h3 : v' = v := h2
      subst h3
      exact loc_val (isG_spec hg) hv (prp_spec hv h1) (okDst_spec hd _)
    · cases h
  case c fl v0 =>
    obtain ⟨hg, h⟩ := bif_some h
    split at h
    · rename_i ps' hs
      simp only [Option.some.injEq, Prod.mk.injEq] at h
      obtain ⟨h1, h2⟩ := h
      subst h1; subst h2
      unfold stepC at hs
      split at hs
      · rename_i x ar tys hop
        split at hs
        · rename_i f caps hx
          split at hs
          · rename_i args ha
            obtain ⟨hr, hs⟩ := bif_some hs
            cases hs
            exact loc_call hp.1 (isG_spec hg) hop hx _ ha hp.2 hr (okDst_spec hd _)
          · cases hs
        · cases hs
      · cases hs
    · cases h
  case cf fl v0 =>
    obtain ⟨hg, h⟩ := bif_some h
    split at h
    · rename_i ps' hs
      simp only [Option.some.injEq, Prod.mk.injEq] at h
      obtain ⟨h1, h2⟩ := h
      subst h1; subst h2
      unfold stepCF at hs
      split at hs
      · rename_i x ar tys hop
        split at hs
        · rename_i f caps hx
          split at hs
          · rename_i args ha
            cases hs
            exact loc_call hp.1 (isG_spec hg) hop hx _ ha hp.2.1 hp.2.2 (okDst_spec hd _)
          · cases hs
        · cases hs
      · cases hs
    · cases h
  case rl n j v0 =>
    obtain ⟨hg, h⟩ := bif_some h
    split at h
    · rename_i p v' hv
      cases h
      obtain ⟨h1, h2⟩ := hp
      have h3 : v' = v := h2
      subst h3
      unfold stepRL at hv
      split at hv
      · rename_i t x hop
        exact loc_rload (isG_spec hg) hop hv h1 (okDst_spec hd _)
      · cases hv
    · cases h
  case w =>
    obtain ⟨hg, h⟩ := bif_some h
    split at h
    · rename_i p v' hv
      cases h
      exact loc_wr (isG_spec hg) hv (prpW_spec hv hp) (okDst_spec hd _)
    · cases h
  case we v0 =>
    obtain ⟨hg, h⟩ := bif_some h
    split at h
    · rename_i p v' hv
      cases h
      obtain ⟨h1, h2⟩ := All.append.1 hp
      have h3 : v' = v := h2
      subst h3
      exact loc_wr (isG_spec hg) hv (prpW_spec hv h1) (okDst_spec hd _)
    · cases h
  case cw fl pl v0 =>
    obtain ⟨hg, h⟩ := bif_some h
    split at h
    · rename_i ps' hs
      simp only [Option.some.injEq, Prod.mk.injEq] at h
      obtain ⟨h1, h2⟩ := h
      subst h1; subst h2
      unfold stepCW at hs
      split at hs
      · rename_i x ar tys hop
        split at hs
        · rename_i f caps hx
          split at hs
          · rename_i args ha
            obtain ⟨hr, hs⟩ := bif_some hs
            cases hs
            exact loc_call hp.1 (isG_spec hg) hop hx _ ha hp.2.wk hr (okDst_spec hd _)
          · cases hs
        · cases hs
      · cases hs
    · cases h
  case b =>
    obtain ⟨hg, h⟩ := bif_some h
    split at h
    · rename_i v' hs
      cases h
      unfold stepB at hs
      split at hs
      · rename_i t parts hop; exact loc_build (isG_spec hg) hop hs (okDst_spec hd _)
      · rename_i t len parts hop; exact loc_buildSlice (isG_spec hg) hop hs (okDst_spec hd _)
      · cases hs
    · cases h
  case bw pl =>
    obtain ⟨hg, h⟩ := bif_some h
    split at h
    · rename_i v' hs
      cases h
      unfold stepB at hs
      split at hs
      · rename_i t parts hop; exact loc_wkAll _ (loc_build (isG_spec hg) hop hs (okDst_spec hd _))
      · rename_i t len parts hop; exact loc_wkAll _ (loc_buildSlice (isG_spec hg) hop hs (okDst_spec hd _))
      · cases hs
    · cases h
  case ae =>
    obtain ⟨hg, h⟩ := bif_some h
    unfold stepAE at h
    split at h
    · rename_i ar tys hop
      split at h
      · rename_i x y t t' har hty
        split at h
        case isFalse => cases h
        rename_i ht
        subst ht
        split at h
        · rename_i e sz by_ ys he hx hy
          cases h
          have e1 : ar = #[x, y] := by rw [← Array.toList_inj]; exact har
          have e2 : tys = #[t, t] := by rw [← Array.toList_inj]; exact hty
          subst e1; subst e2
          exact loc_appendE (isG_spec hg) hop he hx hy hp.1 hp.2.1 hp.2.2 (okDst_spec hd _)
        · cases h
      · cases h
    · cases h
  case l v0 =>
    obtain ⟨hg, h⟩ := bif_some h
    split at h
    · rename_i v' hs
      cases h
      unfold stepL at hs
      split at hs
      · rename_i t m x hop
        have h3 : v' = v := hp
        subst h3
        split at hs
        · rename_i h4; cases hs; exact loc_look (isG_spec hg) hop h4 (okDst_spec hd _)
        · exact loc_lookD (isG_spec hg) hop hs (okDst_spec hd _)
      · cases hs
    · cases h
  all_goals cases h

/-- A call that makes an object. -/
def stepNew (P : Program) (s : AS) (dst : Option Tmp) (v : AV) (h1 : List (Nat × AO)) : Op → Option (List Prop × Eff)
  | .call ⟨.value x, ar, _⟩ => match s.op x, dst with
    | .fn f caps, some k => bif AV.flL (s.args ar caps) && (Nat.blt k s.n && Nat.blt k 1000) then some ([Go.Proofs.Enters P f, ACall P f (s.args ar caps) [] fun r h => r = v ∧ h = h1], ⟨[(k, AV.ren [(0, k)] v)], [(k, AO.ren [(0, k)] (lk .gone h1 0))], [k], []⟩) else none
    | _, _ => none
  | _ => none
theorem stepNew_sound {v : AV} {h1 : List (Nat × AO)} {ps : List Prop} {e : Eff} (hg : gd ops s o = some true) (h : stepNew P s o.dst v h1 o.op = some (ps, e)) (hp : All ps) : Loc P ops o s e := by
  unfold stepNew at h
  split at h
  · rename_i x ar tys hop
    split at h
    · rename_i f caps k hx hd
      obtain ⟨hc, h⟩ := bif_some h
      rw [Bool.and_eq_true] at hc
      cases h
      exact loc_callN hp.1 hg hop hx hc.1 hd hc.2 hp.2
    · cases h
  · cases h
/-- An operation whose order is open. -/
def stepX (P : Program) (ops : Array Oper) (s : AS) (o : Oper) (d : Dir) : Option (List Prop × Eff) :=
  match d with
  | .m => bif isG true (gd ops s o) then (match stepF P s o.dst o.op with | some e => some ([], e) | none => none) else none
  | .apx zs => bif isG true (gd ops s o) then stepA P s o.dst zs o.op else none
  | .hN v h1 => bif isG true (gd ops s o) then stepNew P s o.dst v h1 o.op else none
  | d => match stepE P ops s o d with
    | some (p, v) => some (p, .put o.dst v)
    | none => none
theorem All.mem {ps : List Prop} (h : All ps) : ∀ p ∈ ps, p := by
  induction ps with
  | nil => intro p hp; cases hp
  | cons q qs ih =>
    obtain ⟨h1, h2⟩ := All.cons.1 h
    intro p hp
    rcases List.mem_cons.1 hp with rfl | hp
    · exact h1
    · exact ih h2 p hp
theorem stepX_sound {d : Dir} {ps : List Prop} {e : Eff} (h : stepX P ops s o d = some (ps, e)) (hp : All ps) : Loc P ops o s e := by
  unfold stepX at h
  split at h
  · obtain ⟨hg, h⟩ := bif_some h
    split at h
    · rename_i e' he
      cases h
      exact stepF_sound (isG_spec hg) he
    · cases h
  · obtain ⟨hg, h⟩ := bif_some h
    exact stepA_sound (isG_spec hg) h hp.mem
  · obtain ⟨hg, h⟩ := bif_some h
    exact stepNew_sound (isG_spec hg) h hp
  · split at h
    · rename_i p v hv
      cases h
      exact stepE_sound hv hp
    · cases h

/-- A chain of them. -/
def runE (P : Program) (ops : Array Oper) : List Oper → List Dir → AS → Option (List Prop × List Eff)
  | [], [], _ => some ([], [])
  | o :: os, d :: ds, s => match stepX P ops s o d with
    | some (p, e) => match runE P ops os ds (e.app s) with
      | some (ps, es) => some (p ++ ps, e :: es)
      | none => none
    | none => none
  | _, _, _ => none
def apps : List Eff → AS → AS
  | [], s => s
  | e :: es, s => apps es (e.app s)
theorem runE_sound : ∀ {os : List Oper} {ds : List Dir} {s : AS} {ps : List Prop} {es : List Eff}, runE P ops os ds s = some (ps, es) → All ps → Chain P ops os es s (apps es s)
  | [], [], s, ps, es, h, hp => by simp only [runE] at h; cases h; rfl
  | [], _ :: _, s, ps, es, h, hp => by simp only [runE] at h; cases h
  | _ :: _, [], s, ps, es, h, hp => by simp only [runE] at h; cases h
  | o :: os, d :: ds, s, ps, es, h, hp => by
    simp only [runE] at h
    split at h
    · rename_i p e hv
      split at h
      · rename_i ps' es' hr
        cases h
        obtain ⟨h1, h2⟩ := All.append.1 hp
        exact ⟨stepX_sound hv h1, runE_sound hr h2⟩
      · cases h
    · cases h

theorem Loc.op {e : Eff} (h : Loc P ops o s e) (hf : e.fr = []) (hx : e.ex = []) : OpT P ops o s (fun s'' => Same (e.app s) s'') :=
  h s ⟨rfl, fun _ _ => rfl, fun _ _ _ _ => rfl⟩ (fun k hk => by rw [hf] at hk; cases hk) (fun p hp => by rw [hx] at hp; cases hp)

/-- Own memory. -/
def stepM (P : Program) (s : AS) (dst : Option Tmp) : Op → Option AS
  | .box t x => match dst with | some k => abox s t (s.op x) k | none => none
  | .alloc t => match dst, zeroOf P t with | some k, some z => abox s t (AV.of z) k | _, _ => none
  | .store t x y => match dst with | none => astore P s t (s.op x) (s.op y) | some _ => none
  | .makeMap t none => match dst with | some k => amakeMap P s t k | none => none
  | .mapUpdate t m x y => match dst with | none => amset P s t (s.op m) (s.op x) (s.op y) | some _ => none
  | .range t m => match dst with | some k => arange P s t (s.op m) k | none => none
  | op => match stepBytes P s op with | some v => s.put dst v | none => none
theorem stepM_sound (hg : gd ops s o = some true) (h : stepM P s o.dst o.op = some s') : OpT P ops o s (· = s') := by
  unfold stepM at h
  split at h
  · rename_i t x hop
    split at h
    · rename_i k hd; exact op_box hg hop hd h
    · cases h
  · rename_i t hop
    split at h
    · rename_i k z hd hz; exact op_alloc hg hop hd hz h
    · cases h
  · rename_i t x y hop
    split at h
    · rename_i hd; exact op_store hg hop hd h
    · cases h
  · rename_i t hop
    split at h
    · rename_i k hd; exact op_makeMap hg hop hd h
    · cases h
  · rename_i t m x y hop
    split at h
    · rename_i hd; exact op_mset hg hop hd h
    · cases h
  · rename_i t m hop
    split at h
    · rename_i k hd; exact op_range hg hop hd h
    · cases h
  · split at h
    · exact bytes_sound hg (by assumption) h
    · cases h

/-- A call that is handed objects. -/
def stepH (P : Program) (s : AS) (dst : Option Tmp) (ps : List (Nat × Nat)) (v : AV) (h1 : List (Nat × AO)) : Op → Option (List Prop × AS)
  | .call ⟨.value x, ar, _⟩ => match s.op x with
    | .fn f caps => bif inj2 ps && (ps.all fun p => (lk .gone s.h p.1).liveB && Nat.ble 1000 p.2) && AV.fl v then (match AS.put ⟨s.n, s.t, back ps h1 ps s.h⟩ dst v with
      | some s' => some ([Go.Proofs.Enters P f, ACall P f ((s.args ar caps).map (AV.ren ps)) (hand ps s.h) fun r h' => r = v ∧ h' = h1], s')
      | none => none) else none
    | _ => none
  | _ => none
theorem stepH_sound {ps : List (Nat × Nat)} {v : AV} {h1 : List (Nat × AO)} {qs : List Prop} (hg : gd ops s o = some true) (h : stepH P s o.dst ps v h1 o.op = some (qs, s')) (hp : All qs) : OpT P ops o s (· = s') := by
  unfold stepH at h
  split at h
  · rename_i x ar tys hop
    split at h
    · rename_i f caps hx
      obtain ⟨hc, h2⟩ := bif_some h
      rw [Bool.and_eq_true] at hc
      split at h2
      · rename_i s2 hs
        simp only [Option.some.injEq, Prod.mk.injEq] at h2
        obtain ⟨h3, h4⟩ := h2
        subst h3; subst h4
        exact op_callH hp.1 hg hop hx ps hc.1 rfl rfl hp.2 fun r h' hr => by
          obtain ⟨rfl, rfl⟩ := hr
          exact ⟨hc.2, _, hs, rfl⟩
      · cases h2
    · cases h
  · cases h

/-- A call that is handed objects and rows, and may make an object. -/
def stepRR (P : Program) (s : AS) (dst : Option Tmp) (ps : List (Nat × Nat)) (d : Nat) (v : AV) (h1 : List (Nat × AO)) (f : FuncId) (args0 : List AV) : Option (List Prop × AS) :=
  bif inj2 ps && (ps.all fun p => Nat.ble 1000 p.2) && (rk ps d).isNone && Nat.blt d 1000 then (match AS.put ⟨s.n, pgT d s.t, backR ps d h1 s.h⟩ dst (AV.ren ((0, d) :: swp ps) v) with
    | some s' => some ([Go.Proofs.Enters P f, ACall P f (args0.map (AV.ren ps)) (hand ps s.h) fun r h' => r = v ∧ h' = h1], s')
    | none => none) else none
def stepR (P : Program) (s : AS) (dst : Option Tmp) (ps : List (Nat × Nat)) (d : Nat) (v : AV) (h1 : List (Nat × AO)) : Op → Option (List Prop × AS)
  | .call ⟨.value x, ar, _⟩ => match s.op x with
    | .fn f caps => stepRR P s dst ps d v h1 f (s.args ar caps)
    | .bm f k off => stepRR P s dst ps d v h1 f (AV.hptr k off :: s.args ar [])
    | _ => none
  | _ => none
theorem stepR_sound {ps : List (Nat × Nat)} {d : Nat} {v : AV} {h1 : List (Nat × AO)} {qs : List Prop} (hg : gd ops s o = some true) (h : stepR P s o.dst ps d v h1 o.op = some (qs, s')) (hp : All qs) : OpT P ops o s (· = s') := by
  have key : ∀ {f : FuncId} {args0 : List AV} {x : Operand} {ar : Array Operand} {tys : Array TypeId}, o.op = .call ⟨.value x, ar, tys⟩ → (Go.Proofs.Enters P f → ∀ (c : Cx P) a w β κ, Rel c s a w β κ → ∃ vs : Array Value, (execOp a.eval o).run P w = .ok (.enter f vs) w ∧ vs.size = args0.length ∧ ∀ i, i < args0.length → G w (c.XX s.h β) β κ (args0.getD i .any) (vs.toList.getD i undef)) → stepRR P s o.dst ps d v h1 f args0 = some (qs, s') → OpT P ops o s (· = s') := by
    intro f args0 x ar tys hop hx h
    unfold stepRR at h
    obtain ⟨hc, h2⟩ := bif_some h
    split at h2
    · rename_i s2 hs
      simp only [Option.some.injEq, Prod.mk.injEq] at h2
      obtain ⟨h3, h4⟩ := h2
      subst h3; subst h4
      exact op_callR hp.1 hg hop (hx hp.1) ps d hc rfl rfl hp.2 fun r h' hr => by
        obtain ⟨rfl, rfl⟩ := hr
        exact ⟨_, hs, rfl⟩
    · cases h2
  unfold stepR at h
  split at h
  · rename_i x ar tys hop
    split at h
    · rename_i f caps hx; exact key hop (fun he => call_fn he hop hx) h
    · rename_i f k off hx; exact key hop (fun he => call_bm he hop hx) h
    · cases h
  · cases h

/-- Append to a row of one's own. -/
def rowAt (s : AS) : AV → Option (Nat × List (List AV))
  | .rslice k => match lk .gone s.h k with | .row _ _ xs => some (k, xs) | _ => none
  | _ => none
def ysOf : AV → Option (List (List AV))
  | .dslice ys => some ys
  | .eslice => some []
  | _ => none
def rowE (s : AS) (x : AV) : Option TypeId := match x with | .rslice k => (match lk .gone s.h k with | .row e _ _ => some e | _ => none) | _ => none
def rowS (s : AS) (x : AV) : Option Nat := match x with | .rslice k => (match lk .gone s.h k with | .row _ e _ => some e | _ => none) | _ => none
def stepP (P : Program) (s : AS) (dst : Option Tmp) : Op → Option (List Prop × AS)
  | .call ⟨.builtin .append, ar, tys⟩ => match ar.toList, tys.toList, dst with
    | [x, y], [t, t'], some k' => if t = t' then (match elemOk P t, rowAt s (s.op x), ysOf (s.op y) with
      | some (e, sz, by_), some (k, xs), some ys => if rowE s (s.op x) = some e ∧ rowS s (s.op x) = some sz then (match s.grow k k' e sz (xs ++ ys) with
        | some s' => some ([EL sz ys, (xs.length + ys.length) * by_ ≤ 140737488355328, xs.length + ys.length ≤ 9223372036854775807], s')
        | none => none) else none
      | _, _, _ => none) else none
    | _, _, _ => none
  | _ => none
theorem stepP_sound {ps : List Prop} (hg : gd ops s o = some true) (h : stepP P s o.dst o.op = some (ps, s')) (hp : All ps) : OpT P ops o s (· = s') := by
  unfold stepP at h
  split at h
  · rename_i ar tys hop
    split at h
    · rename_i x y t t' k' har hty hd
      split at h
      case isFalse => cases h
      rename_i ht
      subst ht
      have e1 : ar = #[x, y] := by rw [← Array.toList_inj]; exact har
      have e2 : tys = #[t, t] := by rw [← Array.toList_inj]; exact hty
      subst e1; subst e2
      split at h
      · rename_i e sz by_ k xs ys he hx hy
        split at h
        case isFalse => cases h
        rename_i hm
        split at h
        · rename_i s2 hs
          cases h
          have hx' : s.op x = .rslice k ∧ lk .gone s.h k = .row e sz xs := by
            unfold rowAt at hx
            split at hx
            · rename_i k2 hk2
              split at hx
              · rename_i e3 sz3 xs3 h3
                cases hx
                simp only [hk2, rowE, rowS, h3, Option.some.injEq] at hm
                obtain ⟨e4, e5⟩ := hm
                subst e4; subst e5
                exact ⟨hk2, h3⟩
              · cases hx
            · cases hx
          have hy' : s.op y = .dslice ys ∨ (s.op y = .eslice ∧ ys = []) := by
            unfold ysOf at hy
            split at hy
            · cases hy; exact .inl (by assumption)
            · cases hy; exact .inr ⟨by assumption, rfl⟩
            · cases hy
          exact op_append hg hop hd he (.inr hx') hy' hp.1 hp.2.1 hp.2.2 hs
        · cases h
      · cases h
    · cases h
  · cases h

/-- Append to a slice of one's own that has room and no elements. -/
def stepG (P : Program) (s : AS) (dst : Option Tmp) : Op → Option (List Prop × AS)
  | .call ⟨.builtin .append, ar, tys⟩ => match ar.toList, tys.toList, dst with
    | [x, y], [t, t'], some k' => if t = t' then (match elemOk P t, s.op x, s.op y with
      | some (e, sz, by_), .gslice k, .dslice [] => (match s.put dst (.gslice k) with | some s' => some ([], s') | none => none)
      | some (e, sz, by_), .gslice k, .dslice (y0 :: ys) => (match lk .gone s.h k with
        | .room e' sz' => if e' = e ∧ sz' = sz then (match s.grow k k' e sz (y0 :: ys) with
          | some s' => some ([EL sz (y0 :: ys), (y0 :: ys).length * by_ ≤ 140737488355328, (y0 :: ys).length ≤ 9223372036854775807], s')
          | none => none) else none
        | _ => none)
      | _, _, _ => none) else none
    | _, _, _ => none
  | _ => none
theorem stepG_sound {ps : List Prop} (hg : gd ops s o = some true) (h : stepG P s o.dst o.op = some (ps, s')) (hp : All ps) : OpT P ops o s (· = s') := by
  unfold stepG at h
  split at h
  · rename_i ar tys hop
    split at h
    · rename_i x y t t' k' har hty hd
      split at h
      case isFalse => cases h
      rename_i ht
      subst ht
      have e1 : ar = #[x, y] := by rw [← Array.toList_inj]; exact har
      have e2 : tys = #[t, t] := by rw [← Array.toList_inj]; exact hty
      subst e1; subst e2
      split at h
      · rename_i e sz by_ k he hx hy
        split at h
        · rename_i s2 hs
          cases h
          exact op_appendG0 hg hop he hx hy hs
        · cases h
      · rename_i e sz by_ k y0 ys he hx hy
        split at h
        · rename_i e' sz' hk
          split at h
          case isFalse => cases h
          rename_i hm
          obtain ⟨rfl, rfl⟩ := hm
          split at h
          · rename_i s2 hs
            cases h
            exact op_appendG hg hop hd he hx hk hy (by simp) hp.1 hp.2.1 hp.2.2 hs
          · cases h
        · cases h
      · cases h
    · cases h
  · cases h

/-- The entry of a step of a loop over a map. -/
def stepN (s : AS) (dst : Option Tmp) (i : Nat) (v' : AV) : Op → Option (List Prop × AS)
  | .entry it => match s.op it with
    | .hptr k 0 => match lk .gone s.h k with
      | .iter es sn => match s.put dst v' with
        | some s' => some ([sn.getLast? = some i, AV.tup [.str (es.getD i default).1, (es.getD i default).2] = v'], s')
        | none => none
      | _ => none
    | _ => none
  | _ => none
theorem stepN_sound {i : Nat} {v' : AV} {ps : List Prop} (hg : gd ops s o = some true) (h : stepN s o.dst i v' o.op = some (ps, s')) (hp : All ps) : OpT P ops o s (· = s') := by
  unfold stepN at h
  split at h
  · rename_i it hop
    split at h
    · rename_i k hi
      split at h
      · rename_i es sn hk
        split at h
        · rename_i s2 hs
          cases h
          obtain ⟨h1, h2⟩ := hp
          have h2 : AV.tup [.str (es.getD i default).1, (es.getD i default).2] = v' := h2
          subst h2
          exact op_entry hg hop hi hk h1 hs
        · cases h
      · cases h
    · cases h
  · cases h

/-- A list of operations; what is left where the directives end. -/
def runS (P : Program) (ops : Array Oper) : List Oper → List Dir → AS → Option (List Prop × AS × List Oper)
  | os, [], s => some ([], s, os)
  | os, .fz k :: ds, s => match s.frz k with | some s' => runS P ops os ds s' | none => none
  | os, .fm k :: ds, s => match s.frzM k with
    | some (p, s') => (match runS P ops os ds s' with | some (ps, r) => some (p :: ps, r) | none => none)
    | none => none
  | os, .er t k e sz :: ds, s => match s.erow t k e sz with | some s' => runS P ops os ds s' | none => none
  | os, .wk t p :: ds, s => runS P ops os ds (s.wkT t p)
  | os, .rwT t v :: ds, s => match runS P ops os ds ⟨s.n, ins t v s.t, s.h⟩ with
    | some (ps, r) => some ((lk .any s.t t = v) :: ps, r)
    | none => none
  | os, .rwH k ob :: ds, s => match runS P ops os ds ⟨s.n, s.t, ins k ob s.h⟩ with
    | some (ps, r) => some ((lk .gone s.h k = ob) :: ps, r)
    | none => none
  | o :: os, .m :: ds, s => bif isG true (gd ops s o) then (match stepM P s o.dst o.op with | some s' => runS P ops os ds s' | none => none) else none
  | o :: os, .rs n j :: ds, s => bif isG true (gd ops s o) then (match stepRS P s o.dst n j o.op with
    | some (p, s') => (match runS P ops os ds s' with | some (ps, r) => some (p :: ps, r) | none => none)
    | none => none) else none
  | o :: os, .ap :: ds, s => bif isG true (gd ops s o) then (match stepP P s o.dst o.op with
    | some (p, s') => (match runS P ops os ds s' with | some (ps, r) => some (p ++ ps, r) | none => none)
    | none => none) else none
  | o :: os, .apg :: ds, s => bif isG true (gd ops s o) then (match stepG P s o.dst o.op with
    | some (p, s') => (match runS P ops os ds s' with | some (ps, r) => some (p ++ ps, r) | none => none)
    | none => none) else none
  | o :: os, .en i v :: ds, s => bif isG true (gd ops s o) then (match stepN s o.dst i v o.op with
    | some (p, s') => (match runS P ops os ds s' with | some (ps, r) => some (p ++ ps, r) | none => none)
    | none => none) else none
  | o :: os, .h qs v h1 :: ds, s => bif isG true (gd ops s o) then (match stepH P s o.dst qs v h1 o.op with
    | some (p, s') => (match runS P ops os ds s' with | some (ps, r) => some (p ++ ps, r) | none => none)
    | none => none) else none
  | o :: os, .hR qs d v h1 :: ds, s => bif isG true (gd ops s o) then (match stepR P s o.dst qs d v h1 o.op with
    | some (p, s') => (match runS P ops os ds s' with | some (ps, r) => some (p ++ ps, r) | none => none)
    | none => none) else none
  | o :: os, d :: ds, s => match stepE P ops s o d with
    | some (p, v) => (match runS P ops os ds ((Eff.put o.dst v).app s) with | some (ps, r) => some (p ++ ps, r) | none => none)
    | none => none
  | [], _ :: _, _ => none

theorem TriL.same {rest : List Oper} {Q : Exit → AS → Prop} (h : TriL P ops rest Q s) (e : Same s' s) : TriL P ops rest Q s' := fun c a w β κ r => h c a w β κ (r.same e)
theorem l_er {rest : List Oper} {Q : Exit → AS → Prop} {t k : Nat} {e : TypeId} {sz : Nat} (h : s.erow t k e sz = some s') (ht : TriL P ops rest Q s') : TriL P ops rest Q s := fun c a w β κ r => by
  obtain ⟨κ', r'⟩ := r.erow h
  exact ht c a w β κ' r'

theorem l_fm {rest : List Oper} {Q : Exit → AS → Prop} {k : Nat} {p : Prop} (h : s.frzM k = some (p, s')) (hp : p) (ht : TriL P ops rest Q s') : TriL P ops rest Q s := fun c a w β κ r => ht c a w β κ (r.frzM h hp)

theorem same_rwT {t : Nat} {v : AV} (h : lk .any s.t t = v) : Same ⟨s.n, ins t v s.t, s.h⟩ s := ⟨rfl, fun i => by
    show lk .any s.t i = lk .any (ins t v s.t) i
    rw [lk_ins]; split
    · rename_i e; rw [e]; exact h
    · rfl, fun _ => rfl⟩
theorem same_rwH {k : Nat} {ob : AO} (h : lk .gone s.h k = ob) : Same ⟨s.n, s.t, ins k ob s.h⟩ s := ⟨rfl, fun _ => rfl, fun i => by
    show lk .gone s.h i = lk .gone (ins k ob s.h) i
    rw [lk_ins]; split
    · rename_i e; rw [e]; exact h
    · rfl⟩
theorem l_rwT {rest : List Oper} {Q : Exit → AS → Prop} {t : Nat} {v : AV} (h : lk .any s.t t = v) (ht : TriL P ops rest Q ⟨s.n, ins t v s.t, s.h⟩) : TriL P ops rest Q s :=
  fun c a w β κ r => ht c a w β κ (r.same (Same.symm' (same_rwT h)))
theorem l_rwH {rest : List Oper} {Q : Exit → AS → Prop} {k : Nat} {ob : AO} (h : lk .gone s.h k = ob) (ht : TriL P ops rest Q ⟨s.n, s.t, ins k ob s.h⟩) : TriL P ops rest Q s :=
  fun c a w β κ r => ht c a w β κ (r.same (Same.symm' (same_rwH h)))

theorem l_wk {rest : List Oper} {Q : Exit → AS → Prop} (t : Nat) (p : List (Nat × Nat)) (ht : TriL P ops rest Q (s.wkT t p)) : TriL P ops rest Q s := fun c a w β κ r => by
  exact ht c a w β κ (r.wkT t p)

theorem runS_sound {Q : Exit → AS → Prop} : ∀ (ds : List Dir) {os : List Oper} {s : AS} {ps : List Prop} {s' : AS} {os' : List Oper}, runS P ops os ds s = some (ps, s', os') → All ps → TriL P ops os' Q s' → TriL P ops os Q s
  | [], os, s, ps, s', os', h, hp, ht => by
    cases os <;> (simp only [runS] at h; cases h; exact ht)
  | .fz k :: ds, os, s, ps, s', os', h, hp, ht => by
    have h' : (match s.frz k with | some s' => runS P ops os ds s' | none => none) = some (ps, s', os') := by cases os <;> simpa only [runS] using h
    split at h'
    · exact l_frz k (by assumption) (runS_sound ds h' hp ht)
    · cases h'
  | .rwT t v :: ds, os, s, ps, s', os', h, hp, ht => by
    have h' : (match runS P ops os ds ⟨s.n, ins t v s.t, s.h⟩ with
      | some (ps, r) => some ((lk .any s.t t = v) :: ps, r)
      | none => none) = some (ps, s', os') := by cases os <;> simpa only [runS] using h
    split at h'
    · rename_i ps' r hr
      cases h'
      obtain ⟨h1, h2⟩ := All.cons.1 hp
      exact l_rwT h1 (runS_sound ds hr h2 ht)
    · cases h'
  | .rwH k ob :: ds, os, s, ps, s', os', h, hp, ht => by
    have h' : (match runS P ops os ds ⟨s.n, s.t, ins k ob s.h⟩ with
      | some (ps, r) => some ((lk .gone s.h k = ob) :: ps, r)
      | none => none) = some (ps, s', os') := by cases os <;> simpa only [runS] using h
    split at h'
    · rename_i ps' r hr
      cases h'
      obtain ⟨h1, h2⟩ := All.cons.1 hp
      exact l_rwH h1 (runS_sound ds hr h2 ht)
    · cases h'
  | .wk t p :: ds, os, s, ps, s', os', h, hp, ht => by
    have h' : runS P ops os ds (s.wkT t p) = some (ps, s', os') := by cases os <;> simpa only [runS] using h
    exact l_wk t p (runS_sound ds h' hp ht)
  | .er t k e sz :: ds, os, s, ps, s', os', h, hp, ht => by
    have h' : (match s.erow t k e sz with | some s' => runS P ops os ds s' | none => none) = some (ps, s', os') := by cases os <;> simpa only [runS] using h
    split at h'
    · exact l_er (by assumption) (runS_sound ds h' hp ht)
    · cases h'
  | .m :: ds, [], s, ps, s', os', h, hp, ht => by simp only [runS] at h; cases h
  | .m :: ds, o :: os, s, ps, s', os', h, hp, ht => by
    simp only [runS] at h
    obtain ⟨hg, h⟩ := bif_some h
    split at h
    · rename_i s2 hs
      exact l_cons ((stepM_sound (isG_spec hg) hs).mono fun s3 e => by subst e; exact runS_sound ds h hp ht)
    · cases h
  | .rs n j :: ds, [], s, ps, s', os', h, hp, ht => by simp only [runS] at h; cases h
  | .rs n j :: ds, o :: os, s, ps, s', os', h, hp, ht => by
    simp only [runS] at h
    obtain ⟨hg, h⟩ := bif_some h
    split at h
    · rename_i p s2 hs
      split at h
      · rename_i ps' r hr
        cases h
        obtain ⟨h1, h2⟩ := All.cons.1 hp
        exact l_cons ((stepRS_sound (isG_spec hg) hs h1).mono fun s3 e => by subst e; exact runS_sound ds hr h2 ht)
      · cases h
    · cases h
  | .ap :: ds, [], s, ps, s', os', h, hp, ht => by simp only [runS] at h; cases h
  | .ap :: ds, o :: os, s, ps, s', os', h, hp, ht => by
    simp only [runS] at h
    obtain ⟨hg, h⟩ := bif_some h
    split at h
    · rename_i p s2 hs
      split at h
      · rename_i ps' r hr
        cases h
        obtain ⟨h1, h2⟩ := All.append.1 hp
        exact l_cons ((stepP_sound (isG_spec hg) hs h1).mono fun s3 e => by subst e; exact runS_sound ds hr h2 ht)
      · cases h
    · cases h
  | .apg :: ds, [], s, ps, s', os', h, hp, ht => by simp only [runS] at h; cases h
  | .apg :: ds, o :: os, s, ps, s', os', h, hp, ht => by
    simp only [runS] at h
    obtain ⟨hg, h⟩ := bif_some h
    split at h
    · rename_i p s2 hs
      split at h
      · rename_i ps' r hr
        cases h
        obtain ⟨h1, h2⟩ := All.append.1 hp
        exact l_cons ((stepG_sound (isG_spec hg) hs h1).mono fun s3 e => by subst e; exact runS_sound ds hr h2 ht)
      · cases h
    · cases h
  | .fm k :: ds, os, s, ps, s', os', h, hp, ht => by
    have h' : (match s.frzM k with
      | some (p, s') => (match runS P ops os ds s' with | some (ps, r) => some (p :: ps, r) | none => none)
      | none => none) = some (ps, s', os') := by cases os <;> simpa only [runS] using h
    split at h'
    · rename_i p s2 hs
      split at h'
      · rename_i ps' r hr
        cases h'
        obtain ⟨h1, h2⟩ := All.cons.1 hp
        exact l_fm hs h1 (runS_sound ds hr h2 ht)
      · cases h'
    · cases h'
  | .en i v :: ds, [], s, ps, s', os', h, hp, ht => by simp only [runS] at h; cases h
  | .en i v :: ds, o :: os, s, ps, s', os', h, hp, ht => by
    simp only [runS] at h
    obtain ⟨hg, h⟩ := bif_some h
    split at h
    · rename_i p s2 hs
      split at h
      · rename_i ps' r hr
        cases h
        obtain ⟨h1, h2⟩ := All.append.1 hp
        exact l_cons ((stepN_sound (isG_spec hg) hs h1).mono fun s3 e => by subst e; exact runS_sound ds hr h2 ht)
      · cases h
    · cases h
  | .h qs v h1 :: ds, [], s, ps, s', os', h, hp, ht => by simp only [runS] at h; cases h
  | .h qs v h1 :: ds, o :: os, s, ps, s', os', h, hp, ht => by
    simp only [runS] at h
    obtain ⟨hg, h⟩ := bif_some h
    split at h
    · rename_i p s2 hs
      split at h
      · rename_i ps' r hr
        cases h
        obtain ⟨h1, h2⟩ := All.append.1 hp
        exact l_cons ((stepH_sound (isG_spec hg) hs h1).mono fun s3 e => by subst e; exact runS_sound ds hr h2 ht)
      · cases h
    · cases h
  | .hR qs d v h1 :: ds, [], s, ps, s', os', h, hp, ht => by simp only [runS] at h; cases h
  | .hR qs d v h1 :: ds, o :: os, s, ps, s', os', h, hp, ht => by
    simp only [runS] at h
    obtain ⟨hg, h⟩ := bif_some h
    split at h
    · rename_i p s2 hs
      split at h
      · rename_i ps' r hr
        cases h
        obtain ⟨h1, h2⟩ := All.append.1 hp
        exact l_cons ((stepR_sound (isG_spec hg) hs h1).mono fun s3 e => by subst e; exact runS_sound ds hr h2 ht)
      · cases h
    · cases h
  | d :: ds, [], s, ps, s', os', h, hp, ht => by
    cases d
    case fm k =>
      simp only [runS] at h
      split at h
      · rename_i p s2 hs
        split at h
        · rename_i ps' r hr
          cases h
          obtain ⟨h1, h2⟩ := All.cons.1 hp
          exact l_fm hs h1 (runS_sound ds hr h2 ht)
        · cases h
      · cases h
    case rwT t v =>
      simp only [runS] at h
      split at h
      · rename_i ps' r hr
        cases h
        obtain ⟨h1, h2⟩ := All.cons.1 hp
        exact l_rwT h1 (runS_sound ds hr h2 ht)
      · cases h
    case rwH k ob =>
      simp only [runS] at h
      split at h
      · rename_i ps' r hr
        cases h
        obtain ⟨h1, h2⟩ := All.cons.1 hp
        exact l_rwH h1 (runS_sound ds hr h2 ht)
      · cases h
    case wk t p => simp only [runS] at h; exact l_wk t p (runS_sound ds h hp ht)
    all_goals simp only [runS] at h
    all_goals first | (cases h; done) | (split at h <;> first | (cases h; done) | exact l_frz _ (by assumption) (runS_sound ds h hp ht) | exact l_er (by assumption) (runS_sound ds h hp ht))
  | d :: ds, o :: os, s, ps, s', os', h, hp, ht => by
    have key : ∀ p v, stepE P ops s o d = some (p, v) → (match runS P ops os ds ((Eff.put o.dst v).app s) with | some (ps, r) => some (p ++ ps, r) | none => none) = some (ps, s', os') → TriL P ops (o :: os) Q s := by
      intro p v hs hr
      split at hr
      · rename_i ps' r hr'
        cases hr
        obtain ⟨h1, h2⟩ := All.append.1 hp
        refine l_cons (((stepE_sound hs h1).op rfl rfl).mono fun s3 e => ?_)
        exact fun c a w β κ r => runS_sound ds hr' h2 ht c a w β κ (r.same e.symm')
      · cases hr
    cases d
    case fz => simp only [runS] at h; split at h <;> first | (cases h; done) | exact l_frz _ (by assumption) (runS_sound ds h hp ht)
    case er => simp only [runS] at h; split at h <;> first | (cases h; done) | exact l_er (by assumption) (runS_sound ds h hp ht)
    case rwT t v =>
      simp only [runS] at h
      split at h
      · rename_i ps' r hr
        cases h
        obtain ⟨h1, h2⟩ := All.cons.1 hp
        exact l_rwT h1 (runS_sound ds hr h2 ht)
      · cases h
    case rwH k ob =>
      simp only [runS] at h
      split at h
      · rename_i ps' r hr
        cases h
        obtain ⟨h1, h2⟩ := All.cons.1 hp
        exact l_rwH h1 (runS_sound ds hr h2 ht)
      · cases h
    case wk t p => simp only [runS] at h; exact l_wk t p (runS_sound ds h hp ht)
    case m =>
      simp only [runS] at h
      obtain ⟨hg, h⟩ := bif_some h
      split at h
      · rename_i s2 hs
        exact l_cons ((stepM_sound (isG_spec hg) hs).mono fun s3 e => by subst e; exact runS_sound ds h hp ht)
      · cases h
    case rs n j =>
      simp only [runS] at h
      obtain ⟨hg, h⟩ := bif_some h
      split at h
      · rename_i p s2 hs
        split at h
        · rename_i ps' r hr
          cases h
          obtain ⟨h1, h2⟩ := All.cons.1 hp
          exact l_cons ((stepRS_sound (isG_spec hg) hs h1).mono fun s3 e => by subst e; exact runS_sound ds hr h2 ht)
        · cases h
      · cases h
    case ap =>
      simp only [runS] at h
      obtain ⟨hg, h⟩ := bif_some h
      split at h
      · rename_i p s2 hs
        split at h
        · rename_i ps' r hr
          cases h
          obtain ⟨h1, h2⟩ := All.append.1 hp
          exact l_cons ((stepP_sound (isG_spec hg) hs h1).mono fun s3 e => by subst e; exact runS_sound ds hr h2 ht)
        · cases h
      · cases h
    case apg =>
      simp only [runS] at h
      obtain ⟨hg, h⟩ := bif_some h
      split at h
      · rename_i p s2 hs
        split at h
        · rename_i ps' r hr
          cases h
          obtain ⟨h1, h2⟩ := All.append.1 hp
          exact l_cons ((stepG_sound (isG_spec hg) hs h1).mono fun s3 e => by subst e; exact runS_sound ds hr h2 ht)
        · cases h
      · cases h
    case fm k =>
      simp only [runS] at h
      split at h
      · rename_i p s2 hs
        split at h
        · rename_i ps' r hr
          cases h
          obtain ⟨h1, h2⟩ := All.cons.1 hp
          exact l_fm hs h1 (runS_sound ds hr h2 ht)
        · cases h
      · cases h
    case en i v =>
      simp only [runS] at h
      obtain ⟨hg, h⟩ := bif_some h
      split at h
      · rename_i p s2 hs
        split at h
        · rename_i ps' r hr
          cases h
          obtain ⟨h1, h2⟩ := All.append.1 hp
          exact l_cons ((stepN_sound (isG_spec hg) hs h1).mono fun s3 e => by subst e; exact runS_sound ds hr h2 ht)
        · cases h
      · cases h
    case h qs v h1 =>
      simp only [runS] at h
      obtain ⟨hg, h⟩ := bif_some h
      split at h
      · rename_i p s2 hs
        split at h
        · rename_i ps' r hr
          cases h
          obtain ⟨h1, h2⟩ := All.append.1 hp
          exact l_cons ((stepH_sound (isG_spec hg) hs h1).mono fun s3 e => by subst e; exact runS_sound ds hr h2 ht)
        · cases h
      · cases h
    case hR qs d v h1 =>
      simp only [runS] at h
      obtain ⟨hg, h⟩ := bif_some h
      split at h
      · rename_i p s2 hs
        split at h
        · rename_i ps' r hr
          cases h
          obtain ⟨h1, h2⟩ := All.append.1 hp
          exact l_cons ((stepR_sound (isG_spec hg) hs h1).mono fun s3 e => by subst e; exact runS_sound ds hr h2 ht)
        · cases h
      · cases h
    all_goals
      simp only [runS] at h
      split at h
      · rename_i p v hs; exact key p v hs h
      · cases h
end
end Go.Ab
