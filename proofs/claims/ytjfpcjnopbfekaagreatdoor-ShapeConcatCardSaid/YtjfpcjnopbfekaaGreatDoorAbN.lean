/- PATHS: comparing a slice with nil; loops over maps, in whatever order; functions that call themselves; objects given back that nobody writes to again. -/
import Derived.Test.YtjfpcjnopbfekaaGreatDoorAb25
import Derived.Lib.SliceRun
set_option linter.unusedSimpArgs false
set_option linter.unusedVariables false
namespace Go.Sh
open Classical in
/-- A comparison of a slice with nil, of which its elements alone are known: where they are none it may go both ways. -/
noncomputable def nilc {α β : Type} (l : List α) (a b : Option β) : Option β := if l = [] → a = b then b else none
theorem nilc_e {α β : Type} {l : List α} {a b : Option β} {v : β} {G : Prop} (H : nilc l a b = some v) (k : (l = [] → a = some v) → b = some v → G) : G := by
  unfold nilc at H
  split at H
  · rename_i h; exact k (fun e => by rw [h e]; exact H) H
  · cases H
theorem nilc_ne {α β : Type} {l : List α} {a b : Option β} (h : l ≠ []) : nilc l a b = b := by
  unfold nilc; exact if_pos fun e => absurd e h
theorem nilc_same {α β : Type} {l : List α} {a b : Option β} (h : l = [] → a = b) : nilc l a b = b := if_pos h

section
variable {V σ ε β : Type}
/-- A loop over a map, in whatever order its entries come up (n of them are left): behind it K holds of the state; where it leads away, J holds of the answer. -/
def MR (m : List (Str × V)) (body : Str × V → σ → Option (Stp σ ε β)) (K : σ → Prop) (J : β → Prop) : Nat → List Nat → σ → Prop
  | 0, seen, s => (∀ i, i < m.length → i ∈ seen) ∧ K s
  | n + 1, seen, s => (∃ i, i < m.length ∧ i ∉ seen) ∧ ∀ i (h : i < m.length), i ∉ seen → ∃ q, body m[i] s = some q ∧ match q with
    | .go s' => MR m body K J n (seen ++ [i]) s'
    | .brk _ => False
    | .ret x => J x
theorem MR.uniq {m : List (Str × V)} {body : Str × V → σ → Option (Stp σ ε β)} {k : σ → Option β} {v v' : β} : ∀ {n : Nat} {seen : List Nat} {s : σ}, MR m body (fun s => k s = some v) (· = v) n seen s → MR m body (fun s => k s = some v') (· = v') n seen s → v = v'
  | 0, _, _, h, h' => Option.some.inj (h.2.symm.trans h'.2)
  | n + 1, seen, s, h, h' => by
    obtain ⟨⟨i, hi, hn⟩, h⟩ := h
    obtain ⟨q, hq, h1⟩ := h i hi hn
    obtain ⟨q', hq', h2⟩ := h'.2 i hi hn
    rw [hq] at hq'; cases hq'
    cases q with
    | go s' => exact MR.uniq h1 h2
    | brk e => exact h1.elim
    | ret x => exact h1.symm.trans h2
open Classical in
/-- The answer, where all orders give one. -/
noncomputable def mrngK (m : List (Str × V)) (body : Str × V → σ → Option (Stp σ ε β)) (s : σ) (k : σ → Option β) : Option β :=
  if h : ∃ v, MR m body (fun s => k s = some v) (· = v) m.length [] s then some h.choose else none
theorem mrngK_spec {m : List (Str × V)} {body : Str × V → σ → Option (Stp σ ε β)} {s : σ} {k : σ → Option β} {v : β} (H : mrngK m body s k = some v) : MR m body (fun s => k s = some v) (· = v) m.length [] s := by
  unfold mrngK at H
  split at H
  · rename_i h; cases H; exact h.choose_spec
  · cases H
theorem mrngK_eq {m : List (Str × V)} {body : Str × V → σ → Option (Stp σ ε β)} {s : σ} {k : σ → Option β} {v : β} (h : MR m body (fun s => k s = some v) (· = v) m.length [] s) : mrngK m body s k = some v := by
  have h' : ∃ v, MR m body (fun s => k s = some v) (· = v) m.length [] s := ⟨v, h⟩
  unfold mrngK
  rw [dif_pos h']
  exact congrArg some (MR.uniq h'.choose_spec h)
theorem outK_ret {ρ : Type} {x v : ρ} (h : outOf (.ret x : Stp σ ε ρ) (.ret v)) : some x = some v := by
  have : (Out.ret v : Out ε ρ) = .ret x := h
  cases this; rfl
end
end Go.Sh

namespace Go.Ab
open Go.RowKit Go.Sh
section
variable {P : Program} {Q : Exit → AS → Prop} {c : Code} {fs : List Fr} {s : AS}

/-! ### comparing a slice with nil -/
def nilOf (s : AS) : AV → Option (List (List AV))
  | .dslice l => some l
  | .eslice => some []
  | .rslice k => match lk .gone s.h k with | .row _ _ xs => some xs | _ => none
  | _ => none
theorem nilOf_spec {c : Cx P} {a : Act} {w : World} {β : Nat → Nat} {κ : Nat → Nat × Nat} (r : Rel c s a w β κ) {v : AV} {V : Value} {l : List (List AV)} (hG : G w (c.XX s.h β) β κ v V) (h : nilOf s v = some l) :
    ∃ ad n cp, V = .slice ad n cp ∧ (ad.isNone = true → l = []) := by
  unfold nilOf at h
  split at h
  · cases h
    cases hG with
    | d hd =>
      cases hd with
      | dnil a cap _ => exact ⟨a, 0, cap, rfl, fun _ => rfl⟩
      | dslice _ b o cap sz cv => exact ⟨_, _, _, rfl, fun h => by cases h⟩
  · cases h
    obtain ⟨a, e⟩ := hG.eslice_inv
    exact ⟨a, 0, 0, e, fun _ => rfl⟩
  · rename_i k
    split at h
    · rename_i e sz xs hk
      cases h
      rcases hG.rslice_inv with ⟨_, e1⟩ | ⟨h0, ad, rfl⟩
      · exact ⟨_, _, _, e1, fun h => by cases h⟩
      · refine ⟨ad, 0, 0, rfl, fun _ => ?_⟩
        have ho := r.hp.ob k
        rw [hk] at ho
        exact List.eq_nil_of_length_eq_zero (by rw [← ho.1]; exact h0)
    · cases h
  · cases h
def nb (q b : Bool) : Bool := bif q then b else !b
def isNilC : Operand → Bool
  | .const (.slice none _ _) => true
  | _ => false
theorem isNilC_spec {x : Operand} (h : isNilC x = true) (a : Act) : ∃ n c, a.eval x = .slice none n c := by
  unfold isNilC at h
  split at h
  · exact ⟨_, _, rfl⟩
  · cases h
def nilOp (P : Program) (s : AS) : Op → Option (List (List AV) × Bool)
  | .binOp op t x y _ => bif isNilC y && (uSl P t).isSome then (match nilOf s (s.op x), op with
    | some l, .eql => some (l, true)
    | some l, .neq => some (l, false)
    | _, _ => none) else none
  | _ => none
theorem op_isnil {ops : Array Oper} {o : Oper} (hg : gd ops s o = some true) {l : List (List AV)} {q : Bool} (h : nilOp P s o.op = some (l, q)) {k : Nat} (hd : o.dst = some k) (hk : k < s.n) :
    OpT P ops o s (fun s' => ∃ b, (b = true → l = []) ∧ s' = ⟨s.n, ins k (.bool (nb q b)) s.t, s.h⟩) := fun c a w β κ r K Q hK => by
  rw [gd_spec r hg]
  simp only [if_true]
  unfold nilOp at h
  split at h
  case h_2 => cases h
  rename_i op t x y u hop
  obtain ⟨hc, h⟩ := Go.Ab.bif_some h
  rw [Bool.and_eq_true] at hc
  obtain ⟨hy, ht⟩ := hc
  obtain ⟨e, ht⟩ := Option.isSome_iff_exists.1 ht
  obtain ⟨n', c', ey⟩ := isNilC_spec hy a
  have hput : ∀ b, AS.put s o.dst (.bool b) = some ⟨s.n, ins k (.bool b) s.t, s.h⟩ := fun b => by
    rw [hd]; simp only [AS.put, show Nat.blt k s.n = true by simpa [Nat.blt_eq] using hk, cond_true]
  have key : ∀ ad, (ad.isNone = true → l = []) → ∀ b, b = nb q (Option.isNone (α := Addr) ad) → (execOp a.eval o).run P w = .ok (.value (.bool b)) w → o.wp P a w K Q := fun ad hl b hb hr => by
    unfold Oper.wp
    rw [hr]
    subst hb
    exact hK ⟨s.n, ins k (.bool (nb q ad.isNone)) s.t, s.h⟩ _ w β κ ⟨_, hl, rfl⟩ (put_spec r (.d (.bool _)) (hput _))
  split at h
  · cases h
    obtain ⟨ad, n, cp, e1, hl2⟩ := nilOf_spec (l := l) r (r.op x) (by assumption)
    refine key ad hl2 ad.isNone rfl ?_
    simp only [execOp, hop, e1, ey]
    simp [eqGuard, go_sem, Go.Lib.run_eql_slice_nil w t e ad n cp n' c' (uSl_spec ht)]
  · cases h
    obtain ⟨ad, n, cp, e1, hl2⟩ := nilOf_spec (l := l) r (r.op x) (by assumption)
    refine key ad hl2 (!ad.isNone) rfl ?_
    simp only [execOp, hop, e1, ey]
    have : (binOp .neq t (.slice ad n cp) (.slice none n' c')).run P w = .ok (.bool (!ad.isNone)) w := by
      simp only [binOp]
      simp [Op.equal, Op.maxDepth, Go.Lib.run_equalIn_slice_nil w 9999 t e ad n cp n' c' (uSl_spec ht)]
    simp [eqGuard, go_sem, this]
  · cases h
def pNil (P : Program) (ds : List Dir) (fs : List Fr) (s : AS) : Code → Option (List Prop × List (List AV) × Nat × Bool × AS × Code × List Fr)
  | .region _ ops false => match runS P ops.toList.toArray ops.toList ds s with
    | some (ps, s', [o]) => bif isG true (gd ops.toList.toArray s' o) then (match nilOp P s' o.op, o.dst, popN fs with
      | some (l, q), some k, (some c1, fs1) => bif Nat.blt k s'.n then some (ps, l, k, q, s', c1, fs1) else none
      | _, _, _ => none) else none
    | _ => none
  | _ => none
theorem p_isnil (ds : List Dir) {ps : List Prop} {l : List (List AV)} {k : Nat} {q : Bool} {S : AS} (hp : All ps) (h : pNil P ds fs s c = some (ps, l, k, q, S, (skel 1 [] c fs).1, (skel 1 [] c fs).2))
    (ht : ∀ b : Bool, (b = true → l = []) → Tri P (skel 1 [] c fs).1 (kont P (skel 1 [] c fs).2 Q) ⟨S.n, ins k (.bool (nb q b)) S.t, S.h⟩) : Tri P c (kont P fs Q) s := by
  unfold pNil at h
  split at h
  case h_2 => cases h
  rename_i id ops
  split at h
  case h_2 => cases h
  rename_i ps' s' o hr
  obtain ⟨hg, h⟩ := Go.Ab.bif_some h
  split at h
  case h_2 => cases h
  rename_i l' q' k' c1 fs1 hn hd hpop
  obtain ⟨hk, h⟩ := Go.Ab.bif_some h
  simp only [Option.some.injEq, Prod.mk.injEq] at h
  obtain ⟨rfl, rfl, rfl, rfl, rfl, h1, h2⟩ := h
  rw [← h1, ← h2] at ht
  have e : ops = ops.toList.toArray := by simp
  rw [e]
  refine tri_region (runS_sound ds hr hp (l_cons ((op_isnil (isG_spec hg) hn hd (by simpa [Nat.blt_eq] using hk)).mono fun s2 ⟨b, hb, e2⟩ => l_nil ?_)))
  subst e2
  refine kont_n (fun c2 fs2 e3 => ?_) (fun fs2 e3 => ?_)
  · rw [hpop] at e3; cases e3; exact ht b hb
  · rw [hpop] at e3; cases e3

/-! ### loops over maps -/
theorem loop_liftN {ι : Type} {y : Code} (S : ι → AS) (φ : ι → Prop) (μ : ι → Nat) (i₀ : ι) (h₀ : φ i₀)
    (round : ∀ i, φ i → Tri P y (thn (fun s => Cv s dead ∨ ∃ j, φ j ∧ μ j < μ i ∧ Cv s (S j)) (kont P fs Q)) (S i)) : Tri P (.loop y) (kont P fs Q) (S i₀) := fun c a w β κ r => by
  refine wp_loop_ghost (fun n a w => ∃ i β κ, φ i ∧ μ i = n ∧ Rel c (S i) a w β κ) (μ i₀) ⟨i₀, β, κ, h₀, rfl, r⟩ ?_
  rintro n a w ⟨i, β, κ, hi, rfl, r⟩
  refine wp_mono (round i hi c a w β κ r) fun e a' w' ⟨s', β', κ', q, r'⟩ => ?_
  cases e with
  | normal =>
    rcases (q : Cv s' dead ∨ ∃ j, φ j ∧ μ j < μ i ∧ Cv s' (S j)) with hd | ⟨j, hj, hlt, hcv⟩
    · obtain ⟨β2, κ2, r2⟩ := hd _ c a' w' β' κ' r'
      exact (dead_no r2).elim
    · obtain ⟨β2, κ2, r2⟩ := hcv _ c a' w' β' κ' r'
      exact ⟨μ j, hlt, j, β2, κ2, hj, rfl, r2⟩
  | exit id => exact ⟨s', β', κ', q, r'⟩
  | goto l => exact ⟨s', β', κ', q, r'⟩
  | ret => exact ⟨s', β', κ', q, r'⟩
  | panic ch => exact ⟨s', β', κ', q, r'⟩
  | outgrown => exact ⟨s', β', κ', q, r'⟩

def nxCode : Code → Option (Oper × List Oper × Code)
  | .loop (.seq (.region _ ops false) y) => match ops.toList with
    | o :: rest => some (o, rest, y)
    | [] => none
  | _ => none
theorem nxCode_spec {o : Oper} {rest : List Oper} {y : Code} (h : nxCode c = some (o, rest, y)) : ∃ id, c = .loop (.seq (.region id (o :: rest).toArray false) y) := by
  unfold nxCode at h
  split at h
  · rename_i id ops y'
    split at h
    · rename_i o' rest' e
      cases h
      refine ⟨id, ?_⟩
      rw [← e]
    · cases h
  · cases h
/-- Is this the step of the iterator k? -/
def isNx (ops : Array Oper) (s : AS) (o : Oper) (k : Nat) : Bool := isG true (gd ops s o) && (match o.op with
  | .next it false => (match s.op it with | .hptr k' 0 => Nat.beq k' k | _ => false)
  | _ => false)
theorem isNx_spec {ops : Array Oper} {o : Oper} {k : Nat} (h : isNx ops s o k = true) : gd ops s o = some true ∧ ∃ it, o.op = .next it false ∧ s.op it = .hptr k 0 := by
  unfold isNx at h
  rw [Bool.and_eq_true] at h
  refine ⟨isG_spec h.1, ?_⟩
  have h := h.2
  split at h
  · rename_i it e
    refine ⟨it, e, ?_⟩
    split at h
    · rename_i k' e2; rw [beq_t.1 h] at e2; exact e2
    · cases h
  · cases h
/-- Behind the step: the other operations of its region. -/
def nxRun (P : Program) (ops : Array Oper) (rest : List Oper) (ds : List Dir) (dst : Option Tmp) (v : AV) (s : AS) : Option (List Prop × AS) := match s.put dst v with
  | some s' => match runS P ops rest ds s' with
    | some (ps, s2, []) => some (ps, s2)
    | _ => none
  | none => none
def hdM {V : Type} (c : V → List AV) (e : Str × V) : AV := .tup [.bool true, .str e.1, hd1 (c e.2)]
def nxtM {σ ε ρ : Type} (S : σ → AS) : Stp σ ε ρ → AS
  | .go x => S x
  | _ => dead
theorem mapV_getD {V : Type} {cc : V → List AV} {m : List (Str × V)} {i : Nat} (h : i < m.length) : (m.map (mapV cc)).getD i default = mapV cc m[i] := by
  simp [List.getD_eq_getElem?_getD, List.getElem?_eq_getElem h]

theorem p_mrng {V σ ε β : Type} {cc : V → List AV} {m : List (Str × V)} {body : Str × V → σ → Option (Stp σ ε β)} {k : σ → Option β} {st0 : σ} {v : β} (kk : Nat) (S : List Nat → σ → AS) {o : Oper} {rest : List Oper} {y : Code} (hc : nxCode c = some (o, rest, y))
    (H : mrngK m body st0 k = some v) (ds : List Dir)
    (hn : ∀ seen st, isNx (o :: rest).toArray (S seen st) o kk = true ∧ lk .gone (S seen st).h kk = .iter (m.map (mapV cc)) seen)
    (S0 : List Nat → σ → AS) (h0 : ∀ seen st, nxRun P (o :: rest).toArray rest ds o.dst (.tup [.bool false]) (S seen st) = some ([], S0 seen st))
    (S1 : List Nat → σ → Nat → Str × V → AS) (h1 : ∀ seen st i e, nxRun P (o :: rest).toArray rest ds o.dst (hdM cc e) ⟨(S seen st).n, (S seen st).t, ins kk (.iter (m.map (mapV cc)) (seen ++ [i])) (S seen st).h⟩ = some ([], S1 seen st i e))
    (done : ∀ seen st, k st = some v → Tri P y (kont P (.bar dead :: fs) Q) (S0 seen st))
    (step : ∀ seen st i e, (∃ h : i < m.length, m[i] = e) → ∀ q, body e st = some q → outOf q (.ret v) → Tri P y (kont P (.bar (nxtM (S (seen ++ [i])) q) :: fs) Q) (S1 seen st i e)) : Tri P c (kont P fs Q) (S [] st0) := by
  obtain ⟨id, rfl⟩ := nxCode_spec hc
  refine loop_liftN (ι := Nat × List Nat × σ) (fun x => S x.2.1 x.2.2) (fun x => MR m body (fun s => k s = some v) (· = v) x.1 x.2.1 x.2.2) (fun x => x.1) (m.length, [], st0) (mrngK_spec H) ?_
  rintro ⟨n, seen, st⟩ hi
  have hi : MR m body (fun s => k s = some v) (· = v) n seen st := hi
  obtain ⟨hnx, hlk⟩ := hn seen st
  obtain ⟨hg, it, hop, hit⟩ := isNx_spec hnx
  refine tri_seq ?_
  have h0' := h0 seen st
  unfold nxRun at h0'
  split at h0'
  case h_2 => cases h0'
  rename_i s0 hs0
  split at h0'
  case h_2 => cases h0'
  rename_i ps0 s02 hr0
  simp only [Option.some.injEq, Prod.mk.injEq] at h0'
  obtain ⟨rfl, e0⟩ := h0'
  have h1' : ∀ i (hi : i < m.length), ∃ s1, AS.put ⟨(S seen st).n, (S seen st).t, ins kk (.iter (m.map (mapV cc)) (seen ++ [i])) (S seen st).h⟩ o.dst (.tup [.bool true, .str ((m.map (mapV cc)).getD i default).1, ((m.map (mapV cc)).getD i default).2]) = some s1 ∧ runS P (o :: rest).toArray rest ds s1 = some ([], S1 seen st i m[i], []) := by
    intro i hi
    have h := h1 seen st i m[i]
    unfold nxRun at h
    rw [mapV_getD hi]
    split at h
    case h_2 => cases h
    rename_i s1 hs1
    split at h
    case h_2 => cases h
    rename_i ps1 s12 hr1
    simp only [Option.some.injEq, Prod.mk.injEq] at h
    obtain ⟨rfl, rfl⟩ := h
    exact ⟨s1, hs1, hr1⟩
  refine tri_region (l_cons (op_next hg hop hit hlk (fun hall => ⟨s0, hs0, runS_sound ds hr0 trivial (l_nil ?_)⟩) (fun i hi2 hns => ?_)))
  · -- no entry is left
    have hall : ∀ i, i < m.length → i ∈ seen := fun i hi => hall i (by simpa using hi)
    cases n with
    | succ n =>
      obtain ⟨⟨i, hi2, hns⟩, _⟩ := hi
      exact absurd (hall i hi2) hns
    | zero =>
      rw [e0]
      refine Tri.mono (done seen st hi.2) fun e s hq => ?_
      cases e with
      | normal => exact .inl hq
      | _ => exact hq
  · have hi2 : i < m.length := by simpa using hi2
    obtain ⟨s1, hs1, hr1⟩ := h1' i hi2
    refine ⟨s1, hs1, runS_sound ds hr1 trivial (l_nil ?_)⟩
    cases n with
    | zero => exact absurd (hi.1 i hi2) hns
    | succ n =>
      obtain ⟨_, hi⟩ := hi
      obtain ⟨q, hq, hK⟩ := hi i hi2 hns
      have ho : outOf q (.ret v) := by
        cases q with
        | go s' => trivial
        | brk e => exact hK.elim
        | ret x => exact congrArg Out.ret hK.symm
      refine Tri.mono (step seen st i m[i] ⟨hi2, rfl⟩ q hq ho) fun e s hs => ?_
      cases e with
      | normal =>
        cases q with
        | go s' => exact .inr ⟨(n, seen ++ [i], s'), hK, Nat.lt_succ_self n, hs⟩
        | brk e => exact .inl hs
        | ret x => exact .inl hs
      | _ => exact hs

theorem seen_last (seen : List Nat) (i : Nat) : (seen ++ [i]).getLast? = some i := by simp
theorem en_eq {V : Type} {cc : V → List AV} {m : List (Str × V)} {i : Nat} {e : Str × V} (h : ∃ h : i < m.length, m[i] = e) : AV.tup [.str ((m.map (mapV cc)).getD i default).1, ((m.map (mapV cc)).getD i default).2] = .tup [.str e.1, hd1 (cc e.2)] := by
  obtain ⟨hi, rfl⟩ := h
  rw [mapV_getD hi]; rfl

end
end Go.Ab
namespace Go.Ab
open Go.RowKit Go.Sh
theorem hd1_fl {l : List AV} (h : l.all (fun v => v.one && v.fl) = true) : AV.fl (hd1 l) = true := by
  cases l with
  | nil => rfl
  | cons v l => simp only [List.all_cons, Bool.and_eq_true] at h; exact h.1.2
theorem mapV_fl {V : Type} {c : V → List AV} {sz : Nat} (h : ∀ x, (c x).length = sz ∧ (c x).all (fun v => v.one && v.fl) = true) (m : List (Str × V)) : FlM (m.map (mapV c)) := by
  intro p hp
  obtain ⟨x, _, rfl⟩ := List.mem_map.1 hp
  exact hd1_fl (h x.2).2

section
variable {P : Program}
/-- What a result is to one who does not write to it. -/
def AV.vwT (h : List (Nat × AO)) : AV → AV
  | .tup cs => .tup (cs.map (AV.vw1 h))
  | v => AV.vw h v
theorem G.vwT {c : Cx P} {h : List (Nat × AO)} {w : World} {β : Nat → Nat} {κ : Nat → Nat × Nat} (r : RelH c h w β κ) {v : AV} {V : Value} (hg : G w (c.XX h β) β κ v V) : D w c.X (AV.vwT h v) V := by
  unfold AV.vwT
  split
  · obtain ⟨vs, rfl, hl, hgs⟩ := hg.tup_inv
    refine .tup _ _ (by simpa using hl) fun i hi => ?_
    have e : ∀ cs : List AV, (cs.map (AV.vw1 h)).getD i .any = AV.vw1 h (cs.getD i .any) := fun cs => getD_map (AV.vw1 h) cs i .any .any rfl
    rw [e]
    exact (hgs i (by simpa using hi)).vw1 r
  · exact hg.vw r
theorem ACall.frz {f : FuncId} {args : List AV} {h0 h1 : List (Nat × AO)} {v u : AV} (h : ACall P f args h0 fun r h' => r = v ∧ h' = h1) (hu : AV.vwT h1 v = u) : ACall P f args h0 fun r h' => r = u ∧ h' = [] := by
  subst hu
  intro c vs hl hr hg
  refine (h c vs hl hr hg).mono fun e w' ⟨V, v', h', β', κ', e1, ⟨e2, e3⟩, hr', hG⟩ => ?_
  subst e2; subst e3
  refine ⟨V, _, [], β', κ', e1, ⟨rfl, rfl⟩, ⟨fun _ => trivial, fun _ _ h => h.elim, hr'.kp, fun _ h => h.elim, fun _ h => h.elim, hr'.fix⟩, .d ((hG.vwT hr').mono (fun _ _ _ => rfl) fun b hb _ hb2 => hb (hb2.resolve_right fun ⟨_, h, _⟩ => h.elim))⟩
end
end Go.Ab
namespace Go.Ab
open Go.RowKit Go.Sh
section
variable {P : Program} {Q : Exit → AS → Prop} {c : Code} {fs : List Fr} {s : AS}
def nxD : Oper × List Oper × Code := (⟨none, .panic (.const .nilIface), 0, "", #[], none⟩, [], .skip)
def nx (c : Code) : Oper × List Oper × Code := (nxCode c).getD nxD
theorem p_mrngX {V σ ε β : Type} {cc : V → List AV} {m : List (Str × V)} {body : Str × V → σ → Option (Stp σ ε β)} {k : σ → Option β} {st0 : σ} {v : β} (kk : Nat) (S : List Nat → σ → AS) (hc : (nxCode c).isSome = true)
    (H : mrngK m body st0 k = some v) (ds : List Dir)
    (hn : ∀ seen st, isNx ((nx c).1 :: (nx c).2.1).toArray (S seen st) (nx c).1 kk = true ∧ lk .gone (S seen st).h kk = .iter (m.map (mapV cc)) seen)
    (S0 : List Nat → σ → AS) (h0 : ∀ seen st, nxRun P ((nx c).1 :: (nx c).2.1).toArray (nx c).2.1 ds (nx c).1.dst (.tup [.bool false]) (S seen st) = some ([], S0 seen st))
    (S1 : List Nat → σ → Nat → Str × V → AS) (h1 : ∀ seen st i e, nxRun P ((nx c).1 :: (nx c).2.1).toArray (nx c).2.1 ds (nx c).1.dst (hdM cc e) ⟨(S seen st).n, (S seen st).t, ins kk (.iter (m.map (mapV cc)) (seen ++ [i])) (S seen st).h⟩ = some ([], S1 seen st i e))
    (done : ∀ seen st, k st = some v → Tri P (nx c).2.2 (kont P (.bar dead :: fs) Q) (S0 seen st))
    (step : ∀ seen st i e, (∃ h : i < m.length, m[i] = e) → ∀ q, body e st = some q → outOf q (.ret v) → Tri P (nx c).2.2 (kont P (.bar (nxtM (S (seen ++ [i])) q) :: fs) Q) (S1 seen st i e)) : Tri P c (kont P fs Q) (S [] st0) := by
  obtain ⟨x, hx⟩ := Option.isSome_iff_exists.1 hc
  have e : nx c = x := by unfold nx; rw [hx]; rfl
  refine p_mrng (o := (nx c).1) (rest := (nx c).2.1) (y := (nx c).2.2) kk S (by rw [e, hx]) H ds hn S0 h0 S1 h1 done step
end
end Go.Ab
namespace Go.Ab
open Go.RowKit Go.Sh
theorem ag_str (l : List Str) (i : Nat) (h : i < l.length) : (l.map AV.str).getD i .any = .str (l.getD i []) := by
  simp [List.getD_eq_getElem?_getD, List.getElem?_eq_getElem h]
end Go.Ab
