/- PATHS: where they end; where ways meet; loops; functions. -/
import Derived.Test.YtjfpcjnopbfekaaGreatDoorAb23
set_option linter.unusedSimpArgs false
set_option linter.unusedVariables false
namespace Go.Ab
open Go.RowKit Go.Sh

/-- A state that holds nowhere. -/
def dead : AS := ⟨0, [(0, .dslice [[]])], []⟩
theorem dead_no {P : Program} {c : Cx P} {a : Act} {w : World} {β : Nat → Nat} {κ : Nat → Nat × Nat} (r : Rel c dead a w β κ) : False := by
  have h := r.tm 0
  simp only [dead, lk, Nat.beq_refl, cond_true] at h
  generalize a.tmps.getD 0 undef = V at h
  cases h with
  | d h =>
    cases h with
    | dslice _ b o cap sz cv h1 h2 h0 h3 h4 h5 h6 =>
      have := h4 0 (by simp)
      simp at this
      omega

section
variable {P : Program} {Q Q' : Exit → AS → Prop} {c : Code} {fs : List Fr} {s : AS}

theorem Tri.lift {cd : Code} (h : Tri P cd Q s) (hq : ∀ (c : Cx P) e a w, lift c Q e a w → lift c Q' e a w) : Tri P cd Q' s := fun c a w β κ r => wp_mono (h c a w β κ r) fun e a w q => hq c e a w q

/-! ### a way ends -/
def pBar (cs : List Cd) : Option (List Prop × Leaf) → Option (List Prop × AS × AS)
  | some (ps, .nrm (.bar S :: _) s) => match conv cs s with
    | some s' => some (ps, s', S)
    | none => none
  | _ => none
theorem p_bar (hm : P.follows .mixedOrders = true) (n : Nat) (sg : List Sg) (cs : List Cd) (S : AS) {ps : List Prop} (hp : All ps) (h : pBar cs (path P n sg c fs s) = some (ps, S, S)) : Tri P c (kont P fs Q) s := by
  unfold pBar at h
  split at h
  · rename_i ps' S' fs' s' hpath
    split at h
    · rename_i s2 hc
      simp only [Option.some.injEq, Prod.mk.injEq] at h
      obtain ⟨rfl, rfl, rfl⟩ := h
      exact path_sound hm n hpath hp (conv_sound cs hc)
    · cases h
  · cases h

def retX (P : Program) (rs : List ResultVar) (v : AV) (h1 : List (Nat × AO)) : Exit → AS → Prop
  | .ret, s => ∃ s2 ks, Cv s s2 ∧ ares P s2 rs = some v ∧ sel ks s2.h = h1
  | .normal, s => ∃ s2 ks, Cv s s2 ∧ ares P s2 rs = some v ∧ sel ks s2.h = h1
  | _, _ => False
def pRes (P : Program) (rs : List ResultVar) (cs : List Cd) (ks : List Nat) (ps : List Prop) (s : AS) : Option (List Prop × AV × List (Nat × AO)) :=
  match conv cs s with
  | some s2 => match ares P s2 rs with
    | some v => some (ps, v, sel ks s2.h)
    | none => none
  | none => none
def pRet (P : Program) (rs : List ResultVar) (cs : List Cd) (ks : List Nat) : Option (List Prop × Leaf) → Option (List Prop × AV × List (Nat × AO))
  | some (ps, .nrm [] s) => pRes P rs cs ks ps s
  | some (ps, .ret s) => pRes P rs cs ks ps s
  | _ => none
theorem pRes_spec {rs : List ResultVar} {cs : List Cd} {ks : List Nat} {ps ps' : List Prop} {v : AV} {h1 : List (Nat × AO)} (h : pRes P rs cs ks ps s = some (ps', v, h1)) : ps = ps' ∧ ∃ s2 ks, Cv s s2 ∧ ares P s2 rs = some v ∧ sel ks s2.h = h1 := by
  unfold pRes at h
  split at h
  · rename_i s2 hc
    split at h
    · rename_i v' hv
      simp only [Option.some.injEq, Prod.mk.injEq] at h
      obtain ⟨rfl, rfl, rfl⟩ := h
      exact ⟨rfl, s2, ks, conv_sound cs hc, hv, rfl⟩
    · cases h
  · cases h
theorem p_ret (hm : P.follows .mixedOrders = true) (n : Nat) (sg : List Sg) (cs : List Cd) (ks : List Nat) {rs : List ResultVar} {v : AV} {h1 : List (Nat × AO)} {ps : List Prop} (hp : All ps) (h : pRet P rs cs ks (path P n sg c fs s) = some (ps, v, h1)) : Tri P c (kont P fs (retX P rs v h1)) s := by
  unfold pRet at h
  split at h
  · rename_i ps' s' hpath
    obtain ⟨rfl, h2⟩ := pRes_spec h
    exact path_sound hm n hpath hp h2
  · rename_i ps' s' hpath
    obtain ⟨rfl, h2⟩ := pRes_spec h
    exact path_sound hm n hpath hp h2
  · cases h

/-! ### a way goes on later -/
def skel : Nat → List Bool → Code → List Fr → Code × List Fr
  | 0, _, c, fs => (c, fs)
  | n + 1, bs, .seq x y, fs => skel n bs x (.seq y :: fs)
  | n + 1, bs, .skip, fs => match popN fs with
    | (some c, fs') => skel n bs c fs'
    | (none, fs') => (.skip, fs')
  | n + 1, bs, .region _ _ _, fs => match popN fs with
    | (some c, fs') => skel n bs c fs'
    | (none, fs') => (.skip, fs')
  | n + 1, b :: bs, .cond _ y z, fs => skel n bs (bif b then y else z) fs
  | n + 1, bs, .block id y, fs => skel n bs y (.blk id :: fs)
  | n + 1, bs, .exit id, fs => match popE id fs with
    | some fs1 => match popN fs1 with
      | (some c, fs') => skel n bs c fs'
      | (none, fs') => (.skip, fs')
    | none => (.skip, fs)
  | _ + 1, _, c, fs => (c, fs)
def pAt (cs : List Cd) : Option (List Prop × Leaf) → Option (List Prop × Code × List Fr × AS)
  | some (ps, .at c fs s) => match conv cs s with
    | some s' => some (ps, c, fs, s')
    | none => none
  | _ => none
theorem p_at (hm : P.follows .mixedOrders = true) (n : Nat) (sg : List Sg) (cs : List Cd) (m : Nat) (bs : List Bool) (S : AS) {ps : List Prop} (hp : All ps) (h : pAt cs (path P n sg c fs s) = some (ps, (skel m bs c fs).1, (skel m bs c fs).2, S))
    (ht : Tri P (skel m bs c fs).1 (kont P (skel m bs c fs).2 Q) S) : Tri P c (kont P fs Q) s := by
  unfold pAt at h
  split at h
  · rename_i ps' c' fs' s' hpath
    split at h
    · rename_i s2 hc
      simp only [Option.some.injEq, Prod.mk.injEq] at h
      obtain ⟨rfl, h1, h2, rfl⟩ := h
      refine path_sound hm n hpath hp ?_
      rw [← h1, ← h2] at ht
      exact (conv_sound cs hc).tri ht
    · cases h
  · cases h

/-! ### where ways meet -/
def barAt : Nat → AS → List Fr → List Fr
  | _, _, [] => []
  | 0, S, _ :: fs => .bar S :: fs
  | k + 1, S, f :: fs => f :: barAt k S fs
def codeAt : Nat → List Fr → Code
  | 0, .seq y :: _ => y
  | k + 1, _ :: fs => codeAt k fs
  | _, _ => .skip
def isSeqAt : Nat → List Fr → Bool
  | 0, .seq _ :: _ => true
  | k + 1, _ :: fs => isSeqAt k fs
  | _, _ => false
theorem kont_lift : ∀ (f : Fr) {Q Q' : Exit → AS → Prop} {fs fs' : List Fr}, (∀ (c : Cx P) e a w, lift c (kont P fs Q) e a w → lift c (kont P fs' Q') e a w) → ∀ (c : Cx P) e a w, lift c (kont P (f :: fs) Q) e a w → lift c (kont P (f :: fs') Q') e a w := by
  intro f Q Q' fs fs' h c e a w ⟨s, β, κ, hs, r⟩
  cases f with
  | seq y =>
    cases e with
    | normal => exact ⟨s, β, κ, Tri.lift (hs : Tri P y (kont P fs Q) s) h, r⟩
    | _ =>
      obtain ⟨s', β', κ', hs', r'⟩ := h c _ a w ⟨s, β, κ, hs, r⟩
      exact ⟨s', β', κ', hs', r'⟩
  | bar S =>
    cases e with
    | normal => exact ⟨s, β, κ, hs, r⟩
    | _ =>
      obtain ⟨s', β', κ', hs', r'⟩ := h c _ a w ⟨s, β, κ, hs, r⟩
      exact ⟨s', β', κ', hs', r'⟩
  | blk id =>
    cases e with
    | exit j =>
      simp only [kont, blk] at hs
      cases hb : Nat.beq j id with
      | true =>
        rw [hb] at hs
        obtain ⟨s', β', κ', hs', r'⟩ := h c _ a w ⟨s, β, κ, hs, r⟩
        refine ⟨s', β', κ', ?_, r'⟩
        simp only [kont, blk, hb]; exact hs'
      | false =>
        rw [hb] at hs
        obtain ⟨s', β', κ', hs', r'⟩ := h c _ a w ⟨s, β, κ, hs, r⟩
        refine ⟨s', β', κ', ?_, r'⟩
        simp only [kont, blk, hb]; exact hs'
    | _ =>
      obtain ⟨s', β', κ', hs', r'⟩ := h c _ a w ⟨s, β, κ, hs, r⟩
      exact ⟨s', β', κ', hs', r'⟩

theorem join_lift : ∀ (k : Nat) {fs : List Fr} {S : AS}, isSeqAt k fs = true → (S = dead ∨ Tri P (codeAt k fs) (kont P (fs.drop (k + 1)) Q) S) → ∀ (c : Cx P) e a w, lift c (kont P (barAt k S fs) Q) e a w → lift c (kont P fs Q) e a w
  | 0, [], S, h, _ => by cases h
  | _ + 1, [], S, h, _ => by cases h
  | 0, f :: fs, S, h, h2 => by
    intro c e a w ⟨s, β, κ, hs, r⟩
    cases f with
    | seq y =>
      cases e with
      | normal =>
        obtain ⟨β', κ', r'⟩ := (hs : Cv s S) _ c a w β κ r
        rcases h2 with h2 | h2
        · subst h2; exact (dead_no r').elim
        · exact ⟨S, β', κ', h2, r'⟩
      | _ => exact ⟨s, β, κ, hs, r⟩
    | blk id => cases h
    | bar S => cases h
  | k + 1, f :: fs, S, h, h2 => kont_lift f (join_lift k (fs := fs) h h2)
theorem p_join (k : Nat) (S : AS) (hk : isSeqAt k fs = true) (h1 : Tri P c (kont P (barAt k S fs) Q) s) (h2 : Tri P (codeAt k fs) (kont P (fs.drop (k + 1)) Q) S) : Tri P c (kont P fs Q) s :=
  h1.lift (join_lift k hk (.inr h2))
def barO {ε ρ : Type} (S : ε → AS) : Out ε ρ → AS
  | .brk e => S e
  | .ret _ => dead
theorem p_joinO {ε ρ : Type} (k : Nat) (S : ε → AS) (R : Out ε ρ) (hk : isSeqAt k fs = true) (h1 : Tri P c (kont P (barAt k (barO S R) fs) Q) s) (h2 : ∀ e, R = .brk e → Tri P (codeAt k fs) (kont P (fs.drop (k + 1)) Q) (S e)) : Tri P c (kont P fs Q) s :=
  h1.lift (join_lift k hk (by cases R with | brk e => exact .inr (h2 e rfl) | ret x => exact .inl rfl))

/-! ### loops -/
def loopBody : Code → Code
  | .loop y => y
  | _ => .skip
def isLoop : Code → Bool
  | .loop _ => true
  | _ => false
theorem isLoop_spec (h : isLoop c = true) : c = .loop (loopBody c) := by cases c <;> first | rfl | (cases h; done)
def nxt {σ ε ρ : Type} (S : σ → AS) : Stp σ ε ρ → AS
  | .go x => S x
  | _ => dead

theorem loop_lift {ι : Type} {y : Code} (S : ι → AS) (φ : ι → Prop) (μ : ι → Nat) (i₀ : ι) (h₀ : φ i₀)
    (round : ∀ i, φ i → ∃ T, (T = dead ∨ ∃ j, φ j ∧ μ j < μ i ∧ T = S j) ∧ Tri P y (kont P (.bar T :: fs) Q) (S i)) : Tri P (.loop y) (kont P fs Q) (S i₀) := fun c a w β κ r => by
  refine wp_loop_ghost (fun n a w => ∃ i β κ, φ i ∧ μ i = n ∧ Rel c (S i) a w β κ) (μ i₀) ⟨i₀, β, κ, h₀, rfl, r⟩ ?_
  rintro n a w ⟨i, β, κ, hi, rfl, r⟩
  obtain ⟨T, hT, ht⟩ := round i hi
  refine wp_mono (ht c a w β κ r) fun e a' w' ⟨s', β', κ', q, r'⟩ => ?_
  cases e with
  | normal =>
    obtain ⟨β2, κ2, r2⟩ := (q : Cv s' T) _ c a' w' β' κ' r'
    rcases hT with rfl | ⟨j, hj, hlt, rfl⟩
    · exact (dead_no r2).elim
    · exact ⟨μ j, hlt, j, β2, κ2, hj, rfl, r2⟩
  | exit id => exact ⟨s', β', κ', q, r'⟩
  | goto l => exact ⟨s', β', κ', q, r'⟩
  | ret => exact ⟨s', β', κ', q, r'⟩
  | panic ch => exact ⟨s', β', κ', q, r'⟩
  | outgrown => exact ⟨s', β', κ', q, r'⟩

theorem p_cnt {σ ε ρ : Type} {body : Nat → σ → Option (Stp σ ε ρ)} {fin : Nat → σ → ε} {N i0 : Nat} {st0 : σ} {R : Out ε ρ} (S : Nat → σ → AS) (hc : isLoop c = true) (H : cnt body fin (N - i0) i0 st0 = some R)
    (zero : ∀ i st, N ≤ i → R = .brk (fin i st) → Tri P (loopBody c) (kont P (.bar dead :: fs) Q) (S i st))
    (succ : ∀ i st, i < N → ∀ q, body i st = some q → outOf q R → Tri P (loopBody c) (kont P (.bar (nxt (S (i + 1)) q) :: fs) Q) (S i st)) : Tri P c (kont P fs Q) (S i0 st0) := by
  rw [isLoop_spec hc]
  refine loop_lift (ι := Nat × σ) (fun x => S x.1 x.2) (fun x => cnt body fin (N - x.1) x.1 x.2 = some R) (fun x => N - x.1) (i0, st0) H ?_
  rintro ⟨i, st⟩ hi
  by_cases hN : N ≤ i
  · rw [show N - i = 0 by omega] at hi
    simp only [cnt, Option.some.injEq] at hi
    exact ⟨dead, .inl rfl, zero i st hN hi.symm⟩
  · have e : N - i = (N - (i + 1)) + 1 := by omega
    have hi : cnt body fin (N - i) i st = some R := hi
    rw [e] at hi
    simp only [cnt] at hi
    refine bnd hi fun q hq hK => ?_
    cases q with
    | go st' => exact ⟨S (i + 1) st', .inr ⟨(i + 1, st'), hK, by show N - (i + 1) < N - i; omega, rfl⟩, succ i st (by omega) _ hq trivial⟩
    | brk e => exact ⟨dead, .inl rfl, succ i st (by omega) _ hq (Option.some.inj hK).symm⟩
    | ret e => exact ⟨dead, .inl rfl, succ i st (by omega) _ hq (Option.some.inj hK).symm⟩

theorem p_whl {σ ε ρ : Type} {body : σ → Option (Stp σ ε ρ)} {n : Nat} {st0 : σ} {R : Out ε ρ} (S : σ → AS) (hc : isLoop c = true) (H : whl body n st0 = some R)
    (succ : ∀ st, ∀ q, body st = some q → outOf q R → Tri P (loopBody c) (kont P (.bar (nxt S q) :: fs) Q) (S st)) : Tri P c (kont P fs Q) (S st0) := by
  rw [isLoop_spec hc]
  refine loop_lift (ι := Nat × σ) (fun x => S x.2) (fun x => whl body x.1 x.2 = some R) (fun x => x.1) (n, st0) H ?_
  rintro ⟨k, st⟩ hi
  cases k with
  | zero => cases hi
  | succ k =>
    have hi : (body st).bind (stp (whl body k)) = some R := hi
    refine bnd hi fun q hq hK => ?_
    cases q with
    | go st' => exact ⟨S st', .inr ⟨(k, st'), hK, Nat.lt_succ_self k, rfl⟩, succ st _ hq trivial⟩
    | brk e => exact ⟨dead, .inl rfl, succ st _ hq (Option.some.inj hK).symm⟩
    | ret e => exact ⟨dead, .inl rfl, succ st _ hq (Option.some.inj hK).symm⟩

/-! ### functions -/
theorem acallX {f : FuncId} {fn : Func} {args : List AV} {h h1 : List (Nat × AO)} {v : AV} (hf : P.funcs[f]? = some fn) (n : Nat) (rs : List ResultVar) (hok : (hasBody fn && Nat.beq fn.ntmps n && Nat.ble args.length n) = true) (hrs : fn.results.toList = rs)
    (ht : Tri P (bodyOf fn) (kont P [] (retX P rs v h1)) ⟨n, slots0 args 0, h⟩) : ACall P f args h (fun r h' => r = v ∧ h' = h1) := by
  refine acall hf n rs hok hrs (ht.lift fun c e a w ⟨s, β, κ, q, r⟩ => ?_)
  have key : (∃ s2 ks, Cv s s2 ∧ ares P s2 rs = some v ∧ sel ks s2.h = h1) → ∃ s β κ, (∃ v' ks, ares P s rs = some v' ∧ v' = v ∧ sel ks s.h = h1) ∧ Rel c s a w β κ := by
    rintro ⟨s2, ks, hcv, h2, h3⟩
    obtain ⟨β', κ', r'⟩ := hcv _ c a w β κ r
    exact ⟨s2, β', κ', ⟨v, ks, h2, rfl, h3⟩, r'⟩
  cases e with
  | normal => exact key q
  | ret => exact key q
  | exit id => exact q.elim
  | goto l => exact q.elim
  | panic ch => exact q.elim
  | outgrown => exact q.elim
end
end Go.Ab
