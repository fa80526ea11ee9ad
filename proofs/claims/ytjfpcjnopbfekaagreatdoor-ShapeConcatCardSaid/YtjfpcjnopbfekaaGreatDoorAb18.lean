/- ABSTRACT STATES: which operations have their effect in every state that they cannot tell from the one at hand (Loc). -/
import Derived.Test.YtjfpcjnopbfekaaGreatDoorAb17
set_option linter.unusedSimpArgs false
set_option linter.unusedVariables false
namespace Go.Ab
open Go.RowKit
section
variable {P : Program} {ops : Array Oper} {o : Oper} {s s' : AS}

theorem agree_op (ha : Agree ops o s s') {x : Operand} (hx : x ∈ o.op.operands) : s'.op x = s.op x := by
  cases x with
  | tmp t =>
    refine ha.t t ?_
    unfold Oper.looksAt
    exact List.mem_append_left _ (List.mem_filterMap.2 ⟨.tmp t, by simpa using hx, rfl⟩)
  | const v => rfl
  | global g => rfl
  | func f => rfl

theorem agree_gd (ha : Agree ops o s s') : gd ops s' o = gd ops s o := by
  unfold gd
  split
  · rfl
  · rename_i j b hg
    cases hj : ops[j]? with
    | none => rfl
    | some x =>
      cases hd : x.dst with
      | none => simp only [hd]
      | some t =>
        simp only [hd]
        have : t ∈ o.looksAt ops := by
          unfold Oper.looksAt
          refine List.mem_append_right _ ?_
          simp [hg, hj, hd]
        rw [ha.t t this, ha.n]

def SameAt (s s' : AS) (v : AV) : Prop := ∀ k, AV.men k v = true → lk .gone s'.h k = lk .gone s.h k

theorem cellsAt_congr {v : AV} (h : SameAt s s' v) : cellsAt s' v = cellsAt s v := by
  cases v <;> simp only [cellsAt]
  case hptr k o => rw [h k (by simp [AV.men])]
theorem aload_congr {v : AV} {t : TypeId} (h : SameAt s s' v) : aload P s' t v = aload P s t v := by
  unfold aload; rw [cellsAt_congr h]
theorem alen_congr {v : AV} {t : TypeId} (h : SameAt s s' v) : alen P s' t v = alen P s t v := by
  cases v <;> simp only [alen]
  case rslice k => rw [h k (by simp [AV.men])]
  case amap k => rw [h k (by simp [AV.men])]

theorem abnd_congr {x : Option Operand} {d : Int} (h : ∀ y, x = some y → s'.op y = s.op y) : abnd s' d x = abnd s d x := by
  cases x with
  | none => rfl
  | some y => simp only [abnd, h y rfl]
theorem aslice_congr {v : AV} {t : TypeId} {lo hi : Option Operand} (h1 : ∀ y, lo = some y → s'.op y = s.op y) (h2 : ∀ y, hi = some y → s'.op y = s.op y) : aslice P s' t v lo hi = aslice P s t v lo hi := by
  cases v <;> simp only [aslice, abnd_congr h1, abnd_congr h2]
theorem aindex_congr {v : AV} {t : TypeId} {i : Operand} (h1 : s'.op i = s.op i) : aindex P s' t v i = aindex P s t v i := by
  unfold aindex; rw [h1]
theorem aindexAddr_congr {v : AV} {t : TypeId} {i : Operand} (h1 : s'.op i = s.op i) (h : SameAt s s' v) : aindexAddr P s' t v i = aindexAddr P s t v i := by
  unfold aindexAddr
  rw [h1]
  cases v <;> try rfl
  case rslice k =>
    have := h k (by simp [AV.men])
    simp only [this]
theorem abin_congr {op : BinOp} {t : TypeId} {x y : Operand} (h1 : s'.op x = s.op x) (h2 : s'.op y = s.op y) : abin P s' op t x y = abin P s op t x y := by
  unfold abin; rw [h1, h2]

theorem aval_congr {op : Op} (h1 : ∀ x ∈ op.operands, s'.op x = s.op x) (h2 : ∀ x ∈ op.operands, SameAt s s' (s.op x)) : aval P s' op = aval P s op := by
  cases op
  case call c =>
    obtain ⟨callee, args, tys⟩ := c
    cases callee
    case builtin b =>
      have k1 : ∀ x ∈ args.toList, s'.op x = s.op x := fun x hx => h1 x (by simpa [Op.operands, Call.operands] using hx)
      have k2 : ∀ x ∈ args.toList, SameAt s s' (s.op x) := fun x hx => h2 x (by simpa [Op.operands, Call.operands] using hx)
      simp only [aval]
      revert k1 k2
      generalize args.toList = l
      generalize tys.toList = tl
      intro k1 k2
      cases b <;> try rfl
      case len =>
        match l, tl, k1, k2 with
        | [x], [t], k1, k2 => simp only [k1 x (by simp), alen_congr (k2 x (by simp))]
        | [], _, _, _ => rfl
        | _ :: _ :: _, _, _, _ => rfl
        | [_], [], _, _ => rfl
        | [_], _ :: _ :: _, _, _ => rfl
      case max =>
        match l, k1, k2 with
        | [x, y], k1, k2 => simp only [k1 x (by simp), k1 y (by simp)]
        | [], _, _ => rfl
        | [_], _, _ => rfl
        | _ :: _ :: _ :: _, _, _ => rfl
      case min =>
        match l, k1, k2 with
        | [x, y], k1, k2 => simp only [k1 x (by simp), k1 y (by simp)]
        | [], _, _ => rfl
        | [_], _, _ => rfl
        | _ :: _ :: _ :: _, _, _ => rfl
    all_goals rfl
  case makeFunc f first caps =>
    have k1 : ∀ x ∈ caps.toList, s'.op x = s.op x := fun x hx => h1 x (by simp [Op.operands] at hx ⊢; exact .inr hx)
    have k2 : ∀ x ∈ first.toList, s'.op x = s.op x := fun x hx => h1 x (by simp [Op.operands] at hx ⊢; exact .inl hx)
    cases f with
    | func g =>
      simp only [aval, List.map_congr_left k1]
      split
      · rfl
      · split
        · rename_i x e1 e2
          rw [k2 x (by rw [e1]; simp)]
        · rfl
    | _ => rfl
  case slice t x lo hi m =>
    have k0 : s'.op x = s.op x := h1 x (by simp [Op.operands])
    have k1 : ∀ y, lo = some y → s'.op y = s.op y := fun y hy => h1 y (by simp [Op.operands, hy])
    have k2 : ∀ y, hi = some y → s'.op y = s.op y := fun y hy => h1 y (by simp [Op.operands, hy])
    cases m with
    | none => simp only [aval, k0, aslice_congr k1 k2]
    | some z => rfl
  case pick c a b =>
    simp only [aval, h1 c (by simp [Op.operands]), h1 a (by simp [Op.operands]), h1 b (by simp [Op.operands])]
  case binOp b t x y u =>
    simp only [aval, abin_congr (h1 x (by simp [Op.operands])) (h1 y (by simp [Op.operands]))]
  case index t x i =>
    simp only [aval, h1 x (by simp [Op.operands]), aindex_congr (h1 i (by simp [Op.operands]))]
  case indexAddr t x i =>
    simp only [aval, h1 x (by simp [Op.operands]), aindexAddr_congr (h1 i (by simp [Op.operands])) (h2 x (by simp [Op.operands]))]
  case load t x =>
    simp only [aval, h1 x (by simp [Op.operands]), aload_congr (h2 x (by simp [Op.operands]))]
  case move x => simp only [aval, h1 x (by simp [Op.operands])]
  case assign x => simp only [aval, h1 x (by simp [Op.operands])]
  case fieldAddr t x f => simp only [aval, h1 x (by simp [Op.operands])]
  case field t x f => simp only [aval, h1 x (by simp [Op.operands])]
  case extract x i => simp only [aval, h1 x (by simp [Op.operands])]
  case unOp u t x => simp only [aval, h1 x (by simp [Op.operands])]
  case nilCheck x => simp only [aval, h1 x (by simp [Op.operands])]
  case convert u t x => simp only [aval, h1 x (by simp [Op.operands])]
  all_goals first | rfl | (simp only [aval, h1 _ (by simp [Op.operands])])

def Eff.put (dst : Option Tmp) (v : AV) : Eff := ⟨match dst with | some t => [(t, v)] | none => [], [], [], []⟩
theorem put_same {dst : Option Tmp} {v : AV} {s1 : AS} (h : s.put dst v = some s1) : Same ((Eff.put dst v).app s) s1 := by
  cases dst with
  | none => cases h; exact .refl _
  | some t =>
    simp only [AS.put] at h
    cases hlt : Nat.blt t s.n with
    | false => rw [hlt] at h; cases h
    | true => rw [hlt] at h; cases h; exact .refl _
theorem put_agree {dst : Option Tmp} {v : AV} {s1 : AS} (hn : s'.n = s.n) (h : s.put dst v = some s1) : ∃ s2, s'.put dst v = some s2 := by
  cases dst with
  | none => exact ⟨_, rfl⟩
  | some t =>
    simp only [AS.put] at h ⊢
    rw [hn]
    cases hlt : Nat.blt t s.n with
    | false => rw [hlt] at h; cases h
    | true => exact ⟨_, rfl⟩

theorem loc_of {dst : Option Tmp} {v : AV} {s1 : AS} (hd : o.dst = dst) (hp : s.put dst v = some s1) (h : ∀ s', Agree ops o s s' → ∀ s2, s'.put dst v = some s2 → OpT P ops o s' (· = s2)) : Loc P ops o s (.put dst v) := by
  intro s' ha _ _
  obtain ⟨s2, h2⟩ := put_agree (s' := s') ha.n hp
  exact (h s' ha s2 h2).mono fun s'' e => by subst e; exact put_same h2

theorem loc_skip (hg : gd ops s o = some false) {s1 : AS} (h : s.put o.dst (.tup []) = some s1) : Loc P ops o s (.put o.dst (.tup [])) :=
  loc_of rfl h fun _ ha _ h2 => op_skip (by rw [agree_gd ha]; exact hg) h2
theorem loc_val (hg : gd ops s o = some true) {p : Prop} {v : AV} (hv : aval P s o.op = some (p, v)) (hp : p) {s1 : AS} (h : s.put o.dst v = some s1) : Loc P ops o s (.put o.dst v) :=
  loc_of rfl h fun s' ha _ h2 => op_val (by rw [agree_gd ha]; exact hg) (by rw [aval_congr (fun x hx => agree_op ha hx) (fun x hx k hk => ha.h x hx k hk)]; exact hv) hp h2

theorem men_flL {k : Nat} : ∀ {cs : List AV}, AV.menL k cs = true → ∃ c ∈ cs, AV.men k c = true
  | [], h => by simp [AV.menL] at h
  | c :: cs, h => by
    simp only [AV.menL, Bool.or_eq_true] at h
    rcases h with h | h
    · exact ⟨c, by simp, h⟩
    · obtain ⟨c', h1, h2⟩ := men_flL h; exact ⟨c', by simp [h1], h2⟩

theorem vw1_congr {v : AV} (h : SameAt s s' v) : AV.vw1 s'.h v = AV.vw1 s.h v := by
  cases v <;> try rfl
  case rslice k =>
    have := h k (by simp [AV.men])
    simp only [AV.vw1, this]
  case hptr k o =>
    have := h k (by simp [AV.men])
    simp only [AV.vw1, this]
theorem vw_congr {v : AV} (h : SameAt s s' v) : AV.vw s'.h v = AV.vw s.h v := by
  cases v with
  | agg cs =>
    simp only [AV.vw, AV.agg.injEq]
    refine List.map_congr_left fun c hc => vw1_congr fun k hk => h k ?_
    obtain ⟨i, hi, rfl⟩ := List.mem_iff_getElem.1 hc
    simp only [AV.men]
    refine menL_getD hi ?_
    simpa [List.getD_eq_getElem?_getD, List.getElem?_eq_getElem hi] using hk
  | fn f cs =>
    simp only [AV.vw, AV.fn.injEq, true_and]
    refine List.map_congr_left fun c hc => vw1_congr fun k hk => h k ?_
    obtain ⟨i, hi, rfl⟩ := List.mem_iff_getElem.1 hc
    simp only [AV.men]
    refine menL_getD hi ?_
    simpa [List.getD_eq_getElem?_getD, List.getElem?_eq_getElem hi] using hk
  | _ => exact vw1_congr h

theorem loc_call {f : FuncId} (he : Go.Proofs.Enters P f) {x : Operand} {ar : Array Operand} {tys : Array TypeId} (hg : gd ops s o = some true) (hop : o.op = .call ⟨.value x, ar, tys⟩) {caps : List AV} (hx : s.op x = .fn f caps) (fl : Bool)
    {args : List AV} (hargs : (if fl then (if AV.flL (s.args ar caps) then some (s.args ar caps) else none) else some ((s.args ar caps).map (AV.vw s.h))) = some args) {v : AV} (hc : ACall P f args [] fun r _ => r = v) (hok : okRes fl v = true) {s1 : AS} (h : s.put o.dst v = some s1) : Loc P ops o s (.put o.dst v) :=
  loc_of rfl h fun s' ha s2 h2 => by
    have hxx : s'.op x = s.op x := agree_op ha (by simp [hop, Op.operands, Call.operands])
    have har : ∀ y ∈ ar, s'.op y = s.op y := fun y hy => agree_op ha (by simp [hop, Op.operands, Call.operands, hy])
    have e1 : s'.args ar caps = s.args ar caps := by
      unfold AS.args
      rw [List.map_congr_left (fun y hy => har y (by simpa using hy))]
    refine op_call he (by rw [agree_gd ha]; exact hg) hop (by rw [hxx]; exact hx) fl (args := args) ?_ hc fun r h' hr => by subst hr; exact ⟨hok, s2, h2, rfl⟩
    rw [e1]
    cases fl with
    | true => exact hargs
    | false =>
      rw [← hargs]
      simp only [Bool.false_eq_true, if_false, Option.some.injEq]
      refine List.map_congr_left fun u hu => vw_congr fun k hk => ?_
      unfold AS.args at hu
      rcases List.mem_append.1 hu with hu | hu
      · obtain ⟨y, hy, rfl⟩ := List.mem_map.1 hu
        exact ha.h y (by simp [hop, Op.operands, Call.operands]; exact .inr (by simpa using hy)) k hk
      · refine ha.h x (by simp [hop, Op.operands, Call.operands]) k ?_
        rw [hx]
        obtain ⟨i, hi, rfl⟩ := List.mem_iff_getElem.1 hu
        simp only [AV.men]
        refine menL_getD hi ?_
        simpa [List.getD_eq_getElem?_getD, List.getElem?_eq_getElem hi] using hk

theorem loc_build {t : TypeId} {ps : Array (Nat × Operand)} (hg : gd ops s o = some true) (hop : o.op = .build t ps) {v : AV} (hv : abuild P t (s.parts ps) = some v) {s1 : AS} (h : s.put o.dst v = some s1) : Loc P ops o s (.put o.dst v) :=
  loc_of rfl h fun s' ha _ h2 => op_build (by rw [agree_gd ha]; exact hg) hop (by
    rw [← hv]; congr 1; unfold AS.parts
    refine List.map_congr_left fun p hp => ?_
    rw [agree_op ha]
    rw [hop]; simp only [Op.operands, List.mem_toArray, List.mem_map]
    exact ⟨p, hp, rfl⟩) h2
theorem loc_buildSlice {t : TypeId} {len : Nat} {ps : Array (Nat × Operand)} (hg : gd ops s o = some true) (hop : o.op = .buildSlice t len ps) {v : AV} (hv : abuildSlice P t len (s.parts ps) = some v) {s1 : AS} (h : s.put o.dst v = some s1) : Loc P ops o s (.put o.dst v) :=
  loc_of rfl h fun s' ha _ h2 => op_buildSlice (by rw [agree_gd ha]; exact hg) hop (by
    rw [← hv]; congr 1; unfold AS.parts
    refine List.map_congr_left fun p hp => ?_
    rw [agree_op ha]
    rw [hop]; simp only [Op.operands, List.mem_toArray, List.mem_map]
    exact ⟨p, hp, rfl⟩) h2
theorem loc_appendE {x y : Operand} {t e : TypeId} {sz by_ : Nat} (hg : gd ops s o = some true) (hop : o.op = .call ⟨.builtin .append, #[x, y], #[t, t]⟩) (he : elemOk P t = some (e, sz, by_)) (hx : s.op x = .eslice) {ys : List (List AV)} (hy : s.op y = .dslice ys)
    (hE : EL sz ys) (hb : ys.length * by_ ≤ 140737488355328) (h63 : ys.length ≤ 9223372036854775807) {s1 : AS} (h : s.put o.dst (.dslice ys) = some s1) : Loc P ops o s (.put o.dst (.dslice ys)) :=
  loc_of rfl h fun s' ha _ h2 => op_appendE (by rw [agree_gd ha]; exact hg) hop he (by rw [agree_op ha (by simp [hop, Op.operands, Call.operands])]; exact hx) (by rw [agree_op ha (by simp [hop, Op.operands, Call.operands])]; exact hy) hE hb h63 h2
end
end Go.Ab
