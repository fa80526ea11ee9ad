/- THE LIBRARY's CONTRACTS (the kit's shelf) as contracts of abstract states. -/
import Derived.Test.YtjfpcjnopbfekaaGreatDoorAb25
import Derived.Shelf.Strconv.Itoa3
import Derived.Shelf.Strconv.ErrVarAll
import Derived.Shelf.Strings.OnBuilder
import Derived.Shelf.Strings.Split
import Derived.Shelf.Strings.SlTrimAscii
import Derived.Lib.SplitLaws
import Derived.Shelf.Sort.Plain
import Derived.Shelf.Slices.In.SortNone
set_option linter.unusedSimpArgs false
set_option linter.unusedVariables false
namespace Go.Ab
open Go.RowKit Go.Sh Go.Proofs

theorem keeps_of {w w' : World} (h : Below w.heap.size w w') : Keeps (fun b => b < w.heap.size) w w' := ⟨h.os, h.tape, h.output, h.size, h.block⟩
theorem afn_of {P : Program} {f : FuncId} {args : List AV} {v : AV} (hfl : AV.flL args = true)
    (h : ∀ (w : World) (X : Nat → Prop) (vs : List Value), vs.length = args.length → (∀ b, X b → b < w.heap.size) → (∀ i, i < args.length → D w X (args.getD i .any) (vs.getD i undef)) → GP P w → Calls P f vs.toArray w fun e w' => ∃ V, e = .returned V ∧ Below w.heap.size w w' ∧ D w' X v V) : AFn P f args v := by
  intro c vs hl hr hg
  have hX : ∀ b, c.XX [] c.β b → c.X b := fun b hb => hb.resolve_right fun ⟨k, hk, _⟩ => hk
  refine (h c.W c.X vs hl c.hX (fun i hi => ((hg i hi).toD (flL_getD hi hfl)).mono (fun _ _ _ => rfl) (fun b hb _ hb' => hb (.inl hb'))) (c.gp _ (Keeps.refl _ _))).mono fun e w' ⟨V, e1, hb, hd⟩ => ?_
  have hk : Keeps c.K c.W w' := ⟨hb.os, hb.tape, hb.output, hb.size, fun b hb2 => hb.block b (c.hK b hb2)⟩
  exact ⟨V, v, [], c.β, c.κ, e1, ⟨rfl, rfl⟩, ⟨fun _ => trivial, fun _ _ h => h.elim, hk, fun _ h => h.elim, fun _ h => h.elim, fun _ _ => ⟨rfl, rfl⟩⟩, .d (hd.mono (fun _ _ _ => rfl) (fun b hb2 _ hb3 => hb2 (hX b hb3)))⟩

section
variable {P : Program} {ρ : Go.Shelf.Ren}
theorem D.str_inv {w : World} {X : Nat → Prop} {s : List UInt8} {V : Value} (h : D w X (.str s) V) : V = .string ⟨s.toArray⟩ ∧ s.length ≤ maxLen := by cases h; exact ⟨rfl, by assumption⟩
theorem D.int_inv {w : World} {X : Nat → Prop} {k : IntKind} {n : Int} {V : Value} (h : D w X (.int k n) V) : V = .int k n := by cases h; rfl
theorem vs1 {vs : List Value} (h : vs.length = 1) : vs = [vs.getD 0 undef] := by
  match vs, h with
  | [v], _ => rfl
theorem vs2 {vs : List Value} (h : vs.length = 2) : vs = [vs.getD 0 undef, vs.getD 1 undef] := by
  match vs, h with
  | [v, u], _ => rfl
theorem below_grow (w : World) (k : Nat) (os : Array Obj) : Below w.heap.size w (Go.Sort.grow (w.drewN k) os) := by
  refine ⟨rfl, rfl, rfl, by simp [Go.Sort.grow, World.drewN], fun b hb => ?_⟩
  simp [Go.Sort.grow, World.drewN, Array.getElem?_append, hb]

/-! ### strconv.Itoa -/
def lib_Itoa (n : Int) : Option Str := grd (-9223372036854775808 ≤ n ∧ n ≤ 9223372036854775807 ∧ (Lib.itoa n).length ≤ 9223372036854775807) <| some (Lib.itoa n)
theorem afn_Itoa (L : LaysM.n171 P ρ) (hg : P.globalNamed "internal/strconv.uint64pow10" ≠ none) (n : Int) (r : Str) (H : lib_Itoa n = some r) : AFn P (ρ.f 171) [.int .i64 n] (.str r) := by
  unfold lib_Itoa at H
  refine grd_e H fun hn H => ?_
  refine some_e H fun e => ?_
  subst e
  refine afn_of rfl fun w X vs hl _ hd gp => ?_
  have h0 := (hd 0 (by simp)).int_inv
  rw [vs1 (vs := vs) (by simpa using hl), h0]
  refine (Any.strconv_Itoa L n hn.1 hn.2.1 w (gp.pow10 hg)).mono fun e w' ⟨e1, k, os, e2⟩ => ?_
  exact ⟨_, e1, by rw [e2]; exact below_grow w k os, .str _ hn.2.2⟩

/-! ### strconv.Atoi -/
def atoiR (s : Str) : Int × Bool := match Lib.atoiAll s with | .ok v => (v, true) | .range => (Lib.atoiSat s, false) | _ => (0, false)
def lib_Atoi (s : Str) : Option (Int × Bool) := grd (s.length ≤ 281474976710656) <| some (atoiR s)
theorem heap_freeze (w : World) (a : Addr) (n b : Nat) (h : b ≠ a.block) : (w.freeze a n).heap[b]? = w.heap[b]? := by
  unfold World.freeze
  split
  · rfl
  · simp [Array.getElem?_modify, Ne.symm h]
theorem below_bytes (w : World) (e : TypeId) (s : ByteArray) : Below w.heap.size w (Lib.bytesWorld w e s) := by
  unfold Lib.bytesWorld
  have h1 : Below w.heap.size w (w.drew.alloc (.cells (Lib.bytesCells w e s) e)) := (Below.refl _ w).drew.alloc (Nat.le_refl _) _
  have hsz : ((w.drew.alloc (.cells (Lib.bytesCells w e s) e)).freeze ⟨w.heap.size, (Lib.bytesCells w e s).size, none⟩ 1).heap.size = (w.drew.alloc (.cells (Lib.bytesCells w e s) e)).heap.size := by
    unfold World.freeze
    split
    · rfl
    · simp
  have hf : ∀ (w : World) (a : Addr) (n : Nat), (w.freeze a n).os = w.os ∧ (w.freeze a n).tape = w.tape ∧ (w.freeze a n).output = w.output := by
    intro w a n; unfold World.freeze; split <;> exact ⟨rfl, rfl, rfl⟩
  obtain ⟨f1, f2, f3⟩ := hf (w.drew.alloc (.cells (Lib.bytesCells w e s) e)) ⟨w.heap.size, (Lib.bytesCells w e s).size, none⟩ 1
  exact ⟨f1.trans h1.os, f2.trans h1.tape, f3.trans h1.output, by rw [hsz]; exact h1.size, fun b hb => (heap_freeze _ _ _ _ (by show b ≠ w.heap.size; omega)).trans (h1.block b hb)⟩
theorem D.pair {w : World} {X : Nat → Prop} {a b : AV} {A B : Value} (ha : D w X a A) (hb : D w X b B) : D w X (.tup [a, b]) (.tuple #[A, B]) :=
  .tup _ _ rfl fun i hi => by
    match i, hi with
    | 0, _ => exact ha
    | 1, _ => exact hb
theorem afn_Atoi (L : LaysC.n172 P ρ) (hg1 : P.globalNamed "strconv.ErrSyntax" ≠ none) (hg2 : P.globalNamed "strconv.ErrRange" ≠ none) (s : Str) (r : Int × Bool) (H : lib_Atoi s = some r) : AFn P (ρ.f 172) [.str s] (.tup [.int .i64 r.1, errV (ρ.t 168) r.2]) := by
  unfold lib_Atoi at H
  refine grd_e H fun hn H => ?_
  refine some_e H fun e => ?_
  subst e
  refine afn_of rfl fun w X vs hl _ hd gp => ?_
  have h0 := (hd 0 (by simp)).str_inv.1
  rw [vs1 (vs := vs) (by simpa using hl), h0]
  have hsz : ByteArray.size ⟨s.toArray⟩ = s.length := by simp [ByteArray.size]
  unfold atoiR
  cases hr : Lib.atoiAll s with
  | ok v =>
    refine (Any.strconv_Atoi_ok L ⟨s.toArray⟩ (by rw [hsz]; omega) v (by simpa using hr) w).mono fun e w' ⟨e1, e2⟩ => ?_
    refine ⟨_, e1, ?_, .pair (.int _ _) .nilI⟩
    rcases e2 with rfl | ⟨t, rfl⟩
    · exact .refl _ _
    · exact below_bytes _ _ _
  | range =>
    obtain ⟨tp, p, hv⟩ := gp.rng hg2
    refine (Any.strconv_Atoi_range_var L ⟨s.toArray⟩ (by rw [hsz]; exact hn) (by simpa using hr) tp p w hv).mono fun e w' ⟨N, e1, _, _, e2⟩ => ?_
    refine ⟨_, e1, e2, .pair ?_ (.iface _ _ _ (.any _))⟩
    simp only [List.toList_toArray]
    exact .int _ _
  | _ =>
    obtain ⟨tp, p, hv⟩ := gp.syn hg1
    refine (Any.strconv_Atoi_syntax_var L ⟨s.toArray⟩ (by rw [hsz]; exact hn) (by simpa using hr) tp p w hv).mono fun e w' ⟨N, e1, _, _, e2⟩ => ?_
    exact ⟨_, e1, e2, .pair (.int _ _) (.iface _ _ _ (.any _))⟩

/-! ### strings.Join -/
def lib_Join (xs : List Str) (sep : Str) : Option Str := grd ((Lib.join xs sep).length ≤ 140737488355328 ∧ xs.length ≤ 140737488355328) <| some (Lib.join xs sep)
def strC (x : Str) : List AV := [.str x]
theorem afn_Join (L : Lays.n156 P ρ) (E : Builder.Extra P ρ) (xs : List Str) (sep : Str) (r : Str) (H : lib_Join xs sep = some r) : AFn P (ρ.f 156) [.dslice (xs.map strC), .str sep] (.str r) := by
  unfold lib_Join at H
  refine grd_e H fun hn H => ?_
  refine some_e H fun e => ?_
  subst e
  refine afn_of rfl fun w X vs hl hX hd gp => ?_
  have h0 := hd 0 (by simp)
  have h1 := (hd 1 (by simp)).str_inv.1
  rw [vs2 (vs := vs) (by simpa using hl), h1]
  simp only [List.getD_cons_zero] at h0
  generalize vs.getD 0 undef = V at h0
  have hmap : ∀ ys : List Str, (ys.map fun y => (⟨y.toArray⟩ : ByteArray)).map (·.data.toList) = ys := fun ys => by simp [List.map_map, Function.comp_def]
  by_cases hx : xs = []
  · subst hx
    have : ∃ a c, V = .slice a 0 c := by
      have h0 : D w X (.dslice []) V := h0
      generalize hL : ([] : List (List AV)) = L at h0
      cases h0 with
      | dnil a c _ => exact ⟨a, c, rfl⟩
      | dslice _ b o c sz cv h1 h2 h3 => subst hL; exact ⟨_, _, rfl⟩
    obtain ⟨a, c, rfl⟩ := this
    refine (Any.strings_Join_none L E a c ⟨sep.toArray⟩ w).mono fun e w' ⟨e1, e2⟩ => ?_
    exact ⟨_, e1, by rw [e2]; exact .refl _ _, .str [] (Nat.zero_le _)⟩
  · have hne : 0 < xs.length := List.length_pos_iff.2 hx
    generalize hL : xs.map strC = L at h0
    cases h0 with
    | dnil a c hc => simp at hL; exact absurd hL hx
    | dslice _ b o c sz cv q1 q2 q0 q3 q4 q5 q6 =>
      subst hL
      have hsz1 : sz = 1 := by
        have := q4 0 (by simpa using hne)
        rw [← this]
        obtain ⟨x, ys, rfl⟩ : ∃ x ys, xs = x :: ys := by
          cases xs with
          | nil => simp at hne
          | cons x ys => exact ⟨x, ys, rfl⟩
        rfl
      subst hsz1
      have hcell : ∀ j, j < xs.length → w.cell? ⟨b, o + j, none⟩ = some (.string ⟨(xs.getD j []).toArray⟩) ∧ (xs.getD j []).length ≤ maxLen := by
        intro j hj
        have a1 := q5 j 0 (by simpa using hj) (by omega)
        have a2 := q6 j 0 (by simpa using hj) (by omega)
        have e1 : (xs.map strC).getD j [] = strC (xs.getD j []) := by simp [List.getD_eq_getElem?_getD, List.getElem?_eq_getElem hj]
        rw [e1] at a2
        have a3 := (show D w X (.str (xs.getD j [])) (cv j 0) from a2).str_inv
        rw [show o + (j * 1 + 0) = o + j by omega, a3.1] at a1
        exact ⟨a1, a3.2⟩
      have hb : b < w.heap.size := World.block_lt_of_cell? w _ (hcell 0 hne).1
      have := Any.strings_Join L E b o c (xs.map fun y => (⟨y.toArray⟩ : ByteArray)) ⟨sep.toArray⟩ w (fun j x hj => by
        simp only [List.getElem?_map, Option.map_eq_some_iff] at hj
        obtain ⟨y, hy, rfl⟩ := hj
        have hlt : j < xs.length := (List.getElem?_eq_some_iff.1 hy).1
        have := (hcell j hlt).1
        rw [List.getD_eq_getElem?_getD, hy] at this
        exact this) hb (by simpa using hn.2) (by simpa using q1) (by rw [hmap]; exact hn.1)
      rw [hmap] at this
      simp only [List.length_map] at this ⊢
      refine this.mono fun e w' ⟨e1, e2⟩ => ?_
      exact ⟨_, e1, e2, .str _ (Nat.le_trans hn.1 (by decide))⟩

/-! ### strings.Split -/
theorem splitK_le (sep : List UInt8) (save : Nat) : ∀ (k : Nat) (s x : List UInt8), x ∈ Lib.splitK sep save k s → x.length ≤ s.length
  | 0, s, x, h => by simp only [Lib.splitK, List.mem_singleton] at h; rw [h]; exact Nat.le_refl _
  | k + 1, s, x, h => by
    simp only [Lib.splitK] at h
    split at h
    · simp only [List.mem_singleton] at h; rw [h]; exact Nat.le_refl _
    · rcases List.mem_cons.1 h with h | h
      · rw [h]; simp only [List.length_take]; omega
      · have := splitK_le sep save k _ x h
        simp only [List.length_drop] at this; omega
def lib_Split (s sep : Str) : Option (List Str) := grd (s.length < 4294967281 ∧ 1 ≤ sep.length) <| some (Lib.splitK sep 0 (Lib.countB ⟨s.toArray⟩ ⟨sep.toArray⟩) s)
theorem afn_Split (L : Lays.n146 P ρ) (hi9 : (P.info? (ρ.t 9)).map (fun i => (i.zero, i.size, i.bytes)) = some (some (.string ByteArray.empty), 1, 16)) (hg : P.globalNamed "internal/bytealg.MaxLen" = some (ρ.g 1)) (s sep : Str) (r : List Str) (H : lib_Split s sep = some r) : AFn P (ρ.f 146) [.str s, .str sep] (.dslice (r.map strC)) := by
  unfold lib_Split at H
  refine grd_e H fun hn H => ?_
  refine some_e H fun e => ?_
  subst e
  refine afn_of rfl fun w X vs hl hX hd gp => ?_
  have h0 := (hd 0 (by simp)).str_inv
  have h1 := (hd 1 (by simp)).str_inv
  rw [vs2 (vs := vs) (by simpa using hl), h0.1, h1.1]
  obtain ⟨m, hm⟩ := gp.len _ hg
  have sz : ∀ l : List UInt8, ByteArray.size ⟨l.toArray⟩ = l.length := fun l => by simp [ByteArray.size]
  refine (Any.strings_Split L hi9 ⟨s.toArray⟩ ⟨sep.toArray⟩ m w (by rw [sz]; exact hn.1) hm (by rw [sz]; exact hn.2)).mono fun e w' ⟨e1, e2⟩ => ?_
  refine ⟨_, e1, by rw [e2]; exact (Below.refl _ w).alloc (Nat.le_refl _) _, ?_⟩
  have hBl : ((Lib.splitB ⟨sep.toArray⟩ 0 (Lib.countB ⟨s.toArray⟩ ⟨sep.toArray⟩) ⟨s.toArray⟩).map (·.data.toList)) = Lib.splitK sep 0 (Lib.countB ⟨s.toArray⟩ ⟨sep.toArray⟩) s := by
    rw [Lib.splitB_data]
  have hlen : (Lib.splitB ⟨sep.toArray⟩ 0 (Lib.countB ⟨s.toArray⟩ ⟨sep.toArray⟩) ⟨s.toArray⟩).length = Lib.countB ⟨s.toArray⟩ ⟨sep.toArray⟩ + 1 := Lib.splitB_all _ (by rw [sz]; exact hn.2) 0 _ _ rfl
  generalize Lib.splitB ⟨sep.toArray⟩ 0 (Lib.countB ⟨s.toArray⟩ ⟨sep.toArray⟩) ⟨s.toArray⟩ = B at hBl hlen e2
  generalize hr : Lib.splitK sep 0 (Lib.countB ⟨s.toArray⟩ ⟨sep.toArray⟩) s = r at hBl
  have hle : ∀ x ∈ r, x.length ≤ maxLen := fun x hx => Nat.le_trans (splitK_le sep 0 _ s x (by rw [hr]; exact hx)) h0.2
  have hrl : r.length = Lib.countB ⟨s.toArray⟩ ⟨sep.toArray⟩ + 1 := by rw [← hBl, List.length_map, hlen]
  have hbig : r.length ≤ maxLen := by
    rw [hrl]
    have := Lib.countB_le ⟨sep.toArray⟩ (by rw [sz]; exact hn.2) _ ⟨s.toArray⟩ (Nat.le_refl _)
    rw [sz] at this
    exact Nat.le_trans (Nat.succ_le_succ this) (Nat.le_trans (show s.length + 1 ≤ 4294967282 by omega) (by decide))
  have hml : (r.map strC).length = Lib.countB ⟨s.toArray⟩ ⟨sep.toArray⟩ + 1 := by rw [List.length_map, hrl]
  have hcell : ∀ i, i < r.length → w'.cell? ⟨w.heap.size, 0 + i, none⟩ = some (.string ⟨(r.getD i []).toArray⟩) := by
    intro i hi
    have hheap : w'.heap[w.heap.size]? = some (.cells (B.map Value.string).toArray (ρ.t 9) (0, 0)) := by rw [e2]; exact Array.getElem?_push_size
    have h2 := cell_of_cells (w := w') (b := w.heap.size) (i := i) hheap (by rw [List.size_toArray, List.length_map, hlen]; omega)
    rw [Nat.zero_add, h2]
    have hBi : i < B.length := by omega
    have : r.getD i [] = (B[i]'hBi).data.toList := by rw [← hBl]; simp [List.getD_eq_getElem?_getD, List.getElem?_eq_getElem hBi]
    rw [this]
    simp [Array.getD_eq_getD_getElem?, List.getElem?_eq_getElem hBi]
  rw [← hml]
  refine .dslice _ w.heap.size 0 _ 1 (fun i _ => .string ⟨(r.getD i []).toArray⟩) (Nat.le_refl _) (by rw [List.length_map]; exact hbig) (by omega) (fun hx => Nat.lt_irrefl _ (hX _ hx)) (fun i hi => ?_) (fun i j hi hj => ?_) (fun i j hi hj => ?_)
  · rw [List.length_map] at hi; simp [List.getD_eq_getElem?_getD, List.getElem?_eq_getElem hi, strC]
  · rw [List.length_map] at hi
    have := hcell i hi
    rw [show 0 + (i * 1 + j) = 0 + i by omega]; exact this
  · rw [List.length_map] at hi
    have e3 : (r.map strC).getD i [] = strC (r.getD i []) := by simp [List.getD_eq_getElem?_getD, List.getElem?_eq_getElem hi]
    obtain rfl : j = 0 := by omega
    rw [e3]
    refine .str _ (hle _ ?_)
    rw [List.getD_eq_getElem?_getD, List.getElem?_eq_getElem hi]; exact List.getElem_mem hi

/-! ### strings.Trim -/
theorem dropWhile_le {α : Type} (p : α → Bool) : ∀ l : List α, (l.dropWhile p).length ≤ l.length
  | [] => by simp
  | x :: l => by
    rw [List.dropWhile_cons]
    split
    · have := dropWhile_le p l; simp; omega
    · simp
theorem trimS_le (s cut : List UInt8) : (Lib.trimS s cut).length ≤ s.length := by
  unfold Lib.trimS Lib.trimLeftS Lib.trimRightS
  refine Nat.le_trans (dropWhile_le _ _) ?_
  rw [List.length_reverse]
  refine Nat.le_trans (dropWhile_le _ _) ?_
  rw [List.length_reverse]; exact Nat.le_refl _
def lib_Trim (s cut : Str) : Option Str := grd (cut.length < 4294967281 ∧ cut.all (fun b => decide (b.toNat < 128)) = true) <| some (Lib.trimS s cut)
theorem afn_Trim (L : Lays.n160 P ρ) (hv116 : ∀ w, (zeroValue (ρ.t 116)).run P w = .ok (.agg (Array.replicate 256 (.bool false))) w) (hi116 : (P.info? (ρ.t 116)).map (·.size) = some 256) (s cut : Str) (r : Str) (H : lib_Trim s cut = some r) : AFn P (ρ.f 160) [.str s, .str cut] (.str r) := by
  unfold lib_Trim at H
  refine grd_e H fun hn H => ?_
  refine some_e H fun e => ?_
  subst e
  refine afn_of rfl fun w X vs hl hX hd gp => ?_
  have h0 := (hd 0 (by simp)).str_inv
  have h1 := (hd 1 (by simp)).str_inv
  rw [vs2 (vs := vs) (by simpa using hl), h0.1, h1.1]
  have sz : ∀ l : List UInt8, ByteArray.size ⟨l.toArray⟩ = l.length := fun l => by simp [ByteArray.size]
  have hm : maxLen = 9223372036854775807 := by decide
  refine (Any.strings_Trim_ascii L hv116 hi116 ⟨s.toArray⟩ ⟨cut.toArray⟩ w (by rw [sz]; have := h0.2; omega) (by rw [sz]; exact hn.1) (fun j b hb => by
    have := List.all_eq_true.1 hn.2 b (List.mem_of_getElem? (by simpa using hb))
    exact of_decide_eq_true this)).mono fun e w' ⟨e1, e2⟩ => ?_
  refine ⟨_, e1, e2, .str _ ?_⟩
  refine Nat.le_trans ?_ h0.2
  exact trimS_le s cut
end
end Go.Ab
