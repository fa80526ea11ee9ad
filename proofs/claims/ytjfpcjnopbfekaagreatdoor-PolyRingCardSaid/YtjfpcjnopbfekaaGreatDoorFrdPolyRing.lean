/- The frame for walks: states without addresses, the rules by which code is walked, and contracts of library functions. -/
import Derived.Test.YtjfpcjnopbfekaaGreatDoorFrcPolyRing
import Derived.Shelf.SlSortCmp.KitK
import Derived.Laws.Cover1
import Derived.Lib.Walk
import Derived.Deep.LoopGhost
import Derived.KernelRfl
import Derived.Test.YtjfpcjnopbfekaaGreatDoorProg
import Derived.Shelf.SlSortCmp.NoneTotal
import Derived.Shelf.SlGeneric
import Derived.Shelf.SlLaysZ
import Derived.Shelf.SlLaysF0
import Derived.Shelf.Small.Bits
import Derived.Sort.AssemblyPlain
import Derived.Shelf.SlIter.Sorted
set_option linter.unusedSimpArgs false
set_option linter.unusedVariables false

/- CONTRACTS at this seat: cmp.Compare, slices.Compare at texts, and what sum.result sorts by: they return the plain order; nothing that lay has turned. -/
namespace Go.Proofs.YtjfpcjnopbfekaaGreatDoor
open Go.RowKit Go.Ab Go.Sh Go.Proofs Go.Shelf Go.Sort
theorem cmpS_1 {x y : Str} (h : Op.bytesLess x y = true) : cmpS x y = -1 := by simp [cmpS, h]
theorem cmpS_2 {x y : Str} (h : Op.bytesLess x y = false) (h2 : (!x == y) = true) : cmpS x y = 1 := by
  have hne : x ≠ y := by simpa using h2
  rcases cb_tri x y with h3 | h3 | h3
  · rw [h] at h3; cases h3
  · exact absurd h3 hne
  · simp [cmpS, h, h3]
theorem cmpS_3 {x y : Str} (h2 : (!x == y) = false) : cmpS x y = 0 := by
  have : x = y := by simpa using h2
  subst this
  exact cmpS_self x
theorem isNaN_s (x : ByteArray) (w : World) : Calls Tryz.prog 253 #[.string x] w fun e w' => e = .returned (.bool false) ∧ w' = w := by
  go_enter Tryz.func253, Tryz.ntmps253
  go_wp2
  go_ret
  exact ⟨by simp, rfl⟩
set_option maxHeartbeats 1000000 in
theorem compare_b (x y : ByteArray) (w : World) : Calls Tryz.prog 212 #[.string x, .string y] w fun e w' => e = .returned (.int .i64 (cmpS x.toList y.toList)) ∧ w' = w := by
  go_enter Tryz.func212, Tryz.ntmps212
  go_wp2_with (go_at_call 253; refine (isNaN_s _ _).mono ?_; rintro e w' ⟨rfl, hw⟩; rw [hw])
  all_goals (go_ret; refine ⟨congrArg (fun n : Int => Ending.returned (.int .i64 n)) (?_ : (_ : Int) = cmpS x.toList y.toList), rfl⟩; first | exact (cmpS_1 (by assumption)).symm | exact (cmpS_2 (by assumption) (by assumption)).symm | exact (cmpS_3 (by assumption)).symm)
theorem compare_s (x y : Str) (w : World) : Calls Tryz.prog 212 #[.string ⟨x.toArray⟩, .string ⟨y.toArray⟩] w fun e w' => e = .returned (.int .i64 (cmpS x y)) ∧ w' = w := by
  have := compare_b ⟨x.toArray⟩ ⟨y.toArray⟩ w
  rwa [toList_mk, toList_mk] at this
def Holds1 (w : World) (p : Option Addr) (xs : List Str) : Prop := ∀ k, k < xs.length → ∃ b o, p = some ⟨b, o, none⟩ ∧ w.cell? ⟨b, o + k, none⟩ = some (.string ⟨(xs.getD k []).toArray⟩)
set_option maxRecDepth 100000 in
set_option maxHeartbeats 2000000 in
theorem compare_l (xs ys : List Str) (n1 n2 : Nat) (E : Aside (xs.length = n1 ∧ ys.length = n2)) (p1 p2 : Option Addr) (c1 c2 : Nat) (w : World) (h1 : Aside (Holds1 w p1 xs)) (h2 : Aside (Holds1 w p2 ys)) (b1 : n1 ≤ 9223372036854775807) (b2 : n2 ≤ 9223372036854775807) :
    Calls Tryz.prog 137 #[.slice p1 n1 c1, .slice p2 n2 c2] w fun e w' => e = .returned (.int .i64 (cmpL xs ys)) ∧ w' = w := by
  go_enter Tryz.func137, Tryz.ntmps137
  go_wp2
  go_loopg [11] n1 (fun g s11 wr => ∃ k : Nat, k ≤ n1 ∧ n1 - k ≤ g ∧ s11 = .int .i64 k ∧ wr = w ∧ k ≤ n2 ∧ Aside (∀ i, i < k → xs.getD i [] = ys.getD i []))
  case atStart => exact ⟨0, Nat.zero_le _, by omega, rfl, rfl, Nat.zero_le _, (show Aside _ from fun i hi => absurd hi (Nat.not_lt_zero _))⟩
  case round =>
    obtain ⟨k, hk, hg, rfl, rfl, hk2, hA⟩ := hrel
    by_cases hlt : k < n1
    · obtain ⟨b, o, rfl, hc1⟩ := h1.out k (by have := E.out; omega)
      have hltz : (k : Int) < (n1 : Int) := by omega
      by_cases hl2 : k < n2
      · obtain ⟨b', o', rfl, hc2⟩ := h2.out k (by have := E.out; omega)
        have hlt2z : (k : Int) < (n2 : Int) := by omega
        have hcs := compare_s (xs.getD k []) (ys.getD k []) wr
        clear h1 h2
        generalize (⟨(xs.getD k []).toArray⟩ : ByteArray) = bx at hc1 hcs
        generalize (⟨(ys.getD k []).toArray⟩ : ByteArray) = bz at hc2 hcs
        generalize hr : cmpS (xs.getD k []) (ys.getD k []) = r at hcs
        by_cases hz : r = 0
        · subst hz
          go_wp2_with (go_at_call 212; refine hcs.mono ?_; rintro e w' ⟨rfl, rfl⟩)
          go_roundg (n1 - (k + 1))
          case measure => omega
          case rel => exact ⟨k + 1, by omega, by omega, by go_num, rfl, by omega, (show Aside _ from fun i hi => by
            by_cases e : i = k
            · subst e; exact cmpS_zero.1 hr
            · exact hA.out i (by omega))⟩
        · have hc := cmpL_at hA.out (by have := E.out; omega) (by have := E.out; omega) (by rw [hr]; exact hz)
          rw [hr] at hc
          go_wp2_with (go_at_call 212; refine hcs.mono ?_; rintro e w' ⟨rfl, rfl⟩)
          go_ret
          exact ⟨by first | rfl | (rw [hc]; rfl), rfl⟩
      · have hc := cmpL_gt hA.out (by have := E.out; omega) (by have := E.out; omega)
        have hlt2z : ¬ (k : Int) < (n2 : Int) := by omega
        go_wp2
        go_ret
        exact ⟨by first | rfl | (rw [hc]; rfl), rfl⟩
    · have hltz : ¬ (k : Int) < (n1 : Int) := by omega
      by_cases hl2 : k < n2
      · have hc := cmpL_lt hA.out (by have := E.out; omega) (by have := E.out; omega)
        have hlt2z : (n1 : Int) < (n2 : Int) := by omega
        go_wp2
        go_ret
        exact ⟨by first | rfl | (rw [hc]; rfl), rfl⟩
      · have hc := cmpL_eq hA.out (by have := E.out; omega) (by have := E.out; omega)
        have hlt2z : ¬ (n1 : Int) < (n2 : Int) := by omega
        go_wp2
        go_ret
        exact ⟨by first | rfl | (rw [hc]; rfl), rfl⟩
end Go.Proofs.YtjfpcjnopbfekaaGreatDoor



/- THE LIBRARY's CONTRACTS that change a row of the caller's own: slices.SortFunc at structs, where the order parts whatever two elements. -/
namespace Go.Ab
open Go.RowKit Go.Sh Go.Proofs Go.Sort Go.Shelf
section
variable {P : Program} {α : Type}
def sortF (cf : α → α → Int) (xs : List α) : List α := xs.mergeSort fun x y => !(ltOf cf y x)
theorem sortF_len (cf : α → α → Int) (xs : List α) : (sortF cf xs).length = xs.length := List.length_mergeSort ..
theorem swo_pull {β : Type} {cf : α → α → Int} (h : SWO (ltOf cf)) (f : β → α) : SWO (ltOf fun x y => cf (f x) (f y)) where
  irrefl x := h.irrefl (f x)
  trans x y z := h.trans (f x) (f y) (f z)
  ntrans x y z := h.ntrans (f x) (f y) (f z)
theorem swkHeap (enc : α → List Value) (k : Nat) (w : World) (blk off m : Nat) (dk : Array α) (os : Array Obj) {b : Nat} (hb : b ≠ blk) (hlt : b < w.heap.size) [Inhabited α] : (sortWorldK enc k w blk off m dk os).heap[b]? = w.heap[b]? := by
  simp only [sortWorldK, grow, putRowK, putRow, mapBlock, Sort.ahead]
  rw [Array.getElem?_append_left (by simpa using hlt), Array.getElem?_modify, if_neg (Ne.symm hb)]
theorem swkBlk (enc : α → List Value) (k : Nat) (w : World) (blk off m : Nat) (dk : Array α) (os : Array Obj) {cur : Array Value} {e : TypeId} (h : w.heap[blk]? = some (.cells cur e (0, 0))) [Inhabited α] :
    (sortWorldK enc k w blk off m dk os).heap[blk]? = some (.cells (putCells id off (flatK enc k dk) cur) e (0, 0)) := by
  have hlt : blk < w.heap.size := (Array.getElem?_eq_some_iff.1 h).1
  simp only [sortWorldK, grow, putRowK, putRow, mapBlock, Sort.ahead]
  rw [Array.getElem?_append_left (by simpa using hlt), Array.getElem?_modify, if_pos rfl, h]
  rfl
theorem row1_lk (e : TypeId) (sz : Nat) (zs : List (List AV)) (k : Nat) : lk AO.gone [(1000, AO.row e sz zs)] k = if k = 1000 then .row e sz zs else .gone := by
  simp only [lk]
  by_cases e : k = 1000
  · subst e; simp
  · rw [beq_f e]; simp [e]
theorem row1_live {e : TypeId} {sz : Nat} {zs : List (List AV)} {k : Nat} (h : lv [(1000, AO.row e sz zs)] k) : k = 1000 ∧ zs ≠ [] := by
  rcases h with h | ⟨m, i, _, h⟩
  · rw [row1_lk] at h
    by_cases e : k = 1000
    · subst e; rw [if_pos rfl] at h; exact ⟨rfl, h⟩
    · rw [if_neg e] at h; exact h.elim
  · rw [row1_lk] at h
    by_cases e : m = 1000
    · rw [if_pos e] at h; exact h.elim
    · rw [if_neg e] at h; exact h.elim
set_option maxHeartbeats 1000000 in
theorem acall_SortF {f : FuncId} {et : TypeId} {sz : Nat} (c : α → List AV) (hc : ∀ x, (c x).length = sz) (h1c : ∀ x, ∀ v ∈ c x, v.one = true) (cf : α → α → Int) (hO : SWO (ltOf cf))
    (g : FuncId)
    (hS : ∀ {β : Type} [Inhabited β] (enc : β → List Value), (∀ x, (enc x).length = sz) → (∀ x, ∀ v ∈ enc x, v.oneCell' = true) → ∀ (cf : β → β → Int), SWO (ltOf cf) → ∀ (blk cap : Nat) (d : Array β) (w : World), CmpLays P g #[] enc sz cf blk 0 d.size w → HoldsK enc sz w blk 0 d → blk < w.heap.size → d.size < 4611686018427387904 →
      Calls P f #[.slice (some ⟨blk, 0, none⟩) d.size cap, .func (.func g) #[] #[]] w fun e w' => e = .returned (.tuple #[]) ∧ ∃ d' n os, PermIn 0 d.size d d' ∧ SortedIn (ltOf cf) 0 d.size d' ∧ w' = sortWorldK enc sz w blk 0 n d' os)
    (hS0 : ∀ (ad : Option Addr) (w : World), Calls P f #[.slice ad 0 0, .func (.func g) #[] #[]] w fun e w' => e = .returned (.tuple #[]) ∧ w' = w)
    (hgc : ∀ (W : World) (X : Nat → Prop) (x y : α) (A B : Array Value), D W X (.agg (c x)) (.agg A) → D W X (.agg (c y)) (.agg B) → Calls P g #[.agg A, .agg B] W fun e w' => e = .returned (.int .i64 (cf x y)) ∧ ∃ q os', w' = grow (W.drewN q) os')
    (xs : List α) (hn : xs.length < 4611686018427387904) (hnd : ∀ i j (hi : i < xs.length) (hj : j < xs.length), ltOf cf xs[i] xs[j] = false → ltOf cf xs[j] xs[i] = false → i = j) :
    ACall P f [.rslice 1000, .fn g []] [(1000, .row et sz (xs.map c))] (fun v h => v = .tup [] ∧ h = [(1000, .row et sz ((sortF cf xs).map c))]) := by
  have hlen : (sortF cf xs).length = xs.length := sortF_len cf xs
  intro cx vs hl hr hg
  have hv : vs = [vs.getD 0 undef, vs.getD 1 undef] := vs2 (by simpa using hl)
  have h0 : G cx.W (cx.XX [(1000, .row et sz (xs.map c))] cx.β) cx.β cx.κ (.rslice 1000) (vs.getD 0 undef) := hg 0 (by simp)
  have h9 : G cx.W (cx.XX [(1000, .row et sz (xs.map c))] cx.β) cx.β cx.κ (.fn g []) (vs.getD 1 undef) := hg 1 (by simp)
  obtain ⟨Vs, eV, hVl, _⟩ := h9.fn_inv
  have eVs : Vs = #[] := Array.size_eq_zero_iff.1 (by simpa using hVl.symm)
  subst eVs
  have ho : HO cx.W (cx.XX [(1000, .row et sz (xs.map c))] cx.β) cx.β cx.κ 1000 (.row et sz (xs.map c)) := hr.ob 1000
  have hk2 : (cx.κ 1000).2 = xs.length := by simpa using ho.1
  rw [hv, eV]
  rcases h0.rslice_inv with ⟨hpos, hV⟩ | ⟨hz, ad, hV⟩
  · have hne : xs ≠ [] := by intro e; subst e; rw [hk2] at hpos; simp at hpos
    have hpos : 0 < xs.length := List.length_pos_iff.2 hne
    obtain ⟨cur, q1, q2, q3, q4, q5, q6, q7⟩ := ho.2 (by simpa using hne)
    simp only [List.length_map] at q3 q7
    have hblk : cx.β 1000 < cx.W.heap.size := (Array.getElem?_eq_some_iff.1 q1).1
    have hcs : xs.length * sz ≤ cur.size := by rw [q2]; exact Nat.mul_le_mul_right _ q3
    have hXb : cx.XX [(1000, .row et sz (xs.map c))] cx.β (cx.β 1000) := .inr ⟨1000, .inl (by rw [row1_lk, if_pos rfl]; simpa [AO.live] using hne), rfl⟩
    letI : Inhabited (Fin xs.length) := ⟨⟨0, hpos⟩⟩
    obtain ⟨enc, henc⟩ : ∃ enc : Fin xs.length → List Value, enc = fun i => (List.range sz).map fun j => cur.getD (i.1 * sz + j) undef := ⟨_, rfl⟩
    have hk : ∀ x, (enc x).length = sz := fun x => by rw [henc]; simp
    have hget : ∀ x j, j < sz → (enc x)[j]! = cur.getD (x.1 * sz + j) undef := fun x j hj => by rw [henc]; simp [hj]
    have hgetD : ∀ x j, j < sz → (enc x).getD j undef = cur.getD (x.1 * sz + j) undef := fun x j hj => by rw [henc]; simp [List.getD_eq_getElem?_getD, hj]
    have hq7 : ∀ (x : Fin xs.length) j, j < sz → D cx.W (cx.XX [(1000, .row et sz (xs.map c))] cx.β) ((c xs[x.1]).getD j .any) ((enc x).getD j undef) := fun x j hj => by
      have := q7 x.1 j x.2 hj
      rw [map_getD_at (d := xs[x.1]) x.2] at this
      rw [hgetD x j hj]
      have e : xs.getD x.1 xs[x.1] = xs[x.1] := by simp [List.getD_eq_getElem?_getD]
      rwa [e] at this
    obtain ⟨d, hd⟩ : ∃ d : Array (Fin xs.length), d = (List.finRange xs.length).toArray := ⟨_, rfl⟩
    have hds : d.size = xs.length := by rw [hd]; simp
    have hdg : ∀ i (h : i < xs.length), d[i]! = ⟨i, h⟩ := fun i h => by rw [hd]; simp [h]
    have hflat : ∀ (dk : Array (Fin xs.length)) i j, i < dk.size → j < sz → (flatK enc sz dk)[i * sz + j]! = cur.getD (dk[i]!.1 * sz + j) undef := fun dk i j hi hj => by
      have h2 : (i + 1) * sz ≤ dk.size * sz := Nat.mul_le_mul_right _ hi
      rw [Nat.add_mul] at h2
      rw [get_flatK _ _ _ _ (by omega)]
      have e1 : (i * sz + j) / sz = i := by rw [Nat.mul_comm, Nat.mul_add_div q5, Nat.div_eq_of_lt hj]; rfl
      have e2 : (i * sz + j) % sz = j := by rw [Nat.mul_comm, Nat.mul_add_mod, Nat.mod_eq_of_lt hj]
      rw [e1, e2, hget _ _ hj]
    have hH : HoldsK enc sz cx.W (cx.β 1000) 0 d := by
      intro t ht
      rw [size_flatK, hds] at ht
      have h2 := Nat.div_add_mod t sz
      have hj : t % sz < sz := Nat.mod_lt _ q5
      have hi : t / sz < xs.length := Nat.div_lt_of_lt_mul (by rw [Nat.mul_comm]; exact ht)
      refine ⟨?_, by simp [World.frozen?, q1]⟩
      rw [Nat.zero_add, cell_of_cells q1 (by omega)]
      have := hflat d (t / sz) (t % sz) (by rw [hds]; exact hi) hj
      rw [hdg _ hi, show t / sz * sz + t % sz = t by rw [Nat.mul_comm]; exact h2] at this
      rw [this]; rfl
    have hone : ∀ x, ∀ v ∈ enc x, v.oneCell' = true := fun x v hv => by
      obtain ⟨j, hj, e⟩ := List.getElem_of_mem hv
      have hj' : j < sz := by rw [hk] at hj; exact hj
      have := hq7 x j hj'
      have e2 : (enc x).getD j undef = v := by rw [List.getD_eq_getElem?_getD, List.getElem?_eq_getElem hj, e]; rfl
      rw [e2] at this
      refine this.one (h1c xs[x.1] _ ?_)
      rw [List.getD_eq_getElem?_getD, List.getElem?_eq_getElem (by rw [hc]; exact hj')]
      exact List.getElem_mem _
    have hmono : ∀ m dk os {v : AV} {V : Value}, D cx.W (cx.XX [(1000, .row et sz (xs.map c))] cx.β) v V → D (sortWorldK enc sz cx.W (cx.β 1000) 0 m dk os) (cx.XX [(1000, .row et sz (xs.map c))] cx.β) v V := fun m dk os v V h =>
      h.mono (fun b hb hlt => swkHeap enc sz cx.W (cx.β 1000) 0 m dk os (fun e => hb (e ▸ hXb)) hlt) (fun b hb _ => hb)
    have hcmp : CmpLays P g #[] enc sz (fun i j => cf xs[i.1] xs[j.1]) (cx.β 1000) 0 d.size cx.W := by
      intro m os dk _ x y
      rw [Array.append_empty]
      refine hgc _ (cx.XX [(1000, .row et sz (xs.map c))] cx.β) _ _ _ _ ?_ ?_
      · refine .agg _ _ (by simp [hc, hk]) fun j hj => hmono m dk os ?_
        rw [hc] at hj
        simpa [Array.getD_eq_getD_getElem?, List.getD_eq_getElem?_getD] using hq7 x j hj
      · refine .agg _ _ (by simp [hc, hk]) fun j hj => hmono m dk os ?_
        rw [hc] at hj
        simpa [Array.getD_eq_getD_getElem?, List.getD_eq_getElem?_getD] using hq7 y j hj
    have hkey := hS enc hk hone (fun i j => cf xs[i.1] xs[j.1]) (swo_pull hO fun i : Fin xs.length => xs[i.1]) (cx.β 1000) (cx.κ 1000).1 d cx.W hcmp hH hblk (by omega)
    have hT : ∀ x y : Fin xs.length, ltOf (fun i j : Fin xs.length => cf xs[i.1] xs[j.1]) x y = false → ltOf (fun i j : Fin xs.length => cf xs[i.1] xs[j.1]) y x = false → x = y := fun x y h h' => Fin.ext (hnd x.1 y.1 x.2 y.2 h h')
    rw [hds] at hkey
    rw [hV, hk2]
    refine hkey.mono fun e w' ⟨e1, d', n', os, hp, hs, e2⟩ => ?_
    have hu := sorted_unique_holds (swo_pull hO fun i : Fin xs.length => xs[i.1]) hT d d' (by rw [hds]; exact hp) (by rw [hds]; exact hs)
    obtain ⟨ds, hds0⟩ : ∃ ds, ds = d'.toList := ⟨_, rfl⟩
    have e3 : d' = ds.toArray := by rw [hds0]
    rw [e3] at e2
    have hds2 : ds = d.toList.mergeSort fun x y => !(ltOf (fun i j : Fin xs.length => cf xs[i.1] xs[j.1])) y x := by rw [hds0]; exact hu
    have hdl : ds.length = xs.length := by rw [hds2, List.length_mergeSort, Array.length_toList, hds]
    have hmap : ds.map (fun i : Fin xs.length => xs[i.1]'i.2) = sortF cf xs := by
      have hm := List.map_mergeSort (r := fun x y => !(ltOf (fun i j : Fin xs.length => cf (xs[i.1]'i.2) (xs[j.1]'j.2)) y x)) (s := fun x y => !(ltOf cf y x)) (f := fun i : Fin xs.length => xs[i.1]'i.2) (l := d.toList) (fun a _ b _ => rfl)
      rw [hds2, hm]
      unfold sortF
      congr 1
      rw [hd]
      refine List.ext_getElem (by simp) fun i h1 h2 => by simp
    subst e2
    have hblk2 := swkBlk enc sz cx.W (cx.β 1000) 0 n' ds.toArray os q1
    obtain ⟨cur', hcur'⟩ : ∃ cur', cur' = putCells id 0 (flatK enc sz ds.toArray) cur := ⟨_, rfl⟩
    rw [← hcur'] at hblk2
    have hcs' : cur'.size = cur.size := by rw [hcur']; simp [putCells]
    have hnK : ¬ cx.K (cx.β 1000) := hr.nk 1000 (.inl (by rw [row1_lk, if_pos rfl]; simpa [AO.live] using hne))
    have hX2 : ∀ b, ¬ cx.XX [(1000, .row et sz (xs.map c))] cx.β b → ¬ cx.XX [(1000, .row et sz ((sortF cf xs).map c))] cx.β b := by
      rintro b hb (hx | ⟨k, hk, rfl⟩)
      · exact hb (.inl hx)
      · obtain ⟨rfl, _⟩ := row1_live hk
        exact hb hXb
    refine ⟨_, .tup [], [(1000, .row et sz ((sortF cf xs).map c))], cx.β, cx.κ, e1, ⟨rfl, rfl⟩, ⟨fun k => ?_, fun i j hi hj _ => ?_, ⟨rfl, rfl, rfl, ?_, fun b hb => swkHeap enc sz cx.W (cx.β 1000) 0 n' ds.toArray os (fun e => hnK (e ▸ hb)) (cx.hK b hb)⟩, fun k hk => ?_, fun k hk => ?_, fun k hk _ => ⟨rfl, rfl⟩, fun k hk => ?_⟩, .d (.tup _ _ rfl (fun i hi => by simp at hi))⟩
    · rw [row1_lk]
      by_cases ek : k = 1000
      · subst ek
        rw [if_pos rfl]
        refine ⟨by simp [hk2, hlen], fun _ => ⟨cur', hblk2, by rw [hcs', q2], by simpa [hlen] using q3, q4, q5, fun i hi => ?_, fun i j hi hj => ?_⟩⟩
        · have hi : i < (sortF cf xs).length := by simpa using hi
          rw [map_getD_at (d := xs[0]) hi, hc]
        · have hi : i < (sortF cf xs).length := by simpa using hi
          rw [map_getD_at (d := xs[0]) hi]
          have hi' : i < ds.length := by omega
          have e3 : (sortF cf xs).getD i xs[0] = xs[ds[i].1] := by
            rw [List.getD_eq_getElem?_getD, ← hmap]; simp [hi']
          have e4 : cur'.getD (i * sz + j) undef = cur.getD (ds[i].1 * sz + j) undef := by
            have h2 : (i + 1) * sz ≤ xs.length * sz := Nat.mul_le_mul_right _ (by omega)
            rw [Nat.add_mul] at h2
            have hlt : i * sz + j < cur.size := by omega
            have h3 := hflat ds.toArray i j (by simpa using hi') hj
            have h4 : (ds.toArray[i]! : Fin xs.length) = ds[i] := by simp [hi']
            rw [h4] at h3
            rw [← h3, hcur']
            simp [putCells, Array.getD_eq_getD_getElem?, hlt, hdl]
            omega
          rw [e3, e4, ← hgetD _ _ hj]
          exact (hmono n' ds.toArray os (hq7 ds[i] j hj)).mono (fun _ _ _ => rfl) fun b hb _ => hX2 b hb
      · rw [if_neg ek]; trivial
    · rw [(row1_live hi).1, (row1_live hj).1]
    · simp [sortWorldK, putRowK, putRow, mapBlock, grow, Sort.ahead]
    · obtain ⟨rfl, _⟩ := row1_live hk; exact hnK
    · obtain ⟨rfl, _⟩ := row1_live hk
      exact hr.nx 1000 (.inl (by rw [row1_lk, if_pos rfl]; simpa [AO.live] using hne))
    · rw [row1_lk] at hk
      by_cases ek : k = 1000
      · omega
      · rw [if_neg ek] at hk; exact absurd rfl hk
  · have hx : xs = [] := List.eq_nil_of_length_eq_zero (by omega)
    subst hx
    rw [hV]
    refine (hS0 ad cx.W).mono fun e w' ⟨e1, e2⟩ => ?_
    subst e2
    exact ⟨_, .tup [], [(1000, .row et sz (([] : List α).map c))], cx.β, cx.κ, e1, ⟨rfl, by simp [sortF]⟩, hr, .d (.tup _ _ rfl (fun i hi => by simp at hi))⟩
end
end Go.Ab



/-
  DERIVED: THE SHELF's CONTRACTS AT THIS DUMP, IN PLAIN WORDS (tools/lay-plain.mjs out of 'TryzShelfE.lean', which tools/lay-shelf.mjs wrote): THE SAME DECLARATIONS UNDER THE SAME NAMES: 'import', 'namespace', 'open', 'def', 'theorem' AND NOTHING ELSE: no command of the shelf's: FOR A HAND-IN. Each laying: the table of numbers ('.._ren') and one theorem, a field a fact of the dump's own or the kernel's comparison; each contract: ONE APPLICATION.
-/
namespace Go.Proofs
open Go.Shelf
def Tryz.sortedZ_ren : Go.Shelf.Ren := ⟨fun | 6 => 205 | 8 => 250 | 9 => 138 | 11 => 280 | 13 => 214 | 12 => 213 | 23 => 262 | 24 => 263 | 14 => 254 | 15 => 255 | 16 => 256 | 17 => 257 | 18 => 258 | 19 => 259 | 20 => 210 | 21 => 260 | 22 => 261 | 25 => 289 | 26 => 290 | 27 => 291 | 28 => 292 | 29 => 293 | 30 => 253 | 31 => 308 | n => n, fun | 26 => 9 | 28 => 221 | 24 => 90 | 0 => 0 | 3 => 3 | 37 => 228 | 48 => 264 | 50 => 199 | 4 => 4 | 40 => 258 | 39 => 257 | 45 => 58 | 5 => 5 | 9 => 9 | 51 => 282 | 55 => 286 | 57 => 307 | 58 => 209 | 33 => 61 | n => n, fun | n => n⟩
theorem Tryz.sortedZ : Go.Proofs.SlLaysZ.n6 Tryz.prog Tryz.sortedZ_ren := {
  mixed := by kernel_rfl
  f6 := ⟨Tryz.f205.name, by decide, Tryz.func205.trans (congrArg some (by kernel_rfl))⟩
  f8 := ⟨Tryz.f250.name, by decide, Tryz.func250.trans (congrArg some (by kernel_rfl))⟩
  f11 := ⟨Tryz.f280.name, by decide, Tryz.func280.trans (congrArg some (by kernel_rfl))⟩
  t0 := Tryz.underlying0
  a0 := Tryz.isAgg0
  z0 := Tryz.sizeOf0
  v0 := Tryz.zeroValue0
  t24 := Tryz.underlying90
  a24 := Tryz.isAgg90
  z24 := Tryz.sizeOf90
  v24 := Tryz.zeroValue90
  t26 := Tryz.underlying9
  a26 := Tryz.isAgg9
  z26 := Tryz.sizeOf9
  v26 := Tryz.zeroValue9
  t28 := Tryz.underlying221
  a28 := Tryz.isAgg221
  z28 := Tryz.sizeOf221
  v28 := Tryz.zeroValue221
  i26 := by kernel_rfl }
def Tryz.pdqF_ren : Go.Shelf.Ren := ⟨fun | 14 => 252 | 20 => 281 | 21 => 282 | 22 => 283 | 23 => 284 | 24 => 285 | 25 => 286 | 26 => 287 | 27 => 288 | 46 => 305 | 47 => 290 | 48 => 291 | 49 => 306 | 50 => 307 | 15 => 214 | 57 => 316 | 28 => 262 | 29 => 263 | n => n, fun | 24 => 118 | 22 => 69 | 3 => 3 | 25 => 224 | 4 => 4 | 0 => 0 | 46 => 258 | 45 => 257 | 50 => 58 | 66 => 282 | 39 => 228 | 55 => 199 | 70 => 286 | 76 => 307 | 77 => 209 | 53 => 264 | 5 => 5 | 9 => 9 | n => n, fun | n => n⟩
theorem Tryz.pdqF : Go.Proofs.SlLaysF0.n14 Tryz.prog Tryz.pdqF_ren := {
  mixed := by kernel_rfl
  f14 := ⟨Tryz.f252.name, by decide, Tryz.func252.trans (congrArg some (by kernel_rfl))⟩
  f15 := Tryz.func214.trans (congrArg some (by kernel_rfl))
  f20 := ⟨Tryz.f281.name, by decide, Tryz.func281.trans (congrArg some (by kernel_rfl))⟩
  f21 := ⟨Tryz.f282.name, by decide, Tryz.func282.trans (congrArg some (by kernel_rfl))⟩
  f22 := ⟨Tryz.f283.name, by decide, Tryz.func283.trans (congrArg some (by kernel_rfl))⟩
  f23 := ⟨Tryz.f284.name, by decide, Tryz.func284.trans (congrArg some (by kernel_rfl))⟩
  f24 := ⟨Tryz.f285.name, by decide, Tryz.func285.trans (congrArg some (by kernel_rfl))⟩
  f25 := ⟨Tryz.f286.name, by decide, Tryz.func286.trans (congrArg some (by kernel_rfl))⟩
  f26 := ⟨Tryz.f287.name, by decide, Tryz.func287.trans (congrArg some (by kernel_rfl))⟩
  f27 := ⟨Tryz.f288.name, by decide, Tryz.func288.trans (congrArg some (by kernel_rfl))⟩
  f28 := Tryz.func262.trans (congrArg some (by kernel_rfl))
  f29 := Tryz.func263.trans (congrArg some (by kernel_rfl))
  f46 := ⟨Tryz.f305.name, by decide, Tryz.func305.trans (congrArg some (by kernel_rfl))⟩
  f47 := Tryz.func290.trans (congrArg some (by kernel_rfl))
  f48 := Tryz.func291.trans (congrArg some (by kernel_rfl))
  f49 := ⟨Tryz.f306.name, by decide, Tryz.func306.trans (congrArg some (by kernel_rfl))⟩
  f50 := ⟨Tryz.f307.name, by decide, Tryz.func307.trans (congrArg some (by kernel_rfl))⟩
  f57 := ⟨Tryz.f316.name, by decide, Tryz.func316.trans (congrArg some (by kernel_rfl))⟩
  t0 := Tryz.underlying0
  a0 := Tryz.isAgg0
  z0 := Tryz.sizeOf0
  v0 := Tryz.zeroValue0
  t3 := Tryz.underlying3
  a3 := Tryz.isAgg3
  z3 := Tryz.sizeOf3
  v3 := Tryz.zeroValue3
  t4 := Tryz.underlying4
  a4 := Tryz.isAgg4
  z4 := Tryz.sizeOf4
  v4 := Tryz.zeroValue4
  t5 := Tryz.underlying5
  a5 := Tryz.isAgg5
  z5 := Tryz.sizeOf5
  v5 := Tryz.zeroValue5
  t9 := Tryz.underlying9
  a9 := Tryz.isAgg9
  z9 := Tryz.sizeOf9
  v9 := Tryz.zeroValue9
  t22 := Tryz.underlying69
  a22 := Tryz.isAgg69
  z22 := Tryz.sizeOf69
  v22 := Tryz.zeroValue69
  t25 := Tryz.underlying224
  a25 := Tryz.isAgg224
  z25 := Tryz.sizeOf224
  v25 := Tryz.zeroValue224
  t39 := Tryz.underlying228
  a39 := Tryz.isAgg228
  z39 := Tryz.sizeOf228
  v39 := Tryz.zeroValue228
  t45 := Tryz.underlying257
  a45 := Tryz.isAgg257
  z45 := Tryz.sizeOf257
  v45 := Tryz.zeroValue257
  t46 := Tryz.underlying258
  a46 := Tryz.isAgg258
  z46 := Tryz.sizeOf258
  v46 := Tryz.zeroValue258
  t50 := Tryz.underlying58
  a50 := Tryz.isAgg58
  z50 := Tryz.sizeOf58
  v50 := Tryz.zeroValue58
  t53 := Tryz.underlying264
  a53 := Tryz.isAgg264
  z53 := Tryz.sizeOf264
  v53 := Tryz.zeroValue264
  t55 := Tryz.underlying199
  a55 := Tryz.isAgg199
  z55 := Tryz.sizeOf199
  v55 := Tryz.zeroValue199
  t66 := Tryz.underlying282
  a66 := Tryz.isAgg282
  z66 := Tryz.sizeOf282
  v66 := Tryz.zeroValue282
  t70 := Tryz.underlying286
  a70 := Tryz.isAgg286
  z70 := Tryz.sizeOf286
  v70 := Tryz.zeroValue286
  t76 := Tryz.underlying307
  a76 := Tryz.isAgg307
  z76 := Tryz.sizeOf307
  v76 := Tryz.zeroValue307
  t77 := Tryz.underlying209
  a77 := Tryz.isAgg209
  z77 := Tryz.sizeOf209
  v77 := Tryz.zeroValue209 }
def Tryz.lays125_ren : Go.Shelf.Ren := ⟨fun | 125 => 214 | 128 => 262 | 129 => 263 | n => n, fun | 46 => 228 | 3 => 3 | 51 => 264 | 53 => 199 | 4 => 4 | 5 => 5 | 9 => 9 | n => n, fun | n => n⟩
theorem Tryz.lays125 : Go.Proofs.Lays.n125 Tryz.prog Tryz.lays125_ren := {
  mixed := by kernel_rfl
  f125 := Tryz.func214.trans (congrArg some (by kernel_rfl))
  f128 := Tryz.func262.trans (congrArg some (by kernel_rfl))
  f129 := Tryz.func263.trans (congrArg some (by kernel_rfl))
  t3 := Tryz.underlying3
  a3 := Tryz.isAgg3
  z3 := Tryz.sizeOf3
  v3 := Tryz.zeroValue3
  t4 := Tryz.underlying4
  a4 := Tryz.isAgg4
  z4 := Tryz.sizeOf4
  v4 := Tryz.zeroValue4
  t5 := Tryz.underlying5
  a5 := Tryz.isAgg5
  z5 := Tryz.sizeOf5
  v5 := Tryz.zeroValue5
  t9 := Tryz.underlying9
  a9 := Tryz.isAgg9
  z9 := Tryz.sizeOf9
  v9 := Tryz.zeroValue9
  t46 := Tryz.underlying228
  a46 := Tryz.isAgg228
  z46 := Tryz.sizeOf228
  v46 := Tryz.zeroValue228
  t51 := Tryz.underlying264
  a51 := Tryz.isAgg264
  z51 := Tryz.sizeOf264
  v51 := Tryz.zeroValue264
  t53 := Tryz.underlying199
  a53 := Tryz.isAgg199
  z53 := Tryz.sizeOf199
  v53 := Tryz.zeroValue199 }
end Go.Proofs



/- CONTRACTS at this seat: slices.SortFunc at monomials (what sum.result sorts by). -/
namespace Go.Proofs.YtjfpcjnopbfekaaGreatDoor
open Go.RowKit Go.Ab Go.Sh Go.Proofs Go.Shelf Go.Sort
theorem Holds1.alloc {w : World} {p : Option Addr} {xs : List Str} (h : Holds1 w p xs) (o : Obj) : Holds1 (w.alloc o) p xs := fun k hk => by
  obtain ⟨b, of, e, hc⟩ := h k hk
  exact ⟨b, of, e, Lib.cell?_alloc_some _ hc⟩
set_option maxHeartbeats 1000000 in
theorem closure209 (ca cb : Value) (xs ys : List Str) (n1 n2 : Nat) (E : Aside (xs.length = n1 ∧ ys.length = n2)) (p1 p2 : Option Addr) (c1 c2 : Nat) (W : World) (h1 : Holds1 W p1 xs) (h2 : Holds1 W p2 ys) (b1 : n1 ≤ 9223372036854775807) (b2 : n2 ≤ 9223372036854775807) :
    Calls Tryz.prog 209 #[.agg #[ca, .slice p1 n1 c1], .agg #[cb, .slice p2 n2 c2]] W fun e w' => e = .returned (.int .i64 (cmpL xs ys)) ∧ ∃ q os', w' = grow (W.drewN q) os' := by
  have hcon := compare_l xs ys n1 n2 E p1 p2 c1 c2 ((W.alloc (.cells #[ca, .slice p1 n1 c1] 118)).alloc (.cells #[cb, .slice p2 n2 c2] 118)) ((h1.alloc _).alloc _) ((h2.alloc _).alloc _) b1 b2
  generalize cmpL xs ys = r at hcon ⊢
  clear h1 h2 E
  go_enter Tryz.func209, Tryz.ntmps209
  go_wp2_with (go_at_call 137; refine hcon.mono ?_; rintro e w' ⟨rfl, rfl⟩)
  go_ret
  exact ⟨rfl, 0, _, by rw [alloc_eq_grow, alloc_eq_grow, grow_grow]; rfl⟩
theorem D.texts {w : World} {X : Nat → Prop} {ks : List Str} {V : Value} (h : D w X (.dslice (ks.map strC)) V) : ∃ p cap, V = .slice p ks.length cap ∧ Holds1 w p ks ∧ ks.length ≤ 9223372036854775807 ∧ (∀ k, k < ks.length → (ks.getD k []).length ≤ maxLen) := by
  by_cases hx : ks = []
  · subst hx
    generalize hL : ([] : List Str).map strC = L at h
    cases h with
    | dnil a c hc => exact ⟨a, c, rfl, fun k hk => absurd hk (Nat.not_lt_zero _), Nat.zero_le _, fun k hk => absurd hk (Nat.not_lt_zero _)⟩
    | dslice _ b o c sz cv h1 h2 h3 => subst hL; exact ⟨_, _, rfl, fun k hk => absurd hk (Nat.not_lt_zero _), Nat.zero_le _, fun k hk => absurd hk (Nat.not_lt_zero _)⟩
  · have hne : 0 < ks.length := List.length_pos_iff.2 hx
    generalize hL : ks.map strC = L at h
    cases h with
    | dnil a c hc => simp at hL; exact absurd hL hx
    | dslice _ b o c sz cv q1 q2 q0 q3 q4 q5 q6 =>
      subst hL
      have hsz1 : sz = 1 := by
        have := q4 0 (by simpa using hne)
        rw [← this]
        obtain ⟨x, ys, rfl⟩ : ∃ x ys, ks = x :: ys := by
          cases ks with
          | nil => simp at hne
          | cons x ys => exact ⟨x, ys, rfl⟩
        rfl
      subst hsz1
      have hcell : ∀ j, j < ks.length → w.cell? ⟨b, o + j, none⟩ = some (.string ⟨(ks.getD j []).toArray⟩) ∧ (ks.getD j []).length ≤ maxLen := by
        intro j hj
        have a1 := q5 j 0 (by simpa using hj) (by omega)
        have a2 := q6 j 0 (by simpa using hj) (by omega)
        have e1 : (ks.map strC).getD j [] = strC (ks.getD j []) := by simp [List.getD_eq_getElem?_getD, List.getElem?_eq_getElem hj]
        rw [e1] at a2
        have a3 := (show D w X (.str (ks.getD j [])) (cv j 0) from a2).str_inv
        rw [show o + (j * 1 + 0) = o + j by omega, a3.1] at a1
        exact ⟨a1, a3.2⟩
      have hm : maxLen = 9223372036854775807 := by decide
      rw [List.length_map] at q1
      refine ⟨some ⟨b, o, none⟩, c, by rw [List.length_map], fun k hk => ⟨b, o, rfl, (hcell k hk).1⟩, by omega, fun k hk => (hcell k hk).2⟩
set_option maxHeartbeats 2000000 in
set_option maxRecDepth 100000 in
theorem sortFunc208 {β : Type} [Inhabited β] (enc : β → List Value) (hk : ∀ x, (enc x).length = 2) (h1 : ∀ x, ∀ v ∈ enc x, v.oneCell' = true) (cf : β → β → Int) (hO : SWO (ltOf cf)) (blk cap : Nat) (d : Array β) (w : World)
    (hcmp : CmpLays Tryz.prog 209 #[] enc 2 cf blk 0 d.size w) (hH : HoldsK enc 2 w blk 0 d) (hblk : blk < w.heap.size) (hsz : d.size < 4611686018427387904) :
    Calls Tryz.prog 208 #[.slice (some ⟨blk, 0, none⟩) d.size cap, .func (.func 209) #[] #[]] w fun e w' => e = .returned (.tuple #[]) ∧ ∃ d' n os, PermIn 0 d.size d d' ∧ SortedIn (ltOf cf) 0 d.size d' ∧ w' = sortWorldK enc 2 w blk 0 n d' os := by
  have aE : ∀ w, (isAgg 118).run Tryz.prog w = .ok true w := fun w => Go.Ab.run_isAgg (by kernel_rfl)
  have zE : ∀ w, (Go.sizeOf 118).run Tryz.prog w = .ok 2 w := fun w => Go.Ab.run_sizeOf (by kernel_rfl)
  have eg : ∀ args w, (callFunc 209 args).run Tryz.prog w = .ok (.enter 209 args) w := enters_of Tryz.func209 (by kernel_rfl) rfl
  have hlim : Lib.bitLen d.size < 4611686018427387904 := Nat.lt_of_le_of_lt (Lib.bitLen_le d.size 62 (by omega) (by omega)) (by omega)
  have hp := AnyQ.pdqsortCmpFunc_all Tryz.pdqF 2 aE zE enc cf 209 #[] hO blk 0 cap d w eg hcmp ⟨hk, h1, hH, hblk⟩ (d.size + 1) 0 d.size (Lib.bitLen d.size) d w (by omega) rfl (SWK.start hH) (Nat.zero_le _) (Nat.le_refl _) hsz hlim (Or.inl rfl)
  change Calls Tryz.prog 252 _ _ _ at hp
  have hl : Calls Tryz.prog 214 #[.int .u64 (d.size : Int)] w fun e w' => e = .returned (.int .i64 (Lib.bitLen d.size : Nat)) ∧ w' = w := by
    have h := Any.bits_Len Tryz.lays125 (d.size : Int) w (by omega) (by omega)
    rwa [Int.toNat_natCast] at h
  have wr : IntKind.u64.wrap (d.size : Int) = d.size := by simp [IntKind.wrap, IntKind.bits, IntKind.signed]; omega
  have hsrt := pdq_sorts (ltOf cf) hO d 0 d.size (Lib.bitLen d.size) true true (Nat.zero_le _) (Nat.le_refl _) (Or.inl rfl)
  generalize pdq (ltOf cf) d 0 d.size (Lib.bitLen d.size) true true = d' at hp hsrt
  clear hH hcmp hk h1
  go_enter Tryz.func208, Tryz.ntmps208
  go_wp2_with (first | (go_at_call 214; refine hl.mono ?_; rintro e w' ⟨rfl, rfl⟩) | (go_at_call 252; refine hp.mono ?_; rintro e w' ⟨rfl, n, os, rfl⟩))
  go_end0
  exact ⟨rfl, d', n, os, hsrt.1, hsrt.2, rfl⟩
set_option maxHeartbeats 2000000 in
theorem sortFunc208_none (p : Option Addr) (w : World) : Calls Tryz.prog 208 #[.slice p 0 0, .func (.func 209) #[] #[]] w fun e w' => e = .returned (.tuple #[]) ∧ w' = w := by
  have hp := fun lim W => AnyF.pdqsortCmpFunc_none Tryz.pdqF p 0 lim (.func (.func 209) #[] #[]) W
  change ∀ lim W, Calls Tryz.prog 252 _ _ _ at hp
  have hl : ∀ W, Calls Tryz.prog 214 #[.int .u64 0] W fun e w' => e = .returned (.int .i64 (Lib.bitLen 0 : Nat)) ∧ w' = W := fun W => Any.bits_Len Tryz.lays125 0 W (by omega) (by omega)
  go_enter Tryz.func208, Tryz.ntmps208
  go_wp2_with (first | (go_at_call 214; refine (hl _).mono ?_; rintro e w' ⟨rfl, rfl⟩) | (go_at_call 252; refine (hp _ _).mono ?_; rintro e w' ⟨rfl, rfl⟩))
  go_end0
  exact ⟨rfl, rfl⟩
def lib_SortM {α : Type} (key : α → List Str) (xs : List α) : Option (List α) := grd (xs.length < 4611686018427387904 ∧ (xs.map key).Nodup) <| some (sortF (fun x y => cmpL (key x) (key y)) xs)
theorem lib_SortM_c {α : Type} (c : α → List AV) (key : α → List Str) (co : α → Int) (hc : ∀ x, c x = [.int .i64 (co x), .dslice ((key x).map strC)]) (xs r : List α) (H : lib_SortM key xs = some r) :
    ACall Tryz.prog 208 [.rslice 1000, .fn 209 []] [(1000, .row 118 2 (xs.map c))] (fun v h => v = .tup [] ∧ h = [(1000, .row 118 2 (r.map c))]) := by
  unfold lib_SortM at H
  refine grd_e H fun hn H => ?_
  refine some_e H fun e => ?_
  subst e
  refine acall_SortF c (fun x => by rw [hc]; rfl) (fun x v hv => by rw [hc] at hv; simp only [List.mem_cons, List.not_mem_nil, or_false] at hv; rcases hv with rfl | rfl <;> rfl) (fun x y => cmpL (key x) (key y)) (swo_pull cmpL_swo key) 209
    (fun enc hk h1 cf hO blk cap d w => sortFunc208 enc hk h1 cf hO blk cap d w) sortFunc208_none (fun W X x y A B hA hB => ?_) xs hn.1 (fun i j hi hj h1 h2 => ?_)
  · have key2 : ∀ {z : α} {A : Array Value}, D W X (.agg (c z)) (.agg A) → ∃ p cap, A = #[.int .i64 (co z), .slice p (key z).length cap] ∧ Holds1 W p (key z) ∧ (key z).length ≤ 9223372036854775807 := by
      intro z A h
      rw [hc] at h
      generalize hL : [AV.int .i64 (co z), .dslice ((key z).map strC)] = L at h
      cases h with
      | agg cs vs hl hd =>
        subst hL
        have d0 := (hd 0 (by simp)).int_inv
        obtain ⟨p, cap, e1, e2, e3, _⟩ := D.texts (hd 1 (by simp))
        refine ⟨p, cap, ?_, e2, e3⟩
        have hs : A.size = 2 := by simpa using hl.symm
        refine Array.ext (by simp [hs]) fun i hi h2 => ?_
        match i, hi with
        | 0, _ => simpa [Array.getD_eq_getD_getElem?, hs] using d0
        | 1, _ => simpa [Array.getD_eq_getD_getElem?, hs] using e1
        | (n + 2), hi => omega
    obtain ⟨p1, c1, rfl, a1, a2⟩ := key2 hA
    obtain ⟨p2, c2, rfl, b1, b2⟩ := key2 hB
    exact closure209 _ _ (key x) (key y) _ _ ⟨rfl, rfl⟩ p1 p2 c1 c2 W a1 b1 a2 b2
  · have e := cmpL_total h1 h2
    have hnd := hn.2
    have hp := List.pairwise_iff_getElem.1 hnd
    rcases Nat.lt_trichotomy i j with h | h | h
    · exact absurd (by rw [List.getElem_map, List.getElem_map]; exact e) (hp i j (by simpa using hi) (by simpa using hj) h)
    · exact h
    · exact absurd (by rw [List.getElem_map, List.getElem_map]; exact e.symm) (hp j i (by simpa using hj) (by simpa using hi) h)
end Go.Proofs.YtjfpcjnopbfekaaGreatDoor



/- THE LIBRARY's CONTRACTS: slices.Sorted over slices.Values at []string (lines of the worked proofs of slices.Sorted over maps.Keys, turned to an iterator that reads a slice's cells). -/
namespace Go.Ab
open Go.RowKit Go.Sh Go.Proofs Go.Sort Go.Maps Go.Shelf
section
variable {P : Program} {ρ : Ren}
def SeqB {α : Type} (F : Fence) (n : Nat) (P : Program) (g : Nat) (lb : Array Value) (enc : α → Value) (zs : List α) (w : World) : Prop :=
  ∀ (l : Nat) (J : List α → World → Prop) (W : World), Below w.heap.size w W → (∀ pre W1, J pre W1 → Below w.heap.size w W1) →
    (∀ pre x W1, J pre W1 → pre.length < zs.length → YieldAt F (n - 1) P l #[enc x] W1 fun e W' => e = .returned (.bool true) ∧ J (pre ++ [x]) W' ∧ KeepsWalks W1 W') →
    J [] W → CallsIn F n P g (#[.func (.yield l) #[] #[]] ++ lb) W fun e W' => (∃ v, e = .returned v) ∧ J zs W'
set_option maxRecDepth 100000 in
set_option maxHeartbeats 2000000 in
theorem appendSeqB (L : SlLaysZ.n11 P ρ) (F : Fence) (n : Nat) (h11 : F.fn (ρ.f 11)) (hro : F.round = none) (hn : 2 ≤ n) (g : Nat) (lb : Array Value) (hFg : F.fn g) (eg : ∀ args w, (callFunc g args).run P w = .ok (.enter g args) w)
    (zs : List (List UInt8)) (hN : zs.length ≤ maxLen) (hNb : zs.length * 16 ≤ 140737488355328) (w : World) (hseq : SeqB F (n - 1) P g lb encStr zs w) :
    CallsIn F n P (ρ.f 11) #[.slice none 0 0, .func (.func g) #[] lb] w fun e w' => ∃ v : Value, e = .returned v ∧ w'.ownsRow w.heap.size (ρ.t 26) 1 v zs.length (zs.map encStr) ∧ Below w.heap.size w w' := by
  have h1 : 1 ≤ n := by omega
  have mixed := L.mixed; have t0 := L.t0; have a0 := L.a0; have z0 := L.z0; have v0 := L.v0; have t24 := L.t24; have a24 := L.a24; have z24 := L.z24; have v24 := L.v24; have t26 := L.t26; have a26 := L.a26; have z26 := L.z26; have v26 := L.v26; have t28 := L.t28; have a28 := L.a28; have z28 := L.z28; have v28 := L.v28
  have hne : ρ.t 24 ≠ ρ.t 26 := fun e => by have h := L.t24; rw [e, L.t26] at h; cases h
  have u0 := run_underlying L.t0; have u24 := run_underlying L.t24; have u26 := run_underlying L.t26; have u28 := run_underlying L.t28
  obtain ⟨_, _, FG⟩ := L.f11
  refine callsIn_of_wp_marks FG rfl h11 ?_ hro
  simp only [SlBodyZ.n11_ntmps ρ, List.size_toArray, List.length_cons, List.length_nil, Nat.reduceAdd, Nat.reduceSub, Array.replicate_succ, Array.replicate_zero, List.push_toArray, List.append_toArray, List.nil_append, List.cons_append]
  gi_wp2
  refine wpIn_rangeFunc ?_
  intro fn hfn
  rw [hro]
  obtain ⟨W0, hW0⟩ : ∃ W0, w.alloc (.cells #[.slice none 0 0] (ρ.t 24)) = W0 := ⟨_, rfl⟩
  have hs0 : W0.heap.size = w.heap.size + 1 := by rw [← hW0]; simp
  have hv0 : W0.heap[w.heap.size]? = some (.cells #[.slice none 0 0] (ρ.t 24) (0, 0)) := by rw [← hW0]; exact World.alloc_heap_new w _
  have hb0 : Below w.heap.size w W0 := by rw [← hW0]; exact (Below.refl _ w).alloc (Nat.le_refl _) _
  rw [hW0]
  obtain ⟨W1, hW1⟩ : ∃ W1, (W0.alloc (.deferred (some []))).alloc (.loop (AnyZ.apRec ρ fn (.func (.func g) #[] lb) w.heap.size W0.heap.size .ready none)) = W1 := ⟨_, rfl⟩
  have hold : ∀ k, k < W0.heap.size → W1.heap[k]? = W0.heap[k]? := fun k hk => by
    rw [← hW1]; exact (Below.heap_alloc _ _ k (by simp; omega)).trans (Below.heap_alloc _ _ k hk)
  have hb1 : Below w.heap.size w W1 := by rw [← hW1]; exact (hb0.alloc hb0.size _).alloc (by have := hb0.size; simp; omega) _
  have hs1 : W1.heap.size = W0.heap.size + 2 := by rw [← hW1]; simp
  have hM : AnyZ.ApAt ρ w fn (.func (.func g) #[] lb) w.heap.size (W0.heap.size + 1) W0.heap.size [] W1 :=
    ⟨⟨_, (hold w.heap.size (by omega)).trans hv0, ⟨rfl, .inl ⟨rfl, rfl⟩⟩, by simp⟩,
     by rw [← hW1]; have := World.alloc_heap_new (W0.alloc (.deferred (some []))) (.loop (AnyZ.apRec ρ fn (.func (.func g) #[] lb) w.heap.size W0.heap.size .ready none)); rwa [World.size_alloc] at this,
     by rw [← hW1]; exact (Below.heap_alloc _ _ _ (by simp)).trans (World.alloc_heap_new W0 _), hb1⟩
  refine ⟨W0.heap.size + 1, [{ target := .collected W0.heap.size, args := #[] }], W1, { target := .fn (.func g) lb, args := #[.func (.yield (W0.heap.size + 1)) #[] #[]] }, W1, g,
    #[.func (.yield (W0.heap.size + 1)) #[] #[]] ++ lb, W1, ?_, ?_, ?_, ?_, fun _ => h1, ?_⟩
  · rw [← hW1]; exact run_enterLoop_outer _ _ _ _ _
  · simp [resolve, go_sem]
  · intro f' hf'; simp [Target.leads] at hf'; subst hf'; exact hFg
  · simp [invoke, go_sem, eg]
  · refine (hseq (W0.heap.size + 1) (AnyZ.ApAt ρ w fn (.func (.func g) #[] lb) w.heap.size (W0.heap.size + 1) W0.heap.size) W1 hb1 (fun _ _ h => h.below)
      (fun pre x W hJ hl => AnyZ.apYield { L with } F (n - 1 - 1) w fn hfn _ w.heap.size (W0.heap.size + 1) W0.heap.size (by omega) (by omega) (by omega) (Nat.le_refl _) (by omega) zs.length hN hNb pre x W hJ hl) hM).mono ?_
    rintro e W2 ⟨⟨v0, rfl⟩, h2⟩
    obtain ⟨v, hv, hrow, _⟩ := h2.box
    have hend := run_endLoop (P := P) h2.L (by simp [AnyZ.apRec])
    obtain ⟨W3, hW3⟩ : ∃ W3, W2.putObj (W0.heap.size + 1) (.loop { AnyZ.apRec ρ fn (.func (.func g) #[] lb) w.heap.size W0.heap.size .ready none with state := .exhausted }) = W3 := ⟨_, rfl⟩
    rw [hW3] at hend
    have hg3 : W2.grownBy W3 (some (W0.heap.size + 1)) := by rw [← hW3]; exact grownBy_putObj_a _ _ _
    have hv3 : W3.heap[w.heap.size]? = some (.cells #[v] (ρ.t 24) (0, 0)) := by rw [← hW3]; exact (World.putObj_heap_other (by omega)).trans hv
    have hK3 : W3.heap[W0.heap.size]? = some (.deferred (some [])) := by rw [← hW3]; exact (World.putObj_heap_other (by omega)).trans h2.K
    have hrow3 := hrow.kept hg3 (ownsRow_ne_a hrow h2.L (fun cur e => by first | cases e | exact hne (Obj.cells.inj e).2.1))
    have hb3 : Below w.heap.size w W3 := h2.below.grown hg3 h2.below.size (fun k e => by cases e; omega)
    obtain ⟨hc3, hf3⟩ := cell_of_box_a hv3
    clear hW3
    refine ⟨none, W3, hend, ?_⟩
    gi_wp2
    rw [← hs0]
    refine ⟨by simp, .inl ⟨_, _, rfl, run_takeDeferred hK3, ?_⟩⟩
    exact ⟨_, results_tmp rfl _ _ _, v, rfl, hrow3.kept (grownBy_putObj_a _ _ _) (ownsRow_ne_a hrow3 hK3 (fun cur e => by first | cases e | exact hne (Obj.cells.inj e).2.1)), hb3.grown (grownBy_putObj_a _ _ _) hb3.size (fun k e => by cases e; omega)⟩
set_option maxRecDepth 100000 in
set_option maxHeartbeats 2000000 in
theorem collectB (L : SlLaysZ.n8 P ρ) (F : Fence) (n : Nat) (h8 : F.fn (ρ.f 8)) (h11 : F.fn (ρ.f 11)) (hro : F.round = none) (hn : 3 ≤ n) (g : Nat) (lb : Array Value) (hFg : F.fn g) (eg : ∀ args w, (callFunc g args).run P w = .ok (.enter g args) w)
    (zs : List (List UInt8)) (hN : zs.length ≤ maxLen) (hNb : zs.length * 16 ≤ 140737488355328) (w : World) (hseq : SeqB F (n - 1 - 1) P g lb encStr zs w) :
    CallsIn F n P (ρ.f 8) #[.func (.func g) #[] lb] w fun e w' => ∃ v : Value, e = .returned v ∧ w'.ownsRow w.heap.size (ρ.t 26) 1 v zs.length (zs.map encStr) ∧ Below w.heap.size w w' := by
  have h1 : 1 ≤ n := by omega
  have e11 : ∀ args w, (callFunc (ρ.f 11) args).run P w = .ok (.enter (ρ.f 11) args) w := L.f11.enters rfl
  have mixed := L.mixed; have t0 := L.t0; have a0 := L.a0; have z0 := L.z0; have v0 := L.v0; have t24 := L.t24; have a24 := L.a24; have z24 := L.z24; have v24 := L.v24; have t26 := L.t26; have a26 := L.a26; have z26 := L.z26; have v26 := L.v26; have t28 := L.t28; have a28 := L.a28; have z28 := L.z28; have v28 := L.v28
  have u0 := run_underlying L.t0; have u24 := run_underlying L.t24; have u26 := run_underlying L.t26; have u28 := run_underlying L.t28
  obtain ⟨_, _, FG⟩ := L.f8
  refine callsIn_of_wp FG rfl h8 ?_ hro
  simp only [SlBodyZ.n8_ntmps ρ, List.size_toArray, List.length_cons, List.length_nil, Nat.reduceAdd, Nat.reduceSub, Array.replicate_succ, Array.replicate_zero, List.push_toArray, List.append_toArray, List.nil_append, List.cons_append]
  gi_wp2_with (gi_at_fn (ρ.f 11); refine (appendSeqB { L with } F (n - 1) h11 hro (by omega) g lb hFg eg zs hN hNb _ hseq).mono ?_; rintro e w' ⟨v, rfl, hrow, hb⟩)
  go_ret
  exact ⟨v, rfl, hrow, hb⟩
set_option maxRecDepth 100000 in
set_option maxHeartbeats 2000000 in
theorem sortedB (L : SlLaysZ.n6 P ρ) (F : Fence) (n : Nat) (h6 : F.fn (ρ.f 6)) (h8 : F.fn (ρ.f 8)) (h9 : F.fn (ρ.f 9)) (h11 : F.fn (ρ.f 11)) (hro : F.round = none) (hn : 4 ≤ n) (hsort : AnyZ.SortsIn P ρ F (n - 1)) (e9 : ∀ args w, (callFunc (ρ.f 9) args).run P w = .ok (.enter (ρ.f 9) args) w) (g : Nat) (lb : Array Value) (hFg : F.fn g) (eg : ∀ args w, (callFunc g args).run P w = .ok (.enter g args) w)
    (zs : List (List UInt8)) (hN : zs.length ≤ maxLen) (hNb : zs.length * 16 ≤ 140737488355328) (w : World) (hseq : SeqB F (n - 1 - 1 - 1) P g lb encStr zs w) :
    CallsIn F n P (ρ.f 6) #[.func (.func g) #[] lb] w fun e w' => ∃ v : Value, e = .returned v ∧
      w'.ownsRow w.heap.size (ρ.t 26) 1 v zs.length ((zs.mergeSort (fun x y => decide (x ≤ y))).map encStr) ∧ Below w.heap.size w w' := by
  have h1 : 1 ≤ n := by omega
  have e8 : ∀ args w, (callFunc (ρ.f 8) args).run P w = .ok (.enter (ρ.f 8) args) w := L.f8.enters rfl
  have mixed := L.mixed; have t0 := L.t0; have a0 := L.a0; have z0 := L.z0; have v0 := L.v0; have t24 := L.t24; have a24 := L.a24; have z24 := L.z24; have v24 := L.v24; have t26 := L.t26; have a26 := L.a26; have z26 := L.z26; have v26 := L.v26; have t28 := L.t28; have a28 := L.a28; have z28 := L.z28; have v28 := L.v28
  have u0 := run_underlying L.t0; have u24 := run_underlying L.t24; have u26 := run_underlying L.t26; have u28 := run_underlying L.t28
  obtain ⟨_, _, FG⟩ := L.f6
  refine callsIn_of_wp FG rfl h6 ?_ hro
  simp only [SlBodyZ.n6_ntmps ρ, List.size_toArray, List.length_cons, List.length_nil, Nat.reduceAdd, Nat.reduceSub, Array.replicate_succ, Array.replicate_zero, List.push_toArray, List.append_toArray, List.nil_append, List.cons_append]
  gi_wp2_with (gi_at_fn (ρ.f 8); refine (collectB { L with } F (n - 1) h8 h11 hro (by omega) g lb hFg eg zs hN hNb _ hseq).mono ?_; rintro e W ⟨v, rfl, hrow, hb⟩)
  rcases hrow.2 with ⟨rfl, hz⟩ | ⟨gb, cap, cur, rfl, hbase, hgb, r1, r2, r3, r4⟩
  · have hss : zs = [] := List.eq_nil_of_length_eq_zero hz
    subst hss
    gi_wp2_with (gi_at_fn (ρ.f 9); refine (hsort.2 none 0 W).mono ?_; rintro e w' ⟨rfl, rfl⟩)
    go_ret
    exact ⟨.slice none 0 0, rfl, by simpa using hrow, hb⟩
  · have hH : Holds encStr W gb 0 zs.toArray := holds_of_block hgb (by simpa using r4)
    have hgl : gb < W.heap.size := (Array.getElem?_eq_some_iff.1 hgb).1
    have hsz : zs.length < 4611686018427387904 := by omega
    have cS := hsort.1 gb 0 cap zs W hH hgl hsz
    gi_wp2_with (gi_at_fn (ρ.f 9); refine cS.mono ?_; rintro e w' ⟨rfl, nn, os, rfl⟩)
    go_ret
    exact ⟨_, rfl, ownsRow_sorted (by simp) hbase hgb r1 r2 r3, hb.grown (grownBy_sorted _) hb.size (fun j hj => by cases hj; exact hbase)⟩
end
end Go.Ab



/- CONTRACTS at this seat: slices.Values and slices.Sorted at texts. -/
namespace Go.Proofs.YtjfpcjnopbfekaaGreatDoor
open Go.RowKit Go.Ab Go.Sh Go.Proofs Go.Shelf Go.Sort
theorem take_snoc (zs : List Str) (k : Nat) (h : k < zs.length) : zs.take k ++ [zs.getD k []] = zs.take (k + 1) := by
  rw [List.take_add_one, List.getD_eq_getElem?_getD, List.getElem?_eq_getElem h]; rfl
set_option maxRecDepth 100000 in
set_option maxHeartbeats 2000000 in
theorem values1 (F : Fence) (n : Nat) (hF : F.fn 251) (hro : F.round = none) (hn : 1 ≤ n) (l Bs oo : Nat) (p : Option Addr) (m cap : Nat) (zs : List Str) (E : Aside (zs.length = m)) (hm : m ≤ 9223372036854775807) (w : World) (hz : Aside (Holds1 w p zs)) (J : List Str → World → Prop)
    (hJ : ∀ pre W1, J pre W1 → Below w.heap.size w W1)
    (hY : Aside (∀ pre x W1, J pre W1 → pre.length < zs.length → YieldAt F (n - 1) Tryz.prog l #[encStr x] W1 fun e W' => e = .returned (.bool true) ∧ J (pre ++ [x]) W' ∧ KeepsWalks W1 W'))
    (W : World) (hBs : W.cell? ⟨Bs, oo, none⟩ = some (.slice p m cap)) (h0 : J [] W) :
    CallsIn F n Tryz.prog 251 #[.func (.yield l) #[] #[], .pointer (some ⟨Bs, oo, none⟩)] W fun e W' => (∃ v, e = .returned v) ∧ J zs W' := by
  refine callsIn_of_wp Tryz.func251 rfl hF ?_ hro
  simp only [Tryz.ntmps251, List.size_toArray, List.length_cons, List.length_nil, Nat.reduceAdd, Nat.reduceSub, Array.replicate_succ, Array.replicate_zero, List.push_toArray, List.append_toArray, List.nil_append, List.cons_append]
  gi_wp2
  gi_loopw [7] (fun i wr => ∃ k : Nat, k ≤ m ∧ i = .int .i64 k ∧ J (zs.take k) wr) (fun i _ => m - (intOf i).toNat)
  case atStart => exact ⟨0, Nat.zero_le _, rfl, h0⟩
  case round =>
    obtain ⟨k, hk, rfl, hJs⟩ := hrel
    by_cases hlt : k < m
    · have hlz : k < zs.length := by have := E.out; omega
      obtain ⟨b, o, rfl, hc⟩ := hz.out k hlz
      have hB := hJ _ _ hJs
      have hcx : wr.cell? ⟨b, o + k, none⟩ = some (encStr (zs.getD k [])) := (hB.cell (p := ⟨b, o + k, none⟩) (World.block_lt_of_cell? w _ hc)).trans hc
      have hsn := take_snoc zs k hlz
      obtain ⟨fn, tmps, assign, body, hy, hR⟩ := hY.out (zs.take k) (zs.getD k []) wr hJs (by rw [List.length_take]; omega)
      rw [hsn] at hR
      clear hc hB hsn
      generalize encStr (zs.getD k []) = bx at hcx hy hR
      gi_wp2
      refine hR.mono ?_
      rintro e W3 ⟨rfl, hJ3, _⟩
      gi_wp2
      go_roundw
      case rel => exact ⟨k + 1, by omega, by simp, hJ3⟩
      case measure => simp [intOf]; omega
    · obtain rfl : k = m := by omega
      have hall : zs.take k = zs := by rw [List.take_of_length_le (by have := E.out; omega)]
      rw [hall] at hJs
      gi_wp2
      go_end0
      exact ⟨⟨_, rfl⟩, hJs⟩
theorem sortsZ (m : Nat) : AnyZ.SortsIn Tryz.prog Tryz.sortedZ_ren Fence.wide m :=
  ⟨fun blk off cap ss W hH hblk hsz => callsIn_wide.2 (Any.slices_Sort_string Tryz.lays190 blk off cap ss W hH hblk hsz),
   fun p cap W => callsIn_wide.2 (Any.slices_Sort_string_none Tryz.lays190 p cap W)⟩
theorem sorted205 (Bs oo : Nat) (p : Option Addr) (cap : Nat) (zs : List Str) (hm : zs.length ≤ 9223372036854775807) (hNb : zs.length * 16 ≤ 140737488355328) (w : World) (hz : Holds1 w p zs) (hBs : w.cell? ⟨Bs, oo, none⟩ = some (.slice p zs.length cap)) :
    Calls Tryz.prog 205 #[.func (.func 251) #[] #[.pointer (some ⟨Bs, oo, none⟩)]] w fun e w' => ∃ v : Value, e = .returned v ∧ w'.ownsRow w.heap.size 9 1 v zs.length ((sortS zs).map encStr) ∧ Below w.heap.size w w' := by
  refine (callsIn_wide (n := 5)).1 ?_
  have hseq : SeqB Fence.wide (5 - 1 - 1 - 1) Tryz.prog 251 #[.pointer (some ⟨Bs, oo, none⟩)] encStr zs w := fun l J W hW hJ hY h0 =>
    values1 Fence.wide _ trivial rfl (by omega) l Bs oo p zs.length cap zs rfl hm w hz J hJ hY W ((hW.cell (p := ⟨Bs, oo, none⟩) (World.block_lt_of_cell? w _ hBs)).trans hBs) h0
  exact sortedB Tryz.sortedZ Fence.wide 5 trivial trivial trivial trivial rfl (by omega) (sortsZ _) (enters_of Tryz.func138 (by kernel_rfl) rfl) 251 #[.pointer (some ⟨Bs, oo, none⟩)] trivial (enters_of Tryz.func251 (by kernel_rfl) rfl) zs (by unfold maxLen; omega) hNb w hseq
theorem values206 (a : Option Addr) (len cap : Nat) (w : World) : Calls Tryz.prog 206 #[.slice a len cap] w fun e w' => e = .returned (.func (.func 251) #[] #[.pointer (some ⟨w.heap.size, 0, none⟩)]) ∧ w' = w.alloc (.cells #[.slice a len cap] 90) := by
  go_enter Tryz.func206, Tryz.ntmps206
  go_wp2
  go_ret
  exact ⟨rfl, rfl⟩
def lib_ValuesS (xs : List Str) : Option (List Str) := some xs
def lib_SortedS (xs : List Str) : Option (List Str) := grd (xs.length * 16 ≤ 140737488355328) <| some (sortS xs)
theorem lib_ValuesS_c (xs r : List Str) (H : lib_ValuesS xs = some r) : AFn Tryz.prog 206 [.dslice (xs.map strC)] (.fn 251 [.dptr [.dslice (r.map strC)]]) := by
  unfold lib_ValuesS at H
  refine some_e H fun e => ?_
  subst e
  refine afn_of rfl fun w X vs hl hX hd _ => ?_
  have h0 : D w X (.dslice (xs.map strC)) (vs.getD 0 undef) := hd 0 (by simp)
  obtain ⟨p, cap, e1, _, _, _⟩ := D.texts h0
  rw [vs1 (vs := vs) (by simpa using hl)]
  rw [e1] at h0 ⊢
  refine (values206 p xs.length cap w).mono fun e w' ⟨e2, e3⟩ => ?_
  subst e3
  have hX2 : ¬ X w.heap.size := fun h => Nat.lt_irrefl _ (hX _ h)
  refine ⟨_, e2, (Below.refl _ w).alloc (Nat.le_refl _) _, .fn _ _ _ rfl fun i hi => ?_⟩
  have ei : i = 0 := by simp only [List.length_cons, List.length_nil] at hi; omega
  subst ei
  refine .dptr [.dslice (xs.map strC)] w.heap.size 0 (fun _ => .slice p xs.length cap) (by simp) hX2 (fun j hj => ?_) (fun j hj => ?_)
  · have ej : j = 0 := by simp only [List.length_cons, List.length_nil] at hj; omega
    subst ej
    rw [cell_of_cells (heap_new w _) (by simp)]; rfl
  · have ej : j = 0 := by simp only [List.length_cons, List.length_nil] at hj; omega
    subst ej
    exact h0.mono (fun b _ hb => heap_old w _ hb) (fun b hb _ => hb)
theorem lib_SortedS_c (xs r : List Str) (H : lib_SortedS xs = some r) : AFn Tryz.prog 205 [.fn 251 [.dptr [.dslice (xs.map strC)]]] (.dslice (r.map strC)) := by
  unfold lib_SortedS at H
  refine grd_e H fun hn H => ?_
  refine some_e H fun e => ?_
  subst e
  refine afn_of rfl fun w X vs hl hX hd _ => ?_
  have h0 : D w X (.fn 251 [.dptr [.dslice (xs.map strC)]]) (vs.getD 0 undef) := hd 0 (by simp)
  rw [vs1 (vs := vs) (by simpa using hl)]
  generalize vs.getD 0 undef = V at h0
  generalize hL : [AV.dptr [.dslice (xs.map strC)]] = L at h0
  cases h0 with
  | fn _ _ us hu hus =>
    subst hL
    have h1 : D w X (.dptr [.dslice (xs.map strC)]) (us.getD 0 undef) := hus 0 (by simp)
    have eu : us = #[us.getD 0 undef] := by
      have hs : us.size = 1 := by simpa using hu.symm
      refine Array.ext (by simp [hs]) fun i hi h2 => ?_
      have ei : i = 0 := by omega
      subst ei
      simp [Array.getD_eq_getD_getElem?, hs]
    rw [eu]
    generalize us.getD 0 undef = U at h1
    generalize hL : [AV.dslice (xs.map strC)] = L at h1
    cases h1 with
    | dptr _ b o cv g0 g1 g2 g3 =>
      subst hL
      have hc := g2 0 (by simp)
      have h2 : D w X (.dslice (xs.map strC)) (cv 0) := g3 0 (by simp)
      obtain ⟨p, cap, e1, e2, e3, e4⟩ := D.texts h2
      rw [e1, Nat.add_zero] at hc
      refine (sorted205 b o p cap xs e3 hn w e2 hc).mono fun e w' ⟨v, q1, q2, q3⟩ => ⟨v, q1, q3, ?_⟩
      have hlen : (sortS xs).length = xs.length := List.length_mergeSort ..
      rcases q2.2 with ⟨rfl, hz⟩ | ⟨gb, cap2, cur, rfl, hbase, hgb, r1, r2, r3, r4⟩
      · have hx : xs = [] := List.eq_nil_of_length_eq_zero hz
        subst hx
        have es : sortS [] = [] := by simp [sortS]
        rw [es]
        exact .dnil _ _ (Nat.zero_le _)
      · have hcur : ∀ i (hi : i < (sortS xs).length), cur.getD i undef = encStr (sortS xs)[i] := fun i hi => by
          have h5 : cur.toList.take (xs.length * 1) = (sortS xs).map encStr := r4
          have h6 : (cur.toList.take (xs.length * 1))[i]? = ((sortS xs).map encStr)[i]? := by rw [h5]
          rw [List.getElem?_take, if_pos (by omega)] at h6
          rw [Array.getD_eq_getD_getElem?, ← Array.getElem?_toList, h6]
          simp [hi]
        have hD := D.dslice (w := w') (X := X) ((sortS xs).map strC) gb 0 cap2 1 (fun i _ => cur.getD i undef) (by simpa [hlen] using r1) (by exact r2) (by omega) (fun h => by have := hX _ h; omega) (fun i hi => ?_) (fun i j hi hj => ?_) (fun i j hi hj => ?_)
        · simpa [hlen] using hD
        · rw [map_getD_at (d := ([] : Str)) (by simpa using hi)]; rfl
        · have hi : i < (sortS xs).length := by simpa using hi
          have ej : j = 0 := by omega
          subst ej
          rw [Nat.zero_add, Nat.mul_one, Nat.add_zero]
          exact cell_of_cells hgb (by rw [r3]; omega)
        · have hi : i < (sortS xs).length := by simpa using hi
          have ej : j = 0 := by omega
          subst ej
          rw [map_getD_at (d := ([] : Str)) hi, hcur i hi]
          have e5 : (strC ((sortS xs).getD i [])).getD 0 .any = .str (sortS xs)[i] := by
            show AV.str ((sortS xs).getD i []) = _
            rw [List.getD_eq_getElem?_getD, List.getElem?_eq_getElem hi]; rfl
          rw [e5]
          refine .str _ ?_
          have hm : (sortS xs)[i] ∈ xs := (List.mem_mergeSort (le := fun x y => decide (x ≤ y))).1 (List.getElem_mem hi)
          obtain ⟨j, hj, e6⟩ := List.getElem_of_mem hm
          have := e4 j hj
          rw [List.getD_eq_getElem?_getD, List.getElem?_eq_getElem hj] at this
          rw [← e6]; exact this
end Go.Proofs.YtjfpcjnopbfekaaGreatDoor



/- MAPS OF ROWS, AS LISTS. -/
namespace Go.Ab
open Go.RowKit Go.Sh
def rcm {V : Type} (c : V → List AV) (m : List (Str × List V)) : REs := m.map fun p => (p.1, some (p.2.map c))
theorem rcm_ok {V : Type} (c : V → List AV) (y : Str) : ∀ m : List (Str × List V), rok y (rcm c m) = true
  | [] => rfl
  | (k, r) :: m => by
    show (if k = y then (some (r.map c)).isSome else rok y (rcm c m)) = true
    split
    · rfl
    · exact rcm_ok c y m
theorem rcm_get {V : Type} (c : V → List AV) (y : Str) : ∀ m : List (Str × List V), rget y (rcm c m) = (mget [] y m).map c
  | [] => rfl
  | (k, r) :: m => by
    show (if k = y then (some (r.map c)).getD [] else rget y (rcm c m)) = (if k = y then r else mget [] y m).map c
    split
    · rfl
    · exact rcm_get c y m
theorem rcm_put {V : Type} (c : V → List AV) (y : Str) (v : List V) : ∀ m : List (Str × List V), rput y (v.map c) (rcm c m) = rcm c (mput y v m)
  | [] => rfl
  | (k, r) :: m => by
    show (if k = y then (y, some (v.map c)) :: rcm c m else (k, some (r.map c)) :: rput y (v.map c) (rcm c m)) = rcm c (if k = y then (y, v) :: m else (k, r) :: mput y v m)
    split
    · rfl
    · rw [rcm_put c y v m]; rfl
theorem rput_hole (y : Str) (v : List (List AV)) : ∀ es : REs, rput y v (rhole y es) = rput y v es
  | [] => rfl
  | (k, r) :: es => by
    unfold rhole
    by_cases h : k = y
    · rw [if_pos h]; simp [rput, h]
    · rw [if_neg h]; simp only [rput, if_neg h]; rw [rput_hole y v es]
theorem rcm_puth {V : Type} (c : V → List AV) (y : Str) (v : List V) (m : List (Str × List V)) : rput y (v.map c) (rhole y (rcm c m)) = rcm c (mput y v m) := by
  rw [rput_hole, rcm_put]
theorem rcm_pute {V : Type} (c : V → List AV) (y : Str) (v : List V) (m : List (Str × List V)) : rput y (v.map c) (rent y (rhole y (rcm c m))) = rcm c (mput y v m) := by
  rw [rent_put, rput_hole, rcm_put]
theorem rcm_length {V : Type} (c : V → List AV) (m : List (Str × List V)) : (rcm c m).length = m.length := List.length_map ..
theorem rcm_lenh {V : Type} (c : V → List AV) (y : Str) (m : List (Str × List V)) (h : m.length + 1 < 1000000) : (rhole y (rcm c m)).length < 1000000 := by rw [rhole_len, rcm_length]; omega
theorem rcm_lene {V : Type} (c : V → List AV) (y : Str) (m : List (Str × List V)) (h : m.length + 1 < 1000000) : (rent y (rhole y (rcm c m))).length < 1000000 := by
  have h1 := rent_len y (rhole y (rcm c m))
  rw [rhole_len, rcm_length] at h1; omega
theorem rcm_all {V : Type} (c : V → List AV) (m : List (Str × List V)) : ((rcm c m).all fun p => p.2.isSome) = true := by
  rw [List.all_eq_true]
  intro p hp
  obtain ⟨x, _, rfl⟩ := List.mem_map.1 hp
  rfl
theorem rdm_rcm {V : Type} (c : V → List AV) (m : List (Str × List V)) : rdm (rcm c m) = m.map (mapV fun x => [AV.dslice (x.map c)]) := by
  show (m.map _).map _ = _
  rw [List.map_map]; rfl
theorem ACall.es {P : Program} {f : FuncId} {args : List AV} {h0 : List (Nat × AO)} {Q : AV → List (Nat × AO) → Prop} (i : Nat) (h : ACall P f (args.set i (.dslice [])) h0 Q) (hi : args.getD i .any = .eslice) : ACall P f args h0 Q :=
  fun c vs hl hr hg => h c vs (by simpa using hl) hr fun j hj => by
    have hj' : j < args.length := by simpa using hj
    by_cases e : j = i
    · subst e
      have h1 := hg j hj'
      rw [hi] at h1
      obtain ⟨ad, e1⟩ := h1.eslice_inv
      rw [e1]
      have h2 : (args.set j (.dslice [])).getD j .any = .dslice [] := by simp [List.getD_eq_getElem?_getD, hj']
      rw [h2]
      exact .d (.dnil _ _ (Nat.zero_le _))
    · have h2 : (args.set i (.dslice [])).getD j .any = args.getD j .any := by
        simp [List.getD_eq_getElem?_getD, List.getElem?_set, Ne.symm e]
      rw [h2]
      exact hg j hj'
end Go.Ab


