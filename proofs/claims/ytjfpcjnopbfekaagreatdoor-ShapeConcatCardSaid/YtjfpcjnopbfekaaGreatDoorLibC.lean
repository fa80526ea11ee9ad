/- The contract of slices.Concat at this dump. -/
import Derived.Test.YtjfpcjnopbfekaaGreatDoorLibT
import Derived.Test.YtjfpcjnopbfekaaGreatDoorAbQ
import Derived.KernelRfl
set_option linter.unusedSimpArgs false
set_option linter.unusedVariables false
namespace Go.Proofs.YtjfpcjnopbfekaaGreatDoor
open Go.RowKit Go.Ab Go.Sh Go.Proofs
/-- slices.Concat: the lists one behind the other. -/
def lib_ConcatL {α : Type} (ls : List (List α)) : Option (List α) := grd (ls.flatten.length * 32 ≤ 140737488355328 ∧ ls.length ≤ 1000000) <| some ls.flatten
section
variable {α : Type} (c : α → List AV) (ls : List (List α))
def catL_arg : AV := .dslice (ls.map (catC c))
def catL_S1 (t i : Nat) : AS := ⟨36, [(0, catL_arg c ls), (2, .eslice), (3, .int .i64 ((t : Nat) : Int)), (9, catL_arg c ls), (10, .int .i64 ((ls.length : Nat) : Int)), (11, .int .i64 ((i : Nat) : Int))], []⟩
def catL_E1 (t : Nat) : AS := ⟨36, [(0, catL_arg c ls), (2, .eslice), (3, .int .i64 ((t : Nat) : Int))], []⟩
def catL_R (a : List α) (i : Nat) : AS := ⟨36, [(2, .eslice), (6, .rslice 33), (25, catL_arg c ls), (26, .int .i64 ((ls.length : Nat) : Int)), (27, .int .i64 ((i : Nat) : Int))], [(33, .row 39 2 (a.map c))]⟩
def catL_G (i : Nat) : AS := ⟨36, [(2, .eslice), (6, .gslice 24), (25, catL_arg c ls), (26, .int .i64 ((ls.length : Nat) : Int)), (27, .int .i64 ((i : Nat) : Int))], [(24, .room 39 2)]⟩
def catL_S2 (a : List α) (i : Nat) : AS := match a with
  | [] => catL_G c ls i
  | x :: xs => catL_R c ls (x :: xs) i
def catL_E2 (a : List α) : AS := ⟨36, [(2, .eslice), (6, .rslice 33)], [(33, .row 39 2 (a.map c))]⟩
theorem lib_ConcatL_c (hc : ∀ x, (c x).length = 2 ∧ (c x).all (fun v => v.one && v.fl) = true) (r : List α) (H : lib_ConcatL ls = some r) : AFn Tryz.prog 109 [catL_arg c ls] (.dslice (r.map c)) := by
  unfold lib_ConcatL at H
  refine grd_e H fun hn H => ?_
  obtain ⟨hb, hN⟩ := hn
  refine some_e H fun e => ?_
  subst e
  have hle : ∀ i, (ls.take i).flatten.length ≤ ls.flatten.length := flat_le ls
  have hstep : ∀ i, i < ls.length → (ls.take (i + 1)).flatten = (ls.take i).flatten ++ ls.getD i [] := flat_step ls
  have hall : (ls.take ls.length).flatten = ls.flatten := by rw [List.take_length]
  have hix : ∀ i, i < ls.length → All [((0 : Int) ≤ (i : Int) ∧ (i : Int) < ((ls.map (catC c)).length : Int)) ∧ (((ls.map (catC c)).getD (i : Int).toNat []).length = 1 ∧ 0 < 1), AV.dptr ((ls.map (catC c)).getD (i : Int).toNat []) = .dptr (catC c (ls.getD i []))] := fun i hi => ix (f := catC c) (l := ls) (n := i) [] (fun _ => rfl) (by decide) hi
  have i64 : ∀ i, i < ls.length → I64 (((i : Nat) : Int) + 1) := fun i hi => by unfold I64; omega
  have c0 : ∀ i, i < ls.length → AV.bool (decide (((i : Nat) : Int) < ((ls.length : Nat) : Int))) = .bool true := fun i hi => congrArg AV.bool (decide_eq_true (by omega))
  have c1 : AV.bool (decide (((ls.length : Nat) : Int) < ((ls.length : Nat) : Int))) = .bool false := congrArg AV.bool (decide_eq_false (by omega))
  have hcap : ∀ (a : List α) i, i < ls.length → a = (ls.take i).flatten → (a.length + (ls.getD i []).length) * 32 ≤ 140737488355328 := fun a i hi ha => by
    have h2 := hle (i + 1)
    rw [hstep i hi, List.length_append, ← ha] at h2
    exact Nat.le_trans (Nat.mul_le_mul_right _ h2) hb
  refine acallX Tryz.func109 36 [.tmp 2] (by kernel_rfl) (by kernel_rfl) ?_
  refine p_at Tryz.mo 8 [.rg 0 [] [.v], .rg 0 [] [.v], .rg 0 [] [.v, .e (.int .i64 ((ls.length : Nat) : Int)), .v]] [.only [0, 2, 3, 9, 10, 11] []] 8 [] (catL_S1 c ls 0 0) (all_cons trivial (all_cons (lenm (catC c) ls) all_nil)) (by kernel_rfl) ?_
  refine p_join 1 (catL_E1 c ls ls.flatten.length) (by kernel_rfl) ?_ ?_
  · refine p_loopW (ι := Nat × Nat) (fun x => catL_S1 c ls x.2 x.1) (by kernel_rfl) (fun x => x.1 ≤ ls.length ∧ x.2 = (ls.take x.1).flatten.length) (fun x => ls.length - x.1) (0, 0) ⟨Nat.zero_le _, by simp⟩ ?_
    rintro ⟨i, t⟩ ⟨hi, ht⟩
    simp only at hi ht
    by_cases hN : i = ls.length
    · subst hN
      rw [hall] at ht
      subst ht
      exact ⟨dead, .inl rfl, p_bar Tryz.mo 5 [.rg 0 [] [.e (.bool false)]] [.only [0, 2, 3] []] (catL_E1 c ls ls.flatten.length) (all_cons c1 all_nil) (by kernel_rfl)⟩
    · have hlt : i < ls.length := by omega
      have ht2 : t + (ls.getD i []).length = (ls.take (i + 1)).flatten.length := by rw [hstep i hlt, List.length_append, ht]
      have hle2 := hle (i + 1)
      have c2 : decide ((((t + (ls.getD i []).length : Nat)) : Int) < 0) = false := decide_eq_false (by omega)
      refine ⟨catL_S1 c ls (t + (ls.getD i []).length) (i + 1), .inr ⟨(i + 1, t + (ls.getD i []).length), ⟨hlt, ht2⟩, by show ls.length - (i + 1) < ls.length - i; omega, rfl⟩, ?_⟩
      exact p_bar Tryz.mo 16 [.rg 0 [] [.e (.bool true)], .rg 0 [] [.e (.dptr (catC c (ls.getD i []))), .v, .v], .rg 0 [] [.v, .v, .e (.int .i64 (((ls.getD i []).length : Nat) : Int)), .e (.int .i64 ((t + (ls.getD i []).length : Nat) : Int)), .v], .rg 0 [] [.v, .e (.bool false)], .rg 0 [] [.v, .v]] [.only [0, 2, 3, 9, 10, 11] []] (catL_S1 c ls (t + (ls.getD i []).length) (i + 1))
        (all_cons (c0 i hlt) (all_app (hix i hlt) (all_cons trivial (all_cons (lenm c (ls.getD i [])) (all_cons (show I64 (((t : Nat) : Int) + (((ls.getD i []).length : Nat) : Int)) from by unfold I64; omega) (all_cons (congrArg (AV.int .i64) (Int.natCast_add t (ls.getD i []).length).symm) (all_cons (congrArg (AV.bool) c2) (all_cons (i64 i hlt) all_nil)))))))) (by kernel_rfl)
  · by_cases h0 : ls.flatten.length = 0
    · -- nothing: no room is made
      rw [h0]
      refine p_at Tryz.mo 8 [.rg 0 [] [.v, .c true .eslice, .v], .rg 0 [] [.v, .e (.int .i64 ((ls.length : Nat) : Int)), .v]] [.er 6 33 39 2, .only [2, 6, 25, 26, 27] [33]] 8 [] (catL_R c ls [] 0) (all_cons Tryz.call186 (all_cons (acall_Grow0 Tryz.lays8_186) (all_cons trivial (all_cons (lenm (catC c) ls) all_nil)))) (by kernel_rfl) ?_
      refine p_join 1 (catL_E2 c ls.flatten) (by kernel_rfl) ?_ ?_
      · refine p_loopW (ι := Nat × List α) (fun x => catL_R c ls x.2 x.1) (by kernel_rfl) (fun x => x.1 ≤ ls.length ∧ x.2 = (ls.take x.1).flatten) (fun x => ls.length - x.1) (0, []) ⟨Nat.zero_le _, by simp⟩ ?_
        rintro ⟨i, a⟩ ⟨hi, ha⟩
        simp only at hi ha
        by_cases hN : i = ls.length
        · subst hN
          rw [hall] at ha
          subst ha
          exact ⟨dead, .inl rfl, p_bar Tryz.mo 5 [.rg 0 [] [.e (.bool false)]] [.only [2, 6] [33]] (catL_E2 c ls.flatten) (all_cons c1 all_nil) (by kernel_rfl)⟩
        · have hlt : i < ls.length := by omega
          refine ⟨catL_R c ls (a ++ ls.getD i []) (i + 1), .inr ⟨(i + 1, a ++ ls.getD i []), ⟨hlt, by simp only [hstep i hlt, ← ha]⟩, by show ls.length - (i + 1) < ls.length - i; omega, rfl⟩, ?_⟩
          exact p_bar Tryz.mo 16 [.rg 0 [] [.e (.bool true)], .rg 0 [] [.e (.dptr (catC c (ls.getD i []))), .v, .v], .rg 0 [] [.v, .v, .ap, .rwH 33 (.row 39 2 ((a ++ ls.getD i []).map c)), .v], .rg 0 [] [.v, .v]] [.only [2, 6, 25, 26, 27] [33]] (catL_R c ls (a ++ ls.getD i []) (i + 1))
            (all_cons (c0 i hlt) (all_app (hix i hlt) (all_app (apR (c := c) hc a (ls.getD i []) 32 (by decide) (hcap a i hlt ha)) (all_cons (apQ 39 2 c a (ls.getD i [])) (all_cons (i64 i hlt) all_nil))))) (by kernel_rfl)
      · exact p_ret Tryz.mo 3 [.rg 0 [] [.v, .v]] [.fz 33] [] all_nil (by kernel_rfl)
    · have hgrow := acall_Grow Tryz.lays8_186 (sz := 2) (by_ := 32) (by kernel_rfl) ls.flatten.length (by omega) hb (by omega)
      refine p_at Tryz.mo 8 [.rg 0 [] [.v, .hR [] 24 (.gslice 0) [(0, .room 39 2)], .v], .rg 0 [] [.v, .e (.int .i64 ((ls.length : Nat) : Int)), .v]] [.only [2, 6, 25, 26, 27] [24]] 8 [] (catL_S2 c ls [] 0) (all_cons Tryz.call186 (all_cons hgrow (all_cons trivial (all_cons (lenm (catC c) ls) all_nil)))) (by kernel_rfl) ?_
      refine p_join 1 (catL_E2 c ls.flatten) (by kernel_rfl) ?_ ?_
      · refine p_loopW (ι := Nat × List α) (fun x => catL_S2 c ls x.2 x.1) (by kernel_rfl) (fun x => x.1 ≤ ls.length ∧ x.2 = (ls.take x.1).flatten) (fun x => ls.length - x.1) (0, []) ⟨Nat.zero_le _, by simp⟩ ?_
        rintro ⟨i, a⟩ ⟨hi, ha⟩
        simp only at hi ha
        by_cases hN : i = ls.length
        · subst hN
          rw [hall] at ha
          cases a with
          | nil => rw [← ha] at h0; exact absurd rfl h0
          | cons a0 al =>
            rw [← ha]
            exact ⟨dead, .inl rfl, p_bar Tryz.mo 5 [.rg 0 [] [.e (.bool false)]] [.only [2, 6] [33]] (catL_E2 c (a0 :: al)) (all_cons c1 all_nil) (by kernel_rfl)⟩
        · have hlt : i < ls.length := by omega
          refine ⟨catL_S2 c ls (a ++ ls.getD i []) (i + 1), .inr ⟨(i + 1, a ++ ls.getD i []), ⟨hlt, by simp only [hstep i hlt, ← ha]⟩, by show ls.length - (i + 1) < ls.length - i; omega, rfl⟩, ?_⟩
          have hk := hcap a i hlt ha
          have hx := hix i hlt
          cases a with
          | nil =>
            generalize ls.getD i [] = y at hk hx
            cases y with
            | nil =>
              exact p_bar Tryz.mo 16 [.rg 0 [] [.e (.bool true)], .rg 0 [] [.e (.dptr [.dslice []]), .v, .v], .rg 0 [] [.v, .v, .apg, .v], .rg 0 [] [.v, .v]] [.only [2, 6, 25, 26, 27] [24]] (catL_G c ls (i + 1))
                (all_cons (c0 i hlt) (all_app hx (all_cons (i64 i hlt) all_nil))) (by kernel_rfl)
            | cons y0 ys =>
              exact p_bar Tryz.mo 16 [.rg 0 [] [.e (.bool true)], .rg 0 [] [.e (.dptr [.dslice (c y0 :: ys.map c)]), .v, .v], .rg 0 [] [.v, .v, .apg, .v], .rg 0 [] [.v, .v]] [.only [2, 6, 25, 26, 27] [33]] (catL_R c ls (y0 :: ys) (i + 1))
                (all_cons (c0 i hlt) (all_app hx (all_app (apE (c := c) hc (y0 :: ys) 32 (by decide) (by simpa using hk)) (all_cons (i64 i hlt) all_nil)))) (by kernel_rfl)
          | cons a0 al =>
            exact p_bar Tryz.mo 16 [.rg 0 [] [.e (.bool true)], .rg 0 [] [.e (.dptr (catC c (ls.getD i []))), .v, .v], .rg 0 [] [.v, .v, .ap, .rwH 33 (.row 39 2 (((a0 :: al) ++ ls.getD i []).map c)), .v], .rg 0 [] [.v, .v]] [.only [2, 6, 25, 26, 27] [33]] (catL_R c ls ((a0 :: al) ++ ls.getD i []) (i + 1))
              (all_cons (c0 i hlt) (all_app hx (all_app (apR (c := c) hc (a0 :: al) (ls.getD i []) 32 (by decide) hk) (all_cons (apQ 39 2 c (a0 :: al) (ls.getD i [])) (all_cons (i64 i hlt) all_nil))))) (by kernel_rfl)
      · exact p_ret Tryz.mo 3 [.rg 0 [] [.v, .v]] [.fz 33] [] all_nil (by kernel_rfl)
end
end Go.Proofs.YtjfpcjnopbfekaaGreatDoor
