/- A part of the frame for walks, or a plain law. -/
import Derived.Test.YtjfpcjnopbfekaaGreatDoorAbL
import Derived.Test.YtjfpcjnopbfekaaGreatDoorAbO
import Derived.Test.YtjfpcjnopbfekaaGreatDoorShelfT
import Derived.KernelRfl
set_option linter.unusedSimpArgs false
set_option linter.unusedVariables false
namespace Go.Proofs.YtjfpcjnopbfekaaGreatDoor
open Go.RowKit Go.Ab Go.Sh Go.Proofs
theorem Tryz.mo : Tryz.prog.follows .mixedOrders = true := by kernel_rfl
theorem named {s : String} (h : (Tryz.prog.globalNamed s).isSome = true) : Tryz.prog.globalNamed s ≠ none := fun e => by rw [e] at h; cases h
theorem lib_Itoa_c (n : Int) (r : Str) (H : lib_Itoa n = some r) : AFn Tryz.prog 168 [.int .i64 n] (.str r) := afn_Itoa Tryz.laysM171 (named (by kernel_rfl)) n r H
theorem lib_Atoi_c (s : Str) (r : Int × Bool) (H : lib_Atoi s = some r) : AFn Tryz.prog 167 [.str s] (.tup [.int .i64 r.1, errV (Tryz.laysC172_ren.t 168) r.2]) := afn_Atoi Tryz.laysC172 (named (by kernel_rfl)) (named (by kernel_rfl)) s r H
theorem lib_Join_c (xs : List Str) (sep : Str) (r : Str) (H : lib_Join xs sep = some r) : AFn Tryz.prog 153 [.dslice (xs.map strC), .str sep] (.str r) := afn_Join Tryz.lays156 Tryz.Builder_Extra_156 xs sep r H
theorem lib_Split_c (s sep : Str) (r : List Str) (H : lib_Split s sep = some r) : AFn Tryz.prog 92 [.str s, .str sep] (.dslice (r.map strC)) := afn_Split Tryz.lays146 (by kernel_rfl) (by kernel_rfl) s sep r H
theorem lib_Trim_c (s cut : Str) (r : Str) (H : lib_Trim s cut = some r) : AFn Tryz.prog 106 [.str s, .str cut] (.str r) := afn_Trim Tryz.lays160 (fun w => run_zero (show zeroOf Tryz.prog 186 = some (.agg (Array.replicate 256 (.bool false))) from by kernel_rfl)) (by kernel_rfl) s cut r H
theorem lib_Sort_c (xs r : List Str) (H : lib_Sort xs = some r) : ACall Tryz.prog 138 [.rslice 1000] [(1000, .row 9 1 (xs.map strC))] (fun v h => v = .tup [] ∧ h = [(1000, .row 9 1 (r.map strC))]) := acall_Sort Tryz.lays190 xs r H
end Go.Proofs.YtjfpcjnopbfekaaGreatDoor
