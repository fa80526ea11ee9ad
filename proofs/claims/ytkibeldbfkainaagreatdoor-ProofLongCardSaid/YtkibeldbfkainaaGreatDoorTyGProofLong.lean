/- The tie's parts. -/
import Derived.Test.YtkibeldbfkainaaGreatDoorTyAProofLong
import Derived.Test.YtkibeldbfkainaaGreatDoorTyBProofLong
import Derived.Test.YtkibeldbfkainaaGreatDoorTyCProofLong
import Derived.Test.YtkibeldbfkainaaGreatDoorTyDProofLong
import Derived.Test.YtkibeldbfkainaaGreatDoorTyEProofLong
import Derived.Test.YtkibeldbfkainaaGreatDoorTyFProofLong
namespace Go.Proofs.YtkibeldbfkainaaGreatDoor
open Go
theorem and_map {α:Type} {o:Option α} {f g:α→Bool} (h1:o.map f=some true) (h2:o.map g=some true):o.map (fun x=>f x&&g x)=some true:=by
 cases o with
 | none=>cases h1
 | some x=>simp_all
theorem tie:Tryz.prog.laidByTextLater [("internal/strconv.uint64pow10", Rows.laid_internal_strconv_uint64pow10),("math/bits.deBruijn32tab", Rows.laid_math_bits_deBruijn32tab),("math/bits.deBruijn64tab", Rows.laid_math_bits_deBruijn64tab),("unicode/utf8.acceptRanges", Rows.laid_unicode_utf8_acceptRanges),("strconv.ErrSyntax", Rows.laid_strconv_ErrSyntax),("strconv.ErrRange", Rows.laid_strconv_ErrRange),("strings.asciiSpace", Rows.laid_strings_asciiSpace),("unicode.White_Space", Rows.laid_unicode_White_Space)] [.data,.data,.data,.data,.sentinel,.sentinel,.data,.listed] true :=
 Program.laidByTextLater_by_run (laid:=tieL) 400 8 tie_w tie_w2 tie_root tie_k tie_g tie_nm tie_d tie_1 (fun os tape=>and_map (tie_n os tape) (tie_r os tape))
theorem proofLong_row_tie:Rows.proofLongRow.laidByTextAt .later Tryz.pinned [.data,.data,.data,.pinned,.data,.sentinel,.sentinel,.data,.listed] true :=
 OpenClaim.laidByTextAt_pinned rfl rfl tie rfl rfl rfl rfl (fun y hy _e=>by
  simp only [Rows.proofLongRow,List.zip_cons_cons,List.zip_nil_right,List.mem_cons,List.mem_nil_iff,or_false] at hy;rcases hy with rfl | rfl | rfl | rfl | rfl | rfl | rfl | rfl | rfl
  ·cases _e
  ·cases _e
  ·cases _e
  ·exact ⟨pin_laid_unicode_utf8_first,by kernel_rfl⟩
  ·cases _e
  ·cases _e
  ·cases _e
  ·cases _e
  ·cases _e) fits1
end Go.Proofs.YtkibeldbfkainaaGreatDoor
