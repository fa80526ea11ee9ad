/- The tie's parts. -/
import Derived.Test.YtkibeldbfkainaaGreatDoorRows
import Derived.LaidByTextLater
namespace Go.Proofs.YtkibeldbfkainaaGreatDoor
open Go
abbrev tieL:List (String×DataW Unit):=[("internal/strconv.uint64pow10", Rows.laid_internal_strconv_uint64pow10),("math/bits.deBruijn32tab", Rows.laid_math_bits_deBruijn32tab),("math/bits.deBruijn64tab", Rows.laid_math_bits_deBruijn64tab),("unicode/utf8.acceptRanges", Rows.laid_unicode_utf8_acceptRanges),("strconv.ErrSyntax", Rows.laid_strconv_ErrSyntax),("strconv.ErrRange", Rows.laid_strconv_ErrRange),("strings.asciiSpace", Rows.laid_strings_asciiSpace),("unicode.White_Space", Rows.laid_unicode_White_Space)]
end Go.Proofs.YtkibeldbfkainaaGreatDoor
