/- One start. -/
import Derived.KernelRfl
import Derived.LaidLaws
import Derived.Carry
import Derived.Test.YtkibeldbfkainaaGreatDoorRows
namespace Go.Proofs.YtkibeldbfkainaaGreatDoor
open Go.RowKit
def litsOf:DataW Unit→List Go.Value
 | .agg ds=>ds.flatMap fun
  | .lit (.int k n)=>[.int k n]
  | .agg es=>es.flatMap fun
   | .lit (.int k n)=>[.int k n]
   | _=>[]
  | _=>[]
 | _=>[]
noncomputable def lowB:Nat:=(World.holding Tryz.prog default ⟨#[],#[],[]⟩).heap.size
def layC (cs:List Go.Value):Obj→Obj
 | .cells _ t frozen=>.cells cs.toArray t frozen
 | o=>o
noncomputable def laidWorld (os:Os):World :=
 let w0:=World.holding Tryz.prog os ⟨#[.cells #[.string ⟨#[105,110,118,97,108,105,100,32,115,121,110,116,97,120]⟩] 334,.cells #[.string ⟨#[118,97,108,117,101,32,111,117,116,32,111,102,32,114,97,110,103,101]⟩] 334,.cells #[.int .u16 9,.int .u16 13,.int .u16 1,.int .u16 32,.int .u16 133,.int .u16 101,.int .u16 160,.int .u16 5760,.int .u16 5600,.int .u16 8192,.int .u16 8202,.int .u16 1,.int .u16 8232,.int .u16 8233,.int .u16 1,.int .u16 8239,.int .u16 8287,.int .u16 48,.int .u16 12288,.int .u16 12288,.int .u16 1] 440,.cells #[.slice (some ⟨lowB+2,0,none⟩) 7 7,.slice none 0 0,.int .i64 2] 438],#[],[]⟩
 { w0 with heap:=((((((((w0.heap.modify 2 (layC [.iface 332 (.pointer (some ⟨lowB,0,none⟩))])).modify 3 (layC [.iface 332 (.pointer (some ⟨lowB+1,0,none⟩))])).modify 9 (layC [.pointer (some ⟨lowB+3,0,none⟩)])).modify 6 (layC (litsOf Rows.laid_unicode_utf8_first))).modify 7 (layC (litsOf Rows.laid_unicode_utf8_acceptRanges))).modify 0 (layC (litsOf Rows.laid_internal_strconv_uint64pow10))).modify 4 (layC (litsOf Rows.laid_math_bits_deBruijn32tab))).modify 5 (layC (litsOf Rows.laid_math_bits_deBruijn64tab))).modify 8 (layC (litsOf Rows.laid_strings_asciiSpace)) }
end Go.Proofs.YtkibeldbfkainaaGreatDoor
