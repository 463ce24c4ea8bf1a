/- The tie of the listed variables to the text, in parts, for the memory that one Lean process may take: the first closed facts. -/
import Derived.Test.YtkcolpfanmdmiaaGreatDoorRows
import Derived.LaidByTextLater
import Derived.SevenTiedAt
import Derived.KernelRfl
set_option maxHeartbeats 8000000
namespace Go.Proofs.YtkcolpfanmdmiaaGreatDoor
open Go
abbrev LK : List (String × DataW Unit) := [("strconv.ErrSyntax", Rows.laid_strconv_ErrSyntax), ("strconv.ErrRange", Rows.laid_strconv_ErrRange), ("internal/strconv.uint64pow10", Rows.laid_internal_strconv_uint64pow10), ("math/bits.deBruijn32tab", Rows.laid_math_bits_deBruijn32tab), ("math/bits.deBruijn64tab", Rows.laid_math_bits_deBruijn64tab)]
theorem Va : Tryz.pinned.checked.prog.headLifts.contains "ownunsafe" = false := by kernel_rfl
theorem SY:LK.map (fun x=>Tryz.prog.kindOfLater x.1)=[LaidKind.sentinel,.sentinel,.data,.data,.data].map some:=by kernel_rfl
theorem Vd:Tryz.prog.worded (varsWordLater true)=true:=by kernel_rfl
theorem Qj:Tryz.prog.worded (varsWordLater !true)=false:=by kernel_rfl
end Go.Proofs.YtkcolpfanmdmiaaGreatDoor
