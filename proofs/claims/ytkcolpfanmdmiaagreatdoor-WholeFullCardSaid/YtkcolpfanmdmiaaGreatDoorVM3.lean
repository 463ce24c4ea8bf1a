/- The tie: the root, the function that lays the variables. -/
import Derived.Test.YtkcolpfanmdmiaaGreatDoorVM2
import Derived.Test.YtkcolpfanmdmiaaGreatDoorRows
import Derived.LaidByTextLater
import Derived.SevenTiedAt
import Derived.KernelRfl
set_option maxHeartbeats 8000000
namespace Go.Proofs.YtkcolpfanmdmiaaGreatDoor
open Go
theorem Vb:Tryz.prog.worded rootWordLater=true:=by kernel_rfl
theorem UZ : (Tryz.prog.funcNamed "gosem.cut.vars").isSome = true := by kernel_rfl
end Go.Proofs.YtkcolpfanmdmiaaGreatDoor
