/- The tie: which variables that function lays. -/
import Derived.Test.YtkcolpfanmdmiaaGreatDoorVM2
import Derived.Test.YtkcolpfanmdmiaaGreatDoorRows
import Derived.LaidByTextLater
import Derived.SevenTiedAt
import Derived.KernelRfl
set_option maxHeartbeats 8000000
namespace Go.Proofs.YtkcolpfanmdmiaaGreatDoor
open Go
theorem Ta:varsNamedLaterB Tryz.prog (varsId Tryz.prog) LK=true:=by kernel_rfl
end Go.Proofs.YtkcolpfanmdmiaaGreatDoor
