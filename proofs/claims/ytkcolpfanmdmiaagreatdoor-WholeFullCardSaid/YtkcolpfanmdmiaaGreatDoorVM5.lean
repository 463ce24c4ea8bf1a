/- The tie: it ends. -/
import Derived.Test.YtkcolpfanmdmiaaGreatDoorVM2
import Derived.Test.YtkcolpfanmdmiaaGreatDoorRows
import Derived.LaidByTextLater
import Derived.SevenTiedAt
import Derived.KernelRfl
set_option maxHeartbeats 8000000
namespace Go.Proofs.YtkcolpfanmdmiaaGreatDoor
open Go
theorem UY:∀os tape,varsDone Tryz.prog 400 (varsId Tryz.prog) os tape=true:=fun _ _=>by kernel_rfl
end Go.Proofs.YtkcolpfanmdmiaaGreatDoor
