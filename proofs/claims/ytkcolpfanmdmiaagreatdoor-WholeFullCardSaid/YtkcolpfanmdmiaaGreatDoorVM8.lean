/- The tie of the listed variables to the text: its parts joined. -/
import Derived.Test.YtkcolpfanmdmiaaGreatDoorVM3
import Derived.Test.YtkcolpfanmdmiaaGreatDoorVM4
import Derived.Test.YtkcolpfanmdmiaaGreatDoorVM5
import Derived.Test.YtkcolpfanmdmiaaGreatDoorVM6
import Derived.Test.YtkcolpfanmdmiaaGreatDoorVM7
import Derived.Test.YtkcolpfanmdmiaaGreatDoorRows
import Derived.LaidByTextLater
import Derived.SevenTiedAt
import Derived.KernelRfl
set_option maxHeartbeats 8000000
namespace Go.Proofs.YtkcolpfanmdmiaaGreatDoor
open Go
theorem tie:Tryz.prog.laidByTextLater LK [.sentinel,.sentinel,.data,.data,.data] true :=
 Program.laidByTextLater_by_run 400 8 Vd Qj Vb SY UZ Ta UY WE SX
theorem Ey:Rows.wholeFullRow.laidByTextAt .later Tryz.pinned [.sentinel,.sentinel,.data,.data,.data] true:=OpenClaim.laidByTextAt_later rfl rfl tie Va
end Go.Proofs.YtkcolpfanmdmiaaGreatDoor
