/- The facts about the program's text that the row of WholeFull asks for: what lies in place, what is called by value, what recurs, the variables named. -/
import Derived.Test.YtkcolpfanmdmiaaGreatDoorVM15
import Derived.Test.YtkcolpfanmdmiaaGreatDoorRows
import Derived.WalkKit
import Derived.ProofKit
import Derived.OpenShut
import Derived.Deep.DeepHandedRow
import Derived.SevenTiedAt
import Derived.KernelRfl
set_option maxHeartbeats 8000000
namespace Go.Proofs.YtkcolpfanmdmiaaGreatDoor
open Go Go.V Go.ChangeShapes Go.WideShapes Go.ChangeAt Go.RowKit
theorem Ii : (Rows.wholeFullRow.inPlace == Bo.filterMap fun g => (Tryz.prog.funcs[g]?).bind fun fn => if fn.ours || fn.body.isNone || fn.name == "runtime.NumGoroutine" then some fn.name else none) = true := by kernel_rfl
theorem IR:(Rows.wholeFullRow.inPlace == Tryz.prog.inPlace 4)=true:=by
 unfold Program.inPlace
 rw [Bq]
 exact Ii
theorem Jp:(Bo.any fun g=>(Tryz.prog.funcs[g]?).any fun fn=>match fn.body with|some c=>c.unfollowed|none=>entryCalls fn)=true:=by kernel_rfl
theorem Du:Tryz.prog.unfollowed 4=true:=by
 unfold Program.unfollowed
 rw [Bq]
 exact Jp
theorem IU:(Rows.wholeFullRow.unfollowed == Tryz.prog.unfollowed 4)=true:=by rw [Du];rfl
theorem IV:(Rows.wholeFullRow.recurses == Tryz.prog.recurses 4)=true:=by
 unfold Program.recurses
 rw [Du,Bool.true_or]
 rfl
theorem Ij:(Rows.wholeFullRow.named == (((Bo.flatMap fun g=>((Tryz.prog.funcs[g]?).bind (·.body)).elim [] Code.globalsNamed).eraseDups).filterMap (fun g=>(Tryz.prog.globals[g]?).map (·.name))++Bo.filterMap fun g=>(Tryz.prog.funcs[g]?).bind fun fn=>if fn.body.isNone then entryReads.lookup fn.name else none).eraseDups)=true:=by kernel_rfl
theorem IW:(Rows.wholeFullRow.named == Tryz.prog.varsNamed 4)=true:=by
 unfold Program.varsNamed
 rw [Bq]
 exact Ij
end Go.Proofs.YtkcolpfanmdmiaaGreatDoor
