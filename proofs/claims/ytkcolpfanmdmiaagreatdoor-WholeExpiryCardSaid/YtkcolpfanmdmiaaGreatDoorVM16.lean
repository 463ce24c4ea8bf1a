/- The facts about the program's text that the row of WholeExpiry asks for: what lies in place, what is called by value, what recurs, the variables named. -/
import Derived.Test.YtkcolpfanmdmiaaGreatDoorVM15
import Derived.Test.YtkcolpfanmdmiaaGreatDoorRows
import Derived.WalkKit
import Derived.ProofKit
import Derived.OpenShut
import Derived.Deep.DeepHandedRow
import Derived.SevenTiedAt
import Derived.KernelRfl
set_option maxHeartbeats 8000000
namespace Go.Proofs.YtkcolpfanmdmiaaGreatDoor
open Go Go.V Go.ChangeShapes Go.WideShapes Go.ChangeAt Go.RowKit
theorem Ig : (Rows.wholeExpiryRow.inPlace == BH.filterMap fun g => (Tryz.prog.funcs[g]?).bind fun fn => if fn.ours || fn.body.isNone || fn.name == "runtime.NumGoroutine" then some fn.name else none) = true := by kernel_rfl
theorem IR:(Rows.wholeExpiryRow.inPlace == Tryz.prog.inPlace 5)=true:=by
 unfold Program.inPlace
 rw [Du]
 exact Ig
theorem Jp:(BH.any fun g=>(Tryz.prog.funcs[g]?).any fun fn=>match fn.body with|some c=>c.unfollowed|none=>entryCalls fn)=true:=by kernel_rfl
theorem Ey:Tryz.prog.unfollowed 5=true:=by
 unfold Program.unfollowed
 rw [Du]
 exact Jp
theorem IU:(Rows.wholeExpiryRow.unfollowed == Tryz.prog.unfollowed 5)=true:=by rw [Ey];rfl
theorem IV:(Rows.wholeExpiryRow.recurses == Tryz.prog.recurses 5)=true:=by
 unfold Program.recurses
 rw [Ey,Bool.true_or]
 rfl
theorem Ih:(Rows.wholeExpiryRow.named == (((BH.flatMap fun g=>((Tryz.prog.funcs[g]?).bind (·.body)).elim [] Code.globalsNamed).eraseDups).filterMap (fun g=>(Tryz.prog.globals[g]?).map (·.name))++BH.filterMap fun g=>(Tryz.prog.funcs[g]?).bind fun fn=>if fn.body.isNone then entryReads.lookup fn.name else none).eraseDups)=true:=by kernel_rfl
theorem IW:(Rows.wholeExpiryRow.named == Tryz.prog.varsNamed 5)=true:=by
 unfold Program.varsNamed
 rw [Du]
 exact Ih
end Go.Proofs.YtkcolpfanmdmiaaGreatDoor
