/- The facts about the program's text that the row of WholeOld asks for: what lies in place, what is called by value, what recurs, the variables named. -/
import Derived.Test.YtkcolpfanmdmiaaGreatDoorVM15
import Derived.Test.YtkcolpfanmdmiaaGreatDoorRows
import Derived.WalkKit
import Derived.ProofKit
import Derived.OpenShut
import Derived.Deep.DeepHandedRow
import Derived.SevenTiedAt
import Derived.KernelRfl
set_option maxHeartbeats 8000000
namespace Go.Proofs.YtkcolpfanmdmiaaGreatDoor
open Go Go.V Go.ChangeShapes Go.WideShapes Go.ChangeAt Go.RowKit
theorem Ih : (Rows.wholeOldRow.inPlace == Bn.filterMap fun g => (Tryz.prog.funcs[g]?).bind fun fn => if fn.ours || fn.body.isNone || fn.name == "runtime.NumGoroutine" then some fn.name else none) = true := by kernel_rfl
theorem IQ:(Rows.wholeOldRow.inPlace == Tryz.prog.inPlace 3)=true:=by
 unfold Program.inPlace
 rw [BH]
 exact Ih
theorem Jo:(Bn.any fun g=>(Tryz.prog.funcs[g]?).any fun fn=>match fn.body with|some c=>c.unfollowed|none=>entryCalls fn)=true:=by kernel_rfl
theorem CQ:Tryz.prog.unfollowed 3=true:=by
 unfold Program.unfollowed
 rw [BH]
 exact Jo
theorem IR:(Rows.wholeOldRow.unfollowed == Tryz.prog.unfollowed 3)=true:=by rw [CQ];rfl
theorem IU:(Rows.wholeOldRow.recurses == Tryz.prog.recurses 3)=true:=by
 unfold Program.recurses
 rw [CQ,Bool.true_or]
 rfl
theorem Ii:(Rows.wholeOldRow.named == (((Bn.flatMap fun g=>((Tryz.prog.funcs[g]?).bind (·.body)).elim [] Code.globalsNamed).eraseDups).filterMap (fun g=>(Tryz.prog.globals[g]?).map (·.name))++Bn.filterMap fun g=>(Tryz.prog.funcs[g]?).bind fun fn=>if fn.body.isNone then entryReads.lookup fn.name else none).eraseDups)=true:=by kernel_rfl
theorem IV:(Rows.wholeOldRow.named == Tryz.prog.varsNamed 3)=true:=by
 unfold Program.varsNamed
 rw [BH]
 exact Ii
end Go.Proofs.YtkcolpfanmdmiaaGreatDoor
