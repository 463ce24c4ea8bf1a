/- The facts about the program's text that the cards of the whole ask for: no goroutine. -/
import Derived.Test.YtkcolpfanmdmiaaGreatDoorRows
import Derived.WalkKit
import Derived.ProofKit
import Derived.OpenShut
import Derived.Deep.DeepHandedRow
import Derived.SevenTiedAt
import Derived.KernelRfl
import Derived.Test.YtkcolpfanmdmiaaGreatDoorCards
set_option maxHeartbeats 8000000
namespace Go
theorem RI {P:Program} {f:FuncId} (h:P.funcs.any Func.goes=false):P.goes f=false:=by
 have hf:∀fn∈P.funcs,Func.goes fn=false:=fun fn hm=>by
  rw [Array.any_eq_false] at h
  obtain ⟨i,hi,rfl⟩:=Array.getElem_of_mem hm
  simpa using h i hi
 unfold Program.goes
 rw [h,Bool.and_false,Bool.or_false]
 rw [List.any_eq_false]
 intro g _ hg
 cases hx:P.funcs[g]? with
 | none=>rw [hx] at hg;cases hg
 | some fn =>
  rw [hx] at hg
  have:=hf fn (Array.mem_of_getElem? hx)
  simp [this] at hg
theorem KS {P:Program} {s:String} (h:P.funcs.any Func.goes=false):P.goesFrom s=false:=by
 unfold Program.goesFrom
 cases P.funcNamed s with
 | none=>rfl
 | some f=>exact RI h
theorem NK {P:Program} {c:OpenClaim} (hs:c.start=.entering) (h:P.funcs.any Func.goes=false):false=c.goesBy P:=by
 unfold OpenClaim.goesBy Program.goesAt
 rw [KS h,hs]
 rfl
end Go
namespace Go.Proofs.YtkcolpfanmdmiaaGreatDoor
open Go Go.ChangeShapes Go.WideShapes Go.ChangeAt Go.RowKit
theorem Su:Tryz.prog.funcs.any Func.goes=false:=by kernel_rfl
end Go.Proofs.YtkcolpfanmdmiaaGreatDoor
