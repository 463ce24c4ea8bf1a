/- What a law can come to, reckoned with one number as the set of what was seen. -/
import Derived.Test.YtkcolpfanmdmiaaGreatDoorRows
import Derived.WalkKit
import Derived.ProofKit
import Derived.OpenShut
import Derived.Deep.DeepHandedRow
import Derived.SevenTiedAt
import Derived.KernelRfl
set_option maxHeartbeats 8000000
namespace Go.V
open Go
def cvF (P:Program):Nat→List FuncId→List FuncId→Nat→List FuncId
 | 0,_,seen,_=>seen.reverse
 | _+1,[],seen,_=>seen.reverse
 | n+1,f :: todo,seen,m=>if m.testBit f then cvF P n todo seen m else cvF P n ((P.funcs[f]?).elim [] P.leadsTo++todo) (f :: seen) (m ||| (1 <<< f))
theorem Pb (P:Program):∀(n:Nat) (todo seen:List FuncId) (m:Nat),(∀f,m.testBit f=seen.contains f)→P.closureVia n todo seen=cvF P n todo seen m
 | 0,_,_,_,_=>by rw [Program.closureVia,cvF]
 | n+1,[],_,_,_=>by rw [Program.closureVia,cvF];simp
 | n+1,f :: todo,seen,m,h=>by
  rw [Program.closureVia,cvF,h f]
  split
  ·exact Pb P n todo seen m h
  ·refine Pb P n _ _ _ fun k=>?_
   rw [Nat.testBit_or,Nat.one_shiftLeft,Nat.testBit_two_pow,h k,List.contains_cons,Bool.or_comm]
   congr 1
   exact decide_eq_decide.2 ⟨fun e=>e.symm,fun e=>e.symm⟩
theorem closF (P:Program) (f:FuncId) {n:Nat} (hn:1+(P.funcs.toList.map fun g=>(P.leadsTo g).length+1).sum=n) {L:List FuncId} (h:cvF P n [f] [] 0=L):P.closure f=L:=by
 unfold Program.closure
 rw [hn,Pb P n [f] [] 0 (fun k=>by simp),h]
end Go.V
namespace Go.Proofs.YtkcolpfanmdmiaaGreatDoor
open Go Go.ChangeShapes Go.WideShapes Go.ChangeAt Go.RowKit
theorem TI:1+(Tryz.prog.funcs.toList.map fun g=>(Tryz.prog.leadsTo g).length+1).sum=2198:=by kernel_rfl
end Go.Proofs.YtkcolpfanmdmiaaGreatDoor
