/- The program's types and variables are laid out as the frame asks: in parts, for the memory that one Lean process may take. -/
import Derived.Test.YtkcolpfanmdmiaaGreatDoorRows
import Derived.WalkKit
import Derived.ProofKit
import Derived.OpenShut
import Derived.Deep.DeepHandedRow
import Derived.SevenTiedAt
import Derived.KernelRfl
set_option maxHeartbeats 8000000
namespace Go.Proofs.YtkcolpfanmdmiaaGreatDoor
open Go Go.ChangeShapes Go.WideShapes Go.ChangeAt Go.RowKit
theorem VS:(List.range' 0 100).all (rowFine Tryz.prog)=true:=by kernel_rfl
theorem VT:(List.range' 100 100).all (rowFine Tryz.prog)=true:=by kernel_rfl
theorem VU:(List.range' 200 100).all (rowFine Tryz.prog)=true:=by kernel_rfl
theorem VV:(List.range' 300 100).all (rowFine Tryz.prog)=true:=by kernel_rfl
theorem VW:(List.range' 400 100).all (rowFine Tryz.prog)=true:=by kernel_rfl
theorem VX:(List.range' 500 100).all (rowFine Tryz.prog)=true:=by kernel_rfl
theorem VY:(List.range' 600 70).all (rowFine Tryz.prog)=true:=by kernel_rfl
theorem RX:Tryz.prog.types.size=670:=by kernel_rfl
theorem Py:Tryz.prog.globals.all (fun g=>decide (g.type<Tryz.prog.types.size))=true:=by kernel_rfl
theorem Px:Tryz.prog.funcs.all (fun f=>f.params.all fun t=>decide (t<Tryz.prog.types.size))=true:=by kernel_rfl
theorem Pz:(List.range Tryz.prog.types.size).all (rowFine Tryz.prog)=true:=by
 have e0:List.range' 0 670=List.range' 0 100++List.range' 100 570:=by rw [List.range'_append_1]
 have e1:List.range' 100 570=List.range' 100 100++List.range' 200 470:=by rw [List.range'_append_1]
 have e2:List.range' 200 470=List.range' 200 100++List.range' 300 370:=by rw [List.range'_append_1]
 have e3:List.range' 300 370=List.range' 300 100++List.range' 400 270:=by rw [List.range'_append_1]
 have e4:List.range' 400 270=List.range' 400 100++List.range' 500 170:=by rw [List.range'_append_1]
 have e5:List.range' 500 170=List.range' 500 100++List.range' 600 70:=by rw [List.range'_append_1]
 rw [RX,List.range_eq_range',e0,e1,e2,e3,e4,e5]
 simp only [List.all_append,VS,VT,VU,VV,VW,VX,VY,Bool.and_self]
theorem laidOut:laidOutB Tryz.prog=true:=by
 unfold laidOutB
 rw [Pz,Py,Px]
 rfl
end Go.Proofs.YtkcolpfanmdmiaaGreatDoor
