/- The facts about the program's text that the row of WholeFull asks for: the small ones. -/
import Derived.Test.YtkcolpfanmdmiaaGreatDoorVM9
import Derived.Test.YtkcolpfanmdmiaaGreatDoorVM12
import Derived.Test.YtkcolpfanmdmiaaGreatDoorRows
import Derived.WalkKit
import Derived.ProofKit
import Derived.OpenShut
import Derived.Deep.DeepHandedRow
import Derived.SevenTiedAt
import Derived.KernelRfl
set_option maxHeartbeats 8000000
namespace Go.Proofs.YtkcolpfanmdmiaaGreatDoor
open Go Go.ChangeShapes Go.WideShapes Go.ChangeAt Go.RowKit
theorem JO:Rows.wholeFullRow.wf (OpenSpec.ofChange (OpenSpec.ofChange Rows.wholeFullSpec).bare)=true:=by kernel_rfl
theorem JX:laidOutB Tryz.prog=true:=laidOut
theorem Kj:mapsRowed Tryz.prog=true:=by kernel_rfl
theorem KE:Tryz.f4.params.all (Tryz.prog.readableRec ·)=true:=by kernel_rfl
theorem KG:namedTie Tryz.prog Rows.wholeFullRow.named (OpenSpec.ofChange Rows.wholeFullSpec).bare.vars=true:=by kernel_rfl
theorem KH:(Rows.wholeFullRow.stops == [])=true:=by kernel_rfl
theorem KI:(Tryz.prog.stops == [])=true:=by kernel_rfl
theorem KJ:(Rows.wholeFullRow.knobs == [])=true:=by kernel_rfl
theorem KL:(Tryz.prog.stopKnobs == [])=true:=by kernel_rfl
theorem IX:(Rows.wholeFullRow.maps == (Tryz.f4.params.toList++(OpenSpec.ofChange Rows.wholeFullSpec).bare.plain.varTypes Tryz.prog).any (Tryz.prog.mapsRec ·))=true:=by kernel_rfl
theorem IY:(Rows.wholeFullRow.ifaces == (Tryz.f4.params.toList++(OpenSpec.ofChange Rows.wholeFullSpec).bare.plain.varTypes Tryz.prog).any (Tryz.prog.ifacesRec ·))=true:=by kernel_rfl
theorem IZ:(Rows.wholeFullRow.mapsOut == Tryz.prog.mapsAmong Tryz.f4.resultTypes.toList)=true:=by kernel_rfl
theorem Ja:(Rows.wholeFullRow.loops == (Tryz.f4.params.toList++(OpenSpec.ofChange Rows.wholeFullSpec).bare.plain.varTypes Tryz.prog).any (Tryz.prog.loopsFrom ·))=true:=by kernel_rfl
theorem Jb:(Rows.wholeFullRow.wideKeys == (Tryz.f4.params.toList++(OpenSpec.ofChange Rows.wholeFullSpec).bare.plain.varTypes Tryz.prog++Tryz.f4.resultTypes.toList).any (Tryz.prog.wideKeysFrom ·))=true:=by kernel_rfl
theorem Jc:(OpenSpec.ofChange Rows.wholeFullSpec).bare.vars.all (Tryz.prog.varReadable ·)=true:=by kernel_rfl
theorem Jd:Tryz.f4.resultTypes.all (fun t=>Tryz.prog.readableRec t && decide (t<Tryz.prog.types.size))=true:=by kernel_rfl
theorem Je:(Rows.wholeFullRow.ifacesOut == Tryz.f4.resultTypes.toList.any (Tryz.prog.ifacesRec ·))=true:=by kernel_rfl
theorem Jf:(Rows.wholeFullRow.loopsOut == Tryz.f4.resultTypes.toList.any (Tryz.prog.loopsFrom ·))=true:=by kernel_rfl
theorem Jg:(Rows.wholeFullRow.plainKeys == Tryz.prog.plainKeys)=true:=by kernel_rfl
theorem Jh:Rows.wholeFullRow.shortTexts.isNone=true:=by kernel_rfl
theorem Ji:Tryz.prog.stopsHeard=true:=by kernel_rfl
theorem Jj:Tryz.prog.mayEnter=true:=by kernel_rfl
theorem Jk:(Rows.wholeFullRow.lifted == Tryz.prog.liftsFinal)=true:=by kernel_rfl
theorem Jl:(Tryz.prog.make == some Rows.wholeFullRow.make)=true:=by kernel_rfl
theorem Jm:(Rows.wholeFullRow.pinned == Rows.wholeFullRow.pinnedBy)=true:=by kernel_rfl
theorem Jn:(Rows.wholeFullRow.veiled == (Tryz.f4.params.toList++(OpenSpec.ofChange Rows.wholeFullSpec).bare.plain.varTypes Tryz.prog++Tryz.f4.resultTypes.toList).any (Tryz.prog.veiledRec ·))=true:=by kernel_rfl
theorem Jo:Rows.wholeFullRow.veiledFits Tryz.prog Tryz.f4.params.toList (Tryz.f4.params.toList++(OpenSpec.ofChange Rows.wholeFullSpec).bare.plain.varTypes Tryz.prog++Tryz.f4.resultTypes.toList)=true:=by kernel_rfl
theorem KM:Rows.wholeFullRow.wfByText (OpenSpec.ofChange Rows.wholeFullSpec)=true:=by kernel_rfl
theorem IG:Tryz.prog.mainIs=some (Rows.wholeFullCard.stood.harness.1,Rows.wholeFullCard.stood.harness.2.toList):=by kernel_rfl
theorem FQ:true=Tryz.prog.looks []:=by kernel_rfl
theorem Ih:false=Rows.wholeFullRow.goesBy Tryz.prog:=NK rfl Su
end Go.Proofs.YtkcolpfanmdmiaaGreatDoor
