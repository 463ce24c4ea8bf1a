/- The facts about the program's text that the row of WholeOld asks for: the small ones. -/
import Derived.Test.YtkcolpfanmdmiaaGreatDoorVM9
import Derived.Test.YtkcolpfanmdmiaaGreatDoorVM12
import Derived.Test.YtkcolpfanmdmiaaGreatDoorRows
import Derived.WalkKit
import Derived.ProofKit
import Derived.OpenShut
import Derived.Deep.DeepHandedRow
import Derived.SevenTiedAt
import Derived.KernelRfl
set_option maxHeartbeats 8000000
namespace Go.Proofs.YtkcolpfanmdmiaaGreatDoor
open Go Go.ChangeShapes Go.WideShapes Go.ChangeAt Go.RowKit
theorem KG:Rows.wholeOldRow.wf (OpenSpec.ofChange (OpenSpec.ofChange Rows.wholeOldSpec).bare)=true:=by kernel_rfl
theorem KH:laidOutB Tryz.prog=true:=laidOut
theorem KI:mapsRowed Tryz.prog=true:=by kernel_rfl
theorem KJ:Tryz.f3.params.all (Tryz.prog.readableRec ·)=true:=by kernel_rfl
theorem KL:namedTie Tryz.prog Rows.wholeOldRow.named (OpenSpec.ofChange Rows.wholeOldSpec).bare.vars=true:=by kernel_rfl
theorem KM:(Rows.wholeOldRow.stops == [])=true:=by kernel_rfl
theorem KN:(Tryz.prog.stops == [])=true:=by kernel_rfl
theorem KO:(Rows.wholeOldRow.knobs == [])=true:=by kernel_rfl
theorem KP:(Tryz.prog.stopKnobs == [])=true:=by kernel_rfl
theorem IW:(Rows.wholeOldRow.maps == (Tryz.f3.params.toList++(OpenSpec.ofChange Rows.wholeOldSpec).bare.plain.varTypes Tryz.prog).any (Tryz.prog.mapsRec ·))=true:=by kernel_rfl
theorem IX:(Rows.wholeOldRow.ifaces == (Tryz.f3.params.toList++(OpenSpec.ofChange Rows.wholeOldSpec).bare.plain.varTypes Tryz.prog).any (Tryz.prog.ifacesRec ·))=true:=by kernel_rfl
theorem IY:(Rows.wholeOldRow.mapsOut == Tryz.prog.mapsAmong Tryz.f3.resultTypes.toList)=true:=by kernel_rfl
theorem IZ:(Rows.wholeOldRow.loops == (Tryz.f3.params.toList++(OpenSpec.ofChange Rows.wholeOldSpec).bare.plain.varTypes Tryz.prog).any (Tryz.prog.loopsFrom ·))=true:=by kernel_rfl
theorem Ja:(Rows.wholeOldRow.wideKeys == (Tryz.f3.params.toList++(OpenSpec.ofChange Rows.wholeOldSpec).bare.plain.varTypes Tryz.prog++Tryz.f3.resultTypes.toList).any (Tryz.prog.wideKeysFrom ·))=true:=by kernel_rfl
theorem Jb:(OpenSpec.ofChange Rows.wholeOldSpec).bare.vars.all (Tryz.prog.varReadable ·)=true:=by kernel_rfl
theorem Jc:Tryz.f3.resultTypes.all (fun t=>Tryz.prog.readableRec t && decide (t<Tryz.prog.types.size))=true:=by kernel_rfl
theorem Jd:(Rows.wholeOldRow.ifacesOut == Tryz.f3.resultTypes.toList.any (Tryz.prog.ifacesRec ·))=true:=by kernel_rfl
theorem Je:(Rows.wholeOldRow.loopsOut == Tryz.f3.resultTypes.toList.any (Tryz.prog.loopsFrom ·))=true:=by kernel_rfl
theorem Jf:(Rows.wholeOldRow.plainKeys == Tryz.prog.plainKeys)=true:=by kernel_rfl
theorem Jg:Rows.wholeOldRow.shortTexts.isNone=true:=by kernel_rfl
theorem Jh:Tryz.prog.stopsHeard=true:=by kernel_rfl
theorem Ji:Tryz.prog.mayEnter=true:=by kernel_rfl
theorem Jj:(Rows.wholeOldRow.lifted == Tryz.prog.liftsFinal)=true:=by kernel_rfl
theorem Jk:(Tryz.prog.make == some Rows.wholeOldRow.make)=true:=by kernel_rfl
theorem Jl:(Rows.wholeOldRow.pinned == Rows.wholeOldRow.pinnedBy)=true:=by kernel_rfl
theorem Jm:(Rows.wholeOldRow.veiled == (Tryz.f3.params.toList++(OpenSpec.ofChange Rows.wholeOldSpec).bare.plain.varTypes Tryz.prog++Tryz.f3.resultTypes.toList).any (Tryz.prog.veiledRec ·))=true:=by kernel_rfl
theorem Jn:Rows.wholeOldRow.veiledFits Tryz.prog Tryz.f3.params.toList (Tryz.f3.params.toList++(OpenSpec.ofChange Rows.wholeOldSpec).bare.plain.varTypes Tryz.prog++Tryz.f3.resultTypes.toList)=true:=by kernel_rfl
theorem KQ:Rows.wholeOldRow.wfByText (OpenSpec.ofChange Rows.wholeOldSpec)=true:=by kernel_rfl
theorem Ij:Tryz.prog.mainIs=some (Rows.wholeOldCard.stood.harness.1,Rows.wholeOldCard.stood.harness.2.toList):=by kernel_rfl
theorem Ie:true=Tryz.prog.looks []:=by kernel_rfl
theorem Ig:false=Rows.wholeOldRow.goesBy Tryz.prog:=NK rfl Su
end Go.Proofs.YtkcolpfanmdmiaaGreatDoor
