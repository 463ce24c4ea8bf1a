/- The facts about the program's text that the row of WholeExpiry asks for: the small ones. -/
import Derived.Test.YtkcolpfanmdmiaaGreatDoorVM9
import Derived.Test.YtkcolpfanmdmiaaGreatDoorVM12
import Derived.Test.YtkcolpfanmdmiaaGreatDoorRows
import Derived.WalkKit
import Derived.ProofKit
import Derived.OpenShut
import Derived.Deep.DeepHandedRow
import Derived.SevenTiedAt
import Derived.KernelRfl
set_option maxHeartbeats 8000000
namespace Go.Proofs.YtkcolpfanmdmiaaGreatDoor
open Go Go.ChangeShapes Go.WideShapes Go.ChangeAt Go.RowKit
theorem KG:Rows.wholeExpiryRow.wf (OpenSpec.ofChange (OpenSpec.ofChange Rows.wholeExpirySpec).bare)=true:=by kernel_rfl
theorem KH:laidOutB Tryz.prog=true:=laidOut
theorem KI:mapsRowed Tryz.prog=true:=by kernel_rfl
theorem KJ:Tryz.f5.params.all (Tryz.prog.readableRec ·)=true:=by kernel_rfl
theorem KL:namedTie Tryz.prog Rows.wholeExpiryRow.named (OpenSpec.ofChange Rows.wholeExpirySpec).bare.vars=true:=by kernel_rfl
theorem KM:(Rows.wholeExpiryRow.stops == [])=true:=by kernel_rfl
theorem KN:(Tryz.prog.stops == [])=true:=by kernel_rfl
theorem KO:(Rows.wholeExpiryRow.knobs == [])=true:=by kernel_rfl
theorem KP:(Tryz.prog.stopKnobs == [])=true:=by kernel_rfl
theorem IX:(Rows.wholeExpiryRow.maps == (Tryz.f5.params.toList++(OpenSpec.ofChange Rows.wholeExpirySpec).bare.plain.varTypes Tryz.prog).any (Tryz.prog.mapsRec ·))=true:=by kernel_rfl
theorem IY:(Rows.wholeExpiryRow.ifaces == (Tryz.f5.params.toList++(OpenSpec.ofChange Rows.wholeExpirySpec).bare.plain.varTypes Tryz.prog).any (Tryz.prog.ifacesRec ·))=true:=by kernel_rfl
theorem IZ:(Rows.wholeExpiryRow.mapsOut == Tryz.prog.mapsAmong Tryz.f5.resultTypes.toList)=true:=by kernel_rfl
theorem Ja:(Rows.wholeExpiryRow.loops == (Tryz.f5.params.toList++(OpenSpec.ofChange Rows.wholeExpirySpec).bare.plain.varTypes Tryz.prog).any (Tryz.prog.loopsFrom ·))=true:=by kernel_rfl
theorem Jb:(Rows.wholeExpiryRow.wideKeys == (Tryz.f5.params.toList++(OpenSpec.ofChange Rows.wholeExpirySpec).bare.plain.varTypes Tryz.prog++Tryz.f5.resultTypes.toList).any (Tryz.prog.wideKeysFrom ·))=true:=by kernel_rfl
theorem Jc:(OpenSpec.ofChange Rows.wholeExpirySpec).bare.vars.all (Tryz.prog.varReadable ·)=true:=by kernel_rfl
theorem Jd:Tryz.f5.resultTypes.all (fun t=>Tryz.prog.readableRec t && decide (t<Tryz.prog.types.size))=true:=by kernel_rfl
theorem Je:(Rows.wholeExpiryRow.ifacesOut == Tryz.f5.resultTypes.toList.any (Tryz.prog.ifacesRec ·))=true:=by kernel_rfl
theorem Jf:(Rows.wholeExpiryRow.loopsOut == Tryz.f5.resultTypes.toList.any (Tryz.prog.loopsFrom ·))=true:=by kernel_rfl
theorem Jg:(Rows.wholeExpiryRow.plainKeys == Tryz.prog.plainKeys)=true:=by kernel_rfl
theorem Jh:Rows.wholeExpiryRow.shortTexts.isNone=true:=by kernel_rfl
theorem Ji:Tryz.prog.stopsHeard=true:=by kernel_rfl
theorem Jj:Tryz.prog.mayEnter=true:=by kernel_rfl
theorem Jk:(Rows.wholeExpiryRow.lifted == Tryz.prog.liftsFinal)=true:=by kernel_rfl
theorem Jl:(Tryz.prog.make == some Rows.wholeExpiryRow.make)=true:=by kernel_rfl
theorem Jm:(Rows.wholeExpiryRow.pinned == Rows.wholeExpiryRow.pinnedBy)=true:=by kernel_rfl
theorem Jn:(Rows.wholeExpiryRow.veiled == (Tryz.f5.params.toList++(OpenSpec.ofChange Rows.wholeExpirySpec).bare.plain.varTypes Tryz.prog++Tryz.f5.resultTypes.toList).any (Tryz.prog.veiledRec ·))=true:=by kernel_rfl
theorem Jo:Rows.wholeExpiryRow.veiledFits Tryz.prog Tryz.f5.params.toList (Tryz.f5.params.toList++(OpenSpec.ofChange Rows.wholeExpirySpec).bare.plain.varTypes Tryz.prog++Tryz.f5.resultTypes.toList)=true:=by kernel_rfl
theorem KQ:Rows.wholeExpiryRow.wfByText (OpenSpec.ofChange Rows.wholeExpirySpec)=true:=by kernel_rfl
theorem Ii:Tryz.prog.mainIs=some (Rows.wholeExpiryCard.stood.harness.1,Rows.wholeExpiryCard.stood.harness.2.toList):=by kernel_rfl
theorem GM:true=Tryz.prog.looks []:=by kernel_rfl
theorem Ie:false=Rows.wholeExpiryRow.goesBy Tryz.prog:=NK rfl Su
end Go.Proofs.YtkcolpfanmdmiaaGreatDoor
