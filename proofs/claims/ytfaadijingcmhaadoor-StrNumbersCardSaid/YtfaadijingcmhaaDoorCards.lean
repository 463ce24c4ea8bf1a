/-
  DERIVED. GIVEN WITH THE SEED: THE CARDS: each row of YtfaadijingcmhaaDoorRows.lean that lists a variable, with what it lists TIED to the program's text (the seventh form; the later family's looks); each row that meets fmt, with fmt's text TOLD by the authors' own Lean function (tested against real Go, not proved from fmt's source: count such statements apart). THE CARD IS WHAT COUNTS. Prove the row's statement (the work); the ties are given (YtfaadijingcmhaaDoorTie.lean); close each card by the builder's one call (the guide's Derived/Test/ToyasCard.lean, 'card_holds'). Laid BY PROGRAM, IN A SANDBOX (cutbox-door.mjs). By AI agents, Wed Nov 11 2026. No macro, syntax, notation, axiom, sorry.
-/
import Derived.Test.YtfaadijingcmhaaDoorRows
import GoSem.ClaimSeven
namespace Go.Proofs.YtfaadijingcmhaaDoor
namespace Rows

/-- THE TIED CARD OF 'pentimentolaw01.NumOrder'. -/
def numOrderCard : Claim7 := { stood := { row := numOrderRow, standIns := [], harness := (true, "05aae31b0eb7798a4bb4b669ceb5745adc8e8cda1bb7858a049cad53a713d133"), looks := true }, kinds := [], alts := [], laidByText := true, laidKinds := [.data, .data, .data, .sentinel, .sentinel], laidTests := true, laidLooks := .later }
def NumOrderCardSaid : Prop := Claim7.holds Tryd.pinned (.plain (OpenSpec.ofChange numOrderSpec)) numOrderCard

/-- THE TIED CARD OF 'pentimentolaw01.NumSums'. -/
def numSumsCard : Claim7 := { stood := { row := numSumsRow, standIns := [], harness := (true, "05aae31b0eb7798a4bb4b669ceb5745adc8e8cda1bb7858a049cad53a713d133"), looks := true }, kinds := [], alts := [], laidByText := true, laidKinds := [.data, .data, .data, .sentinel, .sentinel], laidTests := true, laidLooks := .later }
def NumSumsCardSaid : Prop := Claim7.holds Tryd.pinned (.plain (OpenSpec.ofChange numSumsSpec)) numSumsCard

/-- THE TIED CARD OF 'pentimentolaw01.NumBack'. -/
def numBackCard : Claim7 := { stood := { row := numBackRow, standIns := [], harness := (true, "05aae31b0eb7798a4bb4b669ceb5745adc8e8cda1bb7858a049cad53a713d133"), looks := true }, kinds := [], alts := [], laidByText := true, laidKinds := [.data, .data, .data, .sentinel, .sentinel], laidTests := true, laidLooks := .later }
def NumBackCardSaid : Prop := Claim7.holds Tryd.pinned (.plain (OpenSpec.ofChange numBackSpec)) numBackCard

/-- THE TIED CARD OF 'pentimentolaw09.StrNumbers'. -/
def strNumbersCard : Claim7 := { stood := { row := strNumbersRow, standIns := [], harness := (true, "05aae31b0eb7798a4bb4b669ceb5745adc8e8cda1bb7858a049cad53a713d133"), looks := true }, kinds := [], alts := [], laidByText := true, laidKinds := [.data, .data, .data, .sentinel, .sentinel], laidTests := true, laidLooks := .later }
def StrNumbersCardSaid : Prop := Claim7.holds Tryd.pinned (.plain (OpenSpec.ofChange strNumbersSpec)) strNumbersCard

/-- THE TIED CARD OF 'pentimentolaw09.StrLaid'. -/
def strLaidCard : Claim7 := { stood := { row := strLaidRow, standIns := [], harness := (true, "05aae31b0eb7798a4bb4b669ceb5745adc8e8cda1bb7858a049cad53a713d133"), looks := true }, kinds := [], alts := [], laidByText := true, laidKinds := [.data, .data, .data, .sentinel, .sentinel], laidTests := true, laidLooks := .later }
def StrLaidCardSaid : Prop := Claim7.holds Tryd.pinned (.plain (OpenSpec.ofChange strLaidSpec)) strLaidCard

/-- THE TIED CARD OF 'pentimentolaw09.StrCounts'. -/
def strCountsCard : Claim7 := { stood := { row := strCountsRow, standIns := [], harness := (true, "05aae31b0eb7798a4bb4b669ceb5745adc8e8cda1bb7858a049cad53a713d133"), looks := true }, kinds := [], alts := [], laidByText := true, laidKinds := [.data, .data, .data, .sentinel, .sentinel], laidTests := true, laidLooks := .later }
def StrCountsCardSaid : Prop := Claim7.holds Tryd.pinned (.plain (OpenSpec.ofChange strCountsSpec)) strCountsCard

/-- THE SECOND FORM's CARD OF 'pentimentolaw01.NumOrder'. -/
def numOrderUptoCard : Claim7 := { stood := { row := numOrderUptoRow, standIns := [], harness := (true, "05aae31b0eb7798a4bb4b669ceb5745adc8e8cda1bb7858a049cad53a713d133"), looks := true }, kinds := [], alts := [], laidByText := true, laidKinds := [.data, .data, .data, .sentinel, .sentinel], laidTests := true, laidLooks := .later }
def NumOrderUptoCardSaid : Prop := Claim7.holds Tryd.pinned (.plain (OpenSpec.upto numOrderSpec)) numOrderUptoCard

/-- THE SECOND FORM's CARD OF 'pentimentolaw01.NumSums'. -/
def numSumsUptoCard : Claim7 := { stood := { row := numSumsUptoRow, standIns := [], harness := (true, "05aae31b0eb7798a4bb4b669ceb5745adc8e8cda1bb7858a049cad53a713d133"), looks := true }, kinds := [], alts := [], laidByText := true, laidKinds := [.data, .data, .data, .sentinel, .sentinel], laidTests := true, laidLooks := .later }
def NumSumsUptoCardSaid : Prop := Claim7.holds Tryd.pinned (.plain (OpenSpec.upto numSumsSpec)) numSumsUptoCard

/-- THE SECOND FORM's CARD OF 'pentimentolaw01.NumBack'. -/
def numBackUptoCard : Claim7 := { stood := { row := numBackUptoRow, standIns := [], harness := (true, "05aae31b0eb7798a4bb4b669ceb5745adc8e8cda1bb7858a049cad53a713d133"), looks := true }, kinds := [], alts := [], laidByText := true, laidKinds := [.data, .data, .data, .sentinel, .sentinel], laidTests := true, laidLooks := .later }
def NumBackUptoCardSaid : Prop := Claim7.holds Tryd.pinned (.plain (OpenSpec.upto numBackSpec)) numBackUptoCard

/-- THE SECOND FORM's CARD OF 'pentimentolaw09.StrNumbers'. -/
def strNumbersUptoCard : Claim7 := { stood := { row := strNumbersUptoRow, standIns := [], harness := (true, "05aae31b0eb7798a4bb4b669ceb5745adc8e8cda1bb7858a049cad53a713d133"), looks := true }, kinds := [], alts := [], laidByText := true, laidKinds := [.data, .data, .data, .sentinel, .sentinel], laidTests := true, laidLooks := .later }
def StrNumbersUptoCardSaid : Prop := Claim7.holds Tryd.pinned (.plain (OpenSpec.upto strNumbersSpec)) strNumbersUptoCard

/-- THE SECOND FORM's CARD OF 'pentimentolaw09.StrLaid'. -/
def strLaidUptoCard : Claim7 := { stood := { row := strLaidUptoRow, standIns := [], harness := (true, "05aae31b0eb7798a4bb4b669ceb5745adc8e8cda1bb7858a049cad53a713d133"), looks := true }, kinds := [], alts := [], laidByText := true, laidKinds := [.data, .data, .data, .sentinel, .sentinel], laidTests := true, laidLooks := .later }
def StrLaidUptoCardSaid : Prop := Claim7.holds Tryd.pinned (.plain (OpenSpec.upto strLaidSpec)) strLaidUptoCard

/-- THE SECOND FORM's CARD OF 'pentimentolaw09.StrCounts'. -/
def strCountsUptoCard : Claim7 := { stood := { row := strCountsUptoRow, standIns := [], harness := (true, "05aae31b0eb7798a4bb4b669ceb5745adc8e8cda1bb7858a049cad53a713d133"), looks := true }, kinds := [], alts := [], laidByText := true, laidKinds := [.data, .data, .data, .sentinel, .sentinel], laidTests := true, laidLooks := .later }
def StrCountsUptoCardSaid : Prop := Claim7.holds Tryd.pinned (.plain (OpenSpec.upto strCountsSpec)) strCountsUptoCard
end Rows
end Go.Proofs.YtfaadijingcmhaaDoor
