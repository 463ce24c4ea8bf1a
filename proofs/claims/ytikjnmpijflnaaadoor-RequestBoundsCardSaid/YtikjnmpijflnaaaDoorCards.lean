/-
  DERIVED. GIVEN WITH THE SEED: THE CARDS: each row of YtikjnmpijflnaaaDoorRows.lean that lists a variable, with what it lists TIED to the program's text (the seventh form; the later family's looks); each row that meets fmt, with fmt's text TOLD by the authors' own Lean function (tested against real Go, not proved from fmt's source: count such statements apart). THE CARD IS WHAT COUNTS. Prove the row's statement (the work); the ties are given (YtikjnmpijflnaaaDoorTie.lean); close each card by the builder's one call (the guide's Derived/Test/ToyasCard.lean, 'card_holds'). Laid BY PROGRAM, IN A SANDBOX (cutbox-door.mjs). By AI agents, Wed Nov 11 2026. No macro, syntax, notation, axiom, sorry.
-/
import Derived.Test.YtikjnmpijflnaaaDoorRows
import GoSem.ClaimSeven
namespace Go.Proofs.YtikjnmpijflnaaaDoor
namespace Rows

/-- THE TIED CARD OF 'pentimentolaw04.RespApart'. -/
def respApartCard : Claim7 := { stood := { row := respApartRow, standIns := [], harness := (true, "d9a7b6281b9dd3b7f5a96cabc7a110f2ac3d49f3d0905e9c5212a3853f2eb1d7"), looks := true }, kinds := [], alts := [], laidByText := true, laidKinds := [.data, .data, .data], laidTests := true, laidLooks := .later }
def RespApartCardSaid : Prop := Claim7.holds Tryd.pinned (.plain (OpenSpec.ofChange respApartSpec)) respApartCard

/-- THE TIED CARD OF 'pentimentolaw04.RespMakes'. -/
def respMakesCard : Claim7 := { stood := { row := respMakesRow, standIns := [], harness := (true, "d9a7b6281b9dd3b7f5a96cabc7a110f2ac3d49f3d0905e9c5212a3853f2eb1d7"), looks := true }, kinds := [], alts := [], laidByText := true, laidKinds := [.data, .data, .data], laidTests := true, laidLooks := .later }
def RespMakesCardSaid : Prop := Claim7.holds Tryd.pinned (.plain (OpenSpec.ofChange respMakesSpec)) respMakesCard

/-- THE TIED CARD OF 'pentimentolaw05.RequestFeeds'. -/
def requestFeedsCard : Claim7 := { stood := { row := requestFeedsRow, standIns := [], harness := (true, "d9a7b6281b9dd3b7f5a96cabc7a110f2ac3d49f3d0905e9c5212a3853f2eb1d7"), looks := true }, kinds := [], alts := [], laidByText := true, laidKinds := [.data, .data, .data, .sentinel, .sentinel], laidTests := true, laidLooks := .later }
def RequestFeedsCardSaid : Prop := Claim7.holds Tryd.pinned (.plain (OpenSpec.ofChange requestFeedsSpec)) requestFeedsCard

/-- THE TIED CARD OF 'pentimentolaw05.RequestBounds'. -/
def requestBoundsCard : Claim7 := { stood := { row := requestBoundsRow, standIns := [], harness := (true, "d9a7b6281b9dd3b7f5a96cabc7a110f2ac3d49f3d0905e9c5212a3853f2eb1d7"), looks := true }, kinds := [], alts := [], laidByText := true, laidKinds := [.data, .data, .data, .sentinel, .sentinel], laidTests := true, laidLooks := .later }
def RequestBoundsCardSaid : Prop := Claim7.holds Tryd.pinned (.plain (OpenSpec.ofChange requestBoundsSpec)) requestBoundsCard

/-- THE TIED CARD OF 'pentimentolaw05.RequestBack'. -/
def requestBackCard : Claim7 := { stood := { row := requestBackRow, standIns := [], harness := (true, "d9a7b6281b9dd3b7f5a96cabc7a110f2ac3d49f3d0905e9c5212a3853f2eb1d7"), looks := true }, kinds := [], alts := [], laidByText := true, laidKinds := [.data, .data, .data, .sentinel, .sentinel], laidTests := true, laidLooks := .later }
def RequestBackCardSaid : Prop := Claim7.holds Tryd.pinned (.plain (OpenSpec.ofChange requestBackSpec)) requestBackCard

/-- THE TIED CARD OF 'pentimentolaw05.RequestInline'. -/
def requestInlineCard : Claim7 := { stood := { row := requestInlineRow, standIns := [], harness := (true, "d9a7b6281b9dd3b7f5a96cabc7a110f2ac3d49f3d0905e9c5212a3853f2eb1d7"), looks := true }, kinds := [], alts := [], laidByText := true, laidKinds := [.data, .data, .data, .sentinel, .sentinel], laidTests := true, laidLooks := .later }
def RequestInlineCardSaid : Prop := Claim7.holds Tryd.pinned (.plain (OpenSpec.ofChange requestInlineSpec)) requestInlineCard

/-- THE TIED CARD OF 'pentimentolaw04.RespMany'. -/
def respManyCard : Claim7 := { stood := { row := respManyRow, standIns := [], harness := (true, "d9a7b6281b9dd3b7f5a96cabc7a110f2ac3d49f3d0905e9c5212a3853f2eb1d7"), looks := true }, kinds := [], alts := [], laidByText := true, laidKinds := [.data, .data, .data, .data, .sentinel, .sentinel, .pinned], laidTests := true, laidLooks := .later }
def RespManyCardSaid : Prop := Claim7.holds Tryd.pinned (.plain (OpenSpec.ofChange respManySpec)) respManyCard

/-- THE TIED CARD OF 'pentimentolaw04.RespReads'. -/
def respReadsCard : Claim7 := { stood := { row := respReadsRow, standIns := [], harness := (true, "d9a7b6281b9dd3b7f5a96cabc7a110f2ac3d49f3d0905e9c5212a3853f2eb1d7"), looks := true }, kinds := [], alts := [], laidByText := true, laidKinds := [.data, .data, .data, .data, .sentinel, .sentinel, .pinned], laidTests := true, laidLooks := .later }
def RespReadsCardSaid : Prop := Claim7.holds Tryd.pinned (.plain (OpenSpec.ofChange respReadsSpec)) respReadsCard

/-- THE TIED CARD OF 'pentimentolaw04.RespWrites'. -/
def respWritesCard : Claim7 := { stood := { row := respWritesRow, standIns := [], harness := (true, "d9a7b6281b9dd3b7f5a96cabc7a110f2ac3d49f3d0905e9c5212a3853f2eb1d7"), looks := true }, kinds := [], alts := [], laidByText := true, laidKinds := [.data, .data, .data, .data, .sentinel, .sentinel, .pinned], laidTests := true, laidLooks := .later }
def RespWritesCardSaid : Prop := Claim7.holds Tryd.pinned (.plain (OpenSpec.ofChange respWritesSpec)) respWritesCard

/-- THE SECOND FORM's CARD OF 'pentimentolaw04.RespApart'. -/
def respApartUptoCard : Claim7 := { stood := { row := respApartUptoRow, standIns := [], harness := (true, "d9a7b6281b9dd3b7f5a96cabc7a110f2ac3d49f3d0905e9c5212a3853f2eb1d7"), looks := true }, kinds := [], alts := [], laidByText := true, laidKinds := [.data, .data, .data], laidTests := true, laidLooks := .later }
def RespApartUptoCardSaid : Prop := Claim7.holds Tryd.pinned (.plain (OpenSpec.upto respApartSpec)) respApartUptoCard

/-- THE SECOND FORM's CARD OF 'pentimentolaw04.RespMakes'. -/
def respMakesUptoCard : Claim7 := { stood := { row := respMakesUptoRow, standIns := [], harness := (true, "d9a7b6281b9dd3b7f5a96cabc7a110f2ac3d49f3d0905e9c5212a3853f2eb1d7"), looks := true }, kinds := [], alts := [], laidByText := true, laidKinds := [.data, .data, .data], laidTests := true, laidLooks := .later }
def RespMakesUptoCardSaid : Prop := Claim7.holds Tryd.pinned (.plain (OpenSpec.upto respMakesSpec)) respMakesUptoCard

/-- THE SECOND FORM's CARD OF 'pentimentolaw05.RequestFeeds'. -/
def requestFeedsUptoCard : Claim7 := { stood := { row := requestFeedsUptoRow, standIns := [], harness := (true, "d9a7b6281b9dd3b7f5a96cabc7a110f2ac3d49f3d0905e9c5212a3853f2eb1d7"), looks := true }, kinds := [], alts := [], laidByText := true, laidKinds := [.data, .data, .data, .sentinel, .sentinel], laidTests := true, laidLooks := .later }
def RequestFeedsUptoCardSaid : Prop := Claim7.holds Tryd.pinned (.plain (OpenSpec.upto requestFeedsSpec)) requestFeedsUptoCard

/-- THE SECOND FORM's CARD OF 'pentimentolaw05.RequestBounds'. -/
def requestBoundsUptoCard : Claim7 := { stood := { row := requestBoundsUptoRow, standIns := [], harness := (true, "d9a7b6281b9dd3b7f5a96cabc7a110f2ac3d49f3d0905e9c5212a3853f2eb1d7"), looks := true }, kinds := [], alts := [], laidByText := true, laidKinds := [.data, .data, .data, .sentinel, .sentinel], laidTests := true, laidLooks := .later }
def RequestBoundsUptoCardSaid : Prop := Claim7.holds Tryd.pinned (.plain (OpenSpec.upto requestBoundsSpec)) requestBoundsUptoCard

/-- THE SECOND FORM's CARD OF 'pentimentolaw05.RequestBack'. -/
def requestBackUptoCard : Claim7 := { stood := { row := requestBackUptoRow, standIns := [], harness := (true, "d9a7b6281b9dd3b7f5a96cabc7a110f2ac3d49f3d0905e9c5212a3853f2eb1d7"), looks := true }, kinds := [], alts := [], laidByText := true, laidKinds := [.data, .data, .data, .sentinel, .sentinel], laidTests := true, laidLooks := .later }
def RequestBackUptoCardSaid : Prop := Claim7.holds Tryd.pinned (.plain (OpenSpec.upto requestBackSpec)) requestBackUptoCard

/-- THE SECOND FORM's CARD OF 'pentimentolaw05.RequestInline'. -/
def requestInlineUptoCard : Claim7 := { stood := { row := requestInlineUptoRow, standIns := [], harness := (true, "d9a7b6281b9dd3b7f5a96cabc7a110f2ac3d49f3d0905e9c5212a3853f2eb1d7"), looks := true }, kinds := [], alts := [], laidByText := true, laidKinds := [.data, .data, .data, .sentinel, .sentinel], laidTests := true, laidLooks := .later }
def RequestInlineUptoCardSaid : Prop := Claim7.holds Tryd.pinned (.plain (OpenSpec.upto requestInlineSpec)) requestInlineUptoCard

/-- THE SECOND FORM's CARD OF 'pentimentolaw04.RespMany'. -/
def respManyUptoCard : Claim7 := { stood := { row := respManyUptoRow, standIns := [], harness := (true, "d9a7b6281b9dd3b7f5a96cabc7a110f2ac3d49f3d0905e9c5212a3853f2eb1d7"), looks := true }, kinds := [], alts := [], laidByText := true, laidKinds := [.data, .data, .data, .data, .sentinel, .sentinel, .pinned], laidTests := true, laidLooks := .later }
def RespManyUptoCardSaid : Prop := Claim7.holds Tryd.pinned (.plain (OpenSpec.upto respManySpec)) respManyUptoCard

/-- THE SECOND FORM's CARD OF 'pentimentolaw04.RespReads'. -/
def respReadsUptoCard : Claim7 := { stood := { row := respReadsUptoRow, standIns := [], harness := (true, "d9a7b6281b9dd3b7f5a96cabc7a110f2ac3d49f3d0905e9c5212a3853f2eb1d7"), looks := true }, kinds := [], alts := [], laidByText := true, laidKinds := [.data, .data, .data, .data, .sentinel, .sentinel, .pinned], laidTests := true, laidLooks := .later }
def RespReadsUptoCardSaid : Prop := Claim7.holds Tryd.pinned (.plain (OpenSpec.upto respReadsSpec)) respReadsUptoCard

/-- THE SECOND FORM's CARD OF 'pentimentolaw04.RespWrites'. -/
def respWritesUptoCard : Claim7 := { stood := { row := respWritesUptoRow, standIns := [], harness := (true, "d9a7b6281b9dd3b7f5a96cabc7a110f2ac3d49f3d0905e9c5212a3853f2eb1d7"), looks := true }, kinds := [], alts := [], laidByText := true, laidKinds := [.data, .data, .data, .data, .sentinel, .sentinel, .pinned], laidTests := true, laidLooks := .later }
def RespWritesUptoCardSaid : Prop := Claim7.holds Tryd.pinned (.plain (OpenSpec.upto respWritesSpec)) respWritesUptoCard
end Rows
end Go.Proofs.YtikjnmpijflnaaaDoor
