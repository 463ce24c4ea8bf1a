/-
  DERIVED. GIVEN WITH THE SEED: THE CARDS: each row of YtkcolpfanmdmiaaGreatDoorRows.lean that lists a variable, with what it lists TIED to the program's text (the seventh form; the later family's looks); each row that meets fmt, with fmt's text TOLD by the authors' own Lean function (tested against real Go, not proved from fmt's source: count such statements apart). THE CARD IS WHAT COUNTS. Prove the row's statement (the work); the ties are given (YtkcolpfanmdmiaaGreatDoorTie.lean); close each card by the builder's one call (the guide's Derived/Test/ToyasCard.lean, 'card_holds'). Laid BY PROGRAM, IN A SANDBOX (cutbox-door.mjs). By AI agents, Wed Nov 11 2026. No macro, syntax, notation, axiom, sorry.
-/
import Derived.Test.YtkcolpfanmdmiaaGreatDoorRows
import GoSem.ClaimSeven
namespace Go.Proofs.YtkcolpfanmdmiaaGreatDoor
namespace Rows

/-- THE TIED CARD OF 'pentimentotop.WholeOld'. -/
def wholeOldCard : Claim7 := { stood := { row := wholeOldRow, standIns := [], harness := (true, "13152cfa3cc7b421556f685b7baf2d90b8a463f84be1d37a05ee42d03c2a88b3"), looks := true }, kinds := [], alts := [], laidByText := true, laidKinds := [.sentinel, .sentinel, .data, .data, .data], laidTests := true, laidLooks := .later }
def WholeOldCardSaid : Prop := Claim7.holds Tryz.pinned (.plain (OpenSpec.ofChange wholeOldSpec)) wholeOldCard

/-- THE TIED CARD OF 'pentimentotop.WholeFull'. -/
def wholeFullCard : Claim7 := { stood := { row := wholeFullRow, standIns := [], harness := (true, "13152cfa3cc7b421556f685b7baf2d90b8a463f84be1d37a05ee42d03c2a88b3"), looks := true }, kinds := [], alts := [], laidByText := true, laidKinds := [.sentinel, .sentinel, .data, .data, .data], laidTests := true, laidLooks := .later }
def WholeFullCardSaid : Prop := Claim7.holds Tryz.pinned (.plain (OpenSpec.ofChange wholeFullSpec)) wholeFullCard

/-- THE TIED CARD OF 'pentimentotop.WholeExpiry'. -/
def wholeExpiryCard : Claim7 := { stood := { row := wholeExpiryRow, standIns := [], harness := (true, "13152cfa3cc7b421556f685b7baf2d90b8a463f84be1d37a05ee42d03c2a88b3"), looks := true }, kinds := [], alts := [], laidByText := true, laidKinds := [.sentinel, .sentinel, .data, .data, .data], laidTests := true, laidLooks := .later }
def WholeExpiryCardSaid : Prop := Claim7.holds Tryz.pinned (.plain (OpenSpec.ofChange wholeExpirySpec)) wholeExpiryCard

/-- THE SECOND FORM's CARD OF 'pentimentotop.WholeOld'. -/
def wholeOldUptoCard : Claim7 := { stood := { row := wholeOldUptoRow, standIns := [], harness := (true, "13152cfa3cc7b421556f685b7baf2d90b8a463f84be1d37a05ee42d03c2a88b3"), looks := true }, kinds := [], alts := [], laidByText := true, laidKinds := [.sentinel, .sentinel, .data, .data, .data], laidTests := true, laidLooks := .later }
def WholeOldUptoCardSaid : Prop := Claim7.holds Tryz.pinned (.plain (OpenSpec.upto wholeOldSpec)) wholeOldUptoCard

/-- THE SECOND FORM's CARD OF 'pentimentotop.WholeFull'. -/
def wholeFullUptoCard : Claim7 := { stood := { row := wholeFullUptoRow, standIns := [], harness := (true, "13152cfa3cc7b421556f685b7baf2d90b8a463f84be1d37a05ee42d03c2a88b3"), looks := true }, kinds := [], alts := [], laidByText := true, laidKinds := [.sentinel, .sentinel, .data, .data, .data], laidTests := true, laidLooks := .later }
def WholeFullUptoCardSaid : Prop := Claim7.holds Tryz.pinned (.plain (OpenSpec.upto wholeFullSpec)) wholeFullUptoCard

/-- THE SECOND FORM's CARD OF 'pentimentotop.WholeExpiry'. -/
def wholeExpiryUptoCard : Claim7 := { stood := { row := wholeExpiryUptoRow, standIns := [], harness := (true, "13152cfa3cc7b421556f685b7baf2d90b8a463f84be1d37a05ee42d03c2a88b3"), looks := true }, kinds := [], alts := [], laidByText := true, laidKinds := [.sentinel, .sentinel, .data, .data, .data], laidTests := true, laidLooks := .later }
def WholeExpiryUptoCardSaid : Prop := Claim7.holds Tryz.pinned (.plain (OpenSpec.upto wholeExpirySpec)) wholeExpiryUptoCard
end Rows
end Go.Proofs.YtkcolpfanmdmiaaGreatDoor
