/-
  DERIVED. GIVEN WITH THE SEED: THE CARDS: each row of YtipbakiecocioaaGreatDoorRows.lean that lists a variable, with what it lists TIED to the program's text (the seventh form; the later family's looks); each row that meets fmt, with fmt's text TOLD by the authors' own Lean function (tested against real Go, not proved from fmt's source: count such statements apart). THE CARD IS WHAT COUNTS. Prove the row's statement (the work); the ties are given (YtipbakiecocioaaGreatDoorTie.lean); close each card by the builder's one call (the guide's Derived/Test/ToyasCard.lean, 'card_holds'). Laid BY PROGRAM, IN A SANDBOX (cutbox-door.mjs). By AI agents, Wed Nov 11 2026. No macro, syntax, notation, axiom, sorry.
-/
import Derived.Test.YtipbakiecocioaaGreatDoorRows
import GoSem.ClaimSeven
namespace Go.Proofs.YtipbakiecocioaaGreatDoor
namespace Rows

/-- THE TIED CARD OF 'pentimentolaw30.AuditReads'. -/
def auditReadsCard : Claim7 := { stood := { row := auditReadsRow, standIns := [], harness := (true, "901761dbc72d702a5cc7bdc1ee000d1a498e20a570d6598be862cd449582279e"), looks := true }, kinds := [], alts := [], laidByText := true, laidKinds := [.data, .data, .data, .data, .sentinel, .sentinel, .pinned], laidTests := true, laidLooks := .later }
def AuditReadsCardSaid : Prop := Claim7.holds Tryz.pinned (.plain (OpenSpec.ofChange auditReadsSpec)) auditReadsCard

/-- THE TIED CARD OF 'pentimentolaw30.AuditSerial'. -/
def auditSerialCard : Claim7 := { stood := { row := auditSerialRow, standIns := [], harness := (true, "901761dbc72d702a5cc7bdc1ee000d1a498e20a570d6598be862cd449582279e"), looks := true }, kinds := [], alts := [], laidByText := true, laidKinds := [.data, .data, .data, .data, .sentinel, .sentinel, .pinned], laidTests := true, laidLooks := .later }
def AuditSerialCardSaid : Prop := Claim7.holds Tryz.pinned (.plain (OpenSpec.ofChange auditSerialSpec)) auditSerialCard

/-- THE SECOND FORM's CARD OF 'pentimentolaw30.AuditReads'. -/
def auditReadsUptoCard : Claim7 := { stood := { row := auditReadsUptoRow, standIns := [], harness := (true, "901761dbc72d702a5cc7bdc1ee000d1a498e20a570d6598be862cd449582279e"), looks := true }, kinds := [], alts := [], laidByText := true, laidKinds := [.data, .data, .data, .data, .sentinel, .sentinel, .pinned], laidTests := true, laidLooks := .later }
def AuditReadsUptoCardSaid : Prop := Claim7.holds Tryz.pinned (.plain (OpenSpec.upto auditReadsSpec)) auditReadsUptoCard

/-- THE SECOND FORM's CARD OF 'pentimentolaw30.AuditSerial'. -/
def auditSerialUptoCard : Claim7 := { stood := { row := auditSerialUptoRow, standIns := [], harness := (true, "901761dbc72d702a5cc7bdc1ee000d1a498e20a570d6598be862cd449582279e"), looks := true }, kinds := [], alts := [], laidByText := true, laidKinds := [.data, .data, .data, .data, .sentinel, .sentinel, .pinned], laidTests := true, laidLooks := .later }
def AuditSerialUptoCardSaid : Prop := Claim7.holds Tryz.pinned (.plain (OpenSpec.upto auditSerialSpec)) auditSerialUptoCard
end Rows
end Go.Proofs.YtipbakiecocioaaGreatDoor
