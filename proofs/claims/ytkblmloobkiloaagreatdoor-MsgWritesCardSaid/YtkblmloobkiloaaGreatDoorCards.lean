/-
  DERIVED. GIVEN WITH THE SEED: THE CARDS: each row of YtkblmloobkiloaaGreatDoorRows.lean that lists a variable, with what it lists TIED to the program's text (the seventh form; the later family's looks); each row that meets fmt, with fmt's text TOLD by the authors' own Lean function (tested against real Go, not proved from fmt's source: count such statements apart). THE CARD IS WHAT COUNTS. Prove the row's statement (the work); the ties are given (YtkblmloobkiloaaGreatDoorTie.lean); close each card by the builder's one call (the guide's Derived/Test/ToyasCard.lean, 'card_holds'). Laid BY PROGRAM, IN A SANDBOX (cutbox-door.mjs). By AI agents, Wed Nov 11 2026. No macro, syntax, notation, axiom, sorry.
-/
import Derived.Test.YtkblmloobkiloaaGreatDoorRows
import GoSem.ClaimSeven
namespace Go.Proofs.YtkblmloobkiloaaGreatDoor
namespace Rows

/-- THE TIED CARD OF 'vergerlaw03.MsgReads'. -/
def msgReadsCard : Claim7 := { stood := { row := msgReadsRow, standIns := [], harness := (true, "822a788d2794de27dc309eb817cb2ce8b637194dbdba9d0a2c346149da3bd0e5"), looks := true }, kinds := [], alts := [], laidByText := true, laidKinds := [.data, .data, .data, .data, .sentinel, .sentinel, .pinned], laidTests := true, laidLooks := .later }
def MsgReadsCardSaid : Prop := Claim7.holds Tryz.pinned (.plain (OpenSpec.ofChange msgReadsSpec)) msgReadsCard

/-- THE TIED CARD OF 'vergerlaw03.MsgLines'. -/
def msgLinesCard : Claim7 := { stood := { row := msgLinesRow, standIns := [], harness := (true, "822a788d2794de27dc309eb817cb2ce8b637194dbdba9d0a2c346149da3bd0e5"), looks := true }, kinds := [], alts := [], laidByText := true, laidKinds := [.data, .data, .data, .data, .sentinel, .sentinel, .pinned], laidTests := true, laidLooks := .later }
def MsgLinesCardSaid : Prop := Claim7.holds Tryz.pinned (.plain (OpenSpec.ofChange msgLinesSpec)) msgLinesCard

/-- THE TIED CARD OF 'vergerlaw03.MsgLine'. -/
def msgLineCard : Claim7 := { stood := { row := msgLineRow, standIns := [], harness := (true, "822a788d2794de27dc309eb817cb2ce8b637194dbdba9d0a2c346149da3bd0e5"), looks := true }, kinds := [], alts := [], laidByText := true, laidKinds := [.data, .data, .data, .data, .sentinel, .sentinel, .pinned], laidTests := true, laidLooks := .later }
def MsgLineCardSaid : Prop := Claim7.holds Tryz.pinned (.plain (OpenSpec.ofChange msgLineSpec)) msgLineCard

/-- THE TIED CARD OF 'vergerlaw03.MsgAfter'. -/
def msgAfterCard : Claim7 := { stood := { row := msgAfterRow, standIns := [], harness := (true, "822a788d2794de27dc309eb817cb2ce8b637194dbdba9d0a2c346149da3bd0e5"), looks := true }, kinds := [], alts := [], laidByText := true, laidKinds := [.data, .data, .data, .data, .sentinel, .sentinel, .pinned], laidTests := true, laidLooks := .later }
def MsgAfterCardSaid : Prop := Claim7.holds Tryz.pinned (.plain (OpenSpec.ofChange msgAfterSpec)) msgAfterCard

/-- THE TIED CARD OF 'vergerlaw03.MsgWrites'. -/
def msgWritesCard : Claim7 := { stood := { row := msgWritesRow, standIns := [], harness := (true, "822a788d2794de27dc309eb817cb2ce8b637194dbdba9d0a2c346149da3bd0e5"), looks := true }, kinds := [], alts := [], laidByText := true, laidKinds := [.data, .data, .data, .data, .sentinel, .sentinel, .pinned], laidTests := true, laidLooks := .later }
def MsgWritesCardSaid : Prop := Claim7.holds Tryz.pinned (.plain (OpenSpec.ofChange msgWritesSpec)) msgWritesCard

/-- THE TIED CARD OF 'vergerlaw03.MsgBack'. -/
def msgBackCard : Claim7 := { stood := { row := msgBackRow, standIns := [], harness := (true, "822a788d2794de27dc309eb817cb2ce8b637194dbdba9d0a2c346149da3bd0e5"), looks := true }, kinds := [], alts := [], laidByText := true, laidKinds := [.data, .data, .data, .data, .sentinel, .sentinel, .pinned], laidTests := true, laidLooks := .later }
def MsgBackCardSaid : Prop := Claim7.holds Tryz.pinned (.plain (OpenSpec.ofChange msgBackSpec)) msgBackCard

/-- THE TIED CARD OF 'vergerlaw03.MsgOne'. -/
def msgOneCard : Claim7 := { stood := { row := msgOneRow, standIns := [], harness := (true, "822a788d2794de27dc309eb817cb2ce8b637194dbdba9d0a2c346149da3bd0e5"), looks := true }, kinds := [], alts := [], laidByText := true, laidKinds := [.data, .data, .data, .data, .sentinel, .sentinel, .pinned], laidTests := true, laidLooks := .later }
def MsgOneCardSaid : Prop := Claim7.holds Tryz.pinned (.plain (OpenSpec.ofChange msgOneSpec)) msgOneCard

/-- THE TIED CARD OF 'vergerlaw03.MsgApart'. -/
def msgApartCard : Claim7 := { stood := { row := msgApartRow, standIns := [], harness := (true, "822a788d2794de27dc309eb817cb2ce8b637194dbdba9d0a2c346149da3bd0e5"), looks := true }, kinds := [], alts := [], laidByText := true, laidKinds := [.data, .data, .data, .data, .sentinel, .sentinel, .pinned], laidTests := true, laidLooks := .later }
def MsgApartCardSaid : Prop := Claim7.holds Tryz.pinned (.plain (OpenSpec.ofChange msgApartSpec)) msgApartCard

/-- THE TIED CARD OF 'vergerlaw03.MsgKinds'. -/
def msgKindsCard : Claim7 := { stood := { row := msgKindsRow, standIns := [], harness := (true, "822a788d2794de27dc309eb817cb2ce8b637194dbdba9d0a2c346149da3bd0e5"), looks := true }, kinds := [], alts := [], laidByText := true, laidKinds := [.data, .data, .data, .data, .sentinel, .sentinel, .pinned], laidTests := true, laidLooks := .later }
def MsgKindsCardSaid : Prop := Claim7.holds Tryz.pinned (.plain (OpenSpec.ofChange msgKindsSpec)) msgKindsCard

/-- THE SECOND FORM's CARD OF 'vergerlaw03.MsgReads'. -/
def msgReadsUptoCard : Claim7 := { stood := { row := msgReadsUptoRow, standIns := [], harness := (true, "822a788d2794de27dc309eb817cb2ce8b637194dbdba9d0a2c346149da3bd0e5"), looks := true }, kinds := [], alts := [], laidByText := true, laidKinds := [.data, .data, .data, .data, .sentinel, .sentinel, .pinned], laidTests := true, laidLooks := .later }
def MsgReadsUptoCardSaid : Prop := Claim7.holds Tryz.pinned (.plain (OpenSpec.upto msgReadsSpec)) msgReadsUptoCard

/-- THE SECOND FORM's CARD OF 'vergerlaw03.MsgLines'. -/
def msgLinesUptoCard : Claim7 := { stood := { row := msgLinesUptoRow, standIns := [], harness := (true, "822a788d2794de27dc309eb817cb2ce8b637194dbdba9d0a2c346149da3bd0e5"), looks := true }, kinds := [], alts := [], laidByText := true, laidKinds := [.data, .data, .data, .data, .sentinel, .sentinel, .pinned], laidTests := true, laidLooks := .later }
def MsgLinesUptoCardSaid : Prop := Claim7.holds Tryz.pinned (.plain (OpenSpec.upto msgLinesSpec)) msgLinesUptoCard

/-- THE SECOND FORM's CARD OF 'vergerlaw03.MsgLine'. -/
def msgLineUptoCard : Claim7 := { stood := { row := msgLineUptoRow, standIns := [], harness := (true, "822a788d2794de27dc309eb817cb2ce8b637194dbdba9d0a2c346149da3bd0e5"), looks := true }, kinds := [], alts := [], laidByText := true, laidKinds := [.data, .data, .data, .data, .sentinel, .sentinel, .pinned], laidTests := true, laidLooks := .later }
def MsgLineUptoCardSaid : Prop := Claim7.holds Tryz.pinned (.plain (OpenSpec.upto msgLineSpec)) msgLineUptoCard

/-- THE SECOND FORM's CARD OF 'vergerlaw03.MsgAfter'. -/
def msgAfterUptoCard : Claim7 := { stood := { row := msgAfterUptoRow, standIns := [], harness := (true, "822a788d2794de27dc309eb817cb2ce8b637194dbdba9d0a2c346149da3bd0e5"), looks := true }, kinds := [], alts := [], laidByText := true, laidKinds := [.data, .data, .data, .data, .sentinel, .sentinel, .pinned], laidTests := true, laidLooks := .later }
def MsgAfterUptoCardSaid : Prop := Claim7.holds Tryz.pinned (.plain (OpenSpec.upto msgAfterSpec)) msgAfterUptoCard

/-- THE SECOND FORM's CARD OF 'vergerlaw03.MsgWrites'. -/
def msgWritesUptoCard : Claim7 := { stood := { row := msgWritesUptoRow, standIns := [], harness := (true, "822a788d2794de27dc309eb817cb2ce8b637194dbdba9d0a2c346149da3bd0e5"), looks := true }, kinds := [], alts := [], laidByText := true, laidKinds := [.data, .data, .data, .data, .sentinel, .sentinel, .pinned], laidTests := true, laidLooks := .later }
def MsgWritesUptoCardSaid : Prop := Claim7.holds Tryz.pinned (.plain (OpenSpec.upto msgWritesSpec)) msgWritesUptoCard

/-- THE SECOND FORM's CARD OF 'vergerlaw03.MsgBack'. -/
def msgBackUptoCard : Claim7 := { stood := { row := msgBackUptoRow, standIns := [], harness := (true, "822a788d2794de27dc309eb817cb2ce8b637194dbdba9d0a2c346149da3bd0e5"), looks := true }, kinds := [], alts := [], laidByText := true, laidKinds := [.data, .data, .data, .data, .sentinel, .sentinel, .pinned], laidTests := true, laidLooks := .later }
def MsgBackUptoCardSaid : Prop := Claim7.holds Tryz.pinned (.plain (OpenSpec.upto msgBackSpec)) msgBackUptoCard

/-- THE SECOND FORM's CARD OF 'vergerlaw03.MsgOne'. -/
def msgOneUptoCard : Claim7 := { stood := { row := msgOneUptoRow, standIns := [], harness := (true, "822a788d2794de27dc309eb817cb2ce8b637194dbdba9d0a2c346149da3bd0e5"), looks := true }, kinds := [], alts := [], laidByText := true, laidKinds := [.data, .data, .data, .data, .sentinel, .sentinel, .pinned], laidTests := true, laidLooks := .later }
def MsgOneUptoCardSaid : Prop := Claim7.holds Tryz.pinned (.plain (OpenSpec.upto msgOneSpec)) msgOneUptoCard

/-- THE SECOND FORM's CARD OF 'vergerlaw03.MsgApart'. -/
def msgApartUptoCard : Claim7 := { stood := { row := msgApartUptoRow, standIns := [], harness := (true, "822a788d2794de27dc309eb817cb2ce8b637194dbdba9d0a2c346149da3bd0e5"), looks := true }, kinds := [], alts := [], laidByText := true, laidKinds := [.data, .data, .data, .data, .sentinel, .sentinel, .pinned], laidTests := true, laidLooks := .later }
def MsgApartUptoCardSaid : Prop := Claim7.holds Tryz.pinned (.plain (OpenSpec.upto msgApartSpec)) msgApartUptoCard

/-- THE SECOND FORM's CARD OF 'vergerlaw03.MsgKinds'. -/
def msgKindsUptoCard : Claim7 := { stood := { row := msgKindsUptoRow, standIns := [], harness := (true, "822a788d2794de27dc309eb817cb2ce8b637194dbdba9d0a2c346149da3bd0e5"), looks := true }, kinds := [], alts := [], laidByText := true, laidKinds := [.data, .data, .data, .data, .sentinel, .sentinel, .pinned], laidTests := true, laidLooks := .later }
def MsgKindsUptoCardSaid : Prop := Claim7.holds Tryz.pinned (.plain (OpenSpec.upto msgKindsSpec)) msgKindsUptoCard
end Rows
end Go.Proofs.YtkblmloobkiloaaGreatDoor
