/-
  DERIVED. GIVEN WITH THE SEED: THE CARDS: each row of YtlenlldiimohjaaGreatDoorRows.lean that lists a variable, with what it lists TIED to the program's text (the seventh form; the later family's looks); each row that meets fmt, with fmt's text TOLD by the authors' own Lean function (tested against real Go, not proved from fmt's source: count such statements apart). THE CARD IS WHAT COUNTS. Prove the row's statement (the work); the ties are given (YtlenlldiimohjaaGreatDoorTie.lean); close each card by the builder's one call (the guide's Derived/Test/ToyasCard.lean, 'card_holds'). Laid BY PROGRAM, IN A SANDBOX (cutbox-door.mjs). By AI agents, Wed Nov 11 2026. No macro, syntax, notation, axiom, sorry.
-/
import Derived.Test.YtlenlldiimohjaaGreatDoorRows
import GoSem.ClaimSeven
namespace Go.Proofs.YtlenlldiimohjaaGreatDoor
namespace Rows

/-- THE TIED CARD OF 'vergerlaw09.RulesWstats'. -/
def rulesWstatsCard : Claim7 := { stood := { row := rulesWstatsRow, standIns := [], harness := (true, "04e6d93ed133ccd2c8cfaab5bcee78ecf5d36fbdd4e77bfc66093d46b3fea6d7"), looks := true }, kinds := [], alts := [], laidByText := true, laidKinds := [.data, .pinned], laidTests := true, laidLooks := .later }
def RulesWstatsCardSaid : Prop := Claim7.holds Tryz.pinned (.plain (OpenSpec.ofChange rulesWstatsSpec)) rulesWstatsCard

/-- THE TIED CARD OF 'vergerlaw07.AuthKeeps'. -/
def authKeepsCard : Claim7 := { stood := { row := authKeepsRow, standIns := [], harness := (true, "04e6d93ed133ccd2c8cfaab5bcee78ecf5d36fbdd4e77bfc66093d46b3fea6d7"), looks := true }, kinds := [], alts := [], laidByText := true, laidKinds := [.data, .data, .data, .data, .sentinel, .sentinel, .pinned], laidTests := true, laidLooks := .later }
def AuthKeepsCardSaid : Prop := Claim7.holds Tryz.pinned (.plain (OpenSpec.ofChange authKeepsSpec)) authKeepsCard

/-- THE TIED CARD OF 'vergerlaw07.AuthFresh'. -/
def authFreshCard : Claim7 := { stood := { row := authFreshRow, standIns := [], harness := (true, "04e6d93ed133ccd2c8cfaab5bcee78ecf5d36fbdd4e77bfc66093d46b3fea6d7"), looks := true }, kinds := [], alts := [], laidByText := true, laidKinds := [.data, .data, .data, .data, .sentinel, .sentinel, .pinned], laidTests := true, laidLooks := .later }
def AuthFreshCardSaid : Prop := Claim7.holds Tryz.pinned (.plain (OpenSpec.ofChange authFreshSpec)) authFreshCard

/-- THE TIED CARD OF 'vergerlaw07.AuthComes'. -/
def authComesCard : Claim7 := { stood := { row := authComesRow, standIns := [], harness := (true, "04e6d93ed133ccd2c8cfaab5bcee78ecf5d36fbdd4e77bfc66093d46b3fea6d7"), looks := true }, kinds := [], alts := [], laidByText := true, laidKinds := [.data, .data, .data, .data, .sentinel, .sentinel, .pinned], laidTests := true, laidLooks := .later }
def AuthComesCardSaid : Prop := Claim7.holds Tryz.pinned (.plain (OpenSpec.ofChange authComesSpec)) authComesCard

/-- THE TIED CARD OF 'vergerlaw07.AuthDoes'. -/
def authDoesCard : Claim7 := { stood := { row := authDoesRow, standIns := [], harness := (true, "04e6d93ed133ccd2c8cfaab5bcee78ecf5d36fbdd4e77bfc66093d46b3fea6d7"), looks := true }, kinds := [], alts := [], laidByText := true, laidKinds := [.data, .data, .data, .data, .sentinel, .sentinel, .pinned], laidTests := true, laidLooks := .later }
def AuthDoesCardSaid : Prop := Claim7.holds Tryz.pinned (.plain (OpenSpec.ofChange authDoesSpec)) authDoesCard

/-- THE SECOND FORM's CARD OF 'vergerlaw09.RulesWstats'. -/
def rulesWstatsUptoCard : Claim7 := { stood := { row := rulesWstatsUptoRow, standIns := [], harness := (true, "04e6d93ed133ccd2c8cfaab5bcee78ecf5d36fbdd4e77bfc66093d46b3fea6d7"), looks := true }, kinds := [], alts := [], laidByText := true, laidKinds := [.data, .pinned], laidTests := true, laidLooks := .later }
def RulesWstatsUptoCardSaid : Prop := Claim7.holds Tryz.pinned (.plain (OpenSpec.upto rulesWstatsSpec)) rulesWstatsUptoCard

/-- THE SECOND FORM's CARD OF 'vergerlaw07.AuthKeeps'. -/
def authKeepsUptoCard : Claim7 := { stood := { row := authKeepsUptoRow, standIns := [], harness := (true, "04e6d93ed133ccd2c8cfaab5bcee78ecf5d36fbdd4e77bfc66093d46b3fea6d7"), looks := true }, kinds := [], alts := [], laidByText := true, laidKinds := [.data, .data, .data, .data, .sentinel, .sentinel, .pinned], laidTests := true, laidLooks := .later }
def AuthKeepsUptoCardSaid : Prop := Claim7.holds Tryz.pinned (.plain (OpenSpec.upto authKeepsSpec)) authKeepsUptoCard

/-- THE SECOND FORM's CARD OF 'vergerlaw07.AuthFresh'. -/
def authFreshUptoCard : Claim7 := { stood := { row := authFreshUptoRow, standIns := [], harness := (true, "04e6d93ed133ccd2c8cfaab5bcee78ecf5d36fbdd4e77bfc66093d46b3fea6d7"), looks := true }, kinds := [], alts := [], laidByText := true, laidKinds := [.data, .data, .data, .data, .sentinel, .sentinel, .pinned], laidTests := true, laidLooks := .later }
def AuthFreshUptoCardSaid : Prop := Claim7.holds Tryz.pinned (.plain (OpenSpec.upto authFreshSpec)) authFreshUptoCard

/-- THE SECOND FORM's CARD OF 'vergerlaw07.AuthComes'. -/
def authComesUptoCard : Claim7 := { stood := { row := authComesUptoRow, standIns := [], harness := (true, "04e6d93ed133ccd2c8cfaab5bcee78ecf5d36fbdd4e77bfc66093d46b3fea6d7"), looks := true }, kinds := [], alts := [], laidByText := true, laidKinds := [.data, .data, .data, .data, .sentinel, .sentinel, .pinned], laidTests := true, laidLooks := .later }
def AuthComesUptoCardSaid : Prop := Claim7.holds Tryz.pinned (.plain (OpenSpec.upto authComesSpec)) authComesUptoCard

/-- THE SECOND FORM's CARD OF 'vergerlaw07.AuthDoes'. -/
def authDoesUptoCard : Claim7 := { stood := { row := authDoesUptoRow, standIns := [], harness := (true, "04e6d93ed133ccd2c8cfaab5bcee78ecf5d36fbdd4e77bfc66093d46b3fea6d7"), looks := true }, kinds := [], alts := [], laidByText := true, laidKinds := [.data, .data, .data, .data, .sentinel, .sentinel, .pinned], laidTests := true, laidLooks := .later }
def AuthDoesUptoCardSaid : Prop := Claim7.holds Tryz.pinned (.plain (OpenSpec.upto authDoesSpec)) authDoesUptoCard
end Rows
end Go.Proofs.YtlenlldiimohjaaGreatDoor
