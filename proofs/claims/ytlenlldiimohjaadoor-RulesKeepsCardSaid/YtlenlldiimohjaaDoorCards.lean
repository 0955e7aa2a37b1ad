/-
  DERIVED. GIVEN WITH THE SEED: THE CARDS: each row of YtlenlldiimohjaaDoorRows.lean that lists a variable, with what it lists TIED to the program's text (the seventh form; the later family's looks); each row that meets fmt, with fmt's text TOLD by the authors' own Lean function (tested against real Go, not proved from fmt's source: count such statements apart). THE CARD IS WHAT COUNTS. Prove the row's statement (the work); the ties are given (YtlenlldiimohjaaDoorTie.lean); close each card by the builder's one call (the guide's Derived/Test/ToyasCard.lean, 'card_holds'). Laid BY PROGRAM, IN A SANDBOX (cutbox-door.mjs). By AI agents, Wed Nov 11 2026. No macro, syntax, notation, axiom, sorry.
-/
import Derived.Test.YtlenlldiimohjaaDoorRows
import GoSem.ClaimSeven
namespace Go.Proofs.YtlenlldiimohjaaDoor
namespace Rows

/-- THE TIED CARD OF 'vergerlaw09.RulesNames'. -/
def rulesNamesCard : Claim7 := { stood := { row := rulesNamesRow, standIns := [], harness := (true, "92c5d5145bacb740207ba7113d91ce996bdaa7bcec1a534f1d633c0d8f8304ca"), looks := true }, kinds := [], alts := [], laidByText := true, laidKinds := [.data, .pinned], laidTests := true, laidLooks := .later }
def RulesNamesCardSaid : Prop := Claim7.holds Tryd.pinned (.plain (OpenSpec.ofChange rulesNamesSpec)) rulesNamesCard

/-- THE TIED CARD OF 'vergerlaw09.RulesModes'. -/
def rulesModesCard : Claim7 := { stood := { row := rulesModesRow, standIns := [], harness := (true, "92c5d5145bacb740207ba7113d91ce996bdaa7bcec1a534f1d633c0d8f8304ca"), looks := true }, kinds := [], alts := [], laidByText := true, laidKinds := [.data, .pinned], laidTests := true, laidLooks := .later }
def RulesModesCardSaid : Prop := Claim7.holds Tryd.pinned (.plain (OpenSpec.ofChange rulesModesSpec)) rulesModesCard

/-- THE TIED CARD OF 'vergerlaw09.RulesMakes'. -/
def rulesMakesCard : Claim7 := { stood := { row := rulesMakesRow, standIns := [], harness := (true, "92c5d5145bacb740207ba7113d91ce996bdaa7bcec1a534f1d633c0d8f8304ca"), looks := true }, kinds := [], alts := [], laidByText := true, laidKinds := [.data, .pinned], laidTests := true, laidLooks := .later }
def RulesMakesCardSaid : Prop := Claim7.holds Tryd.pinned (.plain (OpenSpec.ofChange rulesMakesSpec)) rulesMakesCard

/-- THE TIED CARD OF 'vergerlaw09.RulesMade'. -/
def rulesMadeCard : Claim7 := { stood := { row := rulesMadeRow, standIns := [], harness := (true, "92c5d5145bacb740207ba7113d91ce996bdaa7bcec1a534f1d633c0d8f8304ca"), looks := true }, kinds := [], alts := [], laidByText := true, laidKinds := [.data, .pinned], laidTests := true, laidLooks := .later }
def RulesMadeCardSaid : Prop := Claim7.holds Tryd.pinned (.plain (OpenSpec.ofChange rulesMadeSpec)) rulesMadeCard

/-- THE TIED CARD OF 'vergerlaw09.RulesOpens'. -/
def rulesOpensCard : Claim7 := { stood := { row := rulesOpensRow, standIns := [], harness := (true, "92c5d5145bacb740207ba7113d91ce996bdaa7bcec1a534f1d633c0d8f8304ca"), looks := true }, kinds := [], alts := [], laidByText := true, laidKinds := [.data, .pinned], laidTests := true, laidLooks := .later }
def RulesOpensCardSaid : Prop := Claim7.holds Tryd.pinned (.plain (OpenSpec.ofChange rulesOpensSpec)) rulesOpensCard

/-- THE TIED CARD OF 'vergerlaw09.RulesMore'. -/
def rulesMoreCard : Claim7 := { stood := { row := rulesMoreRow, standIns := [], harness := (true, "92c5d5145bacb740207ba7113d91ce996bdaa7bcec1a534f1d633c0d8f8304ca"), looks := true }, kinds := [], alts := [], laidByText := true, laidKinds := [.data, .pinned], laidTests := true, laidLooks := .later }
def RulesMoreCardSaid : Prop := Claim7.holds Tryd.pinned (.plain (OpenSpec.ofChange rulesMoreSpec)) rulesMoreCard

/-- THE TIED CARD OF 'vergerlaw09.RulesClasses'. -/
def rulesClassesCard : Claim7 := { stood := { row := rulesClassesRow, standIns := [], harness := (true, "92c5d5145bacb740207ba7113d91ce996bdaa7bcec1a534f1d633c0d8f8304ca"), looks := true }, kinds := [], alts := [], laidByText := true, laidKinds := [.data, .pinned], laidTests := true, laidLooks := .later }
def RulesClassesCardSaid : Prop := Claim7.holds Tryd.pinned (.plain (OpenSpec.ofChange rulesClassesSpec)) rulesClassesCard

/-- THE TIED CARD OF 'vergerlaw09.RulesRights'. -/
def rulesRightsCard : Claim7 := { stood := { row := rulesRightsRow, standIns := [], harness := (true, "92c5d5145bacb740207ba7113d91ce996bdaa7bcec1a534f1d633c0d8f8304ca"), looks := true }, kinds := [], alts := [], laidByText := true, laidKinds := [.data, .pinned], laidTests := true, laidLooks := .later }
def RulesRightsCardSaid : Prop := Claim7.holds Tryd.pinned (.plain (OpenSpec.ofChange rulesRightsSpec)) rulesRightsCard

/-- THE TIED CARD OF 'vergerlaw09.RulesKeeps'. -/
def rulesKeepsCard : Claim7 := { stood := { row := rulesKeepsRow, standIns := [], harness := (true, "92c5d5145bacb740207ba7113d91ce996bdaa7bcec1a534f1d633c0d8f8304ca"), looks := true }, kinds := [], alts := [], laidByText := true, laidKinds := [.data, .pinned], laidTests := true, laidLooks := .later }
def RulesKeepsCardSaid : Prop := Claim7.holds Tryd.pinned (.plain (OpenSpec.ofChange rulesKeepsSpec)) rulesKeepsCard

/-- THE TIED CARD OF 'vergerlaw09.RulesEmpty'. -/
def rulesEmptyCard : Claim7 := { stood := { row := rulesEmptyRow, standIns := [], harness := (true, "92c5d5145bacb740207ba7113d91ce996bdaa7bcec1a534f1d633c0d8f8304ca"), looks := true }, kinds := [], alts := [], laidByText := true, laidKinds := [.data, .pinned], laidTests := true, laidLooks := .later }
def RulesEmptyCardSaid : Prop := Claim7.holds Tryd.pinned (.plain (OpenSpec.ofChange rulesEmptySpec)) rulesEmptyCard

/-- THE SECOND FORM's CARD OF 'vergerlaw09.RulesNames'. -/
def rulesNamesUptoCard : Claim7 := { stood := { row := rulesNamesUptoRow, standIns := [], harness := (true, "92c5d5145bacb740207ba7113d91ce996bdaa7bcec1a534f1d633c0d8f8304ca"), looks := true }, kinds := [], alts := [], laidByText := true, laidKinds := [.data, .pinned], laidTests := true, laidLooks := .later }
def RulesNamesUptoCardSaid : Prop := Claim7.holds Tryd.pinned (.plain (OpenSpec.upto rulesNamesSpec)) rulesNamesUptoCard

/-- THE SECOND FORM's CARD OF 'vergerlaw09.RulesModes'. -/
def rulesModesUptoCard : Claim7 := { stood := { row := rulesModesUptoRow, standIns := [], harness := (true, "92c5d5145bacb740207ba7113d91ce996bdaa7bcec1a534f1d633c0d8f8304ca"), looks := true }, kinds := [], alts := [], laidByText := true, laidKinds := [.data, .pinned], laidTests := true, laidLooks := .later }
def RulesModesUptoCardSaid : Prop := Claim7.holds Tryd.pinned (.plain (OpenSpec.upto rulesModesSpec)) rulesModesUptoCard

/-- THE SECOND FORM's CARD OF 'vergerlaw09.RulesMakes'. -/
def rulesMakesUptoCard : Claim7 := { stood := { row := rulesMakesUptoRow, standIns := [], harness := (true, "92c5d5145bacb740207ba7113d91ce996bdaa7bcec1a534f1d633c0d8f8304ca"), looks := true }, kinds := [], alts := [], laidByText := true, laidKinds := [.data, .pinned], laidTests := true, laidLooks := .later }
def RulesMakesUptoCardSaid : Prop := Claim7.holds Tryd.pinned (.plain (OpenSpec.upto rulesMakesSpec)) rulesMakesUptoCard

/-- THE SECOND FORM's CARD OF 'vergerlaw09.RulesMade'. -/
def rulesMadeUptoCard : Claim7 := { stood := { row := rulesMadeUptoRow, standIns := [], harness := (true, "92c5d5145bacb740207ba7113d91ce996bdaa7bcec1a534f1d633c0d8f8304ca"), looks := true }, kinds := [], alts := [], laidByText := true, laidKinds := [.data, .pinned], laidTests := true, laidLooks := .later }
def RulesMadeUptoCardSaid : Prop := Claim7.holds Tryd.pinned (.plain (OpenSpec.upto rulesMadeSpec)) rulesMadeUptoCard

/-- THE SECOND FORM's CARD OF 'vergerlaw09.RulesOpens'. -/
def rulesOpensUptoCard : Claim7 := { stood := { row := rulesOpensUptoRow, standIns := [], harness := (true, "92c5d5145bacb740207ba7113d91ce996bdaa7bcec1a534f1d633c0d8f8304ca"), looks := true }, kinds := [], alts := [], laidByText := true, laidKinds := [.data, .pinned], laidTests := true, laidLooks := .later }
def RulesOpensUptoCardSaid : Prop := Claim7.holds Tryd.pinned (.plain (OpenSpec.upto rulesOpensSpec)) rulesOpensUptoCard

/-- THE SECOND FORM's CARD OF 'vergerlaw09.RulesMore'. -/
def rulesMoreUptoCard : Claim7 := { stood := { row := rulesMoreUptoRow, standIns := [], harness := (true, "92c5d5145bacb740207ba7113d91ce996bdaa7bcec1a534f1d633c0d8f8304ca"), looks := true }, kinds := [], alts := [], laidByText := true, laidKinds := [.data, .pinned], laidTests := true, laidLooks := .later }
def RulesMoreUptoCardSaid : Prop := Claim7.holds Tryd.pinned (.plain (OpenSpec.upto rulesMoreSpec)) rulesMoreUptoCard

/-- THE SECOND FORM's CARD OF 'vergerlaw09.RulesClasses'. -/
def rulesClassesUptoCard : Claim7 := { stood := { row := rulesClassesUptoRow, standIns := [], harness := (true, "92c5d5145bacb740207ba7113d91ce996bdaa7bcec1a534f1d633c0d8f8304ca"), looks := true }, kinds := [], alts := [], laidByText := true, laidKinds := [.data, .pinned], laidTests := true, laidLooks := .later }
def RulesClassesUptoCardSaid : Prop := Claim7.holds Tryd.pinned (.plain (OpenSpec.upto rulesClassesSpec)) rulesClassesUptoCard

/-- THE SECOND FORM's CARD OF 'vergerlaw09.RulesRights'. -/
def rulesRightsUptoCard : Claim7 := { stood := { row := rulesRightsUptoRow, standIns := [], harness := (true, "92c5d5145bacb740207ba7113d91ce996bdaa7bcec1a534f1d633c0d8f8304ca"), looks := true }, kinds := [], alts := [], laidByText := true, laidKinds := [.data, .pinned], laidTests := true, laidLooks := .later }
def RulesRightsUptoCardSaid : Prop := Claim7.holds Tryd.pinned (.plain (OpenSpec.upto rulesRightsSpec)) rulesRightsUptoCard

/-- THE SECOND FORM's CARD OF 'vergerlaw09.RulesKeeps'. -/
def rulesKeepsUptoCard : Claim7 := { stood := { row := rulesKeepsUptoRow, standIns := [], harness := (true, "92c5d5145bacb740207ba7113d91ce996bdaa7bcec1a534f1d633c0d8f8304ca"), looks := true }, kinds := [], alts := [], laidByText := true, laidKinds := [.data, .pinned], laidTests := true, laidLooks := .later }
def RulesKeepsUptoCardSaid : Prop := Claim7.holds Tryd.pinned (.plain (OpenSpec.upto rulesKeepsSpec)) rulesKeepsUptoCard

/-- THE SECOND FORM's CARD OF 'vergerlaw09.RulesEmpty'. -/
def rulesEmptyUptoCard : Claim7 := { stood := { row := rulesEmptyUptoRow, standIns := [], harness := (true, "92c5d5145bacb740207ba7113d91ce996bdaa7bcec1a534f1d633c0d8f8304ca"), looks := true }, kinds := [], alts := [], laidByText := true, laidKinds := [.data, .pinned], laidTests := true, laidLooks := .later }
def RulesEmptyUptoCardSaid : Prop := Claim7.holds Tryd.pinned (.plain (OpenSpec.upto rulesEmptySpec)) rulesEmptyUptoCard
end Rows
end Go.Proofs.YtlenlldiimohjaaDoor
