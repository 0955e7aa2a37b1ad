/-
  NARROWER THAN 'FOR EVERY INPUT', by the rows' own cells (each row's printed sentence says how): RulesNames: laid · RulesModes: laid · RulesMakes: laid · RulesMade: laid · RulesOpens: laid · RulesMore: laid · RulesClasses: laid · RulesRights: laid · RulesKeeps: laid · RulesEmpty: laid.
  DERIVED. THE GIVEN ROWS OF THIS SEAT. 10 by the template 'for every input the law returns true; each argument reads behind the call as it read before'; 0 by the template 'total and deterministic' (their statements: YtlenlldiimohjaaDoorTotals.lean).
  GIVEN WITH THE SEED: the statements are not yours to turn. If you find one false, say at which input.
  Laid BY PROGRAM, IN A SANDBOX (cutbox-rows.mjs): the forced cells as the released guide's own fill.sh prints them over the translation 15cb13249cc44903… (all of the seat's roots in one cut). By AI agents, Wed Nov 11 2026. No macro, syntax, notation, axiom, sorry.
-/
import Derived.Test.YtlenlldiimohjaaDoorChecked
import GoSem.PinnedTables
import GoSem.Claim
import GoSem.ClaimJoined
import GoSem.ClaimMapViews
import Derived.JoinedTies
import Derived.KernelRfl
namespace Go.Proofs.YtlenlldiimohjaaDoor
/- THE CELL 'sum', in the pinned program and in every row, IS THE sha256 OF THE DUMP (.gsa) THAT YtlenlldiimohjaaDoorProg.lean LOADS. Nothing in Lean hashes anything: it is a label: what it is worth is what the hold of that sum in a sandbox is worth. -/
noncomputable def Tryd.pinned : Pinned := { name := "ytlenlldiimohjaadoor", sum := "15cb13249cc44903bd39cb75e44fc5cc3745240e5bc2f07e31f2fd446d3a084b", checked := Tryd.checked }
namespace Rows
def none {H : Type} : Left H := { results := [], args := [] }

/- WHAT THE LISTED PACKAGE-LEVEL VARIABLES READ AS WHEN THE CALL BEGINS. Each datum BY PROGRAM (the guide's laid-datum.mjs) off the statement by which the dump's own 'gosem.cut.vars' lays the variable. In a bare row this is a premise. The card (YtlenlldiimohjaaDoorCards.lean) ties it to the program's text. -/
def laid_unicode_utf8_acceptRanges {H : Type} : DataW H := .agg [.agg [.lit (.int .u8 128), .lit (.int .u8 191)], .agg [.lit (.int .u8 160), .lit (.int .u8 191)], .agg [.lit (.int .u8 128), .lit (.int .u8 159)], .agg [.lit (.int .u8 144), .lit (.int .u8 191)], .agg [.lit (.int .u8 128), .lit (.int .u8 143)], .agg [.lit (.int .u8 0), .lit (.int .u8 0)], .agg [.lit (.int .u8 0), .lit (.int .u8 0)], .agg [.lit (.int .u8 0), .lit (.int .u8 0)], .agg [.lit (.int .u8 0), .lit (.int .u8 0)], .agg [.lit (.int .u8 0), .lit (.int .u8 0)], .agg [.lit (.int .u8 0), .lit (.int .u8 0)], .agg [.lit (.int .u8 0), .lit (.int .u8 0)], .agg [.lit (.int .u8 0), .lit (.int .u8 0)], .agg [.lit (.int .u8 0), .lit (.int .u8 0)], .agg [.lit (.int .u8 0), .lit (.int .u8 0)], .agg [.lit (.int .u8 0), .lit (.int .u8 0)]]
/-- One of Go's own tables, pinned by name: the form's constant. -/
def laid_unicode_utf8_first : DataW Unit := Go.Pinned.utf8First

/-- 'vergerlaw09.RulesNames': WHATEVER THE INPUT: true; the input reads as it did. -/
def rulesNamesSpec : ChangeSpec := { name := "rulesNames", fn := fun _ => fun
  | [] => { results := [.lit (.bool true)], args := [] }
  | _ => none }
def rulesNamesRow : OpenClaim := { program := "ytlenlldiimohjaadoor", sum := "15cb13249cc44903bd39cb75e44fc5cc3745240e5bc2f07e31f2fd446d3a084b", func := "verger/vergerlaw09.RulesNames", spec := "rulesNames", inPlace := ["internal/bytealg.CountString", "internal/bytealg.IndexByteString", "internal/bytealg.IndexString", "internal/abi.NoEscape", "internal/bytealg.MakeNoZero"], unfollowed := true, recurses := true, named := ["unicode/utf8.first", "unicode/utf8.acceptRanges", "internal/bytealg.MaxLen"], plainKeys := false, apart := false, laid := [("unicode/utf8.acceptRanges", laid_unicode_utf8_acceptRanges), ("unicode/utf8.first", laid_unicode_utf8_first)] }
def RulesNamesSaid : Prop := rulesNamesRow.holds Tryd.pinned (OpenSpec.ofChange rulesNamesSpec)

/-- ITS FALSE NEIGHBOUR: 'it returns false'. Refute it at one input. -/
def rulesNamesWrong : ChangeSpec := { name := "rulesNames", fn := fun _ => fun
  | [] => { results := [.lit (.bool false)], args := [] }
  | _ => none }
def RulesNamesWrongFalsely : Prop := rulesNamesRow.holds Tryd.pinned (OpenSpec.ofChange rulesNamesWrong)

/-- 'vergerlaw09.RulesModes': WHATEVER THE INPUT: true; the input reads as it did. -/
def rulesModesSpec : ChangeSpec := { name := "rulesModes", fn := fun _ => fun
  | [d1, d2] => { results := [.lit (.bool true)], args := [d1, d2] }
  | _ => none }
def rulesModesRow : OpenClaim := { program := "ytlenlldiimohjaadoor", sum := "15cb13249cc44903bd39cb75e44fc5cc3745240e5bc2f07e31f2fd446d3a084b", func := "verger/vergerlaw09.RulesModes", spec := "rulesModes", inPlace := ["internal/bytealg.CountString", "internal/bytealg.IndexByteString", "internal/bytealg.IndexString", "internal/abi.NoEscape", "internal/bytealg.MakeNoZero"], unfollowed := true, recurses := true, named := ["unicode/utf8.first", "unicode/utf8.acceptRanges", "internal/bytealg.MaxLen"], plainKeys := false, apart := false, laid := [("unicode/utf8.acceptRanges", laid_unicode_utf8_acceptRanges), ("unicode/utf8.first", laid_unicode_utf8_first)] }
def RulesModesSaid : Prop := rulesModesRow.holds Tryd.pinned (OpenSpec.ofChange rulesModesSpec)

/-- ITS FALSE NEIGHBOUR: 'it returns false'. Refute it at one input. -/
def rulesModesWrong : ChangeSpec := { name := "rulesModes", fn := fun _ => fun
  | [d1, d2] => { results := [.lit (.bool false)], args := [d1, d2] }
  | _ => none }
def RulesModesWrongFalsely : Prop := rulesModesRow.holds Tryd.pinned (OpenSpec.ofChange rulesModesWrong)

/-- 'vergerlaw09.RulesMakes': WHATEVER THE INPUT: true; the input reads as it did. -/
def rulesMakesSpec : ChangeSpec := { name := "rulesMakes", fn := fun _ => fun
  | [d] => { results := [.lit (.bool true)], args := [d] }
  | _ => none }
def rulesMakesRow : OpenClaim := { program := "ytlenlldiimohjaadoor", sum := "15cb13249cc44903bd39cb75e44fc5cc3745240e5bc2f07e31f2fd446d3a084b", func := "verger/vergerlaw09.RulesMakes", spec := "rulesMakes", inPlace := ["internal/bytealg.CountString", "internal/bytealg.IndexByteString", "internal/bytealg.IndexString", "internal/abi.NoEscape", "internal/bytealg.MakeNoZero"], unfollowed := true, recurses := true, named := ["unicode/utf8.first", "unicode/utf8.acceptRanges", "internal/bytealg.MaxLen"], plainKeys := false, apart := false, laid := [("unicode/utf8.acceptRanges", laid_unicode_utf8_acceptRanges), ("unicode/utf8.first", laid_unicode_utf8_first)] }
def RulesMakesSaid : Prop := rulesMakesRow.holds Tryd.pinned (OpenSpec.ofChange rulesMakesSpec)

/-- ITS FALSE NEIGHBOUR: 'it returns false'. Refute it at one input. -/
def rulesMakesWrong : ChangeSpec := { name := "rulesMakes", fn := fun _ => fun
  | [d] => { results := [.lit (.bool false)], args := [d] }
  | _ => none }
def RulesMakesWrongFalsely : Prop := rulesMakesRow.holds Tryd.pinned (OpenSpec.ofChange rulesMakesWrong)

/-- 'vergerlaw09.RulesMade': WHATEVER THE INPUT: true; the input reads as it did. -/
def rulesMadeSpec : ChangeSpec := { name := "rulesMade", fn := fun _ => fun
  | [d] => { results := [.lit (.bool true)], args := [d] }
  | _ => none }
def rulesMadeRow : OpenClaim := { program := "ytlenlldiimohjaadoor", sum := "15cb13249cc44903bd39cb75e44fc5cc3745240e5bc2f07e31f2fd446d3a084b", func := "verger/vergerlaw09.RulesMade", spec := "rulesMade", inPlace := ["internal/bytealg.CountString", "internal/bytealg.IndexByteString", "internal/bytealg.IndexString", "internal/abi.NoEscape", "internal/bytealg.MakeNoZero"], unfollowed := true, recurses := true, named := ["unicode/utf8.first", "unicode/utf8.acceptRanges", "internal/bytealg.MaxLen"], plainKeys := false, apart := false, laid := [("unicode/utf8.acceptRanges", laid_unicode_utf8_acceptRanges), ("unicode/utf8.first", laid_unicode_utf8_first)] }
def RulesMadeSaid : Prop := rulesMadeRow.holds Tryd.pinned (OpenSpec.ofChange rulesMadeSpec)

/-- ITS FALSE NEIGHBOUR: 'it returns false'. Refute it at one input. -/
def rulesMadeWrong : ChangeSpec := { name := "rulesMade", fn := fun _ => fun
  | [d] => { results := [.lit (.bool false)], args := [d] }
  | _ => none }
def RulesMadeWrongFalsely : Prop := rulesMadeRow.holds Tryd.pinned (OpenSpec.ofChange rulesMadeWrong)

/-- 'vergerlaw09.RulesOpens': WHATEVER THE INPUT: true; the input reads as it did. -/
def rulesOpensSpec : ChangeSpec := { name := "rulesOpens", fn := fun _ => fun
  | [d] => { results := [.lit (.bool true)], args := [d] }
  | _ => none }
def rulesOpensRow : OpenClaim := { program := "ytlenlldiimohjaadoor", sum := "15cb13249cc44903bd39cb75e44fc5cc3745240e5bc2f07e31f2fd446d3a084b", func := "verger/vergerlaw09.RulesOpens", spec := "rulesOpens", inPlace := ["internal/bytealg.CountString", "internal/bytealg.IndexByteString", "internal/bytealg.IndexString", "internal/abi.NoEscape", "internal/bytealg.MakeNoZero"], unfollowed := true, recurses := true, named := ["unicode/utf8.first", "unicode/utf8.acceptRanges", "internal/bytealg.MaxLen"], plainKeys := false, apart := false, laid := [("unicode/utf8.acceptRanges", laid_unicode_utf8_acceptRanges), ("unicode/utf8.first", laid_unicode_utf8_first)] }
def RulesOpensSaid : Prop := rulesOpensRow.holds Tryd.pinned (OpenSpec.ofChange rulesOpensSpec)

/-- ITS FALSE NEIGHBOUR: 'it returns false'. Refute it at one input. -/
def rulesOpensWrong : ChangeSpec := { name := "rulesOpens", fn := fun _ => fun
  | [d] => { results := [.lit (.bool false)], args := [d] }
  | _ => none }
def RulesOpensWrongFalsely : Prop := rulesOpensRow.holds Tryd.pinned (OpenSpec.ofChange rulesOpensWrong)

/-- 'vergerlaw09.RulesMore': WHATEVER THE INPUT: true; the input reads as it did. -/
def rulesMoreSpec : ChangeSpec := { name := "rulesMore", fn := fun _ => fun
  | [d1, d2, d3] => { results := [.lit (.bool true)], args := [d1, d2, d3] }
  | _ => none }
def rulesMoreRow : OpenClaim := { program := "ytlenlldiimohjaadoor", sum := "15cb13249cc44903bd39cb75e44fc5cc3745240e5bc2f07e31f2fd446d3a084b", func := "verger/vergerlaw09.RulesMore", spec := "rulesMore", inPlace := ["internal/bytealg.CountString", "internal/bytealg.IndexByteString", "internal/bytealg.IndexString", "internal/abi.NoEscape", "internal/bytealg.MakeNoZero"], unfollowed := true, recurses := true, named := ["unicode/utf8.first", "unicode/utf8.acceptRanges", "internal/bytealg.MaxLen"], plainKeys := false, apart := false, laid := [("unicode/utf8.acceptRanges", laid_unicode_utf8_acceptRanges), ("unicode/utf8.first", laid_unicode_utf8_first)] }
def RulesMoreSaid : Prop := rulesMoreRow.holds Tryd.pinned (OpenSpec.ofChange rulesMoreSpec)

/-- ITS FALSE NEIGHBOUR: 'it returns false'. Refute it at one input. -/
def rulesMoreWrong : ChangeSpec := { name := "rulesMore", fn := fun _ => fun
  | [d1, d2, d3] => { results := [.lit (.bool false)], args := [d1, d2, d3] }
  | _ => none }
def RulesMoreWrongFalsely : Prop := rulesMoreRow.holds Tryd.pinned (OpenSpec.ofChange rulesMoreWrong)

/-- 'vergerlaw09.RulesClasses': WHATEVER THE INPUT: true; the input reads as it did. -/
def rulesClassesSpec : ChangeSpec := { name := "rulesClasses", fn := fun _ => fun
  | [d] => { results := [.lit (.bool true)], args := [d] }
  | _ => none }
def rulesClassesRow : OpenClaim := { program := "ytlenlldiimohjaadoor", sum := "15cb13249cc44903bd39cb75e44fc5cc3745240e5bc2f07e31f2fd446d3a084b", func := "verger/vergerlaw09.RulesClasses", spec := "rulesClasses", inPlace := ["internal/bytealg.CountString", "internal/bytealg.IndexByteString", "internal/bytealg.IndexString", "internal/abi.NoEscape", "internal/bytealg.MakeNoZero"], unfollowed := true, recurses := true, named := ["unicode/utf8.first", "unicode/utf8.acceptRanges", "internal/bytealg.MaxLen"], plainKeys := false, apart := false, laid := [("unicode/utf8.acceptRanges", laid_unicode_utf8_acceptRanges), ("unicode/utf8.first", laid_unicode_utf8_first)] }
def RulesClassesSaid : Prop := rulesClassesRow.holds Tryd.pinned (OpenSpec.ofChange rulesClassesSpec)

/-- ITS FALSE NEIGHBOUR: 'it returns false'. Refute it at one input. -/
def rulesClassesWrong : ChangeSpec := { name := "rulesClasses", fn := fun _ => fun
  | [d] => { results := [.lit (.bool false)], args := [d] }
  | _ => none }
def RulesClassesWrongFalsely : Prop := rulesClassesRow.holds Tryd.pinned (OpenSpec.ofChange rulesClassesWrong)

/-- 'vergerlaw09.RulesRights': WHATEVER THE INPUT: true; the input reads as it did. -/
def rulesRightsSpec : ChangeSpec := { name := "rulesRights", fn := fun _ => fun
  | [d1, d2, d3] => { results := [.lit (.bool true)], args := [d1, d2, d3] }
  | _ => none }
def rulesRightsRow : OpenClaim := { program := "ytlenlldiimohjaadoor", sum := "15cb13249cc44903bd39cb75e44fc5cc3745240e5bc2f07e31f2fd446d3a084b", func := "verger/vergerlaw09.RulesRights", spec := "rulesRights", inPlace := ["internal/bytealg.CountString", "internal/bytealg.IndexByteString", "internal/bytealg.IndexString", "internal/abi.NoEscape", "internal/bytealg.MakeNoZero"], unfollowed := true, recurses := true, named := ["unicode/utf8.first", "unicode/utf8.acceptRanges", "internal/bytealg.MaxLen"], plainKeys := false, apart := false, laid := [("unicode/utf8.acceptRanges", laid_unicode_utf8_acceptRanges), ("unicode/utf8.first", laid_unicode_utf8_first)] }
def RulesRightsSaid : Prop := rulesRightsRow.holds Tryd.pinned (OpenSpec.ofChange rulesRightsSpec)

/-- ITS FALSE NEIGHBOUR: 'it returns false'. Refute it at one input. -/
def rulesRightsWrong : ChangeSpec := { name := "rulesRights", fn := fun _ => fun
  | [d1, d2, d3] => { results := [.lit (.bool false)], args := [d1, d2, d3] }
  | _ => none }
def RulesRightsWrongFalsely : Prop := rulesRightsRow.holds Tryd.pinned (OpenSpec.ofChange rulesRightsWrong)

/-- 'vergerlaw09.RulesKeeps': WHATEVER THE INPUT: true; the input reads as it did. -/
def rulesKeepsSpec : ChangeSpec := { name := "rulesKeeps", fn := fun _ => fun
  | [d1, d2] => { results := [.lit (.bool true)], args := [d1, d2] }
  | _ => none }
def rulesKeepsRow : OpenClaim := { program := "ytlenlldiimohjaadoor", sum := "15cb13249cc44903bd39cb75e44fc5cc3745240e5bc2f07e31f2fd446d3a084b", func := "verger/vergerlaw09.RulesKeeps", spec := "rulesKeeps", inPlace := ["internal/bytealg.CountString", "internal/bytealg.IndexByteString", "internal/bytealg.IndexString", "internal/abi.NoEscape", "internal/bytealg.MakeNoZero"], unfollowed := true, recurses := true, named := ["unicode/utf8.first", "unicode/utf8.acceptRanges", "internal/bytealg.MaxLen"], plainKeys := false, apart := false, laid := [("unicode/utf8.acceptRanges", laid_unicode_utf8_acceptRanges), ("unicode/utf8.first", laid_unicode_utf8_first)] }
def RulesKeepsSaid : Prop := rulesKeepsRow.holds Tryd.pinned (OpenSpec.ofChange rulesKeepsSpec)

/-- ITS FALSE NEIGHBOUR: 'it returns false'. Refute it at one input. -/
def rulesKeepsWrong : ChangeSpec := { name := "rulesKeeps", fn := fun _ => fun
  | [d1, d2] => { results := [.lit (.bool false)], args := [d1, d2] }
  | _ => none }
def RulesKeepsWrongFalsely : Prop := rulesKeepsRow.holds Tryd.pinned (OpenSpec.ofChange rulesKeepsWrong)

/-- 'vergerlaw09.RulesEmpty': WHATEVER THE INPUT: true; the input reads as it did. -/
def rulesEmptySpec : ChangeSpec := { name := "rulesEmpty", fn := fun _ => fun
  | [d1, d2] => { results := [.lit (.bool true)], args := [d1, d2] }
  | _ => none }
def rulesEmptyRow : OpenClaim := { program := "ytlenlldiimohjaadoor", sum := "15cb13249cc44903bd39cb75e44fc5cc3745240e5bc2f07e31f2fd446d3a084b", func := "verger/vergerlaw09.RulesEmpty", spec := "rulesEmpty", inPlace := ["internal/bytealg.CountString", "internal/bytealg.IndexByteString", "internal/bytealg.IndexString", "internal/abi.NoEscape", "internal/bytealg.MakeNoZero"], unfollowed := true, recurses := true, named := ["unicode/utf8.first", "unicode/utf8.acceptRanges", "internal/bytealg.MaxLen"], plainKeys := false, apart := false, laid := [("unicode/utf8.acceptRanges", laid_unicode_utf8_acceptRanges), ("unicode/utf8.first", laid_unicode_utf8_first)] }
def RulesEmptySaid : Prop := rulesEmptyRow.holds Tryd.pinned (OpenSpec.ofChange rulesEmptySpec)

/-- ITS FALSE NEIGHBOUR: 'it returns false'. Refute it at one input. -/
def rulesEmptyWrong : ChangeSpec := { name := "rulesEmpty", fn := fun _ => fun
  | [d1, d2] => { results := [.lit (.bool false)], args := [d1, d2] }
  | _ => none }
def RulesEmptyWrongFalsely : Prop := rulesEmptyRow.holds Tryd.pinned (OpenSpec.ofChange rulesEmptyWrong)

/- THE SECOND FORM. 'bulk': how many values and letters a reading holds, each counted each time it is reached (what is shared counts as often as it is met; a slice's spare places count too). A statement '..UptoSaid' is the law's where the arguments, and the package variables that the reading takes, are together of bulk at most 1048576: NARROWER than '..Said'. Prove '..Said' where nothing that the law and all that it calls make is longer than what came in: it says more and counts as full. Else prove '..UptoSaid'. A law counts once. -/
mutual
def uptoBulk {H : Type} : DataW H → Nat
  | .lit (.string bytes) => bytes.length + 1
  | .lit _ => 1
  | .nil => 1
  | .ptr d => uptoBulk d + 1
  | .slice elems spare => uptoBulkAll elems + uptoBulkAll spare + 1
  | .agg parts => uptoBulkAll parts + 1
  | .iface _ d => uptoBulk d + 1
  | .map entries => uptoBulkEntries entries + 1
  | .held _ => 1
def uptoBulkAll {H : Type} : List (DataW H) → Nat
  | [] => 0
  | d :: r => uptoBulk d + uptoBulkAll r
def uptoBulkEntries {H : Type} : List (Lit × DataW H) → Nat
  | [] => 0
  | x :: r => uptoBulkEntry x + uptoBulkEntries r
def uptoBulkEntry {H : Type} : Lit × DataW H → Nat
  | (.string bytes, d) => bytes.length + uptoBulk d + 1
  | (_, d) => uptoBulk d + 1
 end
def uptoSmall : (H : Type) → List (DataW H) → Bool := fun _ ds => decide (uptoBulkAll ds ≤ 1048576)
def OpenSpec.upto (s : _root_.Go.ChangeSpec) : _root_.Go.OpenSpec := { _root_.Go.OpenSpec.ofChange s with cond := some uptoSmall }

/-- 'vergerlaw09.RulesNames', WHERE WHAT IT READS IS OF BULK AT MOST 1048576: true; the input reads as it did. -/
def rulesNamesUptoRow : OpenClaim := { program := "ytlenlldiimohjaadoor", sum := "15cb13249cc44903bd39cb75e44fc5cc3745240e5bc2f07e31f2fd446d3a084b", func := "verger/vergerlaw09.RulesNames", spec := "rulesNames", inPlace := ["internal/bytealg.CountString", "internal/bytealg.IndexByteString", "internal/bytealg.IndexString", "internal/abi.NoEscape", "internal/bytealg.MakeNoZero"], unfollowed := true, recurses := true, named := ["unicode/utf8.first", "unicode/utf8.acceptRanges", "internal/bytealg.MaxLen"], plainKeys := false, apart := false, laid := [("unicode/utf8.acceptRanges", laid_unicode_utf8_acceptRanges), ("unicode/utf8.first", laid_unicode_utf8_first)], narrowed := true }
def RulesNamesUptoSaid : Prop := rulesNamesUptoRow.holds Tryd.pinned (OpenSpec.upto rulesNamesSpec)

/-- 'vergerlaw09.RulesModes', WHERE WHAT IT READS IS OF BULK AT MOST 1048576: true; the input reads as it did. -/
def rulesModesUptoRow : OpenClaim := { program := "ytlenlldiimohjaadoor", sum := "15cb13249cc44903bd39cb75e44fc5cc3745240e5bc2f07e31f2fd446d3a084b", func := "verger/vergerlaw09.RulesModes", spec := "rulesModes", inPlace := ["internal/bytealg.CountString", "internal/bytealg.IndexByteString", "internal/bytealg.IndexString", "internal/abi.NoEscape", "internal/bytealg.MakeNoZero"], unfollowed := true, recurses := true, named := ["unicode/utf8.first", "unicode/utf8.acceptRanges", "internal/bytealg.MaxLen"], plainKeys := false, apart := false, laid := [("unicode/utf8.acceptRanges", laid_unicode_utf8_acceptRanges), ("unicode/utf8.first", laid_unicode_utf8_first)], narrowed := true }
def RulesModesUptoSaid : Prop := rulesModesUptoRow.holds Tryd.pinned (OpenSpec.upto rulesModesSpec)

/-- 'vergerlaw09.RulesMakes', WHERE WHAT IT READS IS OF BULK AT MOST 1048576: true; the input reads as it did. -/
def rulesMakesUptoRow : OpenClaim := { program := "ytlenlldiimohjaadoor", sum := "15cb13249cc44903bd39cb75e44fc5cc3745240e5bc2f07e31f2fd446d3a084b", func := "verger/vergerlaw09.RulesMakes", spec := "rulesMakes", inPlace := ["internal/bytealg.CountString", "internal/bytealg.IndexByteString", "internal/bytealg.IndexString", "internal/abi.NoEscape", "internal/bytealg.MakeNoZero"], unfollowed := true, recurses := true, named := ["unicode/utf8.first", "unicode/utf8.acceptRanges", "internal/bytealg.MaxLen"], plainKeys := false, apart := false, laid := [("unicode/utf8.acceptRanges", laid_unicode_utf8_acceptRanges), ("unicode/utf8.first", laid_unicode_utf8_first)], narrowed := true }
def RulesMakesUptoSaid : Prop := rulesMakesUptoRow.holds Tryd.pinned (OpenSpec.upto rulesMakesSpec)

/-- 'vergerlaw09.RulesMade', WHERE WHAT IT READS IS OF BULK AT MOST 1048576: true; the input reads as it did. -/
def rulesMadeUptoRow : OpenClaim := { program := "ytlenlldiimohjaadoor", sum := "15cb13249cc44903bd39cb75e44fc5cc3745240e5bc2f07e31f2fd446d3a084b", func := "verger/vergerlaw09.RulesMade", spec := "rulesMade", inPlace := ["internal/bytealg.CountString", "internal/bytealg.IndexByteString", "internal/bytealg.IndexString", "internal/abi.NoEscape", "internal/bytealg.MakeNoZero"], unfollowed := true, recurses := true, named := ["unicode/utf8.first", "unicode/utf8.acceptRanges", "internal/bytealg.MaxLen"], plainKeys := false, apart := false, laid := [("unicode/utf8.acceptRanges", laid_unicode_utf8_acceptRanges), ("unicode/utf8.first", laid_unicode_utf8_first)], narrowed := true }
def RulesMadeUptoSaid : Prop := rulesMadeUptoRow.holds Tryd.pinned (OpenSpec.upto rulesMadeSpec)

/-- 'vergerlaw09.RulesOpens', WHERE WHAT IT READS IS OF BULK AT MOST 1048576: true; the input reads as it did. -/
def rulesOpensUptoRow : OpenClaim := { program := "ytlenlldiimohjaadoor", sum := "15cb13249cc44903bd39cb75e44fc5cc3745240e5bc2f07e31f2fd446d3a084b", func := "verger/vergerlaw09.RulesOpens", spec := "rulesOpens", inPlace := ["internal/bytealg.CountString", "internal/bytealg.IndexByteString", "internal/bytealg.IndexString", "internal/abi.NoEscape", "internal/bytealg.MakeNoZero"], unfollowed := true, recurses := true, named := ["unicode/utf8.first", "unicode/utf8.acceptRanges", "internal/bytealg.MaxLen"], plainKeys := false, apart := false, laid := [("unicode/utf8.acceptRanges", laid_unicode_utf8_acceptRanges), ("unicode/utf8.first", laid_unicode_utf8_first)], narrowed := true }
def RulesOpensUptoSaid : Prop := rulesOpensUptoRow.holds Tryd.pinned (OpenSpec.upto rulesOpensSpec)

/-- 'vergerlaw09.RulesMore', WHERE WHAT IT READS IS OF BULK AT MOST 1048576: true; the input reads as it did. -/
def rulesMoreUptoRow : OpenClaim := { program := "ytlenlldiimohjaadoor", sum := "15cb13249cc44903bd39cb75e44fc5cc3745240e5bc2f07e31f2fd446d3a084b", func := "verger/vergerlaw09.RulesMore", spec := "rulesMore", inPlace := ["internal/bytealg.CountString", "internal/bytealg.IndexByteString", "internal/bytealg.IndexString", "internal/abi.NoEscape", "internal/bytealg.MakeNoZero"], unfollowed := true, recurses := true, named := ["unicode/utf8.first", "unicode/utf8.acceptRanges", "internal/bytealg.MaxLen"], plainKeys := false, apart := false, laid := [("unicode/utf8.acceptRanges", laid_unicode_utf8_acceptRanges), ("unicode/utf8.first", laid_unicode_utf8_first)], narrowed := true }
def RulesMoreUptoSaid : Prop := rulesMoreUptoRow.holds Tryd.pinned (OpenSpec.upto rulesMoreSpec)

/-- 'vergerlaw09.RulesClasses', WHERE WHAT IT READS IS OF BULK AT MOST 1048576: true; the input reads as it did. -/
def rulesClassesUptoRow : OpenClaim := { program := "ytlenlldiimohjaadoor", sum := "15cb13249cc44903bd39cb75e44fc5cc3745240e5bc2f07e31f2fd446d3a084b", func := "verger/vergerlaw09.RulesClasses", spec := "rulesClasses", inPlace := ["internal/bytealg.CountString", "internal/bytealg.IndexByteString", "internal/bytealg.IndexString", "internal/abi.NoEscape", "internal/bytealg.MakeNoZero"], unfollowed := true, recurses := true, named := ["unicode/utf8.first", "unicode/utf8.acceptRanges", "internal/bytealg.MaxLen"], plainKeys := false, apart := false, laid := [("unicode/utf8.acceptRanges", laid_unicode_utf8_acceptRanges), ("unicode/utf8.first", laid_unicode_utf8_first)], narrowed := true }
def RulesClassesUptoSaid : Prop := rulesClassesUptoRow.holds Tryd.pinned (OpenSpec.upto rulesClassesSpec)

/-- 'vergerlaw09.RulesRights', WHERE WHAT IT READS IS OF BULK AT MOST 1048576: true; the input reads as it did. -/
def rulesRightsUptoRow : OpenClaim := { program := "ytlenlldiimohjaadoor", sum := "15cb13249cc44903bd39cb75e44fc5cc3745240e5bc2f07e31f2fd446d3a084b", func := "verger/vergerlaw09.RulesRights", spec := "rulesRights", inPlace := ["internal/bytealg.CountString", "internal/bytealg.IndexByteString", "internal/bytealg.IndexString", "internal/abi.NoEscape", "internal/bytealg.MakeNoZero"], unfollowed := true, recurses := true, named := ["unicode/utf8.first", "unicode/utf8.acceptRanges", "internal/bytealg.MaxLen"], plainKeys := false, apart := false, laid := [("unicode/utf8.acceptRanges", laid_unicode_utf8_acceptRanges), ("unicode/utf8.first", laid_unicode_utf8_first)], narrowed := true }
def RulesRightsUptoSaid : Prop := rulesRightsUptoRow.holds Tryd.pinned (OpenSpec.upto rulesRightsSpec)

/-- 'vergerlaw09.RulesKeeps', WHERE WHAT IT READS IS OF BULK AT MOST 1048576: true; the input reads as it did. -/
def rulesKeepsUptoRow : OpenClaim := { program := "ytlenlldiimohjaadoor", sum := "15cb13249cc44903bd39cb75e44fc5cc3745240e5bc2f07e31f2fd446d3a084b", func := "verger/vergerlaw09.RulesKeeps", spec := "rulesKeeps", inPlace := ["internal/bytealg.CountString", "internal/bytealg.IndexByteString", "internal/bytealg.IndexString", "internal/abi.NoEscape", "internal/bytealg.MakeNoZero"], unfollowed := true, recurses := true, named := ["unicode/utf8.first", "unicode/utf8.acceptRanges", "internal/bytealg.MaxLen"], plainKeys := false, apart := false, laid := [("unicode/utf8.acceptRanges", laid_unicode_utf8_acceptRanges), ("unicode/utf8.first", laid_unicode_utf8_first)], narrowed := true }
def RulesKeepsUptoSaid : Prop := rulesKeepsUptoRow.holds Tryd.pinned (OpenSpec.upto rulesKeepsSpec)

/-- 'vergerlaw09.RulesEmpty', WHERE WHAT IT READS IS OF BULK AT MOST 1048576: true; the input reads as it did. -/
def rulesEmptyUptoRow : OpenClaim := { program := "ytlenlldiimohjaadoor", sum := "15cb13249cc44903bd39cb75e44fc5cc3745240e5bc2f07e31f2fd446d3a084b", func := "verger/vergerlaw09.RulesEmpty", spec := "rulesEmpty", inPlace := ["internal/bytealg.CountString", "internal/bytealg.IndexByteString", "internal/bytealg.IndexString", "internal/abi.NoEscape", "internal/bytealg.MakeNoZero"], unfollowed := true, recurses := true, named := ["unicode/utf8.first", "unicode/utf8.acceptRanges", "internal/bytealg.MaxLen"], plainKeys := false, apart := false, laid := [("unicode/utf8.acceptRanges", laid_unicode_utf8_acceptRanges), ("unicode/utf8.first", laid_unicode_utf8_first)], narrowed := true }
def RulesEmptyUptoSaid : Prop := rulesEmptyUptoRow.holds Tryd.pinned (OpenSpec.upto rulesEmptySpec)

end Rows
end Go.Proofs.YtlenlldiimohjaaDoor
