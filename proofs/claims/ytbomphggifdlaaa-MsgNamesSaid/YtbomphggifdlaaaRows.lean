/-
  No cell of these rows narrows 'for every input' (looked for: loops, veiled, ifaces, maps, wideKeys, modest, calm, conditions, laid).
  DERIVED. THE GIVEN ROWS OF THIS SEAT. 4 by the template 'for every input the law returns true; each argument reads behind the call as it read before'; 0 by the template 'total and deterministic' (their statements: YtbomphggifdlaaaTotals.lean).
  GIVEN WITH THE SEED: the statements are not yours to turn. If you find one false, say at which input.
  Laid BY PROGRAM, IN A SANDBOX (cutbox-rows.mjs): the forced cells as the released guide's own fill.sh prints them over the translation 2a94f5f1632ba6d9… (all of the seat's roots in one cut). By AI agents, Wed Nov 11 2026. No macro, syntax, notation, axiom, sorry.
-/
import Derived.Test.YtbomphggifdlaaaChecked
import GoSem.Claim
import GoSem.ClaimJoined
import GoSem.ClaimMapViews
import Derived.JoinedTies
import Derived.KernelRfl
namespace Go.Proofs.Ytbomphggifdlaaa
/- THE CELL 'sum', in the pinned program and in every row, IS THE sha256 OF THE DUMP (.gsa) THAT YtbomphggifdlaaaProg.lean LOADS. Nothing in Lean hashes anything: it is a label: what it is worth is what the hold of that sum in a sandbox is worth. -/
noncomputable def Try.pinned : Pinned := { name := "ytbomphggifdlaaa", sum := "2a94f5f1632ba6d9723f0a1fa9ebaf8acdcfd933edf8f80b3fd4b02f587f12b4", checked := Try.checked }
namespace Rows
def none {H : Type} : Left H := { results := [], args := [] }

/-- 'vergerlaw15.RowsMost': WHATEVER THE INPUT: true; the input reads as it did. -/
def rowsMostSpec : ChangeSpec := { name := "rowsMost", fn := fun _ => fun
  | [d] => { results := [.lit (.bool true)], args := [d] }
  | _ => none }
def rowsMostRow : OpenClaim := { program := "ytbomphggifdlaaa", sum := "2a94f5f1632ba6d9723f0a1fa9ebaf8acdcfd933edf8f80b3fd4b02f587f12b4", func := "verger/vergerlaw15.RowsMost", spec := "rowsMost", apart := false }
def RowsMostSaid : Prop := rowsMostRow.holds Try.pinned (OpenSpec.ofChange rowsMostSpec)

/-- ITS FALSE NEIGHBOUR: 'it returns false'. Refute it at one input. -/
def rowsMostWrong : ChangeSpec := { name := "rowsMost", fn := fun _ => fun
  | [d] => { results := [.lit (.bool false)], args := [d] }
  | _ => none }
def RowsMostWrongFalsely : Prop := rowsMostRow.holds Try.pinned (OpenSpec.ofChange rowsMostWrong)

/-- 'vergerlaw07.AuthNumbers': WHATEVER THE INPUT: true; the input reads as it did. -/
def authNumbersSpec : ChangeSpec := { name := "authNumbers", fn := fun _ => fun
  | [] => { results := [.lit (.bool true)], args := [] }
  | _ => none }
def authNumbersRow : OpenClaim := { program := "ytbomphggifdlaaa", sum := "2a94f5f1632ba6d9723f0a1fa9ebaf8acdcfd933edf8f80b3fd4b02f587f12b4", func := "verger/vergerlaw07.AuthNumbers", spec := "authNumbers", apart := false }
def AuthNumbersSaid : Prop := authNumbersRow.holds Try.pinned (OpenSpec.ofChange authNumbersSpec)

/-- ITS FALSE NEIGHBOUR: 'it returns false'. Refute it at one input. -/
def authNumbersWrong : ChangeSpec := { name := "authNumbers", fn := fun _ => fun
  | [] => { results := [.lit (.bool false)], args := [] }
  | _ => none }
def AuthNumbersWrongFalsely : Prop := authNumbersRow.holds Try.pinned (OpenSpec.ofChange authNumbersWrong)

/-- 'vergerlaw07.AuthSums': WHATEVER THE INPUT: true; the input reads as it did. -/
def authSumsSpec : ChangeSpec := { name := "authSums", fn := fun _ => fun
  | [d1, d2, d3, d4, d5] => { results := [.lit (.bool true)], args := [d1, d2, d3, d4, d5] }
  | _ => none }
def authSumsRow : OpenClaim := { program := "ytbomphggifdlaaa", sum := "2a94f5f1632ba6d9723f0a1fa9ebaf8acdcfd933edf8f80b3fd4b02f587f12b4", func := "verger/vergerlaw07.AuthSums", spec := "authSums", apart := false }
def AuthSumsSaid : Prop := authSumsRow.holds Try.pinned (OpenSpec.ofChange authSumsSpec)

/-- ITS FALSE NEIGHBOUR: 'it returns false'. Refute it at one input. -/
def authSumsWrong : ChangeSpec := { name := "authSums", fn := fun _ => fun
  | [d1, d2, d3, d4, d5] => { results := [.lit (.bool false)], args := [d1, d2, d3, d4, d5] }
  | _ => none }
def AuthSumsWrongFalsely : Prop := authSumsRow.holds Try.pinned (OpenSpec.ofChange authSumsWrong)

/-- 'vergerlaw03.MsgNames': WHATEVER THE INPUT: true; the input reads as it did. -/
def msgNamesSpec : ChangeSpec := { name := "msgNames", fn := fun _ => fun
  | [] => { results := [.lit (.bool true)], args := [] }
  | _ => none }
def msgNamesRow : OpenClaim := { program := "ytbomphggifdlaaa", sum := "2a94f5f1632ba6d9723f0a1fa9ebaf8acdcfd933edf8f80b3fd4b02f587f12b4", func := "verger/vergerlaw03.MsgNames", spec := "msgNames", apart := false }
def MsgNamesSaid : Prop := msgNamesRow.holds Try.pinned (OpenSpec.ofChange msgNamesSpec)

/-- ITS FALSE NEIGHBOUR: 'it returns false'. Refute it at one input. -/
def msgNamesWrong : ChangeSpec := { name := "msgNames", fn := fun _ => fun
  | [] => { results := [.lit (.bool false)], args := [] }
  | _ => none }
def MsgNamesWrongFalsely : Prop := msgNamesRow.holds Try.pinned (OpenSpec.ofChange msgNamesWrong)

/- THE SECOND FORM. 'bulk': how many values and letters a reading holds, each counted each time it is reached (what is shared counts as often as it is met; a slice's spare places count too). A statement '..UptoSaid' is the law's where the arguments, and the package variables that the reading takes, are together of bulk at most 1048576: NARROWER than '..Said'. Prove '..Said' where nothing that the law and all that it calls make is longer than what came in: it says more and counts as full. Else prove '..UptoSaid'. A law counts once. -/
mutual
def uptoBulk {H : Type} : DataW H → Nat
  | .lit (.string bytes) => bytes.length + 1
  | .lit _ => 1
  | .nil => 1
  | .ptr d => uptoBulk d + 1
  | .slice elems spare => uptoBulkAll elems + uptoBulkAll spare + 1
  | .agg parts => uptoBulkAll parts + 1
  | .iface _ d => uptoBulk d + 1
  | .map entries => uptoBulkEntries entries + 1
  | .held _ => 1
def uptoBulkAll {H : Type} : List (DataW H) → Nat
  | [] => 0
  | d :: r => uptoBulk d + uptoBulkAll r
def uptoBulkEntries {H : Type} : List (Lit × DataW H) → Nat
  | [] => 0
  | x :: r => uptoBulkEntry x + uptoBulkEntries r
def uptoBulkEntry {H : Type} : Lit × DataW H → Nat
  | (.string bytes, d) => bytes.length + uptoBulk d + 1
  | (_, d) => uptoBulk d + 1
 end
def uptoSmall : (H : Type) → List (DataW H) → Bool := fun _ ds => decide (uptoBulkAll ds ≤ 1048576)
def OpenSpec.upto (s : _root_.Go.ChangeSpec) : _root_.Go.OpenSpec := { _root_.Go.OpenSpec.ofChange s with cond := some uptoSmall }

/-- 'vergerlaw15.RowsMost', WHERE WHAT IT READS IS OF BULK AT MOST 1048576: true; the input reads as it did. -/
def rowsMostUptoRow : OpenClaim := { program := "ytbomphggifdlaaa", sum := "2a94f5f1632ba6d9723f0a1fa9ebaf8acdcfd933edf8f80b3fd4b02f587f12b4", func := "verger/vergerlaw15.RowsMost", spec := "rowsMost", apart := false, narrowed := true }
def RowsMostUptoSaid : Prop := rowsMostUptoRow.holds Try.pinned (OpenSpec.upto rowsMostSpec)

/-- 'vergerlaw07.AuthNumbers', WHERE WHAT IT READS IS OF BULK AT MOST 1048576: true; the input reads as it did. -/
def authNumbersUptoRow : OpenClaim := { program := "ytbomphggifdlaaa", sum := "2a94f5f1632ba6d9723f0a1fa9ebaf8acdcfd933edf8f80b3fd4b02f587f12b4", func := "verger/vergerlaw07.AuthNumbers", spec := "authNumbers", apart := false, narrowed := true }
def AuthNumbersUptoSaid : Prop := authNumbersUptoRow.holds Try.pinned (OpenSpec.upto authNumbersSpec)

/-- 'vergerlaw07.AuthSums', WHERE WHAT IT READS IS OF BULK AT MOST 1048576: true; the input reads as it did. -/
def authSumsUptoRow : OpenClaim := { program := "ytbomphggifdlaaa", sum := "2a94f5f1632ba6d9723f0a1fa9ebaf8acdcfd933edf8f80b3fd4b02f587f12b4", func := "verger/vergerlaw07.AuthSums", spec := "authSums", apart := false, narrowed := true }
def AuthSumsUptoSaid : Prop := authSumsUptoRow.holds Try.pinned (OpenSpec.upto authSumsSpec)

/-- 'vergerlaw03.MsgNames', WHERE WHAT IT READS IS OF BULK AT MOST 1048576: true; the input reads as it did. -/
def msgNamesUptoRow : OpenClaim := { program := "ytbomphggifdlaaa", sum := "2a94f5f1632ba6d9723f0a1fa9ebaf8acdcfd933edf8f80b3fd4b02f587f12b4", func := "verger/vergerlaw03.MsgNames", spec := "msgNames", apart := false, narrowed := true }
def MsgNamesUptoSaid : Prop := msgNamesUptoRow.holds Try.pinned (OpenSpec.upto msgNamesSpec)

end Rows
end Go.Proofs.Ytbomphggifdlaaa
