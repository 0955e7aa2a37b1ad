/-
  The table of the examples. No program in sight.
-/
import Derived.Test.YtlenlldiimohjaaDoorULaw2
import Derived.Test.YtlenlldiimohjaaDoorRLaw
namespace Go.Proofs.YtlenlldiimohjaaDoor

/-- "glenda:::\nsys:glenda:bob:\nbob:::\neve:::\n" -/
def peopleS : ByteArray := ⟨#[103, 108, 101, 110, 100, 97, 58, 58, 58, 10, 115, 121, 115, 58, 103, 108, 101, 110, 100, 97, 58, 98, 111, 98, 58, 10, 98, 111, 98, 58, 58, 58, 10, 101, 118, 101, 58, 58, 58, 10]⟩
def glendaB : ByteArray := ⟨#[103, 108, 101, 110, 100, 97]⟩
def sysB : ByteArray := ⟨#[115, 121, 115]⟩
def bobB : ByteArray := ⟨#[98, 111, 98]⟩
def eveB : ByteArray := ⟨#[101, 118, 101]⟩
def peopleL : List Acct := [⟨glendaB, ⟨#[]⟩, [], ⟨#[]⟩⟩, ⟨sysB, glendaB, [bobB], ⟨#[]⟩⟩, ⟨bobB, ⟨#[]⟩, [], ⟨#[]⟩⟩, ⟨eveB, ⟨#[]⟩, [], ⟨#[]⟩⟩]
theorem people_parse : parse peopleS = .ok peopleL := by kernel_rfl
theorem people_size : peopleS.size ≤ 16777216 := by decide
theorem people_mem : isMember peopleL bobB sysB = true ∧ isMember peopleL glendaB sysB = false ∧ isMember peopleL eveB sysB = false ∧ isMember peopleL bobB bobB = true := by decide +kernel
end Go.Proofs.YtlenlldiimohjaaDoor
