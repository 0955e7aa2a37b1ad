/-
  vergerlaw09: RulesModes. Condition: the tables of utf8 lie as laid.
-/
import Derived.Test.YtlenlldiimohjaaDoorU25
import Derived.Test.YtlenlldiimohjaaDoorWords
import Derived.LoopTactic
namespace Go.Proofs.YtlenlldiimohjaaDoor
open Go.ChangeShapes Go.WideShapes Go.ChangeAt Go.RowKit

/-- What is told of a slice of integers that came in. -/
def IsRow (k : IntKind) (w : World) (a : Option Addr) (len cap : Nat) (zs : List Int) : Prop :=
  (a = none ∧ len = 0 ∧ cap = 0 ∧ zs = []) ∨
  ∃ x, a = some x ∧ len ≤ cap ∧ cap ≤ maxLen ∧ zs.length = cap ∧ (∀ i, i < zs.length → w.cell? (x.add i) = some (.int k (zs.getD i 0))) ∧ ∀ n ∈ zs, (Lit.int k n).wf = true

theorem lt_of_cell {w : World} {a : Addr} {v : Value} (h : w.cell? a = some v) : a.block < w.heap.size := by
  rcases Nat.lt_or_ge a.block w.heap.size with hlt | hge
  · exact hlt
  · unfold World.cell? at h
    rw [Array.getElem?_eq_none hge] at h
    cases h

/-- One number of it. -/
theorem IsRow.num {w w' : World} {a : Option Addr} {len cap : Nat} {zs : List Int} (h : IsRow .i64 w a len cap zs) (hb : Below w.heap.size w w') {j : Nat} (hj : j < len) :
    ∃ x c, a = some x ∧ len ≤ cap ∧ w'.cell? (x.add j) = some (.int .i64 c) ∧ -9223372036854775808 ≤ c ∧ c < 9223372036854775808 := by
  rcases h with ⟨rfl, rfl, rfl, rfl⟩ | ⟨x, rfl, hl, _, hz, hc, hw⟩
  · omega
  · have h1 := hc j (by omega)
    have h2 := hw (zs.getD j 0) (by rw [List.getD_eq_getElem?_getD, List.getElem?_eq_getElem (by omega : j < zs.length)]; exact List.getElem_mem _)
    refine ⟨x, zs.getD j 0, rfl, hl, (hb.cell (lt_of_cell h1)).trans h1, ?_⟩
    simp [Lit.wf, IntKind.min, IntKind.max, IntKind.signed, IntKind.bits] at h2
    rw [List.getD_eq_getElem?_getD]
    omega
theorem IsRow.small {w : World} {a : Option Addr} {len cap : Nat} {zs : List Int} (h : IsRow .i64 w a len cap zs) : len ≤ maxLen := by
  rcases h with ⟨rfl, rfl, rfl, rfl⟩ | ⟨x, rfl, hl, h2, _, _, _⟩
  · omega
  · omega

set_option maxRecDepth 100000 in
set_option maxHeartbeats 800000 in
theorem modes_calls (perm : Int) (a : Option Addr) (len cap : Nat) (zs : List Int) (w : World) (hz : IsRow .i64 w a len cap zs) (hr : Ready w) :
    Calls Tryd.prog 4 #[.int .u32 perm, .slice a len cap] w fun e w' => e = .returned (.bool true) ∧ Below w.heap.size w w' := by
  have hsm := hz.small
  unfold maxLen at hsm
  have HZ := Lib.hid hz; clear hz
  have HR := Lib.hid hr; clear hr
  go_enter Tryd.func4, Tryd.ntmps4
  go_wp2_with (first
    | (go_at_call 13; refine (exKnown_calls _ HR.out).mono ?_; rintro e w1 ⟨rfl, hb1⟩; have HB1 := Lib.hid hb1; clear hb1))
  go_loopw [6] (fun i wr => ∃ m : Nat, m ≤ 256 ∧ i = .int .i64 m ∧ Below w.heap.size w wr) (fun i _ => 256 - (intOf i).toNat)
  case atStart => exact ⟨0, by omega, rfl, HB1.out⟩
  case round =>
    obtain ⟨m, hm, rfl, hb⟩ := hrel
    have HB := Lib.hid hb; clear hb
    by_cases hlt : m < 256
    · have hw : IntKind.u8.wrap (m : Int) = (m : Int) := by unfold IntKind.wrap; simp [IntKind.signed, IntKind.bits]; omega
      go_wp2_with (first
        | (go_at_call 14; refine (wants_calls _ _).mono ?_; rw [wants_eq _ (by omega) (by omega)]; rintro e w' ⟨rfl, rfl⟩)
        | (go_at_call 15; refine (refWants_calls _ _).mono ?_; rintro e w' ⟨rfl, rfl⟩))
      go_roundw
      case rel => exact ⟨m + 1, by omega, by go_num, HB.out⟩
      case measure => simp [intOf]; omega
    · have hmm : m = 256 := by omega
      subst hmm
      go_wp2_with fail
      go_loopw [0, 11] (fun p i wr => ∃ (k : Nat) (q : Int), k ≤ len ∧ p = .int .u32 q ∧ i = .int .i64 k ∧ Below w.heap.size w wr) (fun _ i _ => len - (intOf i).toNat)
      case atStart => exact ⟨0, perm, by omega, rfl, rfl, HB.out⟩
      case round =>
        obtain ⟨k, q, hk, rfl, rfl, hb⟩ := hrel
        have HB2 := Lib.hid hb; clear hb
        by_cases hlt2 : k < len
        · obtain ⟨x, c, hx, hcap, hcell, hc0, hc1⟩ := HZ.out.num HB2.out hlt2
          subst hx
          have HC := Lib.hid (And.intro hc0 hc1); clear hc0 hc1
          go_wp2_with (first
            | (go_at_call 16; refine (perm_calls _ _).mono ?_; rintro e w' ⟨rfl, rfl⟩)
            | (go_at_call 17; refine (refPerm_calls _ _).mono ?_; rintro e w' ⟨rfl, rfl⟩)
            | (go_at_call 18; refine (pick_calls _ _ HC.out.1 HC.out.2).mono ?_; rintro e w' ⟨⟨z, hz, rfl⟩, rfl⟩))
          go_roundw
          case rel =>
            generalize bits BinOp.xor IntKind.u32 q _ = q2
            refine ⟨_, _, _, _, _, _, _, _, _, _, _, _, _, _, _, _, _, _, _, _, _, _, _, ?_, rfl⟩
            exact ⟨k + 1, _, by omega, rfl, by go_num, HB2.out⟩
          case measure => simp [intOf]; omega
        · have hkk : k = len := by omega
          subst hkk
          go_wp2_with (first
            | (go_at_call 16; refine (perm_calls _ _).mono ?_; rintro e w' ⟨rfl, rfl⟩)
            | (go_at_call 17; refine (refPerm_calls _ _).mono ?_; rintro e w' ⟨rfl, rfl⟩))
          go_ret
          exact ⟨rfl, HB2.out⟩
end Go.Proofs.YtlenlldiimohjaaDoor
