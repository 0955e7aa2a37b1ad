/-
  The document's Wants and Perm; pick.
-/
import Derived.Test.YtlenlldiimohjaaDoorU23
namespace Go.Proofs.YtlenlldiimohjaaDoor
open Go.ChangeShapes Go.WideShapes Go.ChangeAt Go.RowKit

theorem refWants_calls (m : Nat) (w : World) :
    Calls Tryd.prog 15 #[.int .u8 m] w fun e w' => e = .returned (.tuple #[.int .u8 (wantsR m).1, .int .i64 (wantsR m).2]) ∧ w = w' := by
  go_enter Tryd.func15, Tryd.ntmps15
  go_wp2
  all_goals
    go_ret2
    exact ⟨ret_two (by simp [wantsR, *]), rfl⟩
theorem refPerm_calls (m : Int) (w : World) :
    Calls Tryd.prog 17 #[.int .u32 m] w fun e w' => e = .returned (.int .i64 (permS m)) ∧ w = w' := by
  go_enter Tryd.func17, Tryd.ntmps17
  go_wp2
  all_goals
    go_ret
    refine ⟨ret_int ?_, rfl⟩
    go_light
    simp_all [permS]
theorem pick_calls (c : Int) (w : World) (h0 : -9223372036854775808 ≤ c) (h1 : c < 9223372036854775808) :
    Calls Tryd.prog 18 #[.int .i64 c, .int .i64 32] w fun e w' => (∃ z : Nat, z < 32 ∧ e = .returned (.int .i64 z)) ∧ w = w' := by
  by_cases hc : c < 0
  · obtain ⟨k, rfl⟩ : ∃ k : Nat, c = -(k : Int) - 1 := ⟨(-(c + 1)).toNat, by omega⟩
    have hk : k < 9223372036854775808 := by omega
    have e1 : wrap64 (-(k : Int) - 1 + 1) = -(k : Int) := by unfold wrap64; omega
    have e2 : wrap64 (-(-(k : Int))) = (k : Int) := by unfold wrap64; omega
    go_enter Tryd.func18, Tryd.ntmps18
    go_wp2_with fail
    go_ret
    exact ⟨⟨k % 32, Nat.mod_lt _ (by omega), rfl⟩, rfl⟩
  · obtain ⟨k, rfl⟩ : ∃ k : Nat, c = (k : Int) := ⟨c.toNat, by omega⟩
    have hk : k < 9223372036854775808 := by omega
    go_enter Tryd.func18, Tryd.ntmps18
    go_wp2_with fail
    go_ret
    exact ⟨⟨k % 32, Nat.mod_lt _ (by omega), rfl⟩, rfl⟩
end Go.Proofs.YtlenlldiimohjaaDoor
