/-
  The reference of layer 1: within, Character, Bad, Good. Conditions: places are not negative and small.
-/
import Derived.Test.YtlenlldiimohjaaDoorUData
import Derived.Test.YtlenlldiimohjaaDoorUtfLaw
import Derived.ProofKit
import Derived.OpenShut
namespace Go.Proofs.YtlenlldiimohjaaDoor
open Go.ChangeShapes Go.WideShapes Go.ChangeAt Go.RowKit

theorem get_bang (s : ByteArray) (i : Nat) (h : i < s.size) : s.get! i = s[i] := by
  have := get_at s i h
  rwa [Nat.add_zero] at this

theorem within_calls (s : ByteArray) (i lo hi : Nat) (w : World) :
    Calls Tryd.prog 122 #[.string s, .int .i64 (i : Int), .int .u8 (lo : Int), .int .u8 (hi : Int)] w fun e w' => e = .returned (.bool (withinB s i lo hi)) ∧ w = w' := by
  by_cases hi1 : i < s.size
  · have hb : withinB s i lo hi = (decide (lo ≤ s[i].toNat) && decide (s[i].toNat ≤ hi)) := by
      unfold withinB; rw [decide_eq_true hi1, Bool.true_and, get_bang s i hi1]
    have HB := Lib.hid hb; clear hb
    by_cases h1 : lo ≤ s[i].toNat
    · have d1 : decide ((lo : Int) ≤ (s[i].toNat : Int)) = true := decide_eq_true (by omega)
      by_cases h2 : s[i].toNat ≤ hi
      · have d2 : decide ((s[i].toNat : Int) ≤ (hi : Int)) = true := decide_eq_true (by omega)
        go_enter Tryd.func122, Tryd.ntmps122
        go_wp2
        go_ret
        refine ⟨ret_bool ?_, rfl⟩
        rw [HB.out, decide_eq_true h1, decide_eq_true h2]; rfl
      · have d2 : decide ((s[i].toNat : Int) ≤ (hi : Int)) = false := decide_eq_false (by omega)
        go_enter Tryd.func122, Tryd.ntmps122
        go_wp2
        go_ret
        refine ⟨ret_bool ?_, rfl⟩
        rw [HB.out, decide_eq_true h1, decide_eq_false h2]; rfl
    · have d1 : decide ((lo : Int) ≤ (s[i].toNat : Int)) = false := decide_eq_false (by omega)
      go_enter Tryd.func122, Tryd.ntmps122
      go_wp2
      go_ret
      refine ⟨ret_bool ?_, rfl⟩
      rw [HB.out, decide_eq_false h1]; rfl
  · have hb : withinB s i lo hi = false := by unfold withinB; rw [decide_eq_false hi1]; rfl
    have HB := Lib.hid hb; clear hb
    go_enter Tryd.func122, Tryd.ntmps122
    go_wp2
    go_ret
    exact ⟨ret_bool HB.out.symm, rfl⟩

/-- The byte at a place. -/
def byteAt (s : ByteArray) (i : Nat) : Nat := (s.get! i).toNat

theorem within_t {s : ByteArray} {i lo hi : Nat} (h : i < s.size ∧ lo ≤ byteAt s i ∧ byteAt s i ≤ hi) : withinB s i lo hi = true := by
  unfold withinB; simp only [Bool.and_eq_true, decide_eq_true_eq]; exact h
theorem within_f {s : ByteArray} {i lo hi : Nat} (h : ¬ (i < s.size ∧ lo ≤ byteAt s i ∧ byteAt s i ≤ hi)) : withinB s i lo hi = false := by
  rw [← Bool.not_eq_true]
  unfold withinB; simp only [Bool.and_eq_true, decide_eq_true_eq]; exact h

theorem within_q (s : ByteArray) (i k : Nat) (a lo hi : Int) (w : World) (h0 : a = (i : Int) + (k : Int)) (h1 : 0 ≤ lo) (h2 : 0 ≤ hi) :
    Calls Tryd.prog 122 #[.string s, .int .i64 a, .int .u8 lo, .int .u8 hi] w fun e w' => (e = .returned (.bool true) ∧ w = w' ∧ (i + k < s.size ∧ lo ≤ (byteAt s (i + k) : Int) ∧ (byteAt s (i + k) : Int) ≤ hi)) ∨ (e = .returned (.bool false) ∧ w = w' ∧ ¬ (i + k < s.size ∧ lo ≤ (byteAt s (i + k) : Int) ∧ (byteAt s (i + k) : Int) ≤ hi)) := by
  obtain ⟨b, rfl⟩ := Int.eq_ofNat_of_zero_le h1
  obtain ⟨c, rfl⟩ := Int.eq_ofNat_of_zero_le h2
  have e : a = ((i + k : Nat) : Int) := by omega
  subst e
  refine (within_calls s (i + k) b c w).mono fun e w' ⟨he, hw⟩ => ?_
  by_cases h : i + k < s.size ∧ b ≤ byteAt s (i + k) ∧ byteAt s (i + k) ≤ c
  · rw [within_t h] at he
    exact .inl ⟨he, hw, by omega⟩
  · rw [within_f h] at he
    exact .inr ⟨he, hw, by omega⟩

theorem charW_arith (s : ByteArray) (i : Nat) : charW s i =
    if i < s.size ∧ 0 ≤ byteAt s i ∧ byteAt s i ≤ 127 then 1
    else if (i < s.size ∧ 194 ≤ byteAt s i ∧ byteAt s i ≤ 223) ∧ (i + 1 < s.size ∧ 128 ≤ byteAt s (i + 1) ∧ byteAt s (i + 1) ≤ 191) then 2
    else if ((i < s.size ∧ 224 ≤ byteAt s i ∧ byteAt s i ≤ 239) ∧ (i + 1 < s.size ∧ (if i < s.size ∧ 224 ≤ byteAt s i ∧ byteAt s i ≤ 224 then 160 else 128) ≤ byteAt s (i + 1) ∧ byteAt s (i + 1) ≤ (if i < s.size ∧ 237 ≤ byteAt s i ∧ byteAt s i ≤ 237 then 159 else 191))) ∧ (i + 2 < s.size ∧ 128 ≤ byteAt s (i + 2) ∧ byteAt s (i + 2) ≤ 191) then 3
    else if (((i < s.size ∧ 240 ≤ byteAt s i ∧ byteAt s i ≤ 244) ∧ (i + 1 < s.size ∧ (if i < s.size ∧ 240 ≤ byteAt s i ∧ byteAt s i ≤ 240 then 144 else if i < s.size ∧ 224 ≤ byteAt s i ∧ byteAt s i ≤ 224 then 160 else 128) ≤ byteAt s (i + 1) ∧ byteAt s (i + 1) ≤ (if i < s.size ∧ 244 ≤ byteAt s i ∧ byteAt s i ≤ 244 then 143 else if i < s.size ∧ 237 ≤ byteAt s i ∧ byteAt s i ≤ 237 then 159 else 191))) ∧ (i + 2 < s.size ∧ 128 ≤ byteAt s (i + 2) ∧ byteAt s (i + 2) ≤ 191)) ∧ (i + 3 < s.size ∧ 128 ≤ byteAt s (i + 3) ∧ byteAt s (i + 3) ≤ 191) then 4 else 0 := by
  unfold charW withinB byteAt
  simp only [Bool.and_eq_true, decide_eq_true_eq]

set_option maxHeartbeats 8000000 in
theorem char_calls (s : ByteArray) (i : Nat) (w : World) (hi : i ≤ 16777216) :
    Calls Tryd.prog 116 #[.string s, .int .i64 (i : Int)] w fun e w' => e = .returned (.int .i64 (charW s i : Int)) ∧ w = w' := by
  have hw : ∀ n : Nat, charW s i = n → (n : Int) = (charW s i : Int) := fun n h => by rw [h]
  have HW := Lib.hid hw; clear hw
  go_enter Tryd.func116, Tryd.ntmps116
  go_wp2_with (go_at_call 122; (first | refine (within_q s i 0 _ _ _ _ (by omega) (by omega) (by omega)).mono ?_ | refine (within_q s i 1 _ _ _ _ (by omega) (by omega) (by omega)).mono ?_ | refine (within_q s i 2 _ _ _ _ (by omega) (by omega) (by omega)).mono ?_ | refine (within_q s i 3 _ _ _ _ (by omega) (by omega) (by omega)).mono ?_); rintro e w' (⟨rfl, rfl, hq⟩ | ⟨rfl, rfl, hq⟩) <;> first | (exfalso; omega) | skip)
  all_goals
    go_ret
    refine ⟨ret_int (HW.out _ ?_), rfl⟩
    clear HW
    simp only [Nat.add_zero] at *
    rw [charW_arith]
    repeat' split
    all_goals omega

end Go.Proofs.YtlenlldiimohjaaDoor
