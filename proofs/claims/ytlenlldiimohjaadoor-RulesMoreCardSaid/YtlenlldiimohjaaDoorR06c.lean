/-
  The reference of layer 6: Name, key. Condition: a text of at most 16777216 bytes.
-/
import Derived.Test.YtlenlldiimohjaaDoorR01b
namespace Go.Proofs.YtlenlldiimohjaaDoor
open Go.ChangeShapes Go.WideShapes Go.ChangeAt Go.RowKit

theorem byte_f {c : UInt8} {n : Nat} (h : ¬ c.toNat = n) : ((c.toNat : Int) == (n : Int)) = false := by rw [beq_eq_false_iff_ne]; omega
theorem byte_t {c : UInt8} {n : Nat} (h : c.toNat = n) : ((c.toNat : Int) == (n : Int)) = true := by rw [beq_iff_eq]; omega

/-- The first of the tests on a byte that says no; or none does. -/
theorem nameByte_cases (c : UInt8) :
    (byteOk c = true ∧ (decide ((c.toNat : Int) < 33) = false ∧ ((c.toNat : Int) == 127) = false ∧ ((c.toNat : Int) == 58) = false ∧ ((c.toNat : Int) == 44) = false ∧ ((c.toNat : Int) == 35) = false ∧ ((c.toNat : Int) == 47) = false)) ∨
    (byteOk c = false ∧ (decide ((c.toNat : Int) < 33) = true ∨ (decide ((c.toNat : Int) < 33) = false ∧ ((c.toNat : Int) == 127) = true) ∨
      (decide ((c.toNat : Int) < 33) = false ∧ ((c.toNat : Int) == 127) = false ∧ ((c.toNat : Int) == 58) = true) ∨
      (decide ((c.toNat : Int) < 33) = false ∧ ((c.toNat : Int) == 127) = false ∧ ((c.toNat : Int) == 58) = false ∧ ((c.toNat : Int) == 44) = true) ∨
      (decide ((c.toNat : Int) < 33) = false ∧ ((c.toNat : Int) == 127) = false ∧ ((c.toNat : Int) == 58) = false ∧ ((c.toNat : Int) == 44) = false ∧ ((c.toNat : Int) == 35) = true) ∨
      (decide ((c.toNat : Int) < 33) = false ∧ ((c.toNat : Int) == 127) = false ∧ ((c.toNat : Int) == 58) = false ∧ ((c.toNat : Int) == 44) = false ∧ ((c.toNat : Int) == 35) = false ∧ ((c.toNat : Int) == 47) = true))) := by
  have key (n : Nat) : ((c.toNat : Int) == (n : Int)) = decide (c.toNat = n) := by
    rw [Bool.eq_iff_iff, beq_iff_eq, decide_eq_true_iff]; omega
  have k0 : decide ((c.toNat : Int) < 33) = decide (c.toNat < 33) := by rw [Bool.eq_iff_iff, decide_eq_true_iff, decide_eq_true_iff]; omega
  have k1 := key 127
  have k2 := key 58
  have k3 := key 44
  have k4 := key 35
  have k5 := key 47
  simp only [Int.cast_ofNat_Int] at k1 k2 k3 k4 k5
  rw [k0, k1, k2, k3, k4, k5]
  unfold byteOk
  cases decide (c.toNat < 33) <;> cases decide (c.toNat = 127) <;> cases decide (c.toNat = 58) <;> cases decide (c.toNat = 44) <;> cases decide (c.toNat = 35) <;> cases decide (c.toNat = 47) <;> simp

theorem all_step {s : ByteArray} {k : Nat} {p : UInt8 → Bool} (hk : k < s.size) (h : (s.data.toList.take k).all p = true) : (s.data.toList.take (k + 1)).all p = p s[k] := by
  have hl : k < s.data.toList.length := by simpa using hk
  rw [List.take_succ_eq_append_getElem hl, List.all_append, h, Bool.true_and, List.all_cons, List.all_nil, Bool.and_true]
  rfl
theorem all_no {s : ByteArray} {k : Nat} {p : UInt8 → Bool} (hk : k < s.size) (h : p s[k] = false) : s.data.toList.all p = false := by
  rw [List.all_eq_false]
  refine ⟨s[k], ?_, by rw [h]; exact Bool.false_ne_true⟩
  exact Array.mem_toList_iff.2 (Array.getElem_mem hk)
theorem all_end {s : ByteArray} {k : Nat} {p : UInt8 → Bool} (hk : s.size ≤ k) (h : (s.data.toList.take k).all p = true) : s.data.toList.all p = true := by
  rwa [List.take_of_length_le (by simpa using hk)] at h

theorem refName_calls (s : ByteArray) (w : World) (hs : s.size ≤ 16777216) :
    Calls Tryd.prog 103 #[.string s] w fun e w' => e = .returned (.bool (isName s)) ∧ w = w' := by
  by_cases h0 : s.size < 1
  · have HR := Lib.hid (show isName s = false from by unfold isName; rw [decide_eq_false (by omega : ¬ 1 ≤ s.size)]; rfl)
    go_enter Tryd.func103, Tryd.ntmps103
    go_wp2_with fail
    go_ret
    exact ⟨ret_bool HR.out.symm, rfl⟩
  · by_cases h1 : 32 < s.size
    · have HR := Lib.hid (show isName s = false from by unfold isName; rw [decide_eq_false (by omega : ¬ s.size ≤ 32), Bool.and_false]; rfl)
      go_enter Tryd.func103, Tryd.ntmps103
      go_wp2_with fail
      go_ret
      exact ⟨ret_bool HR.out.symm, rfl⟩
    · have HR := Lib.hid (show isName s = (good s && s.data.toList.all byteOk) from by unfold isName; rw [decide_eq_true (by omega : 1 ≤ s.size), decide_eq_true (by omega : s.size ≤ 32)]; rfl)
      cases hg : good s with
      | false =>
        have HG := Lib.hid hg; clear hg
        go_enter Tryd.func103, Tryd.ntmps103
        go_wp2_with (go_at_call 92; refine (good_calls s _ (by omega)).mono ?_; rw [HG.out]; rintro e w' ⟨rfl, rfl⟩)
        go_ret
        exact ⟨ret_bool (by rw [HR.out, HG.out]; rfl), rfl⟩
      | true =>
        have HG := Lib.hid hg; clear hg
        go_enter Tryd.func103, Tryd.ntmps103
        go_wp2_with (go_at_call 92; refine (good_calls s _ (by omega)).mono ?_; rw [HG.out]; rintro e w' ⟨rfl, rfl⟩)
        go_loop [3] (fun c => ∃ k : Nat, k ≤ s.size ∧ c = .int .i64 k ∧ (s.data.toList.take k).all byteOk = true) (fun c => s.size - (intOf c).toNat)
        case atStart => exact ⟨0, by omega, rfl, rfl⟩
        case round =>
          obtain ⟨k, hk, rfl, hall⟩ := hrel
          have HA := Lib.hid hall; clear hall
          by_cases hlt : k < s.size
          · rcases nameByte_cases s[k] with ⟨hok, f1, f2, f3, f4, f5, f6⟩ | ⟨hok, hf⟩
            · have HK := Lib.hid hok; clear hok
              go_wp2_with fail
              go_round
              case rel => exact ⟨k + 1, by omega, by go_num, by rw [all_step hlt HA.out]; exact HK.out⟩
              case measure => simp [intOf]; omega
            · have HK := Lib.hid hok; clear hok
              rcases hf with f1 | ⟨f1, f2⟩ | ⟨f1, f2, f3⟩ | ⟨f1, f2, f3, f4⟩ | ⟨f1, f2, f3, f4, f5⟩ | ⟨f1, f2, f3, f4, f5, f6⟩
              all_goals
                go_wp2_with fail
                go_ret
                exact ⟨ret_bool (by rw [HR.out, HG.out, all_no hlt HK.out]; rfl), rfl⟩
          · go_wp2_with fail
            go_ret
            exact ⟨ret_bool (by rw [HR.out, HG.out, all_end (by omega) HA.out]; rfl), rfl⟩

theorem keyByte_cases (c : UInt8) :
    (keyByte c = true ∧ (decide ((c.toNat : Int) < 33) = false ∧ decide ((126 : Int) < (c.toNat : Int)) = false ∧ ((c.toNat : Int) == 58) = false)) ∨
    (keyByte c = false ∧ (decide ((c.toNat : Int) < 33) = true ∨ (decide ((c.toNat : Int) < 33) = false ∧ decide ((126 : Int) < (c.toNat : Int)) = true) ∨
      (decide ((c.toNat : Int) < 33) = false ∧ decide ((126 : Int) < (c.toNat : Int)) = false ∧ ((c.toNat : Int) == 58) = true))) := by
  have k0 : decide ((c.toNat : Int) < 33) = decide (c.toNat < 33) := by rw [Bool.eq_iff_iff, decide_eq_true_iff, decide_eq_true_iff]; omega
  have k1 : decide ((126 : Int) < (c.toNat : Int)) = decide (126 < c.toNat) := by rw [Bool.eq_iff_iff, decide_eq_true_iff, decide_eq_true_iff]; omega
  have k2 : ((c.toNat : Int) == 58) = decide (c.toNat = 58) := by
    rw [Bool.eq_iff_iff, beq_iff_eq, decide_eq_true_iff]; omega
  rw [k0, k1, k2]
  unfold keyByte
  cases decide (c.toNat < 33) <;> cases decide (126 < c.toNat) <;> cases decide (c.toNat = 58) <;> simp

theorem refKey_calls (s : ByteArray) (w : World) :
    Calls Tryd.prog 104 #[.string s] w fun e w' => e = .returned (.bool (isKey s)) ∧ w = w' := by
  by_cases h1 : 32 < s.size
  · have HR := Lib.hid (show isKey s = false from by unfold isKey; rw [decide_eq_false (by omega : ¬ s.size ≤ 32)]; rfl)
    go_enter Tryd.func104, Tryd.ntmps104
    go_wp2_with fail
    go_ret
    exact ⟨ret_bool HR.out.symm, rfl⟩
  · have HR := Lib.hid (show isKey s = s.data.toList.all keyByte from by unfold isKey; rw [decide_eq_true (by omega : s.size ≤ 32)]; rfl)
    go_enter Tryd.func104, Tryd.ntmps104
    go_wp2_with fail
    go_loop [3] (fun c => ∃ k : Nat, k ≤ s.size ∧ c = .int .i64 k ∧ (s.data.toList.take k).all keyByte = true) (fun c => s.size - (intOf c).toNat)
    case atStart => exact ⟨0, by omega, rfl, rfl⟩
    case round =>
      obtain ⟨k, hk, rfl, hall⟩ := hrel
      have HA := Lib.hid hall; clear hall
      by_cases hlt : k < s.size
      · rcases keyByte_cases s[k] with ⟨hok, f1, f2, f3⟩ | ⟨hok, hf⟩
        · have HK := Lib.hid hok; clear hok
          go_wp2_with fail
          go_round
          case rel => exact ⟨k + 1, by omega, by go_num, by rw [all_step hlt HA.out]; exact HK.out⟩
          case measure => simp [intOf]; omega
        · have HK := Lib.hid hok; clear hok
          rcases hf with f1 | ⟨f1, f2⟩ | ⟨f1, f2, f3⟩
          all_goals
            go_wp2_with fail
            go_ret
            exact ⟨ret_bool (by rw [HR.out, all_no hlt HK.out]), rfl⟩
      · go_wp2_with fail
        go_ret
        exact ⟨ret_bool (by rw [HR.out, all_end (by omega) HA.out]), rfl⟩
end Go.Proofs.YtlenlldiimohjaaDoor
