/-
  Package names: Check; the document's Check.
-/
import Derived.Test.YtlenlldiimohjaaDoorU19b
import Derived.Test.YtlenlldiimohjaaDoorR06d
namespace Go.Proofs.YtlenlldiimohjaaDoor
open Go.ChangeShapes Go.WideShapes Go.ChangeAt Go.RowKit

def badName (s : ByteArray) : Bool := s.toList.isEmpty || (s.toList == [46]) || (s.toList == [46, 46]) || decide (255 < s.size) || decide (0 ≤ Lib.indexByte s.data.toList 47) || !good s
def checkS (s : ByteArray) : Int := if badName s = true then 50 else 0

theorem check_calls (s : ByteArray) (w : World) (hr : Ready w) :
    Calls Tryd.prog 24 #[.string s] w fun e w' => e = .returned (.int .i64 (checkS s)) ∧ Below w.heap.size w w' := by
  have HR := Lib.hid hr; clear hr
  cases h0 : s.toList.isEmpty with
  | true =>
    have HX := Lib.hid (show checkS s = 50 from by simp [checkS, badName, h0])
    go_enter Tryd.func24, Tryd.ntmps24
    go_wp2
    go_ret
    exact ⟨ret_int HX.out.symm, Below.refl _ _⟩
  | false =>
    cases h1 : (s.toList == [46]) with
    | true =>
      have HX := Lib.hid (show checkS s = 50 from by simp [checkS, badName, h1])
      go_enter Tryd.func24, Tryd.ntmps24
      go_wp2
      go_ret
      exact ⟨ret_int HX.out.symm, Below.refl _ _⟩
    | false =>
      cases h2 : (s.toList == [46, 46]) with
      | true =>
        have HX := Lib.hid (show checkS s = 50 from by simp [checkS, badName, h2])
        go_enter Tryd.func24, Tryd.ntmps24
        go_wp2
        go_ret
        exact ⟨ret_int HX.out.symm, Below.refl _ _⟩
      | false =>
        by_cases h3 : 255 < s.size
        · have HX := Lib.hid (show checkS s = 50 from by simp [checkS, badName, h3])
          go_enter Tryd.func24, Tryd.ntmps24
          go_wp2
          go_ret
          exact ⟨ret_int HX.out.symm, Below.refl _ _⟩
        · cases h4 : decide (0 ≤ Lib.indexByte s.data.toList 47) with
          | true =>
            have HX := Lib.hid (show checkS s = 50 from by simp only [checkS, badName, h4]; simp)
            have H4 := Lib.hid h4; clear h4
            go_enter Tryd.func24, Tryd.ntmps24
            go_wp2_with (go_at_call 46; refine (Tryd.strings_Contains_one s 47 _).mono ?_; rw [H4.out]; rintro e w' ⟨rfl, hw⟩; subst hw)
            go_ret
            exact ⟨ret_int HX.out.symm, Below.refl _ _⟩
          | false =>
            have HX := Lib.hid (show checkS s = if good s = true then 0 else 50 from by simp only [checkS, badName, h0, h1, h2, h4, decide_eq_false h3]; cases good s <;> simp)
            have H4 := Lib.hid h4; clear h4
            cases h5 : good s with
            | true =>
              have H5 := Lib.hid h5; clear h5
              go_enter Tryd.func24, Tryd.ntmps24
              go_wp2_with (first
                | (go_at_call 46; refine (Tryd.strings_Contains_one s 47 _).mono ?_; rw [H4.out]; rintro e w' ⟨rfl, hw⟩; subst hw)
                | (go_at_call 47; refine (wireGood_calls s _ HR.out).mono ?_; rw [H5.out]; rintro e w' ⟨rfl, hb⟩; have HB := Lib.hid hb; clear hb))
              go_ret
              exact ⟨ret_int (by rw [HX.out, H5.out]; rfl), HB.out⟩
            | false =>
              have H5 := Lib.hid h5; clear h5
              go_enter Tryd.func24, Tryd.ntmps24
              go_wp2_with (first
                | (go_at_call 46; refine (Tryd.strings_Contains_one s 47 _).mono ?_; rw [H4.out]; rintro e w' ⟨rfl, hw⟩; subst hw)
                | (go_at_call 47; refine (wireGood_calls s _ HR.out).mono ?_; rw [H5.out]; rintro e w' ⟨rfl, hb⟩; have HB := Lib.hid hb; clear hb))
              go_ret
              exact ⟨ret_int (by rw [HX.out, H5.out]; rfl), HB.out⟩

theorem slash_none (s : ByteArray) (h : s.data.toList.all (fun c => decide (c ≠ 47)) = true) : decide (0 ≤ Lib.indexByte s.data.toList 47) = false := by
  rw [indexByte_none _ _ (fun b hb => by
    have := List.all_eq_true.1 h b hb
    simpa using this)]
  rfl
theorem slash_at (l : List UInt8) (h : (47 : UInt8) ∈ l) : 0 ≤ Lib.indexByte l 47 := by
  induction l with
  | nil => cases h
  | cons b l ih =>
    rw [Lib.indexByte]
    split
    · omega
    · rename_i hne
      rcases List.mem_cons.1 h with rfl | h
      · simp at hne
      · have := ih h
        have h2 : (Lib.indexByte l 47 == -1) = false := by rw [beq_eq_false_iff_ne]; omega
        rw [h2]
        simp only [Bool.false_eq_true, if_false]
        omega
theorem slash_some {s : ByteArray} {k : Nat} (hk : k < s.size) (h : s[k].toNat = 47) : decide (0 ≤ Lib.indexByte s.data.toList 47) = true := by
  refine decide_eq_true (slash_at _ ?_)
  have e : s[k] = 47 := UInt8.toNat_inj.1 (by rw [h]; rfl)
  rw [← e]
  exact Array.getElem_mem_toList (xs := s.data) (by simpa using hk)

set_option maxRecDepth 100000 in
set_option maxHeartbeats 1600000 in
theorem refCheck_calls (s : ByteArray) (w : World) (hs : s.size ≤ 16777216) :
    Calls Tryd.prog 73 #[.string s] w fun e w' => e = .returned (.int .i64 (checkS s)) ∧ w = w' := by
  obtain ⟨b, HG⟩ : ∃ b, Hid (good s = b) := ⟨_, rfl⟩
  cases h0 : s.toList.isEmpty with
  | true =>
    have h00 : s.toList = [] := List.isEmpty_iff.1 h0
    have HX := Lib.hid (show checkS s = 50 from by simp [checkS, badName, h0])
    go_enter Tryd.func73, Tryd.ntmps73
    go_wp2_with (go_at_call 92; refine (good_calls s _ hs).mono ?_; rw [HG.out]; rintro e w' ⟨rfl, rfl⟩)
    go_ret
    exact ⟨ret_int HX.out.symm, rfl⟩
  | false =>
    cases h1 : (s.toList == [46]) with
    | true =>
      have HX := Lib.hid (show checkS s = 50 from by simp [checkS, badName, h1])
      go_enter Tryd.func73, Tryd.ntmps73
      go_wp2_with (go_at_call 92; refine (good_calls s _ hs).mono ?_; rw [HG.out]; rintro e w' ⟨rfl, rfl⟩)
      go_ret
      exact ⟨ret_int HX.out.symm, rfl⟩
    | false =>
      cases h2 : (s.toList == [46, 46]) with
      | true =>
        have HX := Lib.hid (show checkS s = 50 from by simp [checkS, badName, h2])
        go_enter Tryd.func73, Tryd.ntmps73
        go_wp2_with (go_at_call 92; refine (good_calls s _ hs).mono ?_; rw [HG.out]; rintro e w' ⟨rfl, rfl⟩)
        go_ret
        exact ⟨ret_int HX.out.symm, rfl⟩
      | false =>
        cases b with
        | false =>
          have HX := Lib.hid (show checkS s = 50 from by simp [checkS, badName, show good s = false from HG.out])
          go_enter Tryd.func73, Tryd.ntmps73
          go_wp2_with (go_at_call 92; refine (good_calls s _ hs).mono ?_; rw [HG.out]; rintro e w' ⟨rfl, rfl⟩)
          go_ret
          exact ⟨ret_int HX.out.symm, rfl⟩
        | true =>
          by_cases h3 : 255 < s.size
          · have HX := Lib.hid (show checkS s = 50 from by simp [checkS, badName, h3])
            go_enter Tryd.func73, Tryd.ntmps73
            go_wp2_with (go_at_call 92; refine (good_calls s _ hs).mono ?_; rw [HG.out]; rintro e w' ⟨rfl, rfl⟩)
            go_ret
            exact ⟨ret_int HX.out.symm, rfl⟩
          · have HX := Lib.hid (show checkS s = if decide (0 ≤ Lib.indexByte s.data.toList 47) = true then 50 else 0 from by
              simp only [checkS, badName, h0, h1, h2, decide_eq_false h3, show good s = true from HG.out]
              cases decide (0 ≤ Lib.indexByte s.data.toList 47) <;> simp)
            go_enter Tryd.func73, Tryd.ntmps73
            go_wp2_with (go_at_call 92; refine (good_calls s _ hs).mono ?_; rw [HG.out]; rintro e w' ⟨rfl, rfl⟩)
            go_loop [4] (fun i => ∃ k : Nat, k ≤ s.size ∧ i = .int .i64 k ∧ (s.data.toList.take k).all (fun c => decide (c ≠ 47)) = true) (fun i => s.size - (intOf i).toNat)
            case atStart => exact ⟨0, by omega, rfl, rfl⟩
            case round =>
              obtain ⟨k, hk, rfl, hall⟩ := hrel
              have HA := Lib.hid hall; clear hall
              by_cases hlt : k < s.size
              · by_cases hc : s[k].toNat = 47
                · have hcb : ((s[k].toNat : Int) == 47) = true := byte_t (n := 47) hc
                  have HY := Lib.hid (slash_some hlt hc); clear hc
                  go_wp2_with fail
                  go_ret
                  exact ⟨ret_int (by rw [HX.out, HY.out]; rfl), rfl⟩
                · have hcb : ((s[k].toNat : Int) == 47) = false := byte_f (n := 47) hc
                  have HY := Lib.hid (show decide (s[k] ≠ 47) = true from decide_eq_true (fun e => hc (by rw [e]; rfl))); clear hc
                  go_wp2_with fail
                  go_round
                  case rel => exact ⟨k + 1, by omega, by go_num, by rw [all_step hlt HA.out]; exact HY.out⟩
                  case measure => simp [intOf]; omega
              · have HY := Lib.hid (slash_none s (all_end (by omega) HA.out))
                go_wp2_with fail
                go_ret
                exact ⟨ret_int (by rw [HX.out, HY.out]; rfl), rfl⟩
end Go.Proofs.YtlenlldiimohjaaDoor
