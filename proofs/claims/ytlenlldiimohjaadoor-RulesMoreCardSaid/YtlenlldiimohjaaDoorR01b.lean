/-
  The reference of layer 1: Bad, Good. Condition: a text of at most 16777216 bytes.
-/
import Derived.Test.YtlenlldiimohjaaDoorR01
namespace Go.Proofs.YtlenlldiimohjaaDoor
open Go.ChangeShapes Go.WideShapes Go.ChangeAt Go.RowKit

theorem charW_le (s : ByteArray) (i : Nat) : charW s i ≤ 4 := by
  rw [charW_arith]
  repeat' split
  all_goals omega

/-- Bad: the place of the first bad piece. -/
theorem bad_calls (s : ByteArray) (w : World) (hs : s.size ≤ 16777216) :
    Calls Tryd.prog 105 #[.string s] w fun e w' => e = .returned (.int .i64 (badR s s.size 0 : Int)) ∧ w = w' := by
  go_enter Tryd.func105, Tryd.ntmps105
  go_wp2_with fail
  go_loop [3] (fun c => ∃ i f : Nat, c = .int .i64 i ∧ i ≤ s.size + 4 ∧ s.size ≤ i + f ∧ badR s f i = badR s s.size 0) (fun c => s.size - (intOf c).toNat)
  case atStart => exact ⟨0, s.size, rfl, by omega, by omega, rfl⟩
  case round =>
    obtain ⟨i, f, rfl, hi, hf, hb⟩ := hrel
    have HB := Lib.hid hb; clear hb
    by_cases hlt : i < s.size
    · have hcw := charW_le s i
      obtain ⟨f, rfl⟩ : ∃ f', f = f' + 1 := ⟨f - 1, by omega⟩
      by_cases hz : charW s i = 0
      · have HR := Lib.hid (show badR s s.size 0 = i from by rw [← HB.out, badR, if_pos hlt, if_pos (.inl hz)])
        go_wp2_with fail
        refine (char_calls s i _ (by omega)).mono ?_
        rintro e w' ⟨rfl, rfl⟩
        rw [hz]
        have hzz : (((0 : Nat) : Int) == 0) = true := rfl
        go_wp2_with fail
        go_ret
        exact ⟨ret_int (by rw [HR.out]), rfl⟩
      · have hzz : (((charW s i : Nat) : Int) == 0) = false := by rw [beq_eq_false_iff_ne]; omega
        by_cases h0 : s[i].toNat = 0
        · have HR := Lib.hid (show badR s s.size 0 = i from by rw [← HB.out, badR, if_pos hlt, if_pos (.inr (by rw [get_bang s i hlt]; exact h0))])
          have h00 : ((s[i].toNat : Int) == 0) = true := by rw [h0]; rfl
          have HZ := Lib.hid hz; clear hz
          have H0 := Lib.hid h0; clear h0
          go_wp2_with fail
          refine (char_calls s i _ (by omega)).mono ?_
          rintro e w' ⟨rfl, rfl⟩
          generalize charW s i = cw at hzz hcw HZ ⊢
          go_wp2_with fail
          go_ret
          exact ⟨ret_int (by rw [HR.out]), rfl⟩
        · have HR := Lib.hid (show badR s f (i + charW s i) = badR s s.size 0 from by rw [← HB.out, badR, if_pos hlt, if_neg (by rintro (h | h); exact hz h; exact h0 (by rwa [get_bang s i hlt] at h))])
          have h00 : ((s[i].toNat : Int) == 0) = false := by rw [beq_eq_false_iff_ne]; omega
          have HZ := Lib.hid hz; clear hz
          have H0 := Lib.hid h0; clear h0
          go_wp2_with fail
          refine (char_calls s i _ (by omega)).mono ?_
          rintro e w' ⟨rfl, rfl⟩
          generalize charW s i = cw at hzz hcw HZ HR ⊢
          go_wp2_with fail
          have hz2 := HZ.out
          go_round
          case rel => exact ⟨i + cw, f, by go_num, by omega, by omega, HR.out⟩
          case measure => simp [intOf]; omega
    · have HR := Lib.hid (show badR s s.size 0 = s.size from by
        rw [← HB.out]
        cases f with
        | zero => rfl
        | succ f => rw [badR, if_neg hlt])
      go_wp2_with fail
      go_ret
      exact ⟨ret_int (by rw [HR.out]), rfl⟩

theorem good_calls (s : ByteArray) (w : World) (hs : s.size ≤ 16777216) :
    Calls Tryd.prog 92 #[.string s] w fun e w' => e = .returned (.bool (good s)) ∧ w = w' := by
  have hg := badR_good s s.size 0
  by_cases h : badR s s.size 0 = s.size
  · have HG := Lib.hid (show good s = true from hg.1 h)
    clear hg
    have hz : (((badR s s.size 0 : Nat) : Int) == (s.size : Int)) = true := by rw [h]; exact beq_self_eq_true _
    have HH := Lib.hid h; clear h
    go_enter Tryd.func92, Tryd.ntmps92
    go_wp2_with fail
    refine (bad_calls s _ hs).mono ?_
    rintro e w' ⟨rfl, rfl⟩
    generalize badR s s.size 0 = b at hz HH ⊢
    go_wp2_with fail
    go_ret
    exact ⟨ret_bool HG.out.symm, rfl⟩
  · have HG := Lib.hid (show good s = false from by rw [← Bool.not_eq_true]; exact fun e => h (hg.2 e))
    clear hg
    have hz : (((badR s s.size 0 : Nat) : Int) == (s.size : Int)) = false := by rw [beq_eq_false_iff_ne]; omega
    have HH := Lib.hid h; clear h
    go_enter Tryd.func92, Tryd.ntmps92
    go_wp2_with fail
    refine (bad_calls s _ hs).mono ?_
    rintro e w' ⟨rfl, rfl⟩
    generalize badR s s.size 0 = b at hz HH ⊢
    go_wp2_with fail
    go_ret
    exact ⟨ret_bool HG.out.symm, rfl⟩
end Go.Proofs.YtlenlldiimohjaaDoor
