/-
  vergerlaw03: MsgKinds. Conditions: the tables and the errors that it reads lie as laid.
-/
import Derived.Test.YtkblmloobkiloaaGreatDoorCMLO
import Derived.Test.YtkblmloobkiloaaGreatDoorCMRN
import Derived.Test.YtkblmloobkiloaaGreatDoorQ28
namespace Go.Proofs.YtkblmloobkiloaaGreatDoor
open Go.RowKit

theorem name_ix (k : Nat) : nameAt (rowIx (k : Int)) = ofL (kindN k) := by
  cases hf : kindF k with
  | some fs =>
    obtain ⟨-, -, h3, h4⟩ := kindF_well hf
    have hi := kindF_ix (k - 100) (by omega) (by rw [show 100 + (k - 100) = k by omega, hf]; simp)
    rw [show 100 + (k - 100) = k by omega] at hi
    have ha := rowIx_at (k : Int) hi
    obtain ⟨fs', h5, h6, -⟩ := tab_row _ hi
    rw [ha] at h6
    rw [h6]
    rfl
  | none =>
    rw [rowIx_none (k : Int) (fun q hq h => by
      obtain ⟨fs', h5, h6, -⟩ := tab_row q hq
      rw [h] at h5
      rw [show ((k : Int)).toNat = k from rfl, hf] at h5
      cases h5), kindN_no hf]
    rfl
theorem kindR_is (s : ByteArray) : ∃ (x : Int) (b : Bool), ∀ e, KindR s e → e = .returned (.tuple #[.int .u8 x, .bool b]) := by
  unfold KindR
  cases kindOf s.data.toList with
  | none => exact ⟨0, false, fun _ h => h⟩
  | some k => exact ⟨(k : Int), true, fun _ h => h⟩
set_option maxRecDepth 100000 in
set_option maxHeartbeats 6400000 in
theorem mkinds_calls (k : Nat) (hk : k < 256) (s : ByteArray) (w : World) (hw : Worldly w) (hreach : s.size ≤ 9223372036854775807) : Calls Tryz.prog 11 #[.int .u8 (k : Int), .string s] w fun e w' => e = .returned (.bool true) ∧ Below w.heap.size w w' := by
  have HS0 := Lib.hid (LS.start hw)
  clear hw
  go_enter Tryz.func11, Tryz.ntmps11
  go_wp2_with fail
  refine (works_calls w HS0.out.wd.se HS0.out.wd.rd HS0.out.wd.tp).mono ?_
  rintro e w1 ⟨rfl, hb⟩
  have HS1 := Lib.hid (HS0.out.next hb)
  clear hb
  by_cases hbig : 8388608 < s.size
  · go_wp2_with fail
    refine bodyPost_ret (v := .bool true) (by simp [results, Tryz.results11]) rfl ⟨rfl, ?_⟩
    exact HS1.out.up
  · have HN := Lib.hid (name_calls (k : Int))
    rw [name_ix] at HN
    obtain ⟨x, b, hx⟩ := kindR_is s
    have HX := Lib.hid hx
    have HKX := Lib.hid (fun w => kind_calls (ofL (kindN k)) w)
    obtain ⟨X, hX⟩ : ∃ X, X = ofL (kindN k) := ⟨_, rfl⟩
    have HXD := Lib.hid (show X.data.toList = kindN k from by rw [hX]; simp [ofL])
    have HRN := Lib.hid (fun w => refName_calls k hk w)
    rw [← hX] at HN HKX HRN
    clear hx hX
    obtain ⟨a, c, hac⟩ : ∃ a c, ansS k = (a, c) := ⟨_, _, rfl⟩
    have HA1 := Lib.hid (fun w => answer_calls k hk w)
    have HA2 := Lib.hid (fun w => refAnswer_calls k hk w)
    rw [hac] at HA1 HA2
    dsimp only at HA1 HA2
    clear hac
    go_wp2_with fail
    refine (HA1.out w1).mono ?_
    rintro e w2 ⟨rfl, hb⟩
    have HS2 := Lib.hid (HS1.out.next hb)
    clear hb HS1
    go_wp2_with fail
    refine (HA2.out w2).mono ?_
    rintro e w3 ⟨rfl, rfl⟩
    go_wp2_with fail
    refine (HN.out w2).mono ?_
    rintro e w3 ⟨rfl, hb⟩
    have HS3 := Lib.hid (HS2.out.next hb)
    clear hb HS2
    go_wp2_with fail
    refine (HRN.out w3).mono ?_
    rintro e w4 ⟨rfl, hb⟩
    have HS4 := Lib.hid (HS3.out.next hb)
    clear hb HS3
    go_wp2_with fail
    refine (kind_calls s w4).mono ?_
    rintro e w5 ⟨hkr, hb⟩
    obtain rfl := HX.out _ hkr
    have HS5 := Lib.hid (HS4.out.next hb)
    clear hb hkr HS4
    go_wp2_with fail
    refine (refKind_calls s w5).mono ?_
    rintro e w6 ⟨hkr, hb⟩
    obtain rfl := HX.out _ hkr
    have HS6 := Lib.hid (HS5.out.next hb)
    clear hb hkr HS5
    go_wp2_with fail
    refine (HKX.out w6).mono ?_
    rintro e w7 ⟨hkr, hb⟩
    unfold KindR at hkr
    rw [HXD.out] at hkr
    have HS7 := Lib.hid (HS6.out.next hb)
    clear hb HS6 HA1 HA2 HN HRN HKX
    cases hf : kindF k with
    | none =>
      rw [kindN_no hf] at hkr HXD
      rw [show kindOf [] = none from rfl] at hkr
      subst hkr
      have he : X.toList = [] := by rw [ByteArray.toList_eq]; exact HXD.out
      have he0 : (X.toList == []) = true := by rw [beq_iff_eq]; exact he
      have he1 : X.toList.isEmpty = true := by rw [he]; rfl
      clear hf HXD he
      go_wp2_with fail
      refine bodyPost_ret (v := .bool true) (by simp [results, Tryz.results11]) rfl ⟨rfl, ?_⟩
      exact HS7.out.up
    | some fs =>
      rw [(kindN_of hf).1] at hkr
      subst hkr
      obtain ⟨r, hr⟩ := kindN_head hf
      have he : X.toList ≠ [] := by rw [ByteArray.toList_eq, HXD.out, hr]; exact List.cons_ne_nil _ _
      have he0 : (X.toList == []) = false := by rw [beq_eq_false_iff_ne]; exact he
      have he1 : X.toList.isEmpty = false := by cases h : X.toList with | nil => exact absurd h he | cons _ _ => rfl
      clear hf HXD he hr
      go_wp2_with fail
      refine bodyPost_ret (v := .bool true) (by simp [results, Tryz.results11]) rfl ⟨rfl, ?_⟩
      exact HS7.out.up
theorem mkinds_int (a : Int) (ha : (Lit.int .u8 a).wf = true) (s : ByteArray) (w : World) (hw : Worldly w) (hreach : s.size ≤ 9223372036854775807) : Calls Tryz.prog 11 #[.int .u8 a, .string s] w fun e w' => e = .returned (.bool true) ∧ Below w.heap.size w w' := by
  obtain ⟨k, rfl⟩ := byte_of7 ha
  exact mkinds_calls k.toNat k.toNat_lt s w hw hreach
end Go.Proofs.YtkblmloobkiloaaGreatDoor
