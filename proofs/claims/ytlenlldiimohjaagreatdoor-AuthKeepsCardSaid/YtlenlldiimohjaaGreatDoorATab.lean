
/-
  vergerlaw07's table: the program's table of the law's two accounts, and the key. Condition: the tables of utf8 lie as laid.
-/
import Derived.Test.YtlenlldiimohjaaGreatDoorATabL
import Derived.Test.YtlenlldiimohjaaGreatDoorAKey
namespace Go.Proofs.YtlenlldiimohjaaGreatDoor
open Go.ChangeShapes Go.WideShapes Go.ChangeAt Go.RowKit

set_option maxRecDepth 100000 in
set_option maxHeartbeats 6400000 in
theorem lawTable_calls (key : ByteArray) (w : World) (hr : Ready w) (hk : key.size ≤ 268435456) :
    Calls Tryz.prog 13 #[.string key] w fun e w' => (∃ g k, e = .returned (.tuple #[.pointer (some ⟨g, 0, none⟩), .string k]) ∧ PTab w' g (tabL k) ∧ keyOk k) ∧ Below w.heap.size w w' := by
  have HR := Lib.hid hr
  clear hr
  obtain ⟨ln, hln⟩ : ∃ t : ByteArray, ⟨#[117, 58, 58, 58]⟩ ++ key = t := ⟨_, rfl⟩
  cases hp : parse ln with
  | error er =>
    obtain ⟨er, nl⟩ := er
    have HP := Lib.hid hp
    clear hp
    have HKO := Lib.hid (k1_ok)
    have hsum : (⟨#[118, 58, 58, 58, 10, 117, 58, 58, 58]⟩ : ByteArray) ++ ⟨#[107, 49]⟩ ++ ⟨#[10]⟩ = tabT ⟨#[107, 49]⟩ := by
      rw [show (⟨#[107, 49]⟩ : ByteArray) = ofL (⟨#[107, 49]⟩ : ByteArray).data.toList from (ofL_toList _).symm]
      show ofL [118, 58, 58, 58, 10, 117, 58, 58, 58] ++ ofL _ ++ ofL [10] = _
      rw [app_ofL, app_ofL]
      rfl
    go_enter Tryz.func13, Tryz.ntmps13
    go_upto_region 3 with (go_at_call 25; refine (refParse_calls _ _).mono ?_; rintro e w1 ⟨hb, hp⟩; rw [HP.out] at hp; subst hp; have HB := Lib.hid hb; clear hb)
    go_wp2_with (go_at_call 27; refine (parse_calls _ _ (HR.out.below HB.out (Nat.le_refl _))).mono ?_; rintro e w2 ⟨hb2, hp2⟩; rw [parse_tab HKO.out.1] at hp2; obtain ⟨g2, hg2, rfl, hpt⟩ := hp2; have HPT := Lib.hid hpt; replace HB := Lib.hid (HB.out.trans (hb2.mono HB.out.size)); clear hb2 hpt hg2)
    go_ret2
    exact ⟨⟨g2, _, rfl, HPT.out, HKO.out⟩, HB.out⟩
  | ok L =>
    have HP := Lib.hid hp
    have hbq := beq_str (keyOfUser L ⟨#[117]⟩) key
    obtain ⟨kk, hkk⟩ : ∃ t, keyOfUser L ⟨#[117]⟩ = t := ⟨_, rfl⟩
    rw [hkk] at hbq
    have HKK := Lib.hid hkk
    by_cases hsame : kk = key
    · rw [decide_eq_true hsame] at hbq
      by_cases hz : key.size = 0
      · have he := empty_t hz
        clear hp hkk hsame
        have HKO := Lib.hid (k1_ok)
        have hsum : (⟨#[118, 58, 58, 58, 10, 117, 58, 58, 58]⟩ : ByteArray) ++ ⟨#[107, 49]⟩ ++ ⟨#[10]⟩ = tabT ⟨#[107, 49]⟩ := by
          rw [show (⟨#[107, 49]⟩ : ByteArray) = ofL (⟨#[107, 49]⟩ : ByteArray).data.toList from (ofL_toList _).symm]
          show ofL [118, 58, 58, 58, 10, 117, 58, 58, 58] ++ ofL _ ++ ofL [10] = _
          rw [app_ofL, app_ofL]
          rfl
        go_enter Tryz.func13, Tryz.ntmps13
        go_upto_region 3 with (go_at_call 25; refine (refParse_calls _ _).mono ?_; rintro e w1 ⟨hb, hp⟩; rw [HP.out] at hp; obtain ⟨g, hg, rfl, hrt⟩ := hp; have HRT := Lib.hid hrt; have HB := Lib.hid hb; clear hb hrt hg)
        go_upto_region 5 with (go_at_call 52; refine (refUserKey_calls _ L ⟨#[117]⟩ _ HRT.out).mono ?_; rw [HKK.out]; rintro e w' ⟨rfl, rfl⟩)
        go_wp2_with (go_at_call 27; refine (parse_calls _ _ (HR.out.below HB.out (Nat.le_refl _))).mono ?_; rintro e w2 ⟨hb2, hp2⟩; rw [parse_tab HKO.out.1] at hp2; obtain ⟨g2, hg2, rfl, hpt⟩ := hp2; have HPT := Lib.hid hpt; replace HB := Lib.hid (HB.out.trans (hb2.mono HB.out.size)); clear hb2 hpt hg2)
        go_ret2
        exact ⟨⟨g2, _, rfl, HPT.out, HKO.out⟩, HB.out⟩
      · have he := empty_f hz
        have HOK := Lib.hid (taken_ok hp (hkk.trans hsame) hz)
        clear hp hkk hsame
        have HKO := Lib.hid (HOK.out)
        have hk32 : (key : ByteArray).size ≤ 32 := (key_no HKO.out.1).1
        have hsum : (⟨#[118, 58, 58, 58, 10, 117, 58, 58, 58]⟩ : ByteArray) ++ key ++ ⟨#[10]⟩ = tabT key := by
          rw [show (key : ByteArray) = ofL (key : ByteArray).data.toList from (ofL_toList _).symm]
          show ofL [118, 58, 58, 58, 10, 117, 58, 58, 58] ++ ofL _ ++ ofL [10] = _
          rw [app_ofL, app_ofL]
          rfl
        go_enter Tryz.func13, Tryz.ntmps13
        go_upto_region 3 with (go_at_call 25; refine (refParse_calls _ _).mono ?_; rintro e w1 ⟨hb, hp⟩; rw [HP.out] at hp; obtain ⟨g, hg, rfl, hrt⟩ := hp; have HRT := Lib.hid hrt; have HB := Lib.hid hb; clear hb hrt hg)
        go_upto_region 5 with (go_at_call 52; refine (refUserKey_calls _ L ⟨#[117]⟩ _ HRT.out).mono ?_; rw [HKK.out]; rintro e w' ⟨rfl, rfl⟩)
        go_wp2_with (go_at_call 27; refine (parse_calls _ _ (HR.out.below HB.out (Nat.le_refl _))).mono ?_; rintro e w2 ⟨hb2, hp2⟩; rw [parse_tab HKO.out.1] at hp2; obtain ⟨g2, hg2, rfl, hpt⟩ := hp2; have HPT := Lib.hid hpt; replace HB := Lib.hid (HB.out.trans (hb2.mono HB.out.size)); clear hb2 hpt hg2)
        go_ret2
        exact ⟨⟨g2, _, rfl, HPT.out, HKO.out⟩, HB.out⟩
    · rw [decide_eq_false hsame] at hbq
      clear hp hkk hsame
      have HKO := Lib.hid (k1_ok)
      have hsum : (⟨#[118, 58, 58, 58, 10, 117, 58, 58, 58]⟩ : ByteArray) ++ ⟨#[107, 49]⟩ ++ ⟨#[10]⟩ = tabT ⟨#[107, 49]⟩ := by
        rw [show (⟨#[107, 49]⟩ : ByteArray) = ofL (⟨#[107, 49]⟩ : ByteArray).data.toList from (ofL_toList _).symm]
        show ofL [118, 58, 58, 58, 10, 117, 58, 58, 58] ++ ofL _ ++ ofL [10] = _
        rw [app_ofL, app_ofL]
        rfl
      go_enter Tryz.func13, Tryz.ntmps13
      go_upto_region 3 with (go_at_call 25; refine (refParse_calls _ _).mono ?_; rintro e w1 ⟨hb, hp⟩; rw [HP.out] at hp; obtain ⟨g, hg, rfl, hrt⟩ := hp; have HRT := Lib.hid hrt; have HB := Lib.hid hb; clear hb hrt hg)
      go_upto_region 5 with (go_at_call 52; refine (refUserKey_calls _ L ⟨#[117]⟩ _ HRT.out).mono ?_; rw [HKK.out]; rintro e w' ⟨rfl, rfl⟩)
      go_wp2_with (go_at_call 27; refine (parse_calls _ _ (HR.out.below HB.out (Nat.le_refl _))).mono ?_; rintro e w2 ⟨hb2, hp2⟩; rw [parse_tab HKO.out.1] at hp2; obtain ⟨g2, hg2, rfl, hpt⟩ := hp2; have HPT := Lib.hid hpt; replace HB := Lib.hid (HB.out.trans (hb2.mono HB.out.size)); clear hb2 hpt hg2)
      go_ret2
      exact ⟨⟨g2, _, rfl, HPT.out, HKO.out⟩, HB.out⟩
end Go.Proofs.YtlenlldiimohjaaGreatDoor
