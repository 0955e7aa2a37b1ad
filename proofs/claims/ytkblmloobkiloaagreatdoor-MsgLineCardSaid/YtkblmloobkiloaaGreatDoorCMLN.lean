/-
  vergerlaw03: MsgLine. Conditions: the tables and the errors that it reads lie as laid.
-/
import Derived.Test.YtkblmloobkiloaaGreatDoorCMLO
namespace Go.Proofs.YtkblmloobkiloaaGreatDoor
open Go.RowKit

set_option maxRecDepth 100000 in
set_option maxHeartbeats 6400000 in
theorem line_calls (s : ByteArray) (w : World) (hw : Worldly w) (hreach : s.size ≤ 9223372036854775807) : Calls Tryz.prog 5 #[.string s] w fun e w' => e = .returned (.bool true) ∧ Below w.heap.size w w' := by
  have HS0 := Lib.hid (LS.start hw)
  clear hw
  go_enter Tryz.func5, Tryz.ntmps5
  go_wp2_with fail
  refine (works_calls w HS0.out.wd.se HS0.out.wd.rd HS0.out.wd.tp).mono ?_
  rintro e w1 ⟨rfl, hb⟩
  have HS1 := Lib.hid (HS0.out.next hb)
  clear hb
  by_cases hbig : 8388608 < s.size
  · go_wp2_with fail
    refine bodyPost_ret (v := .bool true) (by simp [results, Tryz.results5]) rfl ⟨rfl, ?_⟩
    exact HS1.out.up
  · have HBIG := Lib.hid hbig
    go_wp2_with fail
    refine (parse_calls s w1 HS1.out.wd.se HS1.out.wd.rd (by have := HBIG.out; omega)).mono ?_
    rintro e w2 ⟨⟨vn, vq, vd, rfl, hol⟩, hb⟩
    have HOL := Lib.hid hol
    have HS2 := Lib.hid (HS1.out.next hb)
    clear hol hb HS1
    have hlen : s.data.toList.length = s.size := by rw [Array.length_toList]; rfl
    obtain ⟨m, p, e0, hd⟩ : ∃ m p e, parseM s.data.toList = (m, p, e) := ⟨_, _, _, rfl⟩
    have HD := Lib.hid hd
    have HLEN := Lib.hid hlen
    rw [hd] at HOL ⊢
    dsimp only at HOL ⊢
    clear hd hlen
    go_upto_region 5 with (change wpList _ _ _ _ _ (w2.alloc (.cells (mgN (head 0 0)).toArray 41)); have hup : Below w2.heap.size w2 (w2.alloc (.cells (mgN (head 0 0)).toArray 41)) := (Below.refl _ _).alloc (Nat.le_refl _) _; have HMZ := Lib.hid (show MBlk (w2.alloc (.cells (mgN (head 0 0)).toArray 41)) w2.heap.size (head 0 0) (.slice none 0 0) (.slice none 0 0) (.slice none 0 0) from Blk.new w2 _ _); generalize (w2.alloc (.cells (mgN (head 0 0)).toArray 41)) = w2z at hup HMZ ⊢; refine wstK HMZ.out 0 (msgL m vn vq vd) _ (over_msg ..) (Nat.le_refl 36) (msg_one _ (own_one HOL.out.n) (own_one HOL.out.q) (own_one HOL.out.d)) rfl _ _ _ rfl rfl rfl msg_size ?_; intro w3 hs ho; have HM3 := Lib.hid (show MBlk w3 w2.heap.size m vn vq vd from hs); have HBB := Lib.hid (hup.trans ((ho (fun i => i = w2.heap.size) rfl w2z (Off.refl _ _)).below (fun k hk => (by have hk : k = w2.heap.size := hk; omega)) hup.size)); clear hs ho hup HMZ)
    have HOL3 := Lib.hid (HOL.out.below HBB.out).lists
    have HS3 := Lib.hid (HS2.out.next HBB.out)
    generalize w2.heap.size = q4 at HM3 ⊢
    clear HOL HS2 HBB
    by_cases h0 : e0 = 0
    · subst h0
      obtain ⟨hp, ht, hr, hc, hok⟩ := parse_some HD.out
      subst hp
      have HT := Lib.hid (text_calls m vn vq vd w3 hok HOL3.out HS3.out.wd.rd HS3.out.wd.tp (enc_small hr hc))
      have he : ofL (textM m) = s := by rw [ht]; exact ofL_toList s
      rw [he] at HT
      clear hr hc ht he hok
      go_wp2_with (refine wlw HM3.out 0 (msgL m vn vq vd) rfl rfl _ _ rfl rfl _ Tryz.underlying41 rfl msg_size ?_)
      refine HT.out.mono ?_
      rintro e w4 ⟨rfl, hb⟩
      have HS4 := Lib.hid (HS3.out.next hb)
      clear hb
      go_wp2_with fail
      refine bodyPost_ret (v := .bool true) (by simp [results, Tryz.results5]) rfl ⟨rfl, ?_⟩
      exact HS4.out.up
    · obtain ⟨hm, hp, he⟩ := parse_bad HD.out h0
      rw [HLEN.out] at hp he
      have HMM := Lib.hid hm
      have HSAME := Lib.hid (same_calls m (head 0 0) vn vq vd (.slice none 0 0) (.slice none 0 0) (.slice none 0 0) w3 HOL3.out ⟨Nams.nil_ _ _, Qids.nil_ _ _, Bys.nil_ _ _⟩)
      have hne : ((e0 : Int) != 0) = true := by rw [bne_iff_ne]; omega
      have hp0 : (0 : Int) ≤ (p : Int) := by omega
      have hp1 : (p : Int) ≤ (s.size : Int) := by omega
      have HE := Lib.hid he
      clear hm hp he h0
      go_wp2_with (refine wlw HM3.out 0 (msgL m vn vq vd) rfl rfl _ _ rfl rfl _ Tryz.underlying41 rfl msg_size ?_)
      refine HSAME.out.mono ?_
      rintro e w4 ⟨⟨r, rfl, hr⟩, hb⟩
      obtain rfl : r = true := hr.2 HMM.out
      have HS4 := Lib.hid (HS3.out.next hb)
      clear hb hr
      by_cases h34 : e0 = 34
      · subst h34
        go_wp2_with fail
        refine bodyPost_ret (v := .bool true) (by simp [results, Tryz.results5]) rfl ⟨rfl, ?_⟩
        exact HS4.out.up
      · have h35 : ((e0 : Int) == 34) = false := by rw [beq_eq_false_iff_ne]; omega
        have hpl : p = s.size := HE.out.resolve_left h34
        subst hpl
        go_wp2_with fail
        refine bodyPost_ret (v := .bool true) (by simp [results, Tryz.results5]) rfl ⟨rfl, ?_⟩
        exact HS4.out.up
end Go.Proofs.YtkblmloobkiloaaGreatDoor
