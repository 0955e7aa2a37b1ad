/-
  vergerlaw03: MsgApart. Conditions: the tables and the errors that it reads lie as laid.
-/
import Derived.Test.YtkblmloobkiloaaGreatDoorCMLF
import Derived.Deep.DeepCutAuto
import Derived.IntWalk
namespace Go.Proofs.YtkblmloobkiloaaGreatDoor
open Go.RowKit

theorem msg_two (w : World) (a b : Mg) (an aq ad bn bq bd : Value) : Below w.heap.size w ((w.alloc (.cells (msgL a an aq ad).toArray 41)).alloc (.cells (msgL b bn bq bd).toArray 41)) ∧ MBlk ((w.alloc (.cells (msgL a an aq ad).toArray 41)).alloc (.cells (msgL b bn bq bd).toArray 41)) w.heap.size a an aq ad ∧ MBlk ((w.alloc (.cells (msgL a an aq ad).toArray 41)).alloc (.cells (msgL b bn bq bd).toArray 41)) (w.heap.size + 1) b bn bq bd := by
  refine ⟨((Below.refl _ _).alloc (Nat.le_refl _) _).alloc (by rw [World.size_alloc]; omega) _, (Blk.new w _ _).alloc _, ?_⟩
  have h : MBlk ((w.alloc (.cells (msgL a an aq ad).toArray 41)).alloc (.cells (msgL b bn bq bd).toArray 41)) (w.alloc (.cells (msgL a an aq ad).toArray 41)).heap.size b bn bq bd := Blk.new _ _ _
  rwa [World.size_alloc] at h
theorem yM {ops : Array Oper} {op : Oper} {a : Act} {w1 : World} {q : Nat} {m : Mg} {vn vq vd : Value} (hm : MBlk w1 q m vn vq vd) (hw : Region.wanted op (yielded ops a.tmps) = true) (y : Operand) (ho : op.op = .load 41 y) (hx : a.eval y = .pointer (some ⟨q, 0, none⟩)) : YieldsIf Tryz.prog ops (Below w1.heap.size w1) op (msgV m vn vq vd) a :=
  yieldsIf_load_mid hw _ y ho _ _ hx (msgL m vn vq vd) _ (fun _ hS => Blk.range (Blk.below hm hS (Blk.lt hm)) 0 _ rfl) Tryz.underlying41 rfl msg_size
set_option maxRecDepth 100000 in
set_option maxHeartbeats 6400000 in
theorem apart_calls (a b : Mg) (an aq ad bn bq bd : Value) (w : World) (hw : Worldly w) (hca : Came w a an aq ad) (hcb : Came w b bn bq bd) : Calls Tryz.prog 10 #[msgV a an aq ad, msgV b bn bq bd] w fun e w' => e = .returned (.bool true) ∧ Below w.heap.size w w' := by
  obtain ⟨hup, h1, h2⟩ := msg_two w a b an aq ad bn bq bd
  have HA0 := Lib.hid h1
  have HB0 := Lib.hid h2
  have HS0 := Lib.hid ((LS.start hw).next hup)
  have HK0 := Lib.hid ((hca.l.below hup).more hup.size)
  have HM0 := Lib.hid ((hcb.l.below hup).more hup.size)
  have HCa := Lib.hid hca
  have HCb := Lib.hid hcb
  clear hca hcb hup hw h1 h2
  go_enter Tryz.func10, Tryz.ntmps10
  go_upto_region 1 with (fail)
  change Code.wp _ _ _ _ ((w.alloc (.cells (msgL a an aq ad).toArray 41)).alloc (.cells (msgL b bn bq bd).toArray 41))
  generalize (w.alloc (.cells (msgL a an aq ad).toArray 41)).alloc (.cells (msgL b bn bq bd).toArray 41) = w0 at HA0 HB0 HS0 HK0 HM0 ⊢
  generalize w.heap.size + 1 = zb at HB0 ⊢
  generalize hz : w.heap.size = za at HA0 ⊢
  clear hz
  go_wp2_with fail
  refine (works_calls w0 HS0.out.wd.se HS0.out.wd.rd HS0.out.wd.tp).mono ?_
  rintro e w1 ⟨rfl, hb⟩
  have HA1 := Lib.hid (Blk.below HA0.out hb (Blk.lt HA0.out)); have HB1 := Lib.hid (Blk.below HB0.out hb (Blk.lt HB0.out)); have HLa := Lib.hid ((HK0.out.below hb).more hb.size); have HLb := Lib.hid ((HM0.out.below hb).more hb.size); have HS1 := Lib.hid (HS0.out.next hb); clear HA0 HB0 HK0 HM0 HS0
  clear hb
  go_upto_region 2 with (fail)
  try simp only [Act.put]
  go_cut [21] (fun v wx => (∃ n k : Nat, v = .bool (decide (8388608 < (n : Int) + (k : Int))) ∧ (n ≤ 8388608 → a.ofM ≤ 8388608) ∧ (k ≤ 8388608 → b.ofM ≤ 8388608)) ∧ Below w1.heap.size w1 wx)
  case first =>
    have HB := Lib.hid (below_drew w1)
    refine wp_region_held_drew (S := Below w1.heap.size w1) (by kernel_rfl) HB.out (fun hHeld => ?_)
    generalize w1.drew = wd at HB hHeld ⊢
    refine wpAnyH_takeD 16 (i := 0) rfl rfl (by kernel_rfl) (by kernel_rfl) (by kernel_rfl) (fun _ _ _ h => h) (yM HA1.out (by rfl) _ rfl rfl) (by assumption) ?_
    simp only [Act.put, List.setIfInBounds_toArray, List.set_cons_zero, List.set_cons_succ]
    refine wpAnyH_takeD 18 (i := 2) rfl rfl (by kernel_rfl) (by kernel_rfl) (by kernel_rfl) (fun _ _ _ h => h) (yM HB1.out (by rfl) _ rfl rfl) (by assumption) ?_
    simp only [Act.put, List.setIfInBounds_toArray, List.set_cons_zero, List.set_cons_succ]
    refine wpAnyH_ready (rs := [1]) (by kernel_rfl) (by simp) ?_
    refine AllReadyH.cons rfl (fun K hK => ?_) AllReadyH.nil
    rw [if_pos (by rfl)]
    go_simp
    refine (ofMsg_calls a an aq ad wd w HCa.out ((HLa.out.below hHeld).more hHeld.size)).mono ?_
    rintro e wn ⟨⟨n, rfl, hn1, hn2⟩, hb⟩
    dsimp only
    have hHeld2 := hHeld.trans (hb.mono hHeld.size)
    refine hK.out _ _ hHeld2 (fun hHeld3 => ?_)
    clear hK hHeld hHeld3 hb
    refine wpAnyH_ready (rs := [3]) (by kernel_rfl) (by simp) ?_
    refine AllReadyH.cons rfl (fun K hK => ?_) AllReadyH.nil
    rw [if_pos (by rfl)]
    go_simp
    refine (ofMsg_calls b bn bq bd wn w HCb.out ((HLb.out.below hHeld2).more hHeld2.size)).mono ?_
    rintro e wn ⟨⟨k, rfl, hk1, hk2⟩, hb⟩
    dsimp only
    have hHeld4 := hHeld2.trans (hb.mono hHeld2.size)
    refine hK.out _ _ hHeld4 (fun hHeld3 => ?_)
    clear hK hHeld2 hHeld3 hb
    refine wpAnyH_takeD 20 (i := 4) (v := .int .i64 ((n : Int) + (k : Int))) rfl rfl (by kernel_rfl) (by kernel_rfl) (by kernel_rfl) (fun _ _ _ h => h) (Or.inl ⟨by rfl, fun wq hSw => by go_simp <;> exact IntWalk.i64_in _ (by omega)⟩) (by assumption) ?_
    simp only [Act.put, List.setIfInBounds_toArray, List.set_cons_zero, List.set_cons_succ]
    refine wpAnyH_takeD 21 (i := 5) (v := .bool (decide (8388608 < (n : Int) + (k : Int)))) rfl rfl (by kernel_rfl) (by kernel_rfl) (by kernel_rfl) (fun _ _ _ h => h) (Or.inl ⟨by rfl, fun wq hSw => by go_simp⟩) (by assumption) ?_
    simp only [Act.put, List.setIfInBounds_toArray, List.set_cons_zero, List.set_cons_succ]
    refine wpAnyH_done (by kernel_rfl) ?_ _
    go_wp2_with fail
    go_meet
    case rel => exact ⟨⟨n, k, rfl, hn2, hk2⟩, by assumption⟩
  obtain ⟨⟨n, k, rfl, hn, hk⟩, hb⟩ := hcut
  have HA2 := Lib.hid (Blk.below HA1.out hb (Blk.lt HA1.out)); have HB2 := Lib.hid (Blk.below HB1.out hb (Blk.lt HB1.out)); have HLa2 := Lib.hid ((HLa.out.below hb).more hb.size); have HLb2 := Lib.hid ((HLb.out.below hb).more hb.size); have HS2 := Lib.hid (HS1.out.next hb); clear HA1 HB1 HLa HLb HS1
  clear hb
  by_cases hbig : 8388608 < n + k
  · have hbi : (8388608 : Int) < (n : Int) + (k : Int) := by omega
    clear hn hk hbig
    go_wp2_with fail
    refine bodyPost_ret (v := .bool true) (by simp [results, Tryz.results10]) rfl ⟨rfl, ?_⟩
    exact HS2.out.up
  · have hbi : ¬ (8388608 : Int) < (n : Int) + (k : Int) := by omega
    have HSa := Lib.hid (ofM_small (hn (by omega)))
    have HSb := Lib.hid (ofM_small (hk (by omega)))
    clear hn hk hbig
    have HEN := Lib.hid (encode_calls a an aq ad wc HCa.out.ok HLa2.out HS2.out.wd.rd HSa.out)
    go_wp2_with (refine wlw HA2.out 0 (msgL a an aq ad) rfl rfl _ _ rfl rfl _ Tryz.underlying41 rfl msg_size ?_)
    refine HEN.out.mono ?_
    rintro e w3 ⟨⟨v, rfl, hown⟩, hb⟩
    rw [enc_refused2 a]
    have HF3 := Lib.hid (Bys.of_own hown)
    have HA3 := Lib.hid (Blk.below HA2.out hb (Blk.lt HA2.out)); have HB3 := Lib.hid (Blk.below HB2.out hb (Blk.lt HB2.out)); have HLa3 := Lib.hid ((HLa2.out.below hb).more hb.size); have HLb3 := Lib.hid ((HLb2.out.below hb).more hb.size); have HS3 := Lib.hid (HS2.out.next hb); clear HA2 HB2 HLa2 HLb2 HS2
    clear hown hb HEN
    have HEN := Lib.hid (encode_calls b bn bq bd w3 HCb.out.ok HLb3.out HS3.out.wd.rd HSb.out)
    go_wp2_with (refine wlw HB3.out 0 (msgL b bn bq bd) rfl rfl _ _ rfl rfl _ Tryz.underlying41 rfl msg_size ?_)
    refine HEN.out.mono ?_
    rintro e w4 ⟨⟨u, rfl, hown⟩, hb⟩
    rw [enc_refused2 b]
    have HG4 := Lib.hid (Bys.of_own hown)
    have HA4 := Lib.hid (Blk.below HA3.out hb (Blk.lt HA3.out)); have HB4 := Lib.hid (Blk.below HB3.out hb (Blk.lt HB3.out)); have HLa4 := Lib.hid ((HLa3.out.below hb).more hb.size); have HLb4 := Lib.hid ((HLb3.out.below hb).more hb.size); have HS4 := Lib.hid (HS3.out.next hb); have HF4 := Lib.hid ((HF3.out.below hb).more hb.size); clear HA3 HB3 HLa3 HLb3 HS3 HF3
    clear hown hb HEN
    by_cases hra : (refused a).1 = 0
    · rw [hra]
      by_cases hrb : (refused b).1 = 0
      · rw [hrb]
        have HDI := Lib.hid (dec_inj HCa.out.ok HCb.out.ok hra hrb)
        have HTI := Lib.hid (text_inj HCa.out.ok HCb.out.ok hra hrb)
        clear hra hrb
        have HCLa := Lib.hid (fun w hl => clean_calls a an aq ad w hl HSa.out)
        have HCLb := Lib.hid (fun w hl => clean_calls b bn bq bd w hl HSb.out)
        have HTXa := Lib.hid (fun w hl hr ht => text_calls a an aq ad w HCa.out.ok hl hr ht HSa.out)
        have HTXb := Lib.hid (fun w hl hr ht => text_calls b bn bq bd w HCb.out.ok hl hr ht HSb.out)
        generalize (enc a).1 = F at *
        generalize (enc b).1 = G at *
        generalize textM a = T at *
        generalize textM b = U at *
        generalize hcc : clean a = ca at *
        clear hcc
        generalize hcc : clean b = cb at *
        clear hcc
        go_wp2_with (refine wlw HA4.out 0 (msgL a an aq ad) rfl rfl _ _ rfl rfl _ Tryz.underlying41 rfl msg_size ?_)
        refine (HCLa.out w4 HLa4.out).mono ?_
        rintro e w6 ⟨⟨cn, cq, cd, rfl, hol⟩, hb⟩
        have HOC := Lib.hid hol
        have HA6 := Lib.hid (Blk.below HA4.out hb (Blk.lt HA4.out)); have HB6 := Lib.hid (Blk.below HB4.out hb (Blk.lt HB4.out)); have HLa6 := Lib.hid ((HLa4.out.below hb).more hb.size); have HLb6 := Lib.hid ((HLb4.out.below hb).more hb.size); have HS6 := Lib.hid (HS4.out.next hb); have HF6 := Lib.hid ((HF4.out.below hb).more hb.size); have HG6 := Lib.hid ((HG4.out.below hb).more hb.size); clear HA4 HB4 HLa4 HLb4 HS4 HF4 HG4
        clear hol hb
        dsimp only
        go_upto_region 9 with (change wpList _ _ _ _ _ (w6.alloc (.cells (mgN (head 0 0)).toArray 41)); have hup : Below w6.heap.size w6 (w6.alloc (.cells (mgN (head 0 0)).toArray 41)) := (Below.refl _ _).alloc (Nat.le_refl _) _; have HMZ := Lib.hid (show MBlk (w6.alloc (.cells (mgN (head 0 0)).toArray 41)) w6.heap.size (head 0 0) (.slice none 0 0) (.slice none 0 0) (.slice none 0 0) from Blk.new w6 _ _); generalize (w6.alloc (.cells (mgN (head 0 0)).toArray 41)) = w6z at hup HMZ ⊢; refine wstK HMZ.out 0 (msgL ca cn cq cd) _ (over_msg ..) (Nat.le_refl 36) (msg_one _ (own_one HOC.out.n) (own_one HOC.out.q) (own_one HOC.out.d)) rfl _ _ _ rfl rfl rfl msg_size ?_; intro w7 hs ho; have HP7 := Lib.hid (show MBlk w7 w6.heap.size ca cn cq cd from hs); have HBB := Lib.hid (hup.trans ((ho (fun i => i = w6.heap.size) rfl w6z (Off.refl _ _)).below (fun k hk => (by have hk : k = w6.heap.size := hk; omega)) hup.size)); clear hs ho hup HMZ)
        have HX7 := Lib.hid (HOC.out.below HBB.out).lists
        have HA7 := Lib.hid (Blk.below HA6.out HBB.out (Blk.lt HA6.out)); have HB7 := Lib.hid (Blk.below HB6.out HBB.out (Blk.lt HB6.out)); have HLa7 := Lib.hid ((HLa6.out.below HBB.out).more HBB.out.size); have HLb7 := Lib.hid ((HLb6.out.below HBB.out).more HBB.out.size); have HS7 := Lib.hid (HS6.out.next HBB.out); have HF7 := Lib.hid ((HF6.out.below HBB.out).more HBB.out.size); have HG7 := Lib.hid ((HG6.out.below HBB.out).more HBB.out.size); clear HA6 HB6 HLa6 HLb6 HS6 HF6 HG6
        generalize w6.heap.size = q10 at HP7 ⊢
        clear HOC HBB
        go_wp2_with (refine wlw HB7.out 0 (msgL b bn bq bd) rfl rfl _ _ rfl rfl _ Tryz.underlying41 rfl msg_size ?_)
        refine (HCLb.out w7 HLb7.out).mono ?_
        rintro e w8 ⟨⟨dn, dq, dd, rfl, hol⟩, hb⟩
        have HOD := Lib.hid hol
        have HA8 := Lib.hid (Blk.below HA7.out hb (Blk.lt HA7.out)); have HB8 := Lib.hid (Blk.below HB7.out hb (Blk.lt HB7.out)); have HLa8 := Lib.hid ((HLa7.out.below hb).more hb.size); have HLb8 := Lib.hid ((HLb7.out.below hb).more hb.size); have HS8 := Lib.hid (HS7.out.next hb); have HF8 := Lib.hid ((HF7.out.below hb).more hb.size); have HG8 := Lib.hid ((HG7.out.below hb).more hb.size); have HP8 := Lib.hid (Blk.below HP7.out hb (Blk.lt HP7.out)); have HX8 := Lib.hid ((HX7.out.below hb).more hb.size); clear HA7 HB7 HLa7 HLb7 HS7 HF7 HG7 HP7 HX7
        clear hol hb
        dsimp only
        go_upto_region 10 with (change wpList _ _ _ _ _ (w8.alloc (.cells (mgN (head 0 0)).toArray 41)); have hup : Below w8.heap.size w8 (w8.alloc (.cells (mgN (head 0 0)).toArray 41)) := (Below.refl _ _).alloc (Nat.le_refl _) _; have HMZ := Lib.hid (show MBlk (w8.alloc (.cells (mgN (head 0 0)).toArray 41)) w8.heap.size (head 0 0) (.slice none 0 0) (.slice none 0 0) (.slice none 0 0) from Blk.new w8 _ _); generalize (w8.alloc (.cells (mgN (head 0 0)).toArray 41)) = w8z at hup HMZ ⊢; refine wstK HMZ.out 0 (msgL cb dn dq dd) _ (over_msg ..) (Nat.le_refl 36) (msg_one _ (own_one HOD.out.n) (own_one HOD.out.q) (own_one HOD.out.d)) rfl _ _ _ rfl rfl rfl msg_size ?_; intro w9 hs ho; have HQ9 := Lib.hid (show MBlk w9 w8.heap.size cb dn dq dd from hs); have HBB := Lib.hid (hup.trans ((ho (fun i => i = w8.heap.size) rfl w8z (Off.refl _ _)).below (fun k hk => (by have hk : k = w8.heap.size := hk; omega)) hup.size)); clear hs ho hup HMZ)
        have HY9 := Lib.hid (HOD.out.below HBB.out).lists
        have HA9 := Lib.hid (Blk.below HA8.out HBB.out (Blk.lt HA8.out)); have HB9 := Lib.hid (Blk.below HB8.out HBB.out (Blk.lt HB8.out)); have HLa9 := Lib.hid ((HLa8.out.below HBB.out).more HBB.out.size); have HLb9 := Lib.hid ((HLb8.out.below HBB.out).more HBB.out.size); have HS9 := Lib.hid (HS8.out.next HBB.out); have HF9 := Lib.hid ((HF8.out.below HBB.out).more HBB.out.size); have HG9 := Lib.hid ((HG8.out.below HBB.out).more HBB.out.size); have HP9 := Lib.hid (Blk.below HP8.out HBB.out (Blk.lt HP8.out)); have HX9 := Lib.hid ((HX8.out.below HBB.out).more HBB.out.size); clear HA8 HB8 HLa8 HLb8 HS8 HF8 HG8 HP8 HX8
        generalize w8.heap.size = q11 at HQ9 ⊢
        clear HOD HBB
        go_wp2_with (refine wlw HA9.out 0 (msgL a an aq ad) rfl rfl _ _ rfl rfl _ Tryz.underlying41 rfl msg_size ?_)
        refine (HTXa.out w9 HLa9.out HS9.out.wd.rd HS9.out.wd.tp).mono ?_
        rintro e w10 ⟨rfl, hb⟩
        have HB10 := Lib.hid (Blk.below HB9.out hb (Blk.lt HB9.out)); have HLb10 := Lib.hid ((HLb9.out.below hb).more hb.size); have HS10 := Lib.hid (HS9.out.next hb); have HF10 := Lib.hid ((HF9.out.below hb).more hb.size); have HG10 := Lib.hid ((HG9.out.below hb).more hb.size); have HP10 := Lib.hid (Blk.below HP9.out hb (Blk.lt HP9.out)); have HX10 := Lib.hid ((HX9.out.below hb).more hb.size); have HQ10 := Lib.hid (Blk.below HQ9.out hb (Blk.lt HQ9.out)); have HY10 := Lib.hid ((HY9.out.below hb).more hb.size); clear HB9 HLb9 HS9 HF9 HG9 HP9 HX9 HQ9 HY9
        clear hb HA9 HLa9
        go_wp2_with (refine wlw HB10.out 0 (msgL b bn bq bd) rfl rfl _ _ rfl rfl _ Tryz.underlying41 rfl msg_size ?_)
        refine (HTXb.out w10 HLb10.out HS10.out.wd.rd HS10.out.wd.tp).mono ?_
        rintro e w11 ⟨rfl, hb⟩
        have HS11 := Lib.hid (HS10.out.next hb); have HF11 := Lib.hid ((HF10.out.below hb).more hb.size); have HG11 := Lib.hid ((HG10.out.below hb).more hb.size); have HP11 := Lib.hid (Blk.below HP10.out hb (Blk.lt HP10.out)); have HX11 := Lib.hid ((HX10.out.below hb).more hb.size); have HQ11 := Lib.hid (Blk.below HQ10.out hb (Blk.lt HQ10.out)); have HY11 := Lib.hid ((HY10.out.below hb).more hb.size); clear HS10 HF10 HG10 HP10 HX10 HQ10 HY10
        clear hb HB10 HLb10
        have HSA := Lib.hid (same_calls ca cb cn cq cd dn dq dd w11 HX11.out HY11.out)
        go_wp2_with (first | (refine wlw HP11.out 0 (msgL ca cn cq cd) rfl rfl _ _ rfl rfl _ Tryz.underlying41 rfl msg_size ?_) | (refine wlw HQ11.out 0 (msgL cb dn dq dd) rfl rfl _ _ rfl rfl _ Tryz.underlying41 rfl msg_size ?_))
        refine HSA.out.mono ?_
        rintro e w12 ⟨⟨r, rfl, hr⟩, hb⟩
        have hc1 := conv_bys (HF11.out.below hb)
        have hc2 := conv_bys (HG11.out.below hb)
        have HS12 := Lib.hid (HS11.out.next hb); clear HS11
        clear hb HSA HF11 HG11 HP11 HX11 HQ11 HY11 HCLa HCLb HTXa HTXb
        cases r with
        | true =>
          have hcc := hr.1 rfl
          obtain rfl : F = G := HDI.out.2 hcc
          obtain rfl : T = U := HTI.out.2 hcc
          clear hcc hr
          go_wp2_with fail
          refine bodyPost_ret (v := .bool true) (by simp [results, Tryz.results10]) rfl ⟨rfl, ?_⟩
          exact HS12.out.up
        | false =>
          have hcc : ¬ ca = cb := fun h => by have := hr.2 h; cases this
          have h1 : ((ofL F).toList == (ofL G).toList) = false := by rw [Bool.eq_false_iff, ne_eq, beqL]; exact fun h => hcc (HDI.out.1 (ofL_inj h))
          have h2 : ((ofL T).toList == (ofL U).toList) = false := by rw [Bool.eq_false_iff, ne_eq, beqL]; exact fun h => hcc (HTI.out.1 (ofL_inj h))
          clear hcc hr
          go_wp2_with fail
          refine bodyPost_ret (v := .bool true) (by simp [results, Tryz.results10]) rfl ⟨rfl, ?_⟩
          exact HS12.out.up
      · have hne : (((refused b).1 : Int) != 0) = true := by rw [bne_iff_ne, ne_eq]; omega
        generalize ((refused b).1 : Int) = er at hne ⊢
        clear hra hrb
        go_wp2_with fail
        refine bodyPost_ret (v := .bool true) (by simp [results, Tryz.results10]) rfl ⟨rfl, ?_⟩
        exact HS4.out.up
    · have hne : (((refused a).1 : Int) != 0) = true := by rw [bne_iff_ne, ne_eq]; omega
      generalize ((refused a).1 : Int) = er at hne ⊢
      clear hra
      go_wp2_with fail
      refine bodyPost_ret (v := .bool true) (by simp [results, Tryz.results10]) rfl ⟨rfl, ?_⟩
      exact HS4.out.up
end Go.Proofs.YtkblmloobkiloaaGreatDoor
