/-
  vergerlaw03: MsgBack. Conditions: the tables and the errors that it reads lie as laid.
-/
import Derived.Test.YtkblmloobkiloaaGreatDoorCMLF
namespace Go.Proofs.YtkblmloobkiloaaGreatDoor
open Go.RowKit
open Go.Lib (decDigits)

theorem join_high : ∀ l : List ByteArray, (joinS (l.map quoteS)).length ≤ 4 * namB l
  | [] => Nat.zero_le _
  | x :: r => by
    have h : ∀ r : List ByteArray, ((r.map quoteS).flatMap fun y => 32 :: y).length ≤ 4 * namB r := by
      intro r
      induction r with
      | nil => exact Nat.zero_le _
      | cons y r ih =>
        have := quoteS_len y
        show (32 :: quoteS y ++ ((r.map quoteS).flatMap fun y => 32 :: y)).length ≤ 4 * (2 + y.size + namB r)
        rw [List.length_append, List.length_cons]
        omega
    have h1 := h r
    have h2 := quoteS_len x
    show (quoteS x ++ (r.map quoteS).flatMap fun y => 32 :: y).length ≤ 4 * (2 + x.size + namB r)
    rw [List.length_append]
    omega
theorem val_high (m : Mg) (f : Fld) (ho : m.ok) (hg : m.good f = true) : (m.val f).length ≤ 4 * m.long f + 1200 := by
  have hd : ∀ n, n < 18446744073709551616 → (decDigits n).length ≤ 20 := fun n hn => by have := dig_len n hn; rw [ofL_size] at this; exact this
  have hq := fun s => quoteS_len s
  cases f
  case msize => show (decDigits m.msize).length ≤ _; have := hd m.msize (by have := ho.msize; omega); omega
  case afid => show (decDigits m.afid).length ≤ _; have := hd m.afid (by have := ho.afid; omega); omega
  case oldtag => show (decDigits m.oldtag).length ≤ _; have := hd m.oldtag (by have := ho.oldtag; omega); omega
  case fid => show (decDigits m.fid).length ≤ _; have := hd m.fid (by have := ho.fid; omega); omega
  case newfid => show (decDigits m.newfid).length ≤ _; have := hd m.newfid (by have := ho.newfid; omega); omega
  case mode => show (decDigits m.mode).length ≤ _; have := hd m.mode (by have := ho.mode; omega); omega
  case iounit => show (decDigits m.iounit).length ≤ _; have := hd m.iounit (by have := ho.iounit; omega); omega
  case perm => show (decDigits m.perm).length ≤ _; have := hd m.perm (by have := ho.perm; omega); omega
  case offset => show (decDigits m.offset).length ≤ _; have := hd m.offset (by have := ho.offset; omega); omega
  case count => show (decDigits m.count).length ≤ _; have := hd m.count (by have := ho.count; omega); omega
  case version => show (quoteS m.version).length ≤ 4 * (2 + m.version.size) + 1200; have := hq m.version; omega
  case uname => show (quoteS m.uname).length ≤ 4 * (2 + m.uname.size) + 1200; have := hq m.uname; omega
  case aname => show (quoteS m.aname).length ≤ 4 * (2 + m.aname.size) + 1200; have := hq m.aname; omega
  case ename => show (quoteS m.ename).length ≤ 4 * (2 + m.ename.size) + 1200; have := hq m.ename; omega
  case name => show (quoteS m.name).length ≤ 4 * (2 + m.name.size) + 1200; have := hq m.name; omega
  case qid => show (dotL m.qid).length ≤ _; have := dotL_len m.qid ho.qid.wide; omega
  case data => show (m.data.flatMap hexB).length ≤ 4 * (4 + m.data.length) + 1200; rw [hexB_len]; omega
  case names =>
    show (91 :: (joinS (m.names.map quoteS) ++ [93])).length ≤ 4 * (2 + namB m.names) + 1200
    have := join_high m.names
    rw [List.length_cons, List.length_append, List.length_cons, List.length_nil]
    omega
  case qids =>
    show (91 :: (joinS (m.qids.map dotL) ++ [93])).length ≤ 4 * (2 + 13 * m.qids.length) + 1200
    have h : decide (m.qids.length ≤ 16) = true := hg
    rw [decide_eq_true_iff] at h
    have h2 := joinS_len (m.qids.map dotL) 62 (by
      intro x hx
      obtain ⟨y, hy, rfl⟩ := List.mem_map.1 hx
      exact dotL_len y (ho.qids y hy).wide)
    rw [List.length_map] at h2
    rw [List.length_cons, List.length_append, List.length_cons, List.length_nil]
    omega
  case stat =>
    show (recL m.stat).length ≤ 4 * (2 + stSize m.stat) + 1200
    have h1 := hq m.stat.name
    have h2 := hq m.stat.uid
    have h3 := hq m.stat.gid
    have h4 := hq m.stat.muid
    obtain ⟨a1, a2, a3, a4, a5, a6, a7⟩ := ho.stat
    have d1 := hd m.stat.type (by omega)
    have d2 := hd m.stat.dev (by omega)
    have d3 := dotL_len m.stat.qid a3.wide
    have d4 := hd m.stat.mode (by omega)
    have d5 := hd m.stat.atime (by omega)
    have d6 := hd m.stat.mtime (by omega)
    have d7 := hd m.stat.length (by omega)
    unfold recL stSize
    simp only [List.length_append, List.length_cons, List.length_nil]
    omega
theorem text_high {m : Mg} (ho : m.ok) (h : (refused m).1 = 0) : (textM m).length ≤ 400000 := by
  obtain ⟨fs, hk⟩ := not_refused h
  obtain ⟨-, hall⟩ := enc_len2 hk h
  have hs := ref_size hk h
  rw [text_ok hk h]
  have hkn := kindN_len m.kind
  have hd : (decDigits m.tag).length ≤ 20 := by have := dig_len m.tag (by have := ho.tag; omega); rw [ofL_size] at this; exact this
  have key : ∀ gs : List Fld, (∀ f ∈ gs, m.good f = true) → (gs.flatMap m.part).length ≤ 4 * (gs.map m.long).sum + 1220 * gs.length := by
    intro gs
    induction gs with
    | nil => intro _; exact Nat.zero_le _
    | cons f gs ih =>
      intro hg
      have h1 := ih (fun g hgm => hg g (List.mem_cons_of_mem _ hgm))
      have h2 := val_high m f ho (hg f (List.mem_cons_self ..))
      have h3 := word_len f
      rw [wordS_eq, ofL_size] at h3
      rw [List.flatMap_cons, List.length_append, List.map_cons, List.sum_cons, List.length_cons]
      show (32 :: (f.word ++ 61 :: m.val f)).length + _ ≤ _
      rw [List.length_cons, List.length_append, List.length_cons]
      omega
  have h4 := key fs (fun f hf => List.all_eq_true.1 hall f hf)
  have h5 := kindF_len hk
  unfold Mg.size at hs
  rw [List.length_append, List.length_cons, List.length_append]
  omega
set_option maxRecDepth 100000 in
set_option maxHeartbeats 6400000 in
theorem back_calls (m : Mg) (vn vq vd : Value) (w : World) (hw : Worldly w) (hc : Came w m vn vq vd) : Calls Tryz.prog 8 #[msgV m vn vq vd] w fun e w' => e = .returned (.bool true) ∧ Below w.heap.size w w' := by
  have HM0 := Lib.hid (show MBlk (w.alloc (.cells (msgL m vn vq vd).toArray 41)) w.heap.size m vn vq vd from Blk.new w _ _)
  have hup : Below w.heap.size w (w.alloc (.cells (msgL m vn vq vd).toArray 41)) := (Below.refl _ _).alloc (Nat.le_refl _) _
  have HS0 := Lib.hid ((LS.start hw).next hup)
  have HL0 := Lib.hid ((hc.l.below hup).more hup.size)
  have HC := Lib.hid hc
  clear hc hup hw
  go_enter Tryz.func8, Tryz.ntmps8
  go_upto_region 1 with (fail)
  change Code.wp _ _ _ _ (w.alloc (.cells (msgL m vn vq vd).toArray 41))
  generalize w.alloc (.cells (msgL m vn vq vd).toArray 41) = w0 at HM0 HS0 HL0 ⊢
  generalize hz : w.heap.size = z at HM0 ⊢
  have HZ := Lib.hid hz
  clear hz
  go_wp2_with fail
  refine (works_calls w0 HS0.out.wd.se HS0.out.wd.rd HS0.out.wd.tp).mono ?_
  rintro e w1 ⟨rfl, hb⟩
  have HM1 := Lib.hid (Blk.below HM0.out hb (Blk.lt HM0.out)); have HL1 := Lib.hid ((HL0.out.below hb).more hb.size); have HS1 := Lib.hid (HS0.out.next hb); clear HM0 HL0 HS0
  clear hb
  go_wp2_with (refine wlw HM1.out 0 (msgL m vn vq vd) rfl rfl _ _ rfl rfl _ Tryz.underlying41 rfl msg_size ?_)
  refine (ofMsg_calls m vn vq vd w1 w HC.out HL1.out).mono ?_
  rintro e w2 ⟨⟨n, rfl, hn, hsm⟩, hb⟩
  have HM2 := Lib.hid (Blk.below HM1.out hb (Blk.lt HM1.out)); have HL2 := Lib.hid ((HL1.out.below hb).more hb.size); have HS2 := Lib.hid (HS1.out.next hb); clear HM1 HL1 HS1
  clear hb
  by_cases hbig : 8388608 < n
  · clear hsm
    go_wp2_with fail
    refine bodyPost_ret (v := .bool true) (by simp [results, Tryz.results8]) rfl ⟨rfl, ?_⟩
    exact HS2.out.up
  · have HSM := Lib.hid (ofM_small (hsm (by omega)))
    clear hsm
    have HEN := Lib.hid (encode_calls m vn vq vd w2 HC.out.ok HL2.out HS2.out.wd.rd HSM.out)
    go_wp2_with (refine wlw HM2.out 0 (msgL m vn vq vd) rfl rfl _ _ rfl rfl _ Tryz.underlying41 rfl msg_size ?_)
    refine HEN.out.mono ?_
    rintro e w3 ⟨⟨v, rfl, hown⟩, hb⟩
    rw [enc_refused2 m]
    obtain ⟨fA, fc, hv, -⟩ := own_len hown
    have HF3 := Lib.hid (Bys.of_own hown)
    subst hv
    have HM3 := Lib.hid (Blk.below HM2.out hb (Blk.lt HM2.out)); have HL3 := Lib.hid ((HL2.out.below hb).more hb.size); have HS3 := Lib.hid (HS2.out.next hb); clear HM2 HL2 HS2
    clear hown hb HEN
    go_wp2_with (refine wlw HM3.out 0 (msgL m vn vq vd) rfl rfl _ _ rfl rfl _ Tryz.underlying41 rfl msg_size ?_)
    refine (size_calls m vn vq vd w3 HC.out.ok HL3.out HS3.out.wd.rd HSM.out).mono ?_
    rintro e w4 ⟨rfl, hb⟩
    have HM4 := Lib.hid (Blk.below HM3.out hb (Blk.lt HM3.out)); have HL4 := Lib.hid ((HL3.out.below hb).more hb.size); have HS4 := Lib.hid (HS3.out.next hb); have HF4 := Lib.hid ((HF3.out.below hb).more hb.size); clear HM3 HL3 HS3 HF3
    clear hb
    go_wp2_with (refine wlw HM4.out 0 (msgL m vn vq vd) rfl rfl _ _ rfl rfl _ Tryz.underlying41 rfl msg_size ?_)
    refine (text_calls m vn vq vd w4 HC.out.ok HL4.out HS4.out.wd.rd HS4.out.wd.tp HSM.out).mono ?_
    rintro e w5 ⟨rfl, hb⟩
    have HM5 := Lib.hid (Blk.below HM4.out hb (Blk.lt HM4.out)); have HL5 := Lib.hid ((HL4.out.below hb).more hb.size); have HS5 := Lib.hid (HS4.out.next hb); have HF5 := Lib.hid ((HF4.out.below hb).more hb.size); clear HM4 HL4 HS4 HF4
    clear hb
    by_cases hr : (refused m).1 = 0
    · have hdec := dec_enc HC.out.ok hr
      have hpar := parse_text HC.out.ok hr
      obtain ⟨hr2, hen2, hcl2, hok2, -⟩ := dec_some hdec
      obtain ⟨-, ht2, -⟩ := parse_some hpar
      have HTH := Lib.hid (text_high HC.out.ok hr)
      have HFH := Lib.hid (show (enc m).1.length ≤ 65536 from by
        obtain ⟨fs, hk⟩ := not_refused hr
        rw [(enc_len2 hk hr).1]
        exact ref_size hk hr)
      have HCS := Lib.hid (enc_small hr2 hcl2)
      have hee : enc (clean m) = ((enc m).1, 0) := Prod.ext hen2 (by rw [enc_refused2, hr2])
      have HCL := Lib.hid (clean_calls m vn vq vd w5 HL5.out HSM.out)
      have HEE := Lib.hid hee
      have HDEC := Lib.hid hdec
      have HPAR := Lib.hid hpar
      have HT2 := Lib.hid ht2
      have HOK2 := Lib.hid hok2
      rw [hr]
      clear hr hr2 hen2 hcl2 hok2 hee hdec hpar ht2
      generalize hF : (enc m).1 = F at *
      generalize hT : textM m = T at *
      clear hF hT
      generalize hCC : clean m = c at *
      clear hCC
      go_wp2_with (refine wlw HM5.out 0 (msgL m vn vq vd) rfl rfl _ _ rfl rfl _ Tryz.underlying41 rfl msg_size ?_)
      refine HCL.out.mono ?_
      rintro e w6 ⟨⟨cn, cq, cd, rfl, hol⟩, hb⟩
      have HOC := Lib.hid hol
      have HS6 := Lib.hid (HS5.out.next hb); have HF6 := Lib.hid ((HF5.out.below hb).more hb.size); clear HS5 HF5
      clear hol hb HCL HM5 HL5
      dsimp only
      go_upto_region 10 with (change wpList _ _ _ _ _ (w6.alloc (.cells (mgN (head 0 0)).toArray 41)); have hup : Below w6.heap.size w6 (w6.alloc (.cells (mgN (head 0 0)).toArray 41)) := (Below.refl _ _).alloc (Nat.le_refl _) _; have HMZ := Lib.hid (show MBlk (w6.alloc (.cells (mgN (head 0 0)).toArray 41)) w6.heap.size (head 0 0) (.slice none 0 0) (.slice none 0 0) (.slice none 0 0) from Blk.new w6 _ _); generalize (w6.alloc (.cells (mgN (head 0 0)).toArray 41)) = w6z at hup HMZ ⊢; refine wstK HMZ.out 0 (msgL c cn cq cd) _ (over_msg ..) (Nat.le_refl 36) (msg_one _ (own_one HOC.out.n) (own_one HOC.out.q) (own_one HOC.out.d)) rfl _ _ _ rfl rfl rfl msg_size ?_; intro w7 hs ho; have HC7 := Lib.hid (show MBlk w7 w6.heap.size c cn cq cd from hs); have HBB := Lib.hid (hup.trans ((ho (fun i => i = w6.heap.size) rfl w6z (Off.refl _ _)).below (fun k hk => (by have hk : k = w6.heap.size := hk; omega)) hup.size)); clear hs ho hup HMZ)
      have HL7 := Lib.hid (HOC.out.below HBB.out).lists
      have HS7 := Lib.hid (HS6.out.next HBB.out); have HF7 := Lib.hid ((HF6.out.below HBB.out).more HBB.out.size); clear HS6 HF6
      generalize w6.heap.size = q8 at HC7 ⊢
      clear HOC HBB
      have HDC := Lib.hid (decode_calls _ F w7 HF7.out HS7.out.wd.rd (by have := HFH.out; omega))
      rw [HDEC.out] at HDC
      go_wp2_with fail
      refine HDC.out.mono ?_
      rintro e w8 ⟨⟨an, aq, ad, rfl, hol⟩, hb⟩
      have HOA := Lib.hid hol
      have HS8 := Lib.hid (HS7.out.next hb); have HF8 := Lib.hid ((HF7.out.below hb).more hb.size); have HC8 := Lib.hid (Blk.below HC7.out hb (Blk.lt HC7.out)); have HL8 := Lib.hid ((HL7.out.below hb).more hb.size); clear HS7 HF7 HC7 HL7
      clear hol hb HDC
      dsimp only
      go_upto_region 11 with (change wpList _ _ _ _ _ (w8.alloc (.cells (mgN (head 0 0)).toArray 41)); have hup : Below w8.heap.size w8 (w8.alloc (.cells (mgN (head 0 0)).toArray 41)) := (Below.refl _ _).alloc (Nat.le_refl _) _; have HMZ := Lib.hid (show MBlk (w8.alloc (.cells (mgN (head 0 0)).toArray 41)) w8.heap.size (head 0 0) (.slice none 0 0) (.slice none 0 0) (.slice none 0 0) from Blk.new w8 _ _); generalize (w8.alloc (.cells (mgN (head 0 0)).toArray 41)) = w8z at hup HMZ ⊢; refine wstK HMZ.out 0 (msgL c an aq ad) _ (over_msg ..) (Nat.le_refl 36) (msg_one _ (own_one HOA.out.n) (own_one HOA.out.q) (own_one HOA.out.d)) rfl _ _ _ rfl rfl rfl msg_size ?_; intro w9 hs ho; have HA9 := Lib.hid (show MBlk w9 w8.heap.size c an aq ad from hs); have HBB := Lib.hid (hup.trans ((ho (fun i => i = w8.heap.size) rfl w8z (Off.refl _ _)).below (fun k hk => (by have hk : k = w8.heap.size := hk; omega)) hup.size)); clear hs ho hup HMZ)
      have HK9 := Lib.hid (HOA.out.below HBB.out).lists
      have HS9 := Lib.hid (HS8.out.next HBB.out); have HF9 := Lib.hid ((HF8.out.below HBB.out).more HBB.out.size); have HC9 := Lib.hid (Blk.below HC8.out HBB.out (Blk.lt HC8.out)); have HL9 := Lib.hid ((HL8.out.below HBB.out).more HBB.out.size); clear HS8 HF8 HC8 HL8
      generalize w8.heap.size = q9 at HA9 ⊢
      clear HOA HBB
      have HPC := Lib.hid (parse_calls (ofL T) w9 HS9.out.wd.se HS9.out.wd.rd (by rw [ofL_size]; have := HTH.out; omega))
      rw [show (ofL T).data.toList = T from by simp [ofL], HPAR.out] at HPC
      go_wp2_with fail
      refine HPC.out.mono ?_
      rintro e w10 ⟨⟨pn, pq, pd, rfl, hol⟩, hb⟩
      have HOP := Lib.hid hol
      have HS10 := Lib.hid (HS9.out.next hb); have HF10 := Lib.hid ((HF9.out.below hb).more hb.size); have HC10 := Lib.hid (Blk.below HC9.out hb (Blk.lt HC9.out)); have HL10 := Lib.hid ((HL9.out.below hb).more hb.size); have HA10 := Lib.hid (Blk.below HA9.out hb (Blk.lt HA9.out)); have HK10 := Lib.hid ((HK9.out.below hb).more hb.size); clear HS9 HF9 HC9 HL9 HA9 HK9
      clear hol hb HPC
      dsimp only
      go_upto_region 12 with (change wpList _ _ _ _ _ (w10.alloc (.cells (mgN (head 0 0)).toArray 41)); have hup : Below w10.heap.size w10 (w10.alloc (.cells (mgN (head 0 0)).toArray 41)) := (Below.refl _ _).alloc (Nat.le_refl _) _; have HMZ := Lib.hid (show MBlk (w10.alloc (.cells (mgN (head 0 0)).toArray 41)) w10.heap.size (head 0 0) (.slice none 0 0) (.slice none 0 0) (.slice none 0 0) from Blk.new w10 _ _); generalize (w10.alloc (.cells (mgN (head 0 0)).toArray 41)) = w10z at hup HMZ ⊢; refine wstK HMZ.out 0 (msgL c pn pq pd) _ (over_msg ..) (Nat.le_refl 36) (msg_one _ (own_one HOP.out.n) (own_one HOP.out.q) (own_one HOP.out.d)) rfl _ _ _ rfl rfl rfl msg_size ?_; intro w11 hs ho; have HP11 := Lib.hid (show MBlk w11 w10.heap.size c pn pq pd from hs); have HBB := Lib.hid (hup.trans ((ho (fun i => i = w10.heap.size) rfl w10z (Off.refl _ _)).below (fun k hk => (by have hk : k = w10.heap.size := hk; omega)) hup.size)); clear hs ho hup HMZ)
      have HP11L := Lib.hid (HOP.out.below HBB.out).lists
      have HS11 := Lib.hid (HS10.out.next HBB.out); have HF11 := Lib.hid ((HF10.out.below HBB.out).more HBB.out.size); have HC11 := Lib.hid (Blk.below HC10.out HBB.out (Blk.lt HC10.out)); have HL11 := Lib.hid ((HL10.out.below HBB.out).more HBB.out.size); have HA11 := Lib.hid (Blk.below HA10.out HBB.out (Blk.lt HA10.out)); have HK11 := Lib.hid ((HK10.out.below HBB.out).more HBB.out.size); clear HS10 HF10 HC10 HL10 HA10 HK10
      generalize w10.heap.size = q11 at HP11 ⊢
      clear HOP HBB
      have HEN2 := Lib.hid (encode_calls c cn cq cd w11 HOK2.out HL11.out HS11.out.wd.rd HCS.out)
      rw [HEE.out] at HEN2
      go_wp2_with (refine wlw HC11.out 0 (msgL c cn cq cd) rfl rfl _ _ rfl rfl _ Tryz.underlying41 rfl msg_size ?_)
      refine HEN2.out.mono ?_
      rintro e w12 ⟨⟨v2, rfl, hown⟩, hb⟩
      have HG12 := Lib.hid (Bys.of_own hown)
      have HS12 := Lib.hid (HS11.out.next hb); have HF12 := Lib.hid ((HF11.out.below hb).more hb.size); have HC12 := Lib.hid (Blk.below HC11.out hb (Blk.lt HC11.out)); have HL12 := Lib.hid ((HL11.out.below hb).more hb.size); have HA12 := Lib.hid (Blk.below HA11.out hb (Blk.lt HA11.out)); have HK12 := Lib.hid ((HK11.out.below hb).more hb.size); have HP12 := Lib.hid (Blk.below HP11.out hb (Blk.lt HP11.out)); have HP12L := Lib.hid ((HP11L.out.below hb).more hb.size); clear HS11 HF11 HC11 HL11 HA11 HK11 HP11 HP11L
      clear hown hb HEN2
      have HTX := Lib.hid (text_calls c cn cq cd w12 HOK2.out HL12.out HS12.out.wd.rd HS12.out.wd.tp HCS.out)
      rw [HT2.out] at HTX
      go_wp2_with (refine wlw HC12.out 0 (msgL c cn cq cd) rfl rfl _ _ rfl rfl _ Tryz.underlying41 rfl msg_size ?_)
      refine HTX.out.mono ?_
      rintro e w13 ⟨rfl, hb⟩
      have HS13 := Lib.hid (HS12.out.next hb); have HF13 := Lib.hid ((HF12.out.below hb).more hb.size); have HG13 := Lib.hid ((HG12.out.below hb).more hb.size); have HC13 := Lib.hid (Blk.below HC12.out hb (Blk.lt HC12.out)); have HL13 := Lib.hid ((HL12.out.below hb).more hb.size); have HA13 := Lib.hid (Blk.below HA12.out hb (Blk.lt HA12.out)); have HK13 := Lib.hid ((HK12.out.below hb).more hb.size); have HP13 := Lib.hid (Blk.below HP12.out hb (Blk.lt HP12.out)); have HP13L := Lib.hid ((HP12L.out.below hb).more hb.size); clear HS12 HF12 HG12 HC12 HL12 HA12 HK12 HP12 HP12L
      clear hb HTX
      have HSA := Lib.hid (same_calls c c an aq ad cn cq cd w13 HK13.out HL13.out)
      go_wp2_with (first | (refine wlw HA13.out 0 (msgL c an aq ad) rfl rfl _ _ rfl rfl _ Tryz.underlying41 rfl msg_size ?_) | (refine wlw HC13.out 0 (msgL c cn cq cd) rfl rfl _ _ rfl rfl _ Tryz.underlying41 rfl msg_size ?_))
      refine HSA.out.mono ?_
      rintro e w14 ⟨⟨r, rfl, hr⟩, hb⟩
      obtain rfl : r = true := hr.2 rfl
      have HS14 := Lib.hid (HS13.out.next hb); have HF14 := Lib.hid ((HF13.out.below hb).more hb.size); have HG14 := Lib.hid ((HG13.out.below hb).more hb.size); have HC14 := Lib.hid (Blk.below HC13.out hb (Blk.lt HC13.out)); have HL14 := Lib.hid ((HL13.out.below hb).more hb.size); have HP14 := Lib.hid (Blk.below HP13.out hb (Blk.lt HP13.out)); have HP14L := Lib.hid ((HP13L.out.below hb).more hb.size); clear HS13 HF13 HG13 HC13 HL13 HP13 HP13L
      clear hb hr HSA HA13 HK13
      have HSB := Lib.hid (same_calls c c pn pq pd cn cq cd w14 HP14L.out HL14.out)
      go_wp2_with (first | (refine wlw HP14.out 0 (msgL c pn pq pd) rfl rfl _ _ rfl rfl _ Tryz.underlying41 rfl msg_size ?_) | (refine wlw HC14.out 0 (msgL c cn cq cd) rfl rfl _ _ rfl rfl _ Tryz.underlying41 rfl msg_size ?_))
      refine HSB.out.mono ?_
      rintro e w15 ⟨⟨r, rfl, hr⟩, hb⟩
      obtain rfl : r = true := hr.2 rfl
      have hc1 := conv_bys (HF14.out.below hb)
      have hc2 := conv_bys (HG14.out.below hb)
      have HS15 := Lib.hid (HS14.out.next hb); clear HS14
      clear hb hr HSB HC14 HL14 HP14 HP14L HF14 HG14
      go_wp2_with fail
      refine bodyPost_ret (v := .bool true) (by simp [results, Tryz.results8]) rfl ⟨rfl, ?_⟩
      exact HS15.out.up
    · have hne : (((refused m).1 : Int) != 0) = true := by rw [bne_iff_ne, ne_eq]; omega
      obtain ⟨h1, h2⟩ := enc_refused hr
      rw [h1, h2]
      generalize ((refused m).1 : Int) = er at hne ⊢
      clear hr h1 h2 HF5
      have ofs : (ofL ([] : List UInt8)).toList = [] := by rw [ByteArray.toList_eq]; rfl
      go_wp2_with fail
      refine bodyPost_ret (v := .bool true) (by simp [results, Tryz.results8]) rfl ⟨rfl, ?_⟩
      exact HS5.out.up
end Go.Proofs.YtkblmloobkiloaaGreatDoor
