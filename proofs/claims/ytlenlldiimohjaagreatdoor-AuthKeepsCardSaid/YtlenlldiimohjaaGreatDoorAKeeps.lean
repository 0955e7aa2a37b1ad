
/-
  AuthKeeps returns true: who has not said the answer never does. Conditions: the tables of unicode/utf8, math/bits and strconv (Ready, TZ, SV).
-/
import Derived.Test.YtlenlldiimohjaaGreatDoorAKeepW
namespace Go.Proofs.YtlenlldiimohjaaGreatDoor
open Go.RowKit SumLaw

set_option maxRecDepth 100000 in
set_option maxHeartbeats 12800000 in
theorem keeps_calls (key : ByteArray) (ours theirs : Nat) (A : Option Addr) (cap : Nat) (xs : List Ac) (honest : Bool) (w : World) (hr : Ready w) (htz : TZ w) (hsv : SV w) (hks : key.size ≤ 9223372036854775807) (ha : Acts w w.heap.size (.slice A xs.length cap) xs) (ho : ours < 18446744073709551616) (h64 : theirs < 18446744073709551616) :
    Calls Tryz.prog 4 #[.string key, .int .u64 (ours : Int), .int .u64 (theirs : Int), .slice A xs.length cap, .bool honest] w fun e w' => e = .returned (.bool true) ∧ Below w.heap.size w w' := by
  obtain ⟨i0, hi0, hz0, hz1, hz2⟩ := info_parts u8_info
  have JI := Lib.hid hi0; clear hi0
  have J0 := Lib.hid hz0; clear hz0
  have J1 := Lib.hid hz1; clear hz1
  have J2 := Lib.hid hz2; clear hz2
  have HR := Lib.hid hr
  have HTZ0 := Lib.hid htz
  have HSV0 := Lib.hid hsv
  have HA := Lib.hid ha
  have HO := Lib.hid ho
  have H64 := Lib.hid h64
  have hxl : xs.length ≤ 9223372036854775807 := by
    obtain ⟨A2, c2, e, h1, h2, -⟩ := ha
    unfold maxLen at h2
    omega
  clear hr htz hsv ha ho h64
  go_enter Tryz.func4, Tryz.ntmps4
  go_upto_region 2 with (fail)
  go_cut [12] (fun i wx => i = .int .i64 0 ∧ wx = w)
  case first =>
    go_wp2_with fail
    go_meet
    case rel => exact ⟨rfl, rfl⟩
  obtain ⟨rfl, rfl⟩ := hcut
  rename_i hK
  refine hK _ _ ?_
  go_cut [11] (fun n wx => ∃ N : Nat, n = .int .i64 (N : Int) ∧ wx = wc ∧ N ≤ 9223372036854775807 ∧ (key.size ≤ N) ∧ (N ≤ 268435456 → ∀ j, j < xs.length → j < 200 → (xs.getD j default).bytes.length ≤ 268435456))
  case first => as_aux_lemma =>
    go_wp2_with fail
    go_loop [11, 12] (fun n i => ∃ k N : Nat, i = .int .i64 (k : Int) ∧ n = .int .i64 (N : Int) ∧ N ≤ 9223372036854775807 ∧ key.size ≤ N ∧ k ≤ xs.length ∧ k ≤ 200 ∧ ∀ j, j < k → (xs.getD j default).bytes.length ≤ N) (fun _ i => 200 - (intOf i).toNat)
    case atStart => exact ⟨0, key.size, rfl, rfl, hks, Nat.le_refl _, Nat.zero_le _, Nat.zero_le _, fun j hj => absurd hj (Nat.not_lt_zero _)⟩
    case round =>
      obtain ⟨k, N, rfl, rfl, hN, hkN, hkx, hk2, hj⟩ := hrel
      have HJ := Lib.hid hj
      clear hj
      by_cases h1 : k < xs.length
      · have h1' : (k : Int) < (xs.length : Int) := by omega
        by_cases h2 : k < 200
        · have h2' : (k : Int) < 200 := by omega
          by_cases h3 : N ≤ 268435456
          · have h3' : (N : Int) ≤ 268435456 := by omega
            obtain ⟨A2, cap2, e, hxc, hcm, hat⟩ := HA.out
            injection e with e1 e2 e3
            subst e1
            subst e3
            obtain ⟨ad, bv, hA, hlt, c0, c1, c2, hby, -, -, hbl⟩ := hat k h1
            subst hA
            obtain ⟨bA, bc, hbv, -⟩ := id hby
            have HBL := Lib.hid hbl
            subst hbv
            clear hat hby c0 c1 hlt
            obtain ⟨m, hm⟩ : ∃ m, (xs.getD k default).bytes.length = m := ⟨_, rfl⟩
            rw [hm] at c2 HBL
            have HM := Lib.hid hm
            have k2 : wc.cell? ⟨(ad.add (k * 3)).block, (ad.add (k * 3)).off + 2, none⟩ = some (.slice bA m bc) := by
              rw [← add_of_add] at c2
              exact c2
            have hml : (m : Int) ≤ 140737488355327 := by have := HBL.out; omega
            clear hm h1 h2 h3 c2
            go_wp2_with fail
            go_round
            case rel =>
              refine ⟨k + 1, N + m, by go_num, by go_num, by omega, by omega, by omega, by omega, fun j hj => ?_⟩
              by_cases hjk : j = k
              · rw [hjk, HM.out]; omega
              · have := HJ.out j (by omega); omega
            case measure => simp [intOf]; omega
          · have h3' : ¬ (N : Int) ≤ 268435456 := by omega
            have HG := Lib.hid h3
            clear h1 h2 h3
            go_wp2_with fail
            go_meet
            case rel => exact ⟨N, rfl, rfl, hN, hkN, fun hh => absurd hh HG.out⟩
        · have h2' : ¬ (k : Int) < 200 := by omega
          have HG := Lib.hid (show ∀ j, j < xs.length → j < 200 → (xs.getD j default).bytes.length ≤ N from fun j _ hj => HJ.out j (by omega))
          clear h1 h2 HJ
          go_wp2_with fail
          go_meet
          case rel => exact ⟨N, rfl, rfl, hN, hkN, fun hh j h1 h2 => Nat.le_trans (HG.out j h1 h2) hh⟩
      · have h1' : ¬ (k : Int) < (xs.length : Int) := by omega
        have HG := Lib.hid (show ∀ j, j < xs.length → j < 200 → (xs.getD j default).bytes.length ≤ N from fun j hj _ => HJ.out j (by omega))
        clear h1 HJ
        go_wp2_with fail
        go_meet
        case rel => exact ⟨N, rfl, rfl, hN, hkN, fun hh j h1 h2 => Nat.le_trans (HG.out j h1 h2) hh⟩
  case rest => as_aux_lemma =>
    obtain ⟨N, rfl, rfl, hN, hkN, hxs⟩ := hcut
    by_cases hb : N ≤ 268435456
    · have hb' : ¬ (268435456 : Int) < (N : Int) := by omega
      have HXS := Lib.hid (hxs hb)
      have HKS := Lib.hid (show key.size ≤ 268435456 from by omega)
      have HE0 := Lib.hid (show (⟨#[]⟩ : ByteArray).size ≤ maxLen from by decide)
      have HE1 := Lib.hid (show (⟨#[117]⟩ : ByteArray).size ≤ maxLen from by decide)
      clear hN hkN hxs hb hks
      go_upto_region 11 with (go_at_call 13; (with_reducible refine (lawTable_calls key _ HR.out HKS.out).mono ?_); rintro e w1 ⟨⟨g, k, rfl, hp, hk⟩, hb⟩; have HP := Lib.hid hp; have HK := Lib.hid hk; have HB := Lib.hid hb; clear hp hk hb)
      have HTZ := Lib.hid (HTZ0.out.below HB.out (Nat.le_refl _))
      have HSV := Lib.hid (HSV0.out.below HB.out (Nat.le_refl _))
      have HA1 := Lib.hid ((HA.out.below HB.out).more HB.out.size)
      have HKM := Lib.hid (show k.size ≤ maxLen from by have := (key_no HK.out.1).1; unfold maxLen; omega)
      clear HTZ0 HSV0 HR HKS hb' HA
      go_upto_region 12 with (first
        | (go_at_call 14; (with_reducible refine (beginU_calls _ _ HP.out HK.out).mono ?_); rintro e w2 ⟨rfl, hb⟩; have HB2 := Lib.hid hb; clear hb)
        | (refine wstT (TBlk.zero w2) ⟨⟨#[117]⟩, ⟨#[]⟩, (ours : Int), 0, 1, 0⟩ (.slice none 0 0) rfl rfl _ _ rfl rfl rfl ?_; intro w3 hs ho hbl; have HF := Lib.hid (FT.start HB2.out hs hbl); clear hs ho hbl))
      clear HB2
      generalize w2.heap.size = q at HF ⊢
      go_upto_region 13 with (first
        | (go_at_call 14; (with_reducible refine (beginV_calls _ _ (HF.out.tab HP.out)).mono ?_); rintro e w4 ⟨rfl, hb⟩; have HF4 := Lib.hid (HF.out.call hb); clear hb)
        | (refine wstT (TBlk.zero w4) Tk.none (.slice none 0 0) rfl rfl _ _ rfl rfl rfl ?_; intro w5 hs ho hbl; have HF5 := Lib.hid (HF4.out.call (hbl _ _ ((Below.refl _ _).alloc (Nat.le_refl _) _) (Nat.le_refl _))); clear hs ho hbl))
      clear HF HF4
      go_upto_region 14 with (first
        | (go_at_call 14; (with_reducible refine (beginW_calls _ _ (HF5.out.tab HP.out)).mono ?_); rintro e w6 ⟨rfl, hb⟩; have HF6 := Lib.hid (HF5.out.call hb); clear hb)
        | (refine wstT (TBlk.zero w6) Tk.none (.slice none 0 0) rfl rfl _ _ rfl rfl rfl ?_; intro w7 hs ho hbl; have HF7 := Lib.hid (HF6.out.call (hbl _ _ ((Below.refl _ _).alloc (Nat.le_refl _) _) (Nat.le_refl _))); clear hs ho hbl))
      clear HF5 HF6
      generalize w4.heap.size = q16
      generalize w6.heap.size = q18
      go_upto_region 18 with (go_at_call 15; (with_reducible refine (authLine_calls k _ _ (ours : Int) theirs H64.out _ HKM.out HE1.out HE0.out).mono ?_); rintro e w8 ⟨rfl, hb⟩; have HF8 := Lib.hid (HF7.out.call hb); clear hb)
      obtain ⟨S, hS⟩ : ∃ z, lineS k ⟨#[117]⟩ ⟨#[]⟩ (ours : Int) theirs = z := ⟨_, rfl⟩
      rw [hS]
      have HSZ := Lib.hid (show S.size = 33 from by rw [← hS]; exact lineS_size _ _ _ _ _)
      have HL0 := Lib.hid (KL.first HF8.out (Bys.nil_ _ _))
      clear HF7 HF8 hS
      go_wp2_with fail
      go_loopw [21, 22] (fun hv i wr => ∃ (n : Nat) (t : Tk) (ht : Value) (l hd : List UInt8), i = .int .i64 (n : Int) ∧ n ≤ 200 ∧ n ≤ xs.length ∧ KL w1 q t ht l hd hv wr ∧ KI k ours t l hd) (fun _ i _ => 200 - (intOf i).toNat)
      case atStart => exact ⟨0, _, _, [], [], rfl, Nat.zero_le _, Nat.zero_le _, HL0.out, ki_first k ours⟩
      case round =>
        obtain ⟨n, t, ht, l, hd, rfl, hn2, hnx, hkl, hki⟩ := hrel
        have HL := Lib.hid hkl
        have HI := Lib.hid hki
        clear hkl hki HL0
        by_cases h1 : n < xs.length
        · have h1' : (n : Int) < (xs.length : Int) := by omega
          by_cases h2 : n < 200
          · have h2' : (n : Int) < 200 := by omega
            obtain ⟨A2, cap2, e, hxc, hcm, hat⟩ := HA1.out
            injection e with e1 e2 e3
            subst e1
            subst e3
            obtain ⟨ad, bv, hA, hlt, hact⟩ := hat n h1
            subst hA
            have HBL := Lib.hid (HXS.out n h1 h2)
            obtain ⟨x, hx⟩ : ∃ x, xs.getD n default = x := ⟨_, rfl⟩
            rw [hx] at hact HBL
            have HAT := Lib.hid (hact.below HL.out.low hlt)
            clear hat hact hlt hx h1 h2
            go_upto_region 22 with (first
              | (refine wlA HAT.out rfl _ rfl rfl ?_)
              | (refine wstA (ABlk.zero _) x.tell x.count bv HAT.out.2.2.2.1.one rfl _ _ rfl rfl rfl ?_; intro w9 hs ho hbl; have HAB := Lib.hid hs; have hq := hbl _ _ ((Below.refl _ _).alloc (Nat.le_refl _) _) (Nat.le_refl _); have HL9 := Lib.hid (HL.out.call hq); have HBV := Lib.hid (HAT.out.2.2.2.1.below (hq.mono HL.out.low.size)); have HCN := Lib.hid HAT.out.2.2.2.2; clear hs ho hbl hq))
            clear HL HAT
            generalize wr.heap.size = p at HAB ⊢
            have k0 : w9.cell? ⟨p, 0, none⟩ = some (.bool x.tell) := Blk.cell HAB.out 0
            go_upto_if 116 with (fail)
            clear k0
            go_cut [21] (fun hv2 wx => ∃ (t2 : Tk) (ht2 : Value) (l2 hd2 : List UInt8), KL w1 q t2 ht2 l2 hd2 hv2 wx ∧ KI k ours t2 l2 hd2)
            case first => as_aux_lemma =>
              cases htl : x.tell with
              | false => as_aux_lemma =>
                have k1 : w9.cell? ⟨p, 1, none⟩ = some (.int .i64 x.count) := Blk.cell HAB.out 1
                obtain ⟨r, hr⟩ : ∃ z, readS (tabL k) t l x.count = z := ⟨_, rfl⟩
                have hkr := ki_read (tabL k) HI.out x.count
                rw [hr] at hkr
                have HRD := Lib.hid hr
                have HKR := Lib.hid hkr
                have hsz := ki_sizes HI.out HO.out HK.out
                have HS1 := Lib.hid hsz.1
                have HS2 := Lib.hid hsz.2.1
                have HS3 := Lib.hid hsz.2.2.1
                have HS4 := Lib.hid hsz.2.2.2.1
                have HS5 := Lib.hid hsz.2.2.2.2
                have HC2 := Lib.hid (And.intro HCN.out.1 HCN.out.2.1)
                clear hkr hr hsz htl
                go_upto_region 24 with (first
                  | (refine wT HL9.out.tb rfl _ rfl rfl ?_)
                  | (go_at_call 16; (with_reducible refine (read_calls g (tabL k) t ht l x.count _ (HL9.out.tab HP.out) (HL9.out.tz HTZ.out) HL9.out.hb HS1.out HS2.out HS3.out HS4.out HS5.out HC2.out).mono ?_); rw [HRD.out]; rintro e wA ⟨⟨hu, bv2, rfl, hz, hb2, hn, -⟩, hb⟩; obtain ⟨bA, bc, hbe, -⟩ := id hb2; subst hbe; have HLA := Lib.hid (HL9.out.call hb); have HAA := Lib.hid (HAB.out.below hb); have HZ := Lib.hid hz; have HN := Lib.hid (HL9.out.fresh hn); clear hz hb2 hn hb)
                  | (refine wstT (TBlk.zero wA) r.t hu HZ.out.one rfl _ _ rfl rfl rfl ?_; intro wB hs ho hbl; have hq := hbl _ _ ((Below.refl _ _).alloc (Nat.le_refl _) _) (Nat.le_refl _); have HTB := Lib.hid hs; have HLB := Lib.hid (HLA.out.call hq); have HAB2 := Lib.hid (HAA.out.below hq); have HZB := Lib.hid ((HZ.out.below hq).more hq.size); clear hs ho hbl hq))
                clear HL9 HAB HLA HAA HZ k1
                generalize wA.heap.size = p24 at HTB ⊢
                have k1 : wB.cell? ⟨p, 1, none⟩ = some (.int .i64 x.count) := Blk.cell HAB2.out 1
                have k4 : wB.cell? ⟨q, 4, none⟩ = some (.int .u8 t.step) := Blk.cell HLB.out.tb 4
                have hmx : ¬ max x.count 0 < (r.out.length : Int) := by have := HKR.out.2.1; omega
                by_cases he : r.e = 0
                · have hq0 : (r.e != 0) = false := by rw [he]; rfl
                  have hq1 : (r.e == 0) = true := by rw [he]; rfl
                  have hq2 : (t.step == 5) = false := by
                    rw [beq_eq_false_iff_ne]
                    exact fun h5 => HKR.out.1.2 h5 he
                  have HKI := Lib.hid (HKR.out.2.2 he)
                  clear he
                  go_upto_region 26 with (fail)
                  clear k1 k4 hmx hq2 hq0
                  go_wp2_with (first
                    | (refine wT HTB.out rfl _ rfl rfl ?_)
                    | (refine wstT HLB.out.tb r.t hu HZB.out.one rfl _ _ rfl rfl rfl ?_; intro wC hs ho hbl; have HLC := Lib.hid (HLB.out.st hs ho hbl HZB.out (fun _ => HN.out)); clear hs ho hbl))
                  go_meet
                  case rel => exact ⟨_, _, _, _, HLC.out, HKI.out⟩
                · have hq0 : (r.e != 0) = true := by simpa using he
                  have hq1 : (r.e == 0) = false := beq_eq_false_iff_ne.2 he
                  have hq2 : (t.step == 5) = true := by
                    rw [HKR.out.1.1 he]
                    rfl
                  clear he
                  go_upto_region 26 with (fail)
                  clear k1 k4 hmx hq2 hq0
                  go_wp2_with fail
                  go_meet
                  case rel => exact ⟨_, _, _, _, HLB.out, HI.out⟩
              | true => as_aux_lemma =>
                have k2 : w9.cell? ⟨p, 2, none⟩ = some bv := Blk.cell HAB.out 2
                have hsz := ki_sizes HI.out HO.out HK.out
                have HS1 := Lib.hid hsz.1
                have HS2 := Lib.hid hsz.2.1
                have HS3 := Lib.hid hsz.2.2.1
                have HS4 := Lib.hid hsz.2.2.2.1
                have H33 := Lib.hid (ki_end HI.out).2.2.1
                clear hsz htl
                go_upto_if 145 with (fail)
                clear k2
                go_cut [27] (fun sv wx => ∃ b : List UInt8, Bys wx wx.heap.size sv b ∧ b.length ≤ 268435456 ∧ Below w9.heap.size w9 wx ∧ (b ≠ [] → sv.ownBlock ≠ some q))
                case first => as_aux_lemma =>
                  cases honest with
                  | false => as_aux_lemma =>
                    go_wp2_with fail
                    go_meet
                    case rel => exact ⟨x.bytes, HBV.out.more HL9.out.low.size, HBL.out, Below.refl _ _, fun hne hh => by have h1 := HBV.out.lt_ hne q hh; have h2 := HL9.out.2.1; omega⟩
                  | true => as_aux_lemma =>
                    obtain ⟨hA, hc, hhe, -⟩ := HL9.out.hd_
                    subst hhe
                    have h33 := H33.out
                    have hS33 := HSZ.out
                    have hmn : min (hd.length : Int) (S.size : Int) = (hd.length : Int) := by omega
                    have i2 : (hd.length : Int) ≤ (S.size : Int) := by omega
                    obtain ⟨X, hX⟩ : ∃ z, S.extract hd.length S.size = z := ⟨_, rfl⟩
                    have HXS2 := Lib.hid (show X.size ≤ 33 from by
                      have hx2 := (ext_eq S hd.length S.size (Nat.le_refl _) (by omega)).2
                      rw [hX] at hx2
                      omega)
                    obtain ⟨bc, wA, hconv, hcb, -, hbb, hgt, hbc, hbm⟩ := bytes_of X w9
                    have HNB := Lib.hid (bys_new (X := X) (by have := HXS2.out; unfold maxLen; omega) hcb hgt hbc hbm)
                    have HBB := Lib.hid hbb
                    obtain ⟨j, hj⟩ : ∃ j : Nat, min (max x.count 0) (X.size : Int) = (j : Int) := ⟨(min (max x.count 0) (X.size : Int)).toNat, by omega⟩
                    have HJX := Lib.hid (show j ≤ X.data.toList.length from by
                      have hxl : X.data.toList.length = X.size := Array.length_toList
                      omega)
                    have hjx : (j : Int) ≤ (X.size : Int) := by omega
                    clear hcb hbb hgt h33 hS33
                    have k1 : wA.cell? ⟨p, 1, none⟩ = some (.int .i64 x.count) := Blk.cell (HAB.out.below HBB.out) 1
                    go_upto_region 31 with (fail)
                    clear hconv hX hmn i2
                    go_wp2_with fail
                    go_meet
                    case rel =>
                      refine ⟨X.data.toList.take j, HNB.out.take_ HJX.out, ?_, HBB.out, fun _ hh => by injection hh with hh; have h2 := Blk.lt HL9.out.tb; have h3 : w9.heap.size = q := hh; omega⟩
                      have hxl : X.data.toList.length = X.size := Array.length_toList
                      have := HXS2.out
                      rw [List.length_take]
                      omega
                case rest => as_aux_lemma =>
                  obtain ⟨b, hby, hbl, hbw, hbq⟩ := hcut
                  have HBQ := Lib.hid hbq
                  obtain ⟨r, hr⟩ : ∃ z, writeS (tabL k) t l b = z := ⟨_, rfl⟩
                  have HWR := Lib.hid hr
                  have HKW := Lib.hid (fun (h : r.e = 0) => show r.n = (b.length : Int) ∧ t.step = 2 ∧ KI k ours r.t r.h (hd ++ b) from by
                    have h2 := ki_write (tabL k) (key_tab k) HI.out b (by rw [hr]; exact h)
                    rw [hr] at h2
                    exact h2)
                  have HLW := Lib.hid (HL9.out.call hbw)
                  have HBB := Lib.hid hby
                  have HBN := Lib.hid hbl
                  obtain ⟨bA, bc, hbe, -, -, hbr⟩ := hby
                  subst hbe
                  clear HL9 HAB HBV hbw hbl hr hbr hbq
                  rename_i hK2
                  refine hK2 _ _ ?_
                  go_upto_region 33 with (first
                    | (refine wT HLW.out.tb rfl _ rfl rfl ?_)
                    | (go_at_call 17; (with_reducible refine (write_calls g (tabL k) t ht _ l b _ (HLW.out.tab HP.out) (HLW.out.tz HTZ.out) (HLW.out.sv HSV.out) HLW.out.hb HBB.out HS1.out HBN.out HS2.out HS3.out HS4.out).mono ?_); rw [HWR.out]; rintro e wA ⟨⟨hu, rfl, hz, hn⟩, hb⟩; have HLA := Lib.hid (HLW.out.call hb); have HZ := Lib.hid hz; have HN := Lib.hid (HLW.out.fresh hn); have HBA := Lib.hid ((HBB.out.below hb).more hb.size); clear hz hn hb)
                    | (refine wstT (TBlk.zero wA) r.t hu HZ.out.one rfl _ _ rfl rfl rfl ?_; intro wB hs ho hbl; have hq := hbl _ _ ((Below.refl _ _).alloc (Nat.le_refl _) _) (Nat.le_refl _); have HTB := Lib.hid hs; have HLB := Lib.hid (HLA.out.call hq); have HZB := Lib.hid ((HZ.out.below hq).more hq.size); have HBB2 := Lib.hid ((HBA.out.below hq).more hq.size); clear hs ho hbl hq))
                  clear HLW HLA HZ HBB HBA
                  generalize wA.heap.size = p28 at HTB ⊢
                  by_cases he : r.e = 0
                  · have hq1 : (r.e == 0) = true := by rw [he]; rfl
                    obtain ⟨hw1, hw2, hw3⟩ := HKW.out he
                    have HKI := Lib.hid hw3
                    have k4 : wB.cell? ⟨q, 4, none⟩ = some (.int .u8 2) := by
                      have h := Blk.cell HLB.out.tb 4
                      rw [show (talkL t ht).toArray[4]? = some (.int .u8 t.step) from rfl, hw2] at h
                      exact h
                    have hq2 : (r.n != (b.length : Int)) = false := by rw [hw1]; simp
                    clear he hw1 hw2 hw3
                    go_upto_region 36 with (fail)
                    clear k4 hq1 hq2
                    go_upto_region 37 with (first
                      | (refine wT HTB.out rfl _ rfl rfl ?_)
                      | (refine wstT HLB.out.tb r.t hu HZB.out.one rfl _ _ rfl rfl rfl ?_; intro wC hs ho hbl; have HLC := Lib.hid (HLB.out.st hs ho hbl HZB.out (fun _ => HN.out)); have HBC := Lib.hid ((HBB2.out.far3 HBQ.out ho).more (size_kept (Blk.lt hs) ho)); clear hs ho hbl))
                    clear HLB HTB HZB HBB2
                    obtain ⟨bA2, bc2, hbe2, -, -, hbr⟩ := HBC.out
                    injection hbe2 with hx1 hx2 hx3
                    subst hx1
                    have HBR := Lib.hid hbr
                    have hbn := HBN.out
                    have h33 := H33.out
                    clear hbr hx2 hx3
                    go_wp2_with (at_builtin; refine wpList_append_any _ rfl (.tmp 182) (.tmp 183) _ rfl w1.heap.size 5 i0 _ 1 1 Tryz.underlying47 JI.out J0.out J1.out J2.out rfl (by omega) u21 hd.length (byteL hd) rfl HLC.out.ow wC.heap.size bA b.length bc (byteL b) rfl HBR.out (byteL_one _) (by unfold maxLen; omega) (by omega) HLC.out.low.size ?_; intro v6 w6 hown hgr hor; have HLD := Lib.hid (HLC.out.grow hown hgr hor); clear hown hgr hor)
                    go_meet
                    case rel => exact ⟨_, _, _, _, HLD.out, HKI.out⟩
                  · have hq1 : (r.e == 0) = false := beq_eq_false_iff_ne.2 he
                    clear he
                    go_wp2_with fail
                    go_meet
                    case rel => exact ⟨_, _, _, _, HLB.out, HI.out⟩
            case rest => as_aux_lemma =>
              obtain ⟨t2, ht2, l2, hd2, hkl, hki⟩ := hcut
              have HL := Lib.hid hkl
              have HKB := Lib.hid (ki_bools hki)
              have HI2 := Lib.hid hki
              clear hkl hki HL9 HAB HBV HI HBL HCN
              obtain ⟨hA, hc, hhe, -⟩ := HL.out.hd_
              subst hhe
              go_upto_region 38 with (fail)
              have k4 : wc.cell? ⟨q, 4, none⟩ = some (.int .u8 t2.step) := Blk.cell HL.out.tb 4
              go_cut [31] (fun v wx => v = .bool (rightB k (ours : Int) hd2) ∧ wx = wc)
              case first => as_aux_lemma =>
                by_cases h3 : t2.step = 3
                · have q3 : (t2.step == 3) = true := by rw [h3]; rfl
                  have HB3 := Lib.hid (HKB.out.1.1 (.inl h3))
                  clear h3
                  go_wp2_with fail
                  go_meet
                  case rel => exact ⟨by rw [HB3.out], rfl⟩
                · have q3 : (t2.step == 3) = false := beq_eq_false_iff_ne.2 h3
                  by_cases h4 : t2.step = 4
                  · have q4 : (t2.step == 4) = true := by rw [h4]; rfl
                    have HB3 := Lib.hid (HKB.out.1.1 (.inr h4))
                    clear h3 h4
                    go_wp2_with fail
                    go_meet
                    case rel => exact ⟨by rw [HB3.out], rfl⟩
                  · have q4 : (t2.step == 4) = false := beq_eq_false_iff_ne.2 h4
                    have HB3 := Lib.hid (show rightB k (ours : Int) hd2 = false from by
                      rw [← Bool.not_eq_true, ← HKB.out.1]
                      exact fun hh => hh.elim h3 h4)
                    clear h3 h4
                    go_wp2_with fail
                    go_meet
                    case rel => exact ⟨by rw [HB3.out], rfl⟩
              obtain ⟨rfl, rfl⟩ := hcut
              clear k4
              go_upto_region 39 with (fail)
              go_cut [32] (fun v wx => v = .bool (rightB k (ours : Int) hd2) ∧ KL w1 q t2 ht2 l2 hd2 (.slice hA hd2.length hc) wx)
              case first => as_aux_lemma =>
                by_cases h33 : hd2.length = 33
                · have hq : ((hd2.length : Int) == 33) = true := by rw [h33]; rfl
                  have HNE := Lib.hid (show hd2 ≠ [] from fun h0 => by rw [h0] at h33; cases h33)
                  have HLN := Lib.hid (lnum_lt hd2)
                  obtain ⟨d, hd⟩ : ∃ d : Bool, decide (ofL hd2 = lineS k ⟨#[117]⟩ ⟨#[]⟩ (ours : Int) (lnum hd2)) = d := ⟨_, rfl⟩
                  have HRB := Lib.hid (show rightB k (ours : Int) hd2 = d from by unfold rightB; rw [decide_eq_true h33, hd]; rfl)
                  have hbq : ((ofL hd2).toList == (lineS k ⟨#[117]⟩ ⟨#[]⟩ (ours : Int) (lnum hd2)).toList) = d := by rw [beq_str, hd]
                  clear h33 hd
                  refine wp_region_held_drew (S := KL w1 q t2 ht2 l2 hd2 (.slice hA hd2.length hc)) (by kernel_rfl) (HL.out.call (below_drew _)) (fun hHeld => ?_)
                  refine wpAnyH_takeD 193 (i := 0) (v := .slice hA hd2.length hc) rfl rfl (by kernel_rfl) (by kernel_rfl) (by kernel_rfl) (fun _ _ _ h => h) (Or.inl ⟨by rfl, fun wq hSw => by go_simp⟩) (by assumption) ?_
                  simp only [Act.put, List.setIfInBounds_toArray, List.set_cons_zero, List.set_cons_succ]
                  refine wpAnyH_takeD 194 (i := 1) (v := .int .i64 (hd2.length : Int)) rfl rfl (by kernel_rfl) (by kernel_rfl) (by kernel_rfl) (fun _ _ _ h => h) (Or.inl ⟨by rfl, fun wq hSw => by go_simp⟩) (by assumption) ?_
                  simp only [Act.put, List.setIfInBounds_toArray, List.set_cons_zero, List.set_cons_succ]
                  refine wpAnyH_takeD 195 (i := 2) (v := .bool true) rfl rfl (by kernel_rfl) (by kernel_rfl) (by kernel_rfl) (fun _ _ _ h => h) (Or.inl ⟨by rfl, fun wq hSw => by go_simp⟩) (by assumption) ?_
                  simp only [Act.put, List.setIfInBounds_toArray, List.set_cons_zero, List.set_cons_succ]
                  refine wpAnyH_takeD 196 (i := 3) (v := .bool true) rfl rfl (by kernel_rfl) (by kernel_rfl) (by kernel_rfl) (fun _ _ _ h => h) (Or.inl ⟨by rfl, fun wq hSw => by go_simp⟩) (by assumption) ?_
                  simp only [Act.put, List.setIfInBounds_toArray, List.set_cons_zero, List.set_cons_succ]
                  refine wpAnyH_takeD 197 (i := 4) (v := .slice hA hd2.length hc) rfl rfl (by kernel_rfl) (by kernel_rfl) (by kernel_rfl) (fun _ _ _ h => h) (Or.inl ⟨by rfl, fun wq hSw => by go_simp⟩) (by assumption) ?_
                  simp only [Act.put, List.setIfInBounds_toArray, List.set_cons_zero, List.set_cons_succ]
                  refine wpAnyH_takeD 198 (i := 5) (v := .string (ofL hd2)) rfl rfl (by kernel_rfl) (by kernel_rfl) (by kernel_rfl) (fun _ _ _ h => h) (Or.inl ⟨by rfl, fun wq hSw => by have k := conv_bys hSw.hd_ HNE.out; go_simp⟩) (by assumption) ?_
                  simp only [Act.put, List.setIfInBounds_toArray, List.set_cons_zero, List.set_cons_succ]
                  refine wpAnyH_takeD 199 (i := 6) (v := .string k) rfl rfl (by kernel_rfl) (by kernel_rfl) (by kernel_rfl) (fun _ _ _ h => h) (Or.inl ⟨by rfl, fun wq hSw => by go_simp⟩) (by assumption) ?_
                  simp only [Act.put, List.setIfInBounds_toArray, List.set_cons_zero, List.set_cons_succ]
                  refine wpAnyH_takeD 200 (i := 7) (v := .int .u64 (ours : Int)) rfl rfl (by kernel_rfl) (by kernel_rfl) (by kernel_rfl) (fun _ _ _ h => h) (Or.inl ⟨by rfl, fun wq hSw => by go_simp⟩) (by assumption) ?_
                  simp only [Act.put, List.setIfInBounds_toArray, List.set_cons_zero, List.set_cons_succ]
                  refine wpAnyH_takeD 201 (i := 8) (v := .slice hA hd2.length hc) rfl rfl (by kernel_rfl) (by kernel_rfl) (by kernel_rfl) (fun _ _ _ h => h) (Or.inl ⟨by rfl, fun wq hSw => by go_simp⟩) (by assumption) ?_
                  simp only [Act.put, List.setIfInBounds_toArray, List.set_cons_zero, List.set_cons_succ]
                  refine wpAnyH_ready (rs := [9]) (by kernel_rfl) (by simp) ?_
                  refine AllReadyH.cons rfl (fun K hK => ?_) AllReadyH.nil
                  rw [if_pos (by rfl)]
                  go_simp
                  (with_reducible refine (lnum_calls _ hd2 _ _ hHeld.hd_).mono ?_)
                  rintro e w4 ⟨rfl, rfl⟩
                  dsimp only
                  refine hK.out _ _ hHeld (fun hHeld => ?_)
                  clear hK
                  refine wpAnyH_ready (rs := [10]) (by kernel_rfl) (by simp) ?_
                  refine AllReadyH.cons rfl (fun K hK => ?_) AllReadyH.nil
                  rw [if_pos (by rfl)]
                  go_simp
                  (with_reducible refine (authLine_calls k ⟨#[117]⟩ ⟨#[]⟩ (ours : Int) (lnum hd2) HLN.out _ HKM.out HE1.out HE0.out).mono ?_)
                  rintro e w5 ⟨rfl, hb⟩
                  dsimp only
                  have hOld := hHeld.call hb
                  clear hHeld hb
                  refine hK.out _ _ hOld (fun hHeld => ?_)
                  clear hK hOld
                  refine wpAnyH_takeD 204 (i := 11) (v := .bool d) rfl rfl (by kernel_rfl) (by kernel_rfl) (by kernel_rfl) (fun _ _ _ h => h) (Or.inl ⟨by rfl, fun wq hSw => by go_simp⟩) (by assumption) ?_
                  simp only [Act.put, List.setIfInBounds_toArray, List.set_cons_zero, List.set_cons_succ]
                  refine wpAnyH_takeD 205 (i := 12) (v := .bool d) rfl rfl (by kernel_rfl) (by kernel_rfl) (by kernel_rfl) (fun _ _ _ h => h) (Or.inl ⟨by rfl, fun wq hSw => by go_simp⟩) (by assumption) ?_
                  simp only [Act.put, List.setIfInBounds_toArray, List.set_cons_zero, List.set_cons_succ]
                  refine wpAnyH_takeD 32 (i := 13) (v := .bool d) rfl rfl (by kernel_rfl) (by kernel_rfl) (by kernel_rfl) (fun _ _ _ h => h) (Or.inl ⟨by rfl, fun wq hSw => by go_simp⟩) (by assumption) ?_
                  simp only [Act.put, List.setIfInBounds_toArray, List.set_cons_zero, List.set_cons_succ]
                  refine wpAnyH_done (by kernel_rfl) ?_ _
                  go_wp2_with fail
                  go_meet
                  case rel => exact ⟨by rw [HRB.out], hHeld⟩
                · have hq : ((hd2.length : Int) == 33) = false := by rw [beq_eq_false_iff_ne]; omega
                  have HRB := Lib.hid (show rightB k (ours : Int) hd2 = false from by unfold rightB; rw [decide_eq_false h33]; rfl)
                  clear h33
                  refine wp_region_held_drew (S := KL w1 q t2 ht2 l2 hd2 (.slice hA hd2.length hc)) (by kernel_rfl) (HL.out.call (below_drew _)) (fun hHeld => ?_)
                  refine wpAnyH_takeD 193 (i := 0) (v := .slice hA hd2.length hc) rfl rfl (by kernel_rfl) (by kernel_rfl) (by kernel_rfl) (fun _ _ _ h => h) (Or.inl ⟨by rfl, fun wq hSw => by go_simp⟩) (by assumption) ?_
                  simp only [Act.put, List.setIfInBounds_toArray, List.set_cons_zero, List.set_cons_succ]
                  refine wpAnyH_takeD 194 (i := 1) (v := .int .i64 (hd2.length : Int)) rfl rfl (by kernel_rfl) (by kernel_rfl) (by kernel_rfl) (fun _ _ _ h => h) (Or.inl ⟨by rfl, fun wq hSw => by go_simp⟩) (by assumption) ?_
                  simp only [Act.put, List.setIfInBounds_toArray, List.set_cons_zero, List.set_cons_succ]
                  refine wpAnyH_takeD 195 (i := 2) (v := .bool false) rfl rfl (by kernel_rfl) (by kernel_rfl) (by kernel_rfl) (fun _ _ _ h => h) (Or.inl ⟨by rfl, fun wq hSw => by go_simp⟩) (by assumption) ?_
                  simp only [Act.put, List.setIfInBounds_toArray, List.set_cons_zero, List.set_cons_succ]
                  refine wpAnyH_takeD 196 (i := 3) (v := .bool false) rfl rfl (by kernel_rfl) (by kernel_rfl) (by kernel_rfl) (fun _ _ _ h => h) (Or.inl ⟨by rfl, fun wq hSw => by go_simp⟩) (by assumption) ?_
                  simp only [Act.put, List.setIfInBounds_toArray, List.set_cons_zero, List.set_cons_succ]
                  refine wpAnyH_takeD 197 (i := 4) (v := undef) rfl rfl (by kernel_rfl) (by kernel_rfl) (by kernel_rfl) (fun _ _ _ h => h) (Or.inr ⟨by rfl, rfl⟩) (by assumption) ?_
                  simp only [Act.put, List.setIfInBounds_toArray, List.set_cons_zero, List.set_cons_succ]
                  refine wpAnyH_takeD 198 (i := 5) (v := undef) rfl rfl (by kernel_rfl) (by kernel_rfl) (by kernel_rfl) (fun _ _ _ h => h) (Or.inr ⟨by rfl, rfl⟩) (by assumption) ?_
                  simp only [Act.put, List.setIfInBounds_toArray, List.set_cons_zero, List.set_cons_succ]
                  refine wpAnyH_takeD 199 (i := 6) (v := undef) rfl rfl (by kernel_rfl) (by kernel_rfl) (by kernel_rfl) (fun _ _ _ h => h) (Or.inr ⟨by rfl, rfl⟩) (by assumption) ?_
                  simp only [Act.put, List.setIfInBounds_toArray, List.set_cons_zero, List.set_cons_succ]
                  refine wpAnyH_takeD 200 (i := 7) (v := undef) rfl rfl (by kernel_rfl) (by kernel_rfl) (by kernel_rfl) (fun _ _ _ h => h) (Or.inr ⟨by rfl, rfl⟩) (by assumption) ?_
                  simp only [Act.put, List.setIfInBounds_toArray, List.set_cons_zero, List.set_cons_succ]
                  refine wpAnyH_takeD 201 (i := 8) (v := undef) rfl rfl (by kernel_rfl) (by kernel_rfl) (by kernel_rfl) (fun _ _ _ h => h) (Or.inr ⟨by rfl, rfl⟩) (by assumption) ?_
                  simp only [Act.put, List.setIfInBounds_toArray, List.set_cons_zero, List.set_cons_succ]
                  refine wpAnyH_takeD 202 (i := 9) (v := undef) rfl rfl (by kernel_rfl) (by kernel_rfl) (by kernel_rfl) (fun _ _ _ h => h) (Or.inr ⟨by rfl, rfl⟩) (by assumption) ?_
                  simp only [Act.put, List.setIfInBounds_toArray, List.set_cons_zero, List.set_cons_succ]
                  refine wpAnyH_takeD 203 (i := 10) (v := undef) rfl rfl (by kernel_rfl) (by kernel_rfl) (by kernel_rfl) (fun _ _ _ h => h) (Or.inr ⟨by rfl, rfl⟩) (by assumption) ?_
                  simp only [Act.put, List.setIfInBounds_toArray, List.set_cons_zero, List.set_cons_succ]
                  refine wpAnyH_takeD 204 (i := 11) (v := undef) rfl rfl (by kernel_rfl) (by kernel_rfl) (by kernel_rfl) (fun _ _ _ h => h) (Or.inr ⟨by rfl, rfl⟩) (by assumption) ?_
                  simp only [Act.put, List.setIfInBounds_toArray, List.set_cons_zero, List.set_cons_succ]
                  refine wpAnyH_takeD 205 (i := 12) (v := .bool false) rfl rfl (by kernel_rfl) (by kernel_rfl) (by kernel_rfl) (fun _ _ _ h => h) (Or.inl ⟨by rfl, fun wq hSw => by go_simp⟩) (by assumption) ?_
                  simp only [Act.put, List.setIfInBounds_toArray, List.set_cons_zero, List.set_cons_succ]
                  refine wpAnyH_takeD 32 (i := 13) (v := .bool false) rfl rfl (by kernel_rfl) (by kernel_rfl) (by kernel_rfl) (fun _ _ _ h => h) (Or.inl ⟨by rfl, fun wq hSw => by go_simp⟩) (by assumption) ?_
                  simp only [Act.put, List.setIfInBounds_toArray, List.set_cons_zero, List.set_cons_succ]
                  refine wpAnyH_done (by kernel_rfl) ?_ _
                  go_wp2_with fail
                  go_meet
                  case rel => exact ⟨by rw [HRB.out], hHeld⟩
              obtain ⟨rfl, hkl⟩ := hcut
              have HLX := Lib.hid hkl
              clear hkl HL
              go_upto_region 40 with (fail)
              go_cut [33] (fun v wx => v = .bool (deadB k (ours : Int) hd2) ∧ wx = wc)
              case first => as_aux_lemma =>
                by_cases h33 : hd2.length = 33
                · have hq : ((hd2.length : Int) == 33) = true := by rw [h33]; rfl
                  have HRB := Lib.hid (show deadB k (ours : Int) hd2 = !rightB k (ours : Int) hd2 from by unfold deadB; rw [decide_eq_true h33]; rfl)
                  clear h33
                  go_wp2_with fail
                  go_meet
                  case rel => exact ⟨by rw [HRB.out], rfl⟩
                · have hq : ((hd2.length : Int) == 33) = false := by rw [beq_eq_false_iff_ne]; omega
                  have HRB := Lib.hid (show deadB k (ours : Int) hd2 = false from by unfold deadB; rw [decide_eq_false h33]; rfl)
                  clear h33
                  go_wp2_with fail
                  go_meet
                  case rel => exact ⟨by rw [HRB.out], rfl⟩
              obtain ⟨rfl, rfl⟩ := hcut
              obtain ⟨aw, haw⟩ : ∃ z, allowsS t2 ⟨#[117]⟩ ⟨#[]⟩ = z := ⟨_, rfl⟩
              have HAW := Lib.hid haw
              have h33 : ¬ (33 : Int) < (hd2.length : Int) := by have := HKB.out.2.2.2; omega
              have hq5 := HKB.out.2.1
              have hqa : (aw == 0) = (t2.step == 4) := by rw [← haw]; exact HKB.out.2.2.1
              have HQ5 := Lib.hid hq5
              have HQA := Lib.hid hqa
              have H33 := Lib.hid h33
              clear haw hq5 hqa h33
              go_upto_region 42 with (first
                | (refine wT HLX.out.tb rfl _ rfl rfl ?_)
                | (go_at_call 19; (with_reducible refine (allows_calls _ _ _ _ _).mono ?_); rw [HAW.out]; rintro e wD ⟨rfl, hb⟩; have HLY := Lib.hid (HLX.out.call hb); clear hb))
              have k4 : wD.cell? ⟨q, 4, none⟩ = some (.int .u8 t2.step) := Blk.cell HLY.out.tb 4
              have hq5 := HQ5.out
              have hqa := HQA.out
              have h33 := H33.out
              clear HLX
              generalize deadB k (ours : Int) hd2 = dd at *
              generalize rightB k (ours : Int) hd2 = rr at *
              obtain ⟨b4, hb4⟩ : ∃ z, (t2.step == 4) = z := ⟨_, rfl⟩
              rw [hb4] at hqa
              go_wp2_with fail
              go_roundw
              case rel => exact ⟨n + 1, _, _, _, _, by go_num, by omega, by omega, HLY.out, HI2.out⟩
              case measure => simp [intOf]; omega
          · have h2' : ¬ (n : Int) < 200 := by omega
            clear h1 h2
            go_wp2_with fail
            go_ret
            exact ⟨rfl, HB.out.trans (HL.out.low.mono HB.out.size)⟩
        · have h1' : ¬ (n : Int) < (xs.length : Int) := by omega
          clear h1
          go_wp2_with fail
          go_ret
          exact ⟨rfl, HB.out.trans (HL.out.low.mono HB.out.size)⟩
    · have hb' : (268435456 : Int) < (N : Int) := by omega
      clear hN hkN hxs hb HA HR HTZ0 HSV0
      go_wp2_with fail
      go_ret
      exact ⟨rfl, Below.refl _ _⟩
theorem keeps_ints (key : ByteArray) (a b : Int) (v : Value) (xs : List Ac) (honest : Bool) (w : World) (hr : Ready w ∧ TZ w ∧ SV w) (hks : key.size ≤ reachBytes) (hx : Acts w w.heap.size v xs) (ha : (Lit.int .u64 a).wf = true) (hb : (Lit.int .u64 b).wf = true) :
    Calls Tryz.prog 4 #[.string key, .int .u64 a, .int .u64 b, v, .bool honest] w fun e w' => e = .returned (.bool true) ∧ Below w.heap.size w w' := by
  obtain ⟨x, rfl, hx1⟩ := u64_nat ha
  obtain ⟨y, rfl, hy1⟩ := u64_nat hb
  obtain ⟨A, cap, rfl, -⟩ := id hx
  exact keeps_calls key x y A cap xs honest w hr.1 hr.2.1 hr.2.2 (by unfold reachBytes at hks; omega) hx hx1 hy1
end Go.Proofs.YtlenlldiimohjaaGreatDoor
