
/-
  AuthFresh returns true: an answer to one hello is good for no other one. Conditions: the tables of unicode/utf8, math/bits and strconv (Ready, TZ, SV).
-/
import Derived.Test.YtlenlldiimohjaaGreatDoorAFreshM
namespace Go.Proofs.YtlenlldiimohjaaGreatDoor
open Go.RowKit SumLaw

set_option maxRecDepth 100000 in
set_option maxHeartbeats 6400000 in
theorem fresh_calls (key tree : ByteArray) (ours other theirs : Nat) (w : World) (hr : Ready w) (htz : TZ w) (hsv : SV w) (ho : ours < 18446744073709551616) (hx : other < 18446744073709551616) (h64 : theirs < 18446744073709551616) :
    Calls Tryz.prog 5 #[.string key, .string tree, .int .u64 (ours : Int), .int .u64 (other : Int), .int .u64 (theirs : Int)] w fun e w' => e = .returned (.bool true) ∧ Below w.heap.size w w' := by
  by_cases hb1 : 268435456 < key.size
  · have hb1' : (268435456 : Int) < (key.size : Int) := by omega
    clear hr htz hsv ho hx h64
    go_enter Tryz.func5, Tryz.ntmps5
    go_wp2_with fail
    go_ret
    exact ⟨rfl, Below.refl _ _⟩
  · have hb1' : ¬ (268435456 : Int) < (key.size : Int) := by omega
    by_cases hb2 : 1342177 < tree.size
    · have hb2' : (1342177 : Int) < (tree.size : Int) := by omega
      clear hr htz hsv ho hx h64
      go_enter Tryz.func5, Tryz.ntmps5
      go_wp2_with fail
      go_ret
      exact ⟨rfl, Below.refl _ _⟩
    · have hb2' : ¬ (1342177 : Int) < (tree.size : Int) := by omega
      have HR := Lib.hid hr
      have HTZ0 := Lib.hid htz
      have HSV0 := Lib.hid hsv
      have HO := Lib.hid ho
      have HX := Lib.hid hx
      have H64 := Lib.hid h64
      have HKS := Lib.hid (show key.size ≤ 268435456 from by omega)
      have HTS := Lib.hid (show tree.size ≤ 268435456 from by omega)
      have HC7 := Lib.hid (show -9223372036854775808 ≤ (7 : Int) ∧ (7 : Int) ≤ 9223372036854775807 from by decide)
      have HC3 := Lib.hid (show -9223372036854775808 ≤ (3 : Int) ∧ (3 : Int) ≤ 9223372036854775807 from by decide)
      obtain ⟨T, hT⟩ : ∃ T : Tk, (if other = ours then ⟨⟨#[117]⟩, tree, (other : Int), (theirs : Int), 3, 0⟩ else ⟨⟨#[117]⟩, tree, (other : Int), 0, 5, 0⟩ : Tk) = T := ⟨_, rfl⟩
      have HT := Lib.hid hT
      obtain ⟨d, hd⟩ : ∃ d : Bool, decide (ours = other) = d := ⟨_, rfl⟩
      have HD2 := Lib.hid (show decide (other = ours) = d from by rw [← hd]; exact decide_eq_decide.2 ⟨fun h => h.symm, fun h => h.symm⟩)
      have q1 : (T.step == 3) = d := by
        rw [← hT, ← hd]
        by_cases h : other = ours
        · rw [if_pos h, decide_eq_true h.symm]; rfl
        · rw [if_neg h, decide_eq_false (fun hh => h hh.symm)]; rfl
      have q2 : ((ours : Int) == (other : Int)) = d := by
        rw [← hd]
        by_cases h : ours = other
        · rw [decide_eq_true h, h]; exact beq_self_eq_true _
        · rw [decide_eq_false h, beq_eq_false_iff_ne]; omega
      have q3 : ((helloS ours).toList == (helloS other).toList) = d := by
        rw [← hd]
        by_cases h : ours = other
        · rw [decide_eq_true h, h]; exact beq_self_eq_true _
        · rw [decide_eq_false h]
          exact beq_str_f (fun hh => h (helloS_inj ho hx hh))
      have Q1 := Lib.hid q1
      have Q2 := Lib.hid q2
      have Q3 := Lib.hid q3
      clear hr htz hsv ho hx h64 hb1 hb2 hT hd q1 q2 q3
      go_enter Tryz.func5, Tryz.ntmps5
      go_upto_region 6 with (go_at_call 13; (with_reducible refine (lawTable_calls key _ HR.out HKS.out).mono ?_); rintro e w1 ⟨⟨g, k, rfl, hp, hk⟩, hb⟩; have HP := Lib.hid hp; have HK := Lib.hid hk; have HB := Lib.hid hb; clear hp hk hb)
      have HTZ := Lib.hid (HTZ0.out.below HB.out (Nat.le_refl _))
      have HSV := Lib.hid (HSV0.out.below HB.out (Nat.le_refl _))
      clear HTZ0 HSV0 HR HKS hb1' hb2'
      go_upto_region 7 with (first
        | (go_at_call 14; (with_reducible refine (beginU_calls tree _ HP.out HK.out).mono ?_); rintro e w2 ⟨rfl, hb⟩; have HB2 := Lib.hid hb; clear hb)
        | (refine wstT (TBlk.zero w2) ⟨⟨#[117]⟩, tree, (ours : Int), 0, 1, 0⟩ (.slice none 0 0) rfl rfl _ _ rfl rfl rfl ?_; intro w3 hs ho hbl; have HS3 := Lib.hid hs; have HBL3 := Lib.hid hbl; clear hs ho hbl))
      have HP3 := Lib.hid (HP.out.below (HBL3.out _ _ (HB2.out.alloc HB2.out.size _) HB2.out.size))
      go_upto_region 8 with (first
        | (go_at_call 14; (with_reducible refine (beginU_calls tree _ HP3.out HK.out).mono ?_); rintro e w4 ⟨rfl, hb⟩; have HB4 := Lib.hid hb; clear hb)
        | (refine wstT (TBlk.zero w4) ⟨⟨#[117]⟩, tree, (other : Int), 0, 1, 0⟩ (.slice none 0 0) rfl rfl _ _ rfl rfl rfl ?_; intro w5 hs ho hbl; have HF := Lib.hid (FS.start HB2.out HS3.out HBL3.out HB4.out hs ho hbl); clear hs ho hbl))
      clear HB2 HS3 HBL3 HP3 HB4
      generalize w2.heap.size = q at HF ⊢
      generalize w4.heap.size = r at HF ⊢
      have HZ := Lib.hid (Bys.nil_ w5 0)
      go_upto_region 9 with (first
        | (refine wT HF.out.tb rfl _ rfl rfl ?_)
        | (go_at_call 20; (with_reducible refine (hello_reads tree ours _ _ [] (HF.out.tab HP.out) HK.out (HF.out.tz HTZ.out) HZ.out.empty_ (Cuts.nil_ _ _) HTS.out HO.out).mono ?_); rintro e w6 ⟨⟨hu1, av1, rfl, hz, ha, hn⟩, hb⟩; have HF6 := Lib.hid ((HF.out.call hb).add ha (HF.out.new_ hn)); have HZ1 := Lib.hid hz; clear hb hz ha hn)
        | (refine wstT HF6.out.tb ⟨⟨#[117]⟩, tree, (ours : Int), 0, 2, 0⟩ hu1 HZ1.out.one rfl _ _ rfl rfl rfl ?_; intro w7 hs ho hbl; have HF7 := Lib.hid (HF6.out.stq hs ho hbl); clear hs ho hbl))
      clear HF HF6
      go_upto_region 10 with (first
        | (refine wT HF7.out.vb rfl _ rfl rfl ?_)
        | (go_at_call 20; (with_reducible refine (hello_reads tree other _ _ [7] ((HF7.out.al _).tab HP.out) HK.out ((HF7.out.al _).tz HTZ.out) HZ.out.empty_ (cuts_one _ _ _ HC7.out) HTS.out HX.out).mono ?_); rintro e w8 ⟨⟨hu2, av2, rfl, hz, ha, hn⟩, hb⟩; have HF8 := Lib.hid (((HF7.out.al _).call hb).add ha ((HF7.out.al _).new_ hn)); have HZ2 := Lib.hid hz; clear hb hz ha hn)
        | (refine wstT HF8.out.vb ⟨⟨#[117]⟩, tree, (other : Int), 0, 2, 0⟩ hu2 HZ2.out.one rfl _ _ rfl rfl rfl ?_; intro w9 hs ho hbl; have HF9 := Lib.hid (HF8.out.str hs ho hbl); clear hs ho hbl))
      clear HF7 HF8
      go_upto_region 13 with (go_at_call 21; (with_reducible refine (hello_answers tree ours theirs _ HK.out HF9.out.tl.hd (HF9.out.tz HTZ.out) (HF9.out.sv HSV.out) HTS.out HO.out H64.out).mono ?_); rintro e wA ⟨⟨av3, rfl, ha, hn⟩, hb⟩; obtain ⟨A3, c3, e3, hc3, -, hr3⟩ := id ha; rw [line33] at e3 hc3 hr3; obtain ⟨ad3, rfl, -, -⟩ := hr3.2 (by omega); subst e3; have HFA := Lib.hid ((HF9.out.call hb).add ha (HF9.out.new_ hn)); have HC33 := Lib.hid hc3; clear hb ha hn hc3 hr3)
      clear HF9
      go_upto_region 14 with (first
        | (refine wT HFA.out.tb rfl _ rfl rfl ?_)
        | (go_at_call 22; (with_reducible refine (own_line_writes tree ours theirs _ _ _ [] (HFA.out.tab HP.out) HK.out (HFA.out.tz HTZ.out) (HFA.out.sv HSV.out) HZ1.out.empty_ HFA.out.hd (Cuts.nil_ _ _) HTS.out HO.out H64.out).mono ?_); rintro e wB ⟨⟨hu3, rfl, hz⟩, hb⟩; have HFB := Lib.hid (HFA.out.call hb); have HZ3 := Lib.hid hz; clear hb hz)
        | (refine wstT HFB.out.tb ⟨⟨#[117]⟩, tree, (ours : Int), (theirs : Int), 3, 0⟩ hu3 HZ3.out.one rfl _ _ rfl rfl rfl ?_; intro wC hs ho hbl; have HFC := Lib.hid (HFB.out.stq hs ho hbl); clear hs ho hbl))
      clear HFA HFB
      go_upto_region 15 with (first
        | (refine wT HFC.out.vb rfl _ rfl rfl ?_)
        | (go_at_call 22; (with_reducible refine (line_writes tree other ours theirs _ _ _ [3] ((HFC.out.al _).tab HP.out) HK.out ((HFC.out.al _).tz HTZ.out) ((HFC.out.al _).sv HSV.out) HZ2.out.empty_ (HFC.out.al _).hd (cuts_one _ _ _ HC3.out) HTS.out HX.out HO.out H64.out _ HT.out).mono ?_); rintro e wD ⟨⟨hu4, rfl, hz⟩, hb⟩; have HFD := Lib.hid ((HFC.out.al _).call hb); have HZ4 := Lib.hid hz; clear hb hz)
        | (refine wstT HFD.out.vb T hu4 HZ4.out.one rfl _ _ rfl rfl rfl ?_; intro wE hs ho hbl; have HFE := Lib.hid (HFD.out.str hs ho hbl); clear hs ho hbl))
      clear HFC HFD
      have k1 : wE.cell? ⟨q, 4, none⟩ = some (.int .u8 3) := Blk.cell HFE.out.tb 4
      have k2 : wE.cell? ⟨r, 4, none⟩ = some (.int .u8 T.step) := Blk.cell HFE.out.vb 4
      have hq1 := Q1.out
      have hq2 := Q2.out
      have hq3 := Q3.out
      have hne : ∀ n, (helloS n).data.toList ≠ [] := fun n h => by have := hello25 n; rw [h] at this; cases this
      have hc1 : (convert 47 9 av1).run Tryz.prog wE = .ok (.string (helloS ours)) wE := by have h := conv_bys HFE.out.tl.tl.hd (hne _); rwa [ofL_toList] at h
      have hc2 : (convert 47 9 av2).run Tryz.prog wE = .ok (.string (helloS other)) wE := by have h := conv_bys HFE.out.tl.hd (hne _); rwa [ofL_toList] at h
      clear hne
      go_upto_region 17 with (fail)
      go_upto_region 19 with (fail)
      clear k1 k2 hq1 hq2 hq3 hc1 hc2
      go_upto_region 20 with (first
        | (refine wT HFE.out.tb rfl _ rfl rfl ?_)
        | (go_at_call 20; (with_reducible refine (proof_reads tree ours theirs _ _ [] (HFE.out.tab HP.out) HK.out (HFE.out.tz HTZ.out) HZ3.out.empty_ (Cuts.nil_ _ _) HTS.out HO.out).mono ?_); rintro e wF ⟨⟨hu5, av5, rfl, hz, ha, hn⟩, hb⟩; have HFF := Lib.hid ((HFE.out.call hb).add ha (HFE.out.new_ hn)); have HZ5 := Lib.hid hz; clear hb hz ha hn)
        | (refine wstT (TBlk.zero wF) ⟨⟨#[117]⟩, tree, (ours : Int), (theirs : Int), 4, 0⟩ hu5 HZ5.out.one rfl _ _ rfl rfl rfl ?_; intro wG hs ho hbl; have HFG := Lib.hid (HFF.out.call (hbl _ _ ((Below.refl _ _).alloc (Nat.le_refl _) _) (Nat.le_refl _))); clear hs ho hbl))
      clear HFE HFF
      go_upto_region 21 with (go_at_call 23; (with_reducible refine (own_confirms tree ours theirs _ _ HK.out HFG.out.tl.tl.tl.hd HFG.out.hd (HFG.out.tz HTZ.out) (HFG.out.sv HSV.out) HTS.out HO.out H64.out).mono ?_); rintro e wH ⟨rfl, hb⟩; have HFH := Lib.hid (HFG.out.call hb); clear hb)
      clear HFG
      go_upto_region 22 with (go_at_call 23; (with_reducible refine (two_confirms tree other ours theirs _ _ HK.out HFH.out.tl.tl.hd HFH.out.hd (HFH.out.tz HTZ.out) (HFH.out.sv HSV.out) HTS.out HX.out HO.out H64.out _ HD2.out).mono ?_); rintro e wI ⟨rfl, hb⟩; have HFI := Lib.hid (HFH.out.call hb); clear hb)
      clear HFH
      have hq2 := Q2.out
      go_upto_region 24 with (fail)
      clear hq2
      have hc33 := HC33.out
      have HFJ := Lib.hid (HFI.out.call (below_drew wI))
      have hc16 : ¬ c3 = 16 := by omega
      have hl1 := line33 k ⟨#[117]⟩ tree (ours : Int) theirs
      have hd1 : (convert 47 9 (.slice (some ⟨ad3.block, ad3.off + 16, none⟩) 17 (c3 - 16))).run Tryz.prog wI.drew = .ok (.string (ofL ((lineS k ⟨#[117]⟩ tree (ours : Int) theirs).data.toList.drop 16))) wI.drew := by
        have h := HFJ.out.tl.hd.drop_ (k := 16) (by rw [hl1]; decide)
        rw [if_neg (by omega)] at h
        exact conv_bys h (fun h0 => by have := congrArg List.length h0; rw [List.length_drop, hl1] at this; cases this)
      have hd2 : (convert 47 9 av5).run Tryz.prog wI.drew = .ok (.string (shownS (shN k ⟨#[117]⟩ tree 2 (ours : Int) (theirs : Int)))) wI.drew := by
        have h := conv_bys HFJ.out.hd (fun h0 => by have := shown17 (shN k ⟨#[117]⟩ tree 2 (ours : Int) (theirs : Int)); rw [h0] at this; cases this)
        rwa [ofL_toList] at h
      have hq4 := beq_str_f (line_no_proof (key := k) (user := ⟨#[117]⟩) (tree := tree) HO.out H64.out)
      clear hl1
      go_region
      go_wp2_with fail
      go_ret
      exact ⟨rfl, HB.out.trans (HFJ.out.low.mono HB.out.size)⟩
theorem fresh_ints (key tree : ByteArray) (a b c : Int) (w : World) (hr : Ready w ∧ TZ w ∧ SV w) (ha : (Lit.int .u64 a).wf = true) (hb : (Lit.int .u64 b).wf = true) (hc : (Lit.int .u64 c).wf = true) :
    Calls Tryz.prog 5 #[.string key, .string tree, .int .u64 a, .int .u64 b, .int .u64 c] w fun e w' => e = .returned (.bool true) ∧ Below w.heap.size w w' := by
  obtain ⟨x, rfl, hx⟩ := u64_nat ha
  obtain ⟨y, rfl, hy⟩ := u64_nat hb
  obtain ⟨z, rfl, hz⟩ := u64_nat hc
  exact fresh_calls key tree x y z w hr.1 hr.2.1 hr.2.2 hx hy hz
end Go.Proofs.YtlenlldiimohjaaGreatDoor
