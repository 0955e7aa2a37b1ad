/-
  ADoG: what AuthDoes needs of them.
-/
import Derived.Test.YtlenlldiimohjaaGreatDoorQ19
namespace Go.Proofs.YtlenlldiimohjaaGreatDoor
open Go.RowKit SumLaw

set_option maxRecDepth 100000 in
set_option maxHeartbeats 12800000 in
/-- Begin. -/
theorem step3_calls {W0 w : World} {q gu gr lo n m : Nat} {L : List Acct} (hd : DT W0 gu gr L) (h : DW W0 q gu gr lo n m (fun _ => False) w) (hl0 : 0 < lo) (o : OpD) (v : OpV) (hok : OpOk W0 W0.heap.size o v) (hw : o.weight ≤ 268435456) (hn : n ≤ 268435456) (hm : m ≤ 268435456) (hkd : o.kind = 3) :
    Calls Tryz.prog 30 #[.pointer (some ⟨q, 0, none⟩), opV o v] w fun e w' => StepE W0 q gu gr lo n m e w' := by
  obtain ⟨hk, hu, ht, hb28, hc28, hl28⟩ := weight_key o hw
  have HD := Lib.hid hd
  have HOK := Lib.hid hok
  have HK28 := Lib.hid hk
  have HU28 := Lib.hid hu
  have HT28 := Lib.hid ht
  have HB28 := Lib.hid hb28
  have HC28 := Lib.hid hc28
  have HL28 := Lib.hid hl28
  have HWT := Lib.hid hw
  have HNM := Lib.hid (And.intro hn hm)
  have HB1 := Lib.hid ((Below.refl w.heap.size w).alloc (Nat.le_refl _) (Obj.cells (opL o v).toArray 92))
  have HO1 := Lib.hid (show OBlk (w.alloc (Obj.cells (opL o v).toArray 92)) w.heap.size o v from Blk.new w _ _)
  have HD1 := Lib.hid (h.call HB1.out)
  have HL0 := Lib.hid hl0
  have HKD := Lib.hid hkd
  clear hkd hd hok hk hu ht hb28 hc28 hl28 h hw hn hm hl0
  go_enter Tryz.func30, Tryz.ntmps30
  go_upto_region 1 with (fail)
  change Code.wp _ _ _ _ (w.alloc (Obj.cells (opL o v).toArray 92))
  generalize w.alloc (Obj.cells (opL o v).toArray 92) = w1 at HB1 HO1 HD1 ⊢
  generalize w.heap.size = ob at HO1 ⊢
  clear HB1
  obtain ⟨vt, vw, vb, vc, ts, bl, cl, hwb, hag, hlen, htk, hlo, hnn, hmm, -⟩ := HD1.out
  have HW1 := Lib.hid hwb
  have HAG := Lib.hid hag
  have HLN := Lib.hid hlen
  have HTK := Lib.hid htk
  have HCN := Lib.hid (And.intro hlo (And.intro hnn hmm))
  have HT0 := Lib.hid (show 0 < ts.length from Nat.lt_of_lt_of_le HL0.out hlo)
  clear hwb hag hlen htk hlo hnn hmm
  obtain ⟨k, hk⟩ : ∃ z, atN o.at_ ts.length = z := ⟨_, rfl⟩
  have HKE := Lib.hid hk
  have HKT := Lib.hid (show k < ts.length from by rw [← hk]; exact atN_lt o.at_ HT0.out)
  clear hk
  have k1 : w1.cell? ⟨ob, 1, none⟩ = some (.int .i64 o.at_) := Blk.cell HO1.out 1
  go_upto_region 2 with (go_at_call 81; (with_reducible refine (at_calls HW1.out.r o.at_ HOK.out.ha HT0.out).mono ?_); rw [HKE.out]; rintro e w2 ⟨rfl, rfl⟩)
  clear k1
  have k0 : w1.cell? ⟨ob, 0, none⟩ = some (.int .i64 3) := by rw [← HKD.out]; exact Blk.cell HO1.out 0
  have HU40 := Lib.hid (show o.user.size ≤ 1099511627776 from by have := HU28.out; omega)
  have HDT1 := Lib.hid (HD.out.below HW1.out.r.low)
  obtain ⟨R, hR⟩ : ∃ z, beginS L o.user o.tree (o.seed : Int) = z := ⟨_, rfl⟩
  have HRX := Lib.hid hR
  have HRO := Lib.hid (beginS_ok L o.user o.tree (o.seed : Int) HU28.out HT28.out ⟨by omega, by have := HOK.out.hs; omega⟩)
  rw [hR] at HRO
  clear hR
  go_upto_region 9 with (fail)
  clear k0
  go_cut [7, 8] (fun a b wx => ∃ z : Nat, a = .pointer (some ⟨z, 0, none⟩) ∧ b = .int .i64 R.2 ∧ w1.heap.size ≤ z ∧ TBlk wx z R.1 (.slice none 0 0) ∧ Below w1.heap.size w1 wx)
  case first =>
    have HB := Lib.hid (below_drew w1)
    refine wp_region_held_drew (S := fun wx => Below w1.heap.size w1 wx) (by kernel_rfl) HB.out (fun hHeld => ?_)
    generalize w1.drew = wd at HB hHeld ⊢
    refine wpAnyH_takeD 61 (i := 0) (v := .pointer (some ⟨q, 0, none⟩)) rfl rfl (by kernel_rfl) (by kernel_rfl) (by kernel_rfl) (fun _ _ _ h => h) (Or.inl ⟨by rfl, fun wq hSw => by go_simp⟩) (by assumption) ?_
    simp only [Act.put, List.setIfInBounds_toArray, List.set_cons_zero, List.set_cons_succ]
    refine wpAnyH_takeD 62 (i := 1) (v := .pointer (some ⟨q, 0, none⟩)) rfl rfl (by kernel_rfl) (by kernel_rfl) (by kernel_rfl) (fun _ _ _ h => h) (Or.inl ⟨by rfl, fun wq hSw => by go_simp⟩) (by assumption) ?_
    simp only [Act.put, List.setIfInBounds_toArray, List.set_cons_zero, List.set_cons_succ]
    refine wpAnyH_takeD 63 (i := 2) (v := .pointer (some ⟨q, 0, none⟩)) rfl rfl (by kernel_rfl) (by kernel_rfl) (by kernel_rfl) (fun _ _ _ h => h) (Or.inl ⟨by rfl, fun wq hSw => by go_simp⟩) (by assumption) ?_
    simp only [Act.put, List.setIfInBounds_toArray, List.set_cons_zero, List.set_cons_succ]
    refine wpAnyH_takeD 64 (i := 3) (v := .pointer (some ⟨gu, 0, none⟩)) rfl rfl (by kernel_rfl) (by kernel_rfl) (by kernel_rfl) (fun _ _ _ h => h) (Or.inl ⟨by rfl, fun wq hSw => by have k := (HW1.out.call hSw).q0; go_simp⟩) (by assumption) ?_
    simp only [Act.put, List.setIfInBounds_toArray, List.set_cons_zero, List.set_cons_succ]
    refine wpAnyH_takeD 65 (i := 4) (v := .pointer (some ⟨ob, 4, none⟩)) rfl rfl (by kernel_rfl) (by kernel_rfl) (by kernel_rfl) (fun _ _ _ h => h) (Or.inl ⟨by rfl, fun wq hSw => by go_simp⟩) (by assumption) ?_
    simp only [Act.put, List.setIfInBounds_toArray, List.set_cons_zero, List.set_cons_succ]
    refine wpAnyH_takeD 66 (i := 5) (v := .string o.user) rfl rfl (by kernel_rfl) (by kernel_rfl) (by kernel_rfl) (fun _ _ _ h => h) (Or.inl ⟨by rfl, fun wq hSw => by have k : wq.cell? ⟨ob, 4, none⟩ = some (.string o.user) := Blk.cell (HO1.out.below hSw) 4; go_simp⟩) (by assumption) ?_
    simp only [Act.put, List.setIfInBounds_toArray, List.set_cons_zero, List.set_cons_succ]
    refine wpAnyH_takeD 67 (i := 6) (v := .pointer (some ⟨ob, 5, none⟩)) rfl rfl (by kernel_rfl) (by kernel_rfl) (by kernel_rfl) (fun _ _ _ h => h) (Or.inl ⟨by rfl, fun wq hSw => by go_simp⟩) (by assumption) ?_
    simp only [Act.put, List.setIfInBounds_toArray, List.set_cons_zero, List.set_cons_succ]
    refine wpAnyH_takeD 68 (i := 7) (v := .string o.tree) rfl rfl (by kernel_rfl) (by kernel_rfl) (by kernel_rfl) (fun _ _ _ h => h) (Or.inl ⟨by rfl, fun wq hSw => by have k : wq.cell? ⟨ob, 5, none⟩ = some (.string o.tree) := Blk.cell (HO1.out.below hSw) 5; go_simp⟩) (by assumption) ?_
    simp only [Act.put, List.setIfInBounds_toArray, List.set_cons_zero, List.set_cons_succ]
    refine wpAnyH_takeD 69 (i := 8) (v := .pointer (some ⟨ob, 6, none⟩)) rfl rfl (by kernel_rfl) (by kernel_rfl) (by kernel_rfl) (fun _ _ _ h => h) (Or.inl ⟨by rfl, fun wq hSw => by go_simp⟩) (by assumption) ?_
    simp only [Act.put, List.setIfInBounds_toArray, List.set_cons_zero, List.set_cons_succ]
    refine wpAnyH_takeD 70 (i := 9) (v := .int .u64 (o.seed : Int)) rfl rfl (by kernel_rfl) (by kernel_rfl) (by kernel_rfl) (fun _ _ _ h => h) (Or.inl ⟨by rfl, fun wq hSw => by have k : wq.cell? ⟨ob, 6, none⟩ = some (.int .u64 (o.seed : Int)) := Blk.cell (HO1.out.below hSw) 6; go_simp⟩) (by assumption) ?_
    simp only [Act.put, List.setIfInBounds_toArray, List.set_cons_zero, List.set_cons_succ]
    refine wpAnyH_ready (rs := [10, 14]) (by kernel_rfl) (by simp) ?_
    refine AllReadyH.cons rfl (fun K hK => ?_) (AllReadyH.cons rfl (fun K hK => ?_) AllReadyH.nil)
    · as_aux_lemma =>
        rw [if_pos (by rfl)]
        go_simp
        (with_reducible refine (begin_calls gu L o.user o.tree (o.seed : Int) _ (HDT1.out.below hHeld).pt HU40.out).mono ?_)
        rw [HRX.out]
        rintro e wy ⟨rfl, hb⟩
        dsimp only
        have hown : OwnB wy wd.heap.size (.slice none 0 0) [] := OwnB.nil_ _ _
        have HU := Lib.hid (hown.more HB.out.size)
        replace HB := Lib.hid (HB.out.trans (hb.mono HB.out.size))
        clear hown hb hHeld
        refine hK.out _ _ HB.out (fun hHeld => ?_)
        clear hK
        refine wpAnyH_takeD 60 (i := 11) (v := .tuple #[talkV R.1 (.slice none 0 0), .int .i64 R.2]) rfl rfl (by kernel_rfl) (by kernel_rfl) (by kernel_rfl) (fun _ _ _ h => h) (Or.inl ⟨by rfl, fun wq hSw => by go_simp⟩) (by assumption) ?_
        simp only [Act.put, List.setIfInBounds_toArray, List.set_cons_zero, List.set_cons_succ]
        refine wpAnyH_takeD 72 (i := 12) (v := talkV R.1 (.slice none 0 0)) rfl rfl (by kernel_rfl) (by kernel_rfl) (by kernel_rfl) (fun _ _ _ h => h) (Or.inl ⟨by rfl, fun wq hSw => by go_simp⟩) (by assumption) ?_
        simp only [Act.put, List.setIfInBounds_toArray, List.set_cons_zero, List.set_cons_succ]
        refine wpAnyH_takeD 73 (i := 13) (v := .int .i64 R.2) rfl rfl (by kernel_rfl) (by kernel_rfl) (by kernel_rfl) (fun _ _ _ h => h) (Or.inl ⟨by rfl, fun wq hSw => by go_simp⟩) (by assumption) ?_
        simp only [Act.put, List.setIfInBounds_toArray, List.set_cons_zero, List.set_cons_succ]
        refine wpAnyH_ready (rs := [14]) (by kernel_rfl) (by simp) ?_
        refine AllReadyH.cons rfl (fun K hK => ?_) AllReadyH.nil
        rw [if_pos (by rfl)]
        go_simp
        have hzl := HB.out.size
        have HZ := Lib.hid (TBlk.zero wy)
        replace HU := Lib.hid (HU.out.below ((Below.refl _ _).alloc (Nat.le_refl _) (Obj.cells #[.string ⟨#[]⟩, .string ⟨#[]⟩, .int .u64 0, .int .u64 0, .int .u8 0, .int .i64 0, .slice none 0 0] 54)))
        replace HB := Lib.hid (HB.out.alloc HB.out.size (Obj.cells #[.string ⟨#[]⟩, .string ⟨#[]⟩, .int .u64 0, .int .u64 0, .int .u8 0, .int .i64 0, .slice none 0 0] 54))
        generalize wy.alloc (Obj.cells #[.string ⟨#[]⟩, .string ⟨#[]⟩, .int .u64 0, .int .u64 0, .int .u8 0, .int .i64 0, .slice none 0 0] 54) = wa at HZ HB HU ⊢
        generalize wy.heap.size = z at HZ hzl ⊢
        clear hHeld
        refine hK.out _ _ HB.out (fun hHeld => ?_)
        clear hK
        refine wpAnyH_ready (rs := [15]) (by kernel_rfl) (by simp) ?_
        refine AllReadyH.cons rfl (fun K hK => ?_) AllReadyH.nil
        rw [if_pos (by rfl)]
        refine wp_storeT HZ.out R.1 (.slice none 0 0) HU.out.one _ _ rfl rfl rfl rfl ?_
        have HU2 := Lib.hid (HU.out.far (HU.out.blk_ne HZ.out (by decide)) (setCells_other _ z (talkL R.1 (.slice none 0 0)) 0))
        have HB2 := Lib.hid (below_setCells HB.out hzl (talkL R.1 (.slice none 0 0)) 0)
        have HZ2 := Lib.hid (setTalk (u := R.1) (hu := (.slice none 0 0)) HZ.out)
        clear hHeld
        refine hK.out _ _ HB2.out (fun hHeld => ?_)
        clear hK
        refine wpAnyH_takeD 8 (i := 16) (v := .int .i64 R.2) rfl rfl (by kernel_rfl) (by kernel_rfl) (by kernel_rfl) (fun _ _ _ h => h) (Or.inl ⟨by rfl, fun wq hSw => by go_simp⟩) (by assumption) ?_
        simp only [Act.put, List.setIfInBounds_toArray, List.set_cons_zero, List.set_cons_succ]
        refine wpAnyH_done (by kernel_rfl) ?_ _
        go_wp2_with fail
        go_meet
        case rel => exact ⟨z, rfl, rfl, hzl, HZ2.out, HB2.out⟩
    · as_aux_lemma =>
        rw [if_pos (by rfl)]
        go_simp
        have hzl := HB.out.size
        have HZ := Lib.hid (TBlk.zero wd)
        replace HB := Lib.hid (HB.out.alloc HB.out.size (Obj.cells #[.string ⟨#[]⟩, .string ⟨#[]⟩, .int .u64 0, .int .u64 0, .int .u8 0, .int .i64 0, .slice none 0 0] 54))
        generalize wd.alloc (Obj.cells #[.string ⟨#[]⟩, .string ⟨#[]⟩, .int .u64 0, .int .u64 0, .int .u8 0, .int .i64 0, .slice none 0 0] 54) = wa at HZ HB  ⊢
        generalize wd.heap.size = z at HZ hzl ⊢
        clear hHeld
        refine hK.out _ _ HB.out (fun hHeld => ?_)
        clear hK
        refine wpAnyH_ready (rs := [10]) (by kernel_rfl) (by simp) ?_
        refine AllReadyH.cons rfl (fun K hK => ?_) AllReadyH.nil
        rw [if_pos (by rfl)]
        go_simp
        (with_reducible refine (begin_calls gu L o.user o.tree (o.seed : Int) _ (HDT1.out.below hHeld).pt HU40.out).mono ?_)
        rw [HRX.out]
        rintro e wy ⟨rfl, hb⟩
        dsimp only
        have hown : OwnB wy wa.heap.size (.slice none 0 0) [] := OwnB.nil_ _ _
        have HU := Lib.hid (hown.more HB.out.size)
        replace HZ := Lib.hid (HZ.out.below hb)
        replace HB := Lib.hid (HB.out.trans (hb.mono HB.out.size))
        clear hown hb hHeld
        refine hK.out _ _ HB.out (fun hHeld => ?_)
        clear hK
        refine wpAnyH_takeD 60 (i := 11) (v := .tuple #[talkV R.1 (.slice none 0 0), .int .i64 R.2]) rfl rfl (by kernel_rfl) (by kernel_rfl) (by kernel_rfl) (fun _ _ _ h => h) (Or.inl ⟨by rfl, fun wq hSw => by go_simp⟩) (by assumption) ?_
        simp only [Act.put, List.setIfInBounds_toArray, List.set_cons_zero, List.set_cons_succ]
        refine wpAnyH_takeD 72 (i := 12) (v := talkV R.1 (.slice none 0 0)) rfl rfl (by kernel_rfl) (by kernel_rfl) (by kernel_rfl) (fun _ _ _ h => h) (Or.inl ⟨by rfl, fun wq hSw => by go_simp⟩) (by assumption) ?_
        simp only [Act.put, List.setIfInBounds_toArray, List.set_cons_zero, List.set_cons_succ]
        refine wpAnyH_takeD 73 (i := 13) (v := .int .i64 R.2) rfl rfl (by kernel_rfl) (by kernel_rfl) (by kernel_rfl) (fun _ _ _ h => h) (Or.inl ⟨by rfl, fun wq hSw => by go_simp⟩) (by assumption) ?_
        simp only [Act.put, List.setIfInBounds_toArray, List.set_cons_zero, List.set_cons_succ]
        refine wpAnyH_ready (rs := [15]) (by kernel_rfl) (by simp) ?_
        refine AllReadyH.cons rfl (fun K hK => ?_) AllReadyH.nil
        rw [if_pos (by rfl)]
        refine wp_storeT HZ.out R.1 (.slice none 0 0) HU.out.one _ _ rfl rfl rfl rfl ?_
        have HU2 := Lib.hid (HU.out.far (HU.out.blk_ne HZ.out (by decide)) (setCells_other _ z (talkL R.1 (.slice none 0 0)) 0))
        have HB2 := Lib.hid (below_setCells HB.out hzl (talkL R.1 (.slice none 0 0)) 0)
        have HZ2 := Lib.hid (setTalk (u := R.1) (hu := (.slice none 0 0)) HZ.out)
        clear hHeld
        refine hK.out _ _ HB2.out (fun hHeld => ?_)
        clear hK
        refine wpAnyH_takeD 8 (i := 16) (v := .int .i64 R.2) rfl rfl (by kernel_rfl) (by kernel_rfl) (by kernel_rfl) (fun _ _ _ h => h) (Or.inl ⟨by rfl, fun wq hSw => by go_simp⟩) (by assumption) ?_
        simp only [Act.put, List.setIfInBounds_toArray, List.set_cons_zero, List.set_cons_succ]
        refine wpAnyH_done (by kernel_rfl) ?_ _
        go_wp2_with fail
        go_meet
        case rel => exact ⟨z, rfl, rfl, hzl, HZ2.out, HB2.out⟩
  rename World => w2
  obtain ⟨z2, rfl, rfl, hzl, htz, hb⟩ := hcut
  have HB2 := Lib.hid hb
  have HZ2 := Lib.hid htz
  clear hzl htz hb
  have HW2 := Lib.hid (HW1.out.call HB2.out)
  have HO2 := Lib.hid (HO1.out.below HB2.out)
  have HDT2 := Lib.hid (HD.out.below HW2.out.r.low)
  clear HW1 HO1 HDT1 HB2 HD1
  go_upto_region 10 with (fail)
  go_cut [9, 10] (fun a b wx => ∃ z : Nat, a = .pointer (some ⟨z, 0, none⟩) ∧ b = .int .i64 R.2 ∧ w2.heap.size ≤ z ∧ TBlk wx z R.1 (.slice none 0 0) ∧ Below w2.heap.size w2 wx)
  case first =>
    have HB := Lib.hid (below_drew w2)
    refine wp_region_held_drew (S := fun wx => Below w2.heap.size w2 wx) (by kernel_rfl) HB.out (fun hHeld => ?_)
    generalize w2.drew = wd at HB hHeld ⊢
    refine wpAnyH_takeD 75 (i := 0) (v := .pointer (some ⟨q, 0, none⟩)) rfl rfl (by kernel_rfl) (by kernel_rfl) (by kernel_rfl) (fun _ _ _ h => h) (Or.inl ⟨by rfl, fun wq hSw => by go_simp⟩) (by assumption) ?_
    simp only [Act.put, List.setIfInBounds_toArray, List.set_cons_zero, List.set_cons_succ]
    refine wpAnyH_takeD 76 (i := 1) (v := .pointer (some ⟨q, 0, none⟩)) rfl rfl (by kernel_rfl) (by kernel_rfl) (by kernel_rfl) (fun _ _ _ h => h) (Or.inl ⟨by rfl, fun wq hSw => by go_simp⟩) (by assumption) ?_
    simp only [Act.put, List.setIfInBounds_toArray, List.set_cons_zero, List.set_cons_succ]
    refine wpAnyH_takeD 77 (i := 2) (v := .pointer (some ⟨q, 1, none⟩)) rfl rfl (by kernel_rfl) (by kernel_rfl) (by kernel_rfl) (fun _ _ _ h => h) (Or.inl ⟨by rfl, fun wq hSw => by go_simp⟩) (by assumption) ?_
    simp only [Act.put, List.setIfInBounds_toArray, List.set_cons_zero, List.set_cons_succ]
    refine wpAnyH_takeD 78 (i := 3) (v := .pointer (some ⟨gr, 0, none⟩)) rfl rfl (by kernel_rfl) (by kernel_rfl) (by kernel_rfl) (fun _ _ _ h => h) (Or.inl ⟨by rfl, fun wq hSw => by have k := (HW2.out.call hSw).q1; go_simp⟩) (by assumption) ?_
    simp only [Act.put, List.setIfInBounds_toArray, List.set_cons_zero, List.set_cons_succ]
    refine wpAnyH_takeD 79 (i := 4) (v := .pointer (some ⟨ob, 4, none⟩)) rfl rfl (by kernel_rfl) (by kernel_rfl) (by kernel_rfl) (fun _ _ _ h => h) (Or.inl ⟨by rfl, fun wq hSw => by go_simp⟩) (by assumption) ?_
    simp only [Act.put, List.setIfInBounds_toArray, List.set_cons_zero, List.set_cons_succ]
    refine wpAnyH_takeD 80 (i := 5) (v := .string o.user) rfl rfl (by kernel_rfl) (by kernel_rfl) (by kernel_rfl) (fun _ _ _ h => h) (Or.inl ⟨by rfl, fun wq hSw => by have k : wq.cell? ⟨ob, 4, none⟩ = some (.string o.user) := Blk.cell (HO2.out.below hSw) 4; go_simp⟩) (by assumption) ?_
    simp only [Act.put, List.setIfInBounds_toArray, List.set_cons_zero, List.set_cons_succ]
    refine wpAnyH_takeD 81 (i := 6) (v := .pointer (some ⟨ob, 5, none⟩)) rfl rfl (by kernel_rfl) (by kernel_rfl) (by kernel_rfl) (fun _ _ _ h => h) (Or.inl ⟨by rfl, fun wq hSw => by go_simp⟩) (by assumption) ?_
    simp only [Act.put, List.setIfInBounds_toArray, List.set_cons_zero, List.set_cons_succ]
    refine wpAnyH_takeD 82 (i := 7) (v := .string o.tree) rfl rfl (by kernel_rfl) (by kernel_rfl) (by kernel_rfl) (fun _ _ _ h => h) (Or.inl ⟨by rfl, fun wq hSw => by have k : wq.cell? ⟨ob, 5, none⟩ = some (.string o.tree) := Blk.cell (HO2.out.below hSw) 5; go_simp⟩) (by assumption) ?_
    simp only [Act.put, List.setIfInBounds_toArray, List.set_cons_zero, List.set_cons_succ]
    refine wpAnyH_takeD 83 (i := 8) (v := .pointer (some ⟨ob, 6, none⟩)) rfl rfl (by kernel_rfl) (by kernel_rfl) (by kernel_rfl) (fun _ _ _ h => h) (Or.inl ⟨by rfl, fun wq hSw => by go_simp⟩) (by assumption) ?_
    simp only [Act.put, List.setIfInBounds_toArray, List.set_cons_zero, List.set_cons_succ]
    refine wpAnyH_takeD 84 (i := 9) (v := .int .u64 (o.seed : Int)) rfl rfl (by kernel_rfl) (by kernel_rfl) (by kernel_rfl) (fun _ _ _ h => h) (Or.inl ⟨by rfl, fun wq hSw => by have k : wq.cell? ⟨ob, 6, none⟩ = some (.int .u64 (o.seed : Int)) := Blk.cell (HO2.out.below hSw) 6; go_simp⟩) (by assumption) ?_
    simp only [Act.put, List.setIfInBounds_toArray, List.set_cons_zero, List.set_cons_succ]
    refine wpAnyH_ready (rs := [10, 14]) (by kernel_rfl) (by simp) ?_
    refine AllReadyH.cons rfl (fun K hK => ?_) (AllReadyH.cons rfl (fun K hK => ?_) AllReadyH.nil)
    · as_aux_lemma =>
        rw [if_pos (by rfl)]
        go_simp
        (with_reducible refine (refBegin_calls gr L o.user o.tree (o.seed : Int) _ (HDT2.out.below hHeld).rt).mono ?_)
        rw [HRX.out]
        rintro e wy ⟨rfl, hb⟩
        dsimp only
        have hown : OwnB wy wd.heap.size (.slice none 0 0) [] := OwnB.nil_ _ _
        have HU := Lib.hid (hown.more HB.out.size)
        replace HB := Lib.hid (HB.out.trans (hb.mono HB.out.size))
        clear hown hb hHeld
        refine hK.out _ _ HB.out (fun hHeld => ?_)
        clear hK
        refine wpAnyH_takeD 74 (i := 11) (v := .tuple #[talkV R.1 (.slice none 0 0), .int .i64 R.2]) rfl rfl (by kernel_rfl) (by kernel_rfl) (by kernel_rfl) (fun _ _ _ h => h) (Or.inl ⟨by rfl, fun wq hSw => by go_simp⟩) (by assumption) ?_
        simp only [Act.put, List.setIfInBounds_toArray, List.set_cons_zero, List.set_cons_succ]
        refine wpAnyH_takeD 86 (i := 12) (v := talkV R.1 (.slice none 0 0)) rfl rfl (by kernel_rfl) (by kernel_rfl) (by kernel_rfl) (fun _ _ _ h => h) (Or.inl ⟨by rfl, fun wq hSw => by go_simp⟩) (by assumption) ?_
        simp only [Act.put, List.setIfInBounds_toArray, List.set_cons_zero, List.set_cons_succ]
        refine wpAnyH_takeD 87 (i := 13) (v := .int .i64 R.2) rfl rfl (by kernel_rfl) (by kernel_rfl) (by kernel_rfl) (fun _ _ _ h => h) (Or.inl ⟨by rfl, fun wq hSw => by go_simp⟩) (by assumption) ?_
        simp only [Act.put, List.setIfInBounds_toArray, List.set_cons_zero, List.set_cons_succ]
        refine wpAnyH_ready (rs := [14]) (by kernel_rfl) (by simp) ?_
        refine AllReadyH.cons rfl (fun K hK => ?_) AllReadyH.nil
        rw [if_pos (by rfl)]
        go_simp
        have hzl := HB.out.size
        have HZ := Lib.hid (TBlk.zero wy)
        replace HU := Lib.hid (HU.out.below ((Below.refl _ _).alloc (Nat.le_refl _) (Obj.cells #[.string ⟨#[]⟩, .string ⟨#[]⟩, .int .u64 0, .int .u64 0, .int .u8 0, .int .i64 0, .slice none 0 0] 54)))
        replace HB := Lib.hid (HB.out.alloc HB.out.size (Obj.cells #[.string ⟨#[]⟩, .string ⟨#[]⟩, .int .u64 0, .int .u64 0, .int .u8 0, .int .i64 0, .slice none 0 0] 54))
        generalize wy.alloc (Obj.cells #[.string ⟨#[]⟩, .string ⟨#[]⟩, .int .u64 0, .int .u64 0, .int .u8 0, .int .i64 0, .slice none 0 0] 54) = wa at HZ HB HU ⊢
        generalize wy.heap.size = z at HZ hzl ⊢
        clear hHeld
        refine hK.out _ _ HB.out (fun hHeld => ?_)
        clear hK
        refine wpAnyH_ready (rs := [15]) (by kernel_rfl) (by simp) ?_
        refine AllReadyH.cons rfl (fun K hK => ?_) AllReadyH.nil
        rw [if_pos (by rfl)]
        refine wp_storeT HZ.out R.1 (.slice none 0 0) HU.out.one _ _ rfl rfl rfl rfl ?_
        have HU2 := Lib.hid (HU.out.far (HU.out.blk_ne HZ.out (by decide)) (setCells_other _ z (talkL R.1 (.slice none 0 0)) 0))
        have HB2 := Lib.hid (below_setCells HB.out hzl (talkL R.1 (.slice none 0 0)) 0)
        have HZ2 := Lib.hid (setTalk (u := R.1) (hu := (.slice none 0 0)) HZ.out)
        clear hHeld
        refine hK.out _ _ HB2.out (fun hHeld => ?_)
        clear hK
        refine wpAnyH_takeD 10 (i := 16) (v := .int .i64 R.2) rfl rfl (by kernel_rfl) (by kernel_rfl) (by kernel_rfl) (fun _ _ _ h => h) (Or.inl ⟨by rfl, fun wq hSw => by go_simp⟩) (by assumption) ?_
        simp only [Act.put, List.setIfInBounds_toArray, List.set_cons_zero, List.set_cons_succ]
        refine wpAnyH_done (by kernel_rfl) ?_ _
        go_wp2_with fail
        go_meet
        case rel => exact ⟨z, rfl, rfl, hzl, HZ2.out, HB2.out⟩
    · as_aux_lemma =>
        rw [if_pos (by rfl)]
        go_simp
        have hzl := HB.out.size
        have HZ := Lib.hid (TBlk.zero wd)
        replace HB := Lib.hid (HB.out.alloc HB.out.size (Obj.cells #[.string ⟨#[]⟩, .string ⟨#[]⟩, .int .u64 0, .int .u64 0, .int .u8 0, .int .i64 0, .slice none 0 0] 54))
        generalize wd.alloc (Obj.cells #[.string ⟨#[]⟩, .string ⟨#[]⟩, .int .u64 0, .int .u64 0, .int .u8 0, .int .i64 0, .slice none 0 0] 54) = wa at HZ HB  ⊢
        generalize wd.heap.size = z at HZ hzl ⊢
        clear hHeld
        refine hK.out _ _ HB.out (fun hHeld => ?_)
        clear hK
        refine wpAnyH_ready (rs := [10]) (by kernel_rfl) (by simp) ?_
        refine AllReadyH.cons rfl (fun K hK => ?_) AllReadyH.nil
        rw [if_pos (by rfl)]
        go_simp
        (with_reducible refine (refBegin_calls gr L o.user o.tree (o.seed : Int) _ (HDT2.out.below hHeld).rt).mono ?_)
        rw [HRX.out]
        rintro e wy ⟨rfl, hb⟩
        dsimp only
        have hown : OwnB wy wa.heap.size (.slice none 0 0) [] := OwnB.nil_ _ _
        have HU := Lib.hid (hown.more HB.out.size)
        replace HZ := Lib.hid (HZ.out.below hb)
        replace HB := Lib.hid (HB.out.trans (hb.mono HB.out.size))
        clear hown hb hHeld
        refine hK.out _ _ HB.out (fun hHeld => ?_)
        clear hK
        refine wpAnyH_takeD 74 (i := 11) (v := .tuple #[talkV R.1 (.slice none 0 0), .int .i64 R.2]) rfl rfl (by kernel_rfl) (by kernel_rfl) (by kernel_rfl) (fun _ _ _ h => h) (Or.inl ⟨by rfl, fun wq hSw => by go_simp⟩) (by assumption) ?_
        simp only [Act.put, List.setIfInBounds_toArray, List.set_cons_zero, List.set_cons_succ]
        refine wpAnyH_takeD 86 (i := 12) (v := talkV R.1 (.slice none 0 0)) rfl rfl (by kernel_rfl) (by kernel_rfl) (by kernel_rfl) (fun _ _ _ h => h) (Or.inl ⟨by rfl, fun wq hSw => by go_simp⟩) (by assumption) ?_
        simp only [Act.put, List.setIfInBounds_toArray, List.set_cons_zero, List.set_cons_succ]
        refine wpAnyH_takeD 87 (i := 13) (v := .int .i64 R.2) rfl rfl (by kernel_rfl) (by kernel_rfl) (by kernel_rfl) (fun _ _ _ h => h) (Or.inl ⟨by rfl, fun wq hSw => by go_simp⟩) (by assumption) ?_
        simp only [Act.put, List.setIfInBounds_toArray, List.set_cons_zero, List.set_cons_succ]
        refine wpAnyH_ready (rs := [15]) (by kernel_rfl) (by simp) ?_
        refine AllReadyH.cons rfl (fun K hK => ?_) AllReadyH.nil
        rw [if_pos (by rfl)]
        refine wp_storeT HZ.out R.1 (.slice none 0 0) HU.out.one _ _ rfl rfl rfl rfl ?_
        have HU2 := Lib.hid (HU.out.far (HU.out.blk_ne HZ.out (by decide)) (setCells_other _ z (talkL R.1 (.slice none 0 0)) 0))
        have HB2 := Lib.hid (below_setCells HB.out hzl (talkL R.1 (.slice none 0 0)) 0)
        have HZ2 := Lib.hid (setTalk (u := R.1) (hu := (.slice none 0 0)) HZ.out)
        clear hHeld
        refine hK.out _ _ HB2.out (fun hHeld => ?_)
        clear hK
        refine wpAnyH_takeD 10 (i := 16) (v := .int .i64 R.2) rfl rfl (by kernel_rfl) (by kernel_rfl) (by kernel_rfl) (fun _ _ _ h => h) (Or.inl ⟨by rfl, fun wq hSw => by go_simp⟩) (by assumption) ?_
        simp only [Act.put, List.setIfInBounds_toArray, List.set_cons_zero, List.set_cons_succ]
        refine wpAnyH_done (by kernel_rfl) ?_ _
        go_wp2_with fail
        go_meet
        case rel => exact ⟨z, rfl, rfl, hzl, HZ2.out, HB2.out⟩
  rename World => w3
  obtain ⟨z3, rfl, rfl, hzl, htz, hb⟩ := hcut
  have HB3 := Lib.hid hb
  have HZ3 := Lib.hid htz
  clear hzl htz hb
  have HW3 := Lib.hid (HW2.out.call HB3.out)
  have HY2 := Lib.hid (HZ2.out.below HB3.out)
  have HNT := Lib.hid (show ts.length ≤ 536870912 from by have h1 := HCN.out.2.1; have h2 := HNM.out.1; omega)
  have HNB := Lib.hid (show bl.length ≤ 1073741824 from by have h1 := HCN.out.2.2; have h2 := HNM.out.2; omega)
  have HNC := Lib.hid (show cl.length ≤ 1073741824 from by rw [← HAG.out.len]; exact HNB.out)
  have HF0 := Lib.hid (show ∀ k, (Value.slice none 0 0).ownBlock = some k → Free bl k ∧ Free cl k from fun k hk => by cases hk)
  have HN0 := Lib.hid (show OwnB w3 W0.heap.size (.slice none 0 0) [] from OwnB.nil_ _ _)
  have HLZ := Lib.hid (show ([] : List UInt8).length ≤ 1099511627776 from by decide)
  clear HW2 HO2 HDT2 HB3 HZ2
  go_upto_region 12 with (first
    | (refine wT HY2.out rfl _ rfl rfl ?_)
    | (refine wT HZ3.out rfl _ rfl rfl ?_)
    | (go_at_call 29; (with_reducible refine (takes_calls HW3.out R.1 (.slice none 0 0) (.slice none 0 0) [] R.2 HN0.out HN0.out HF0.out HLZ.out HNT.out HNB.out HNC.out).mono ?_); rintro e w4 ⟨rfl, ⟨vt4, vw4, vb4, vc4, c4, hwb4, hcn4⟩, hs4⟩; have HW4 := Lib.hid hwb4; clear hwb4 hcn4 hs4))
  have HDW := Lib.hid (show DW W0 q gu gr lo (n + 1) (m + 1) (fun _ => False) w4 from DW.took (x := ⟨R.1, .slice none 0 0, .slice none 0 0, []⟩) (e := R.2) HW4.out HAG.out HLN.out HTK.out HCN.out.1 HCN.out.2.1 HCN.out.2.2 HRO.out (by decide))
  clear HW3 HW4 HY2 HZ3
  go_wp2_with fail
  go_ret
  exact ⟨rfl, HDW.out.more (by omega) (by omega) (fun _ h => h)⟩
end Go.Proofs.YtlenlldiimohjaaGreatDoor
