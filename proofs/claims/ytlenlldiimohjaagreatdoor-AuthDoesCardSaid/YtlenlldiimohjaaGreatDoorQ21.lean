/-
  ADoH: what AuthDoes needs of them.
-/
import Derived.Test.YtlenlldiimohjaaGreatDoorQ19
namespace Go.Proofs.YtlenlldiimohjaaGreatDoor
open Go.RowKit SumLaw

set_option maxRecDepth 100000 in
set_option maxHeartbeats 12800000 in
/-- Read. -/
theorem step4_calls {W0 w : World} {q gu gr lo n m : Nat} {L : List Acct} (hd : DT W0 gu gr L) (h : DW W0 q gu gr lo n m (fun _ => False) w) (hl0 : 0 < lo) (o : OpD) (v : OpV) (hok : OpOk W0 W0.heap.size o v) (hw : o.weight ≤ 268435456) (hn : n ≤ 268435456) (hm : m ≤ 268435456) (hkd : o.kind = 4) :
    Calls Tryz.prog 30 #[.pointer (some ⟨q, 0, none⟩), opV o v] w fun e w' => StepE W0 q gu gr lo n m e w' := by
  obtain ⟨hk, hu, ht, hb28, hc28, hl28⟩ := weight_key o hw
  have HD := Lib.hid hd
  have HOK := Lib.hid hok
  have HK28 := Lib.hid hk
  have HU28 := Lib.hid hu
  have HT28 := Lib.hid ht
  have HB28 := Lib.hid hb28
  have HC28 := Lib.hid hc28
  have HL28 := Lib.hid hl28
  have HWT := Lib.hid hw
  have HNM := Lib.hid (And.intro hn hm)
  have HB1 := Lib.hid ((Below.refl w.heap.size w).alloc (Nat.le_refl _) (Obj.cells (opL o v).toArray 92))
  have HO1 := Lib.hid (show OBlk (w.alloc (Obj.cells (opL o v).toArray 92)) w.heap.size o v from Blk.new w _ _)
  have HD1 := Lib.hid (h.call HB1.out)
  have HL0 := Lib.hid hl0
  have HKD := Lib.hid hkd
  clear hkd hd hok hk hu ht hb28 hc28 hl28 h hw hn hm hl0
  go_enter Tryz.func30, Tryz.ntmps30
  go_upto_region 1 with (fail)
  change Code.wp _ _ _ _ (w.alloc (Obj.cells (opL o v).toArray 92))
  generalize w.alloc (Obj.cells (opL o v).toArray 92) = w1 at HB1 HO1 HD1 ⊢
  generalize w.heap.size = ob at HO1 ⊢
  clear HB1
  obtain ⟨vt, vw, vb, vc, ts, bl, cl, hwb, hag, hlen, htk, hlo, hnn, hmm, -⟩ := HD1.out
  have HW1 := Lib.hid hwb
  have HAG := Lib.hid hag
  have HLN := Lib.hid hlen
  have HTK := Lib.hid htk
  have HCN := Lib.hid (And.intro hlo (And.intro hnn hmm))
  have HT0 := Lib.hid (show 0 < ts.length from Nat.lt_of_lt_of_le HL0.out hlo)
  clear hwb hag hlen htk hlo hnn hmm
  obtain ⟨k, hk⟩ : ∃ z, atN o.at_ ts.length = z := ⟨_, rfl⟩
  have HKE := Lib.hid hk
  have HKT := Lib.hid (show k < ts.length from by rw [← hk]; exact atN_lt o.at_ HT0.out)
  clear hk
  have k1 : w1.cell? ⟨ob, 1, none⟩ = some (.int .i64 o.at_) := Blk.cell HO1.out 1
  go_upto_region 2 with (go_at_call 81; (with_reducible refine (at_calls HW1.out.r o.at_ HOK.out.ha HT0.out).mono ?_); rw [HKE.out]; rintro e w2 ⟨rfl, rfl⟩)
  clear k1
  have k0 : w1.cell? ⟨ob, 0, none⟩ = some (.int .i64 4) := by rw [← HKD.out]; exact Blk.cell HO1.out 0
  obtain ⟨At, capt, rfl, htc, htm⟩ := len_of HW1.out.r.rt
  obtain ⟨Aw, capw, rfl, hwc, hwm⟩ := len_of HW1.out.r.rw_
  unfold maxLen at htm hwm
  have hkt : k < ts.length := HKT.out
  have hkt' : (k : Int) < (ts.length : Int) := by omega
  obtain ⟨gt, rfl⟩ := head_some HW1.out.r.rt (by omega)
  obtain ⟨gw, rfl⟩ := head_some HW1.out.r.rw_ (by omega)
  obtain ⟨x, hx⟩ : ∃ x, ts[k]? = some x := ⟨_, List.getElem?_eq_getElem hkt⟩
  have HX := Lib.hid hx
  have HXM := Lib.hid (List.mem_of_getElem? hx)
  have HXK := Lib.hid (HTK.out x HXM.out)
  have HUS := Lib.hid HXK.out.1
  have HTS := Lib.hid HXK.out.2.1
  have HOR := Lib.hid HXK.out.2.2.1
  have H33 := Lib.hid (show x.l.length ≤ 33 from HXK.out.2.2.2.1)
  have H47 := Lib.hid (show x.l.length ≤ 1099511627776 from by have := H33.out; omega)
  have HKS := Lib.hid (HD.out.ks x.t.user)
  have HNN := Lib.hid HOK.out.hn
  clear hx
  have k2 : w1.cell? ⟨q, 2, none⟩ = some (.slice (some ⟨gt, 0, none⟩) ts.length capt) := HW1.out.q2
  have HR7 := Lib.hid (HW1.out.t_range HX.out)
  have HXY := Lib.hid ((HW1.out.tk x HXM.out).1.bys)
  go_upto_region 14 with (fail)
  clear k0
  go_upto_region 15 with (first
    | (refine wTrow HR7.out rfl _ rfl rfl ?_)
    | (go_at_call 85; (with_reducible refine (lheard_calls x.t x.hv x.l _ HXY.out H33.out).mono ?_); rintro e w3 ⟨⟨ux, rfl, hlx⟩, hb⟩; obtain ⟨gx, rfl, hgx⟩ := hlx; have HLX := Lib.hid (show Lent w3 w1.heap.size (.slice (some ⟨gx, 0, none⟩) x.l.length (x.l.length + 3)) x.l from ⟨gx, rfl, hgx⟩); have HB3 := Lib.hid hb; clear hgx hb)
    | (refine wstT (TBlk.zero w3) x.t (.slice (some ⟨gx, 0, none⟩) x.l.length (x.l.length + 3)) rfl rfl _ _ rfl rfl rfl ?_; intro w4 hs ho hbl; have HXB := Lib.hid hs; have HB4 := Lib.hid (hbl _ _ (HB3.out.alloc HB3.out.size _) HB3.out.size); have HLX4 := Lib.hid (HLX.out.below (hbl _ _ ((Below.refl w3.heap.size w3).alloc (Nat.le_refl _) (Obj.cells #[.string ⟨#[]⟩, .string ⟨#[]⟩, .int .u64 0, .int .u64 0, .int .u8 0, .int .i64 0, .slice none 0 0] 54)) (Nat.le_refl _))); clear hs ho hbl))
  clear k2 HR7 HXY HLX HB3
  generalize w3.heap.size = xb at HXB ⊢
  have HW4 := Lib.hid (HW1.out.call HB4.out)
  have HO4 := Lib.hid (HO1.out.below HB4.out)
  have HDT4 := Lib.hid (HD.out.below HW4.out.r.low)
  have HWW := Lib.hid (show W0.heap.size ≤ w1.heap.size from HW1.out.r.low.size)
  have HWW4 := Lib.hid (show W0.heap.size ≤ w4.heap.size from HW4.out.r.low.size)
  have HGX := Lib.hid HLX4.out.ge_
  have HGX4 := Lib.hid HLX4.out.lt_
  have HAW := Lib.hid (HW1.out.away_new HGX.out)
  clear HD1 HW1 HO1 HB4
  obtain ⟨R, hR⟩ : ∃ z, readS L x.t x.l o.n = z := ⟨_, rfl⟩
  have HRX := Lib.hid hR
  have HRO := Lib.hid (readS_ok L o.n HXK.out)
  rw [hR] at HRO
  clear hR
  simp only [Act.put]
  go_cut [13, 14, 15] (fun a b e wx => ∃ (z : Nat) (hu bv : Value), a = .pointer (some ⟨z, 0, none⟩) ∧ b = bv ∧ e = .int .i64 R.e ∧ w4.heap.size ≤ z ∧ TBlk wx z R.t hu ∧ OwnB wx w4.heap.size hu R.h ∧ OwnB wx w4.heap.size bv R.out ∧ (∀ k, hu.ownBlock = some k → bv.ownBlock ≠ some k) ∧ Below w4.heap.size w4 wx)
  case first =>
    have HB := Lib.hid (below_drew w4)
    refine wp_region_held_drew (S := fun wx => Below w4.heap.size w4 wx) (by kernel_rfl) HB.out (fun hHeld => ?_)
    generalize w4.drew = wd at HB hHeld ⊢
    refine wpAnyH_takeD 110 (i := 0) (v := .pointer (some ⟨q, 0, none⟩)) rfl rfl (by kernel_rfl) (by kernel_rfl) (by kernel_rfl) (fun _ _ _ h => h) (Or.inl ⟨by rfl, fun wq hSw => by go_simp⟩) (by assumption) ?_
    simp only [Act.put, List.setIfInBounds_toArray, List.set_cons_zero, List.set_cons_succ]
    refine wpAnyH_takeD 111 (i := 1) (v := .pointer (some ⟨q, 0, none⟩)) rfl rfl (by kernel_rfl) (by kernel_rfl) (by kernel_rfl) (fun _ _ _ h => h) (Or.inl ⟨by rfl, fun wq hSw => by go_simp⟩) (by assumption) ?_
    simp only [Act.put, List.setIfInBounds_toArray, List.set_cons_zero, List.set_cons_succ]
    refine wpAnyH_takeD 112 (i := 2) (v := .pointer (some ⟨q, 0, none⟩)) rfl rfl (by kernel_rfl) (by kernel_rfl) (by kernel_rfl) (fun _ _ _ h => h) (Or.inl ⟨by rfl, fun wq hSw => by go_simp⟩) (by assumption) ?_
    simp only [Act.put, List.setIfInBounds_toArray, List.set_cons_zero, List.set_cons_succ]
    refine wpAnyH_takeD 113 (i := 3) (v := .pointer (some ⟨gu, 0, none⟩)) rfl rfl (by kernel_rfl) (by kernel_rfl) (by kernel_rfl) (fun _ _ _ h => h) (Or.inl ⟨by rfl, fun wq hSw => by have k := (HW4.out.call hSw).q0; go_simp⟩) (by assumption) ?_
    simp only [Act.put, List.setIfInBounds_toArray, List.set_cons_zero, List.set_cons_succ]
    refine wpAnyH_takeD 114 (i := 4) rfl rfl (by kernel_rfl) (by kernel_rfl) (by kernel_rfl) (fun _ _ _ h => h) (yieldsIf_load_mid (by rfl) _ _ rfl _ _ rfl (talkL x.t (.slice (some ⟨gx, 0, none⟩) x.l.length (x.l.length + 3))) _ (fun _ hS => Blk.range (HXB.out.below hS) 0 _ rfl) Tryz.underlying54 rfl talk_size) (by assumption) ?_
    simp only [Act.put, List.setIfInBounds_toArray, List.set_cons_zero, List.set_cons_succ]
    refine wpAnyH_takeD 115 (i := 5) (v := .pointer (some ⟨ob, 2, none⟩)) rfl rfl (by kernel_rfl) (by kernel_rfl) (by kernel_rfl) (fun _ _ _ h => h) (Or.inl ⟨by rfl, fun wq hSw => by go_simp⟩) (by assumption) ?_
    simp only [Act.put, List.setIfInBounds_toArray, List.set_cons_zero, List.set_cons_succ]
    refine wpAnyH_takeD 116 (i := 6) (v := .int .i64 o.n) rfl rfl (by kernel_rfl) (by kernel_rfl) (by kernel_rfl) (fun _ _ _ h => h) (Or.inl ⟨by rfl, fun wq hSw => by have k : wq.cell? ⟨ob, 2, none⟩ = some (.int .i64 o.n) := Blk.cell (HO4.out.below hSw) 2; go_simp⟩) (by assumption) ?_
    simp only [Act.put, List.setIfInBounds_toArray, List.set_cons_zero, List.set_cons_succ]
    refine wpAnyH_ready (rs := [7, 12]) (by kernel_rfl) (by simp) ?_
    refine AllReadyH.cons rfl (fun K hK => ?_) (AllReadyH.cons rfl (fun K hK => ?_) AllReadyH.nil)
    · as_aux_lemma =>
        rw [if_pos (by rfl)]
        go_simp
        (with_reducible refine (readO_calls gu L x.t (.slice (some ⟨gx, 0, none⟩) x.l.length (x.l.length + 3)) x.l o.n _ (HDT4.out.below hHeld).pt (HDT4.out.below hHeld).tz ((HLX4.out.below hHeld).bys H47.out) H33.out HUS.out HTS.out HKS.out HOR.out HNN.out).mono ?_)
        rw [HRX.out]
        rintro e wy ⟨⟨hu, bv, rfl, h1, h2, hne⟩, hb⟩
        dsimp only
        have HNE := Lib.hid hne
        clear hne
        have HU := Lib.hid (h1.more HB.out.size)
        have HV := Lib.hid (h2.more HB.out.size)
        replace HB := Lib.hid (HB.out.trans (hb.mono HB.out.size))
        clear h1 h2 hb hHeld
        refine hK.out _ _ HB.out (fun hHeld => ?_)
        clear hK
        refine wpAnyH_takeD 109 (i := 8) (v := .tuple #[talkV R.t hu, bv, .int .i64 R.e]) rfl rfl (by kernel_rfl) (by kernel_rfl) (by kernel_rfl) (fun _ _ _ h => h) (Or.inl ⟨by rfl, fun wq hSw => by go_simp⟩) (by assumption) ?_
        simp only [Act.put, List.setIfInBounds_toArray, List.set_cons_zero, List.set_cons_succ]
        refine wpAnyH_takeD 118 (i := 9) (v := talkV R.t hu) rfl rfl (by kernel_rfl) (by kernel_rfl) (by kernel_rfl) (fun _ _ _ h => h) (Or.inl ⟨by rfl, fun wq hSw => by go_simp⟩) (by assumption) ?_
        simp only [Act.put, List.setIfInBounds_toArray, List.set_cons_zero, List.set_cons_succ]
        refine wpAnyH_takeD 119 (i := 10) (v := bv) rfl rfl (by kernel_rfl) (by kernel_rfl) (by kernel_rfl) (fun _ _ _ h => h) (Or.inl ⟨by rfl, fun wq hSw => by go_simp⟩) (by assumption) ?_
        simp only [Act.put, List.setIfInBounds_toArray, List.set_cons_zero, List.set_cons_succ]
        refine wpAnyH_takeD 120 (i := 11) (v := .int .i64 R.e) rfl rfl (by kernel_rfl) (by kernel_rfl) (by kernel_rfl) (fun _ _ _ h => h) (Or.inl ⟨by rfl, fun wq hSw => by go_simp⟩) (by assumption) ?_
        simp only [Act.put, List.setIfInBounds_toArray, List.set_cons_zero, List.set_cons_succ]
        refine wpAnyH_ready (rs := [12]) (by kernel_rfl) (by simp) ?_
        refine AllReadyH.cons rfl (fun K hK => ?_) AllReadyH.nil
        rw [if_pos (by rfl)]
        go_simp
        have hzl := HB.out.size
        have HZ := Lib.hid (TBlk.zero wy)
        replace HU := Lib.hid (HU.out.below ((Below.refl _ _).alloc (Nat.le_refl _) (Obj.cells #[.string ⟨#[]⟩, .string ⟨#[]⟩, .int .u64 0, .int .u64 0, .int .u8 0, .int .i64 0, .slice none 0 0] 54)))
        replace HV := Lib.hid (HV.out.below ((Below.refl _ _).alloc (Nat.le_refl _) (Obj.cells #[.string ⟨#[]⟩, .string ⟨#[]⟩, .int .u64 0, .int .u64 0, .int .u8 0, .int .i64 0, .slice none 0 0] 54)))
        replace HB := Lib.hid (HB.out.alloc HB.out.size (Obj.cells #[.string ⟨#[]⟩, .string ⟨#[]⟩, .int .u64 0, .int .u64 0, .int .u8 0, .int .i64 0, .slice none 0 0] 54))
        generalize wy.alloc (Obj.cells #[.string ⟨#[]⟩, .string ⟨#[]⟩, .int .u64 0, .int .u64 0, .int .u8 0, .int .i64 0, .slice none 0 0] 54) = wa at HZ HB HU HV ⊢
        generalize wy.heap.size = z at HZ hzl ⊢
        clear hHeld
        refine hK.out _ _ HB.out (fun hHeld => ?_)
        clear hK
        refine wpAnyH_ready (rs := [13]) (by kernel_rfl) (by simp) ?_
        refine AllReadyH.cons rfl (fun K hK => ?_) AllReadyH.nil
        rw [if_pos (by rfl)]
        refine wp_storeT HZ.out R.t hu HU.out.one _ _ rfl rfl rfl rfl ?_
        have HU2 := Lib.hid (HU.out.far (HU.out.blk_ne HZ.out (by decide)) (setCells_other _ z (talkL R.t hu) 0))
        have HV2 := Lib.hid (HV.out.far (HV.out.blk_ne HZ.out (by decide)) (setCells_other _ z (talkL R.t hu) 0))
        have HB2 := Lib.hid (below_setCells HB.out hzl (talkL R.t hu) 0)
        have HZ2 := Lib.hid (setTalk (u := R.t) (hu := hu) HZ.out)
        clear hHeld
        refine hK.out _ _ HB2.out (fun hHeld => ?_)
        clear hK
        refine wpAnyH_takeD 14 (i := 14) (v := bv) rfl rfl (by kernel_rfl) (by kernel_rfl) (by kernel_rfl) (fun _ _ _ h => h) (Or.inl ⟨by rfl, fun wq hSw => by go_simp⟩) (by assumption) ?_
        simp only [Act.put, List.setIfInBounds_toArray, List.set_cons_zero, List.set_cons_succ]
        refine wpAnyH_takeD 15 (i := 15) (v := .int .i64 R.e) rfl rfl (by kernel_rfl) (by kernel_rfl) (by kernel_rfl) (fun _ _ _ h => h) (Or.inl ⟨by rfl, fun wq hSw => by go_simp⟩) (by assumption) ?_
        simp only [Act.put, List.setIfInBounds_toArray, List.set_cons_zero, List.set_cons_succ]
        refine wpAnyH_done (by kernel_rfl) ?_ _
        go_wp2_with fail
        go_meet
        case rel => exact ⟨z, hu, bv, rfl, rfl, rfl, hzl, HZ2.out, HU2.out, HV2.out, HNE.out, HB2.out⟩
    · as_aux_lemma =>
        rw [if_pos (by rfl)]
        go_simp
        have hzl := HB.out.size
        have HZ := Lib.hid (TBlk.zero wd)
        replace HB := Lib.hid (HB.out.alloc HB.out.size (Obj.cells #[.string ⟨#[]⟩, .string ⟨#[]⟩, .int .u64 0, .int .u64 0, .int .u8 0, .int .i64 0, .slice none 0 0] 54))
        generalize wd.alloc (Obj.cells #[.string ⟨#[]⟩, .string ⟨#[]⟩, .int .u64 0, .int .u64 0, .int .u8 0, .int .i64 0, .slice none 0 0] 54) = wa at HZ HB  ⊢
        generalize wd.heap.size = z at HZ hzl ⊢
        clear hHeld
        refine hK.out _ _ HB.out (fun hHeld => ?_)
        clear hK
        refine wpAnyH_ready (rs := [7]) (by kernel_rfl) (by simp) ?_
        refine AllReadyH.cons rfl (fun K hK => ?_) AllReadyH.nil
        rw [if_pos (by rfl)]
        go_simp
        (with_reducible refine (readO_calls gu L x.t (.slice (some ⟨gx, 0, none⟩) x.l.length (x.l.length + 3)) x.l o.n _ (HDT4.out.below hHeld).pt (HDT4.out.below hHeld).tz ((HLX4.out.below hHeld).bys H47.out) H33.out HUS.out HTS.out HKS.out HOR.out HNN.out).mono ?_)
        rw [HRX.out]
        rintro e wy ⟨⟨hu, bv, rfl, h1, h2, hne⟩, hb⟩
        dsimp only
        have HNE := Lib.hid hne
        clear hne
        have HU := Lib.hid (h1.more HB.out.size)
        have HV := Lib.hid (h2.more HB.out.size)
        replace HZ := Lib.hid (HZ.out.below hb)
        replace HB := Lib.hid (HB.out.trans (hb.mono HB.out.size))
        clear h1 h2 hb hHeld
        refine hK.out _ _ HB.out (fun hHeld => ?_)
        clear hK
        refine wpAnyH_takeD 109 (i := 8) (v := .tuple #[talkV R.t hu, bv, .int .i64 R.e]) rfl rfl (by kernel_rfl) (by kernel_rfl) (by kernel_rfl) (fun _ _ _ h => h) (Or.inl ⟨by rfl, fun wq hSw => by go_simp⟩) (by assumption) ?_
        simp only [Act.put, List.setIfInBounds_toArray, List.set_cons_zero, List.set_cons_succ]
        refine wpAnyH_takeD 118 (i := 9) (v := talkV R.t hu) rfl rfl (by kernel_rfl) (by kernel_rfl) (by kernel_rfl) (fun _ _ _ h => h) (Or.inl ⟨by rfl, fun wq hSw => by go_simp⟩) (by assumption) ?_
        simp only [Act.put, List.setIfInBounds_toArray, List.set_cons_zero, List.set_cons_succ]
        refine wpAnyH_takeD 119 (i := 10) (v := bv) rfl rfl (by kernel_rfl) (by kernel_rfl) (by kernel_rfl) (fun _ _ _ h => h) (Or.inl ⟨by rfl, fun wq hSw => by go_simp⟩) (by assumption) ?_
        simp only [Act.put, List.setIfInBounds_toArray, List.set_cons_zero, List.set_cons_succ]
        refine wpAnyH_takeD 120 (i := 11) (v := .int .i64 R.e) rfl rfl (by kernel_rfl) (by kernel_rfl) (by kernel_rfl) (fun _ _ _ h => h) (Or.inl ⟨by rfl, fun wq hSw => by go_simp⟩) (by assumption) ?_
        simp only [Act.put, List.setIfInBounds_toArray, List.set_cons_zero, List.set_cons_succ]
        refine wpAnyH_ready (rs := [13]) (by kernel_rfl) (by simp) ?_
        refine AllReadyH.cons rfl (fun K hK => ?_) AllReadyH.nil
        rw [if_pos (by rfl)]
        refine wp_storeT HZ.out R.t hu HU.out.one _ _ rfl rfl rfl rfl ?_
        have HU2 := Lib.hid (HU.out.far (HU.out.blk_ne HZ.out (by decide)) (setCells_other _ z (talkL R.t hu) 0))
        have HV2 := Lib.hid (HV.out.far (HV.out.blk_ne HZ.out (by decide)) (setCells_other _ z (talkL R.t hu) 0))
        have HB2 := Lib.hid (below_setCells HB.out hzl (talkL R.t hu) 0)
        have HZ2 := Lib.hid (setTalk (u := R.t) (hu := hu) HZ.out)
        clear hHeld
        refine hK.out _ _ HB2.out (fun hHeld => ?_)
        clear hK
        refine wpAnyH_takeD 14 (i := 14) (v := bv) rfl rfl (by kernel_rfl) (by kernel_rfl) (by kernel_rfl) (fun _ _ _ h => h) (Or.inl ⟨by rfl, fun wq hSw => by go_simp⟩) (by assumption) ?_
        simp only [Act.put, List.setIfInBounds_toArray, List.set_cons_zero, List.set_cons_succ]
        refine wpAnyH_takeD 15 (i := 15) (v := .int .i64 R.e) rfl rfl (by kernel_rfl) (by kernel_rfl) (by kernel_rfl) (fun _ _ _ h => h) (Or.inl ⟨by rfl, fun wq hSw => by go_simp⟩) (by assumption) ?_
        simp only [Act.put, List.setIfInBounds_toArray, List.set_cons_zero, List.set_cons_succ]
        refine wpAnyH_done (by kernel_rfl) ?_ _
        go_wp2_with fail
        go_meet
        case rel => exact ⟨z, hu, bv, rfl, rfl, rfl, hzl, HZ2.out, HU2.out, HV2.out, HNE.out, HB2.out⟩
  rename World => w5
  obtain ⟨z, hu, bv, rfl, hbe, rfl, -, htz, hou, hov, hne, hb5⟩ := hcut
  have HV5 := Lib.hid hov
  obtain ⟨rA, rc, rfl⟩ := HV5.out.val
  subst hbe
  have HB5 := Lib.hid hb5
  have HZ5 := Lib.hid htz
  have HU5 := Lib.hid hou
  have HNE := Lib.hid hne
  clear hb5 htz hou hov hne
  have HW5 := Lib.hid (HW4.out.call HB5.out)
  have HO5 := Lib.hid (HO4.out.below HB5.out)
  have HLX5 := Lib.hid (HLX4.out.below HB5.out)
  have HXB5 := Lib.hid (HXB.out.below HB5.out)
  have HS5 := Lib.hid HB5.out.size
  clear HXB HO4 HDT4 HB5 HLX4
  go_upto_region 16 with (fail)
  refine wp_region_held_drew (S := fun wx => Below w5.heap.size w5 wx) (by kernel_rfl) (below_drew w5) (fun hHeld => ?_)
  generalize w5.drew = wd at hHeld ⊢
  refine wpAnyH_takeD 121 (i := 0) (v := .pointer (some ⟨xb, 6, none⟩)) rfl rfl (by kernel_rfl) (by kernel_rfl) (by kernel_rfl) (fun _ _ _ h => h) (Or.inl ⟨by rfl, fun wq hSw => by go_simp⟩) (by assumption) ?_
  simp only [Act.put, List.setIfInBounds_toArray, List.set_cons_zero, List.set_cons_succ]
  refine wpAnyH_takeD 122 (i := 1) (v := .slice (some ⟨gx, 0, none⟩) x.l.length (x.l.length + 3)) rfl rfl (by kernel_rfl) (by kernel_rfl) (by kernel_rfl) (fun _ _ _ h => h) (Or.inl ⟨by rfl, fun wq hSw => by have k : wq.cell? ⟨xb, 6, none⟩ = some (.slice (some ⟨gx, 0, none⟩) x.l.length (x.l.length + 3)) := Blk.cell (HXB5.out.below hSw) 6; go_simp⟩) (by assumption) ?_
  simp only [Act.put, List.setIfInBounds_toArray, List.set_cons_zero, List.set_cons_succ]
  refine wpAnyH_takeD 123 (i := 2) (v := .pointer (some ⟨q, 0, none⟩)) rfl rfl (by kernel_rfl) (by kernel_rfl) (by kernel_rfl) (fun _ _ _ h => h) (Or.inl ⟨by rfl, fun wq hSw => by go_simp⟩) (by assumption) ?_
  simp only [Act.put, List.setIfInBounds_toArray, List.set_cons_zero, List.set_cons_succ]
  refine wpAnyH_takeD 124 (i := 3) (v := .pointer (some ⟨q, 0, none⟩)) rfl rfl (by kernel_rfl) (by kernel_rfl) (by kernel_rfl) (fun _ _ _ h => h) (Or.inl ⟨by rfl, fun wq hSw => by go_simp⟩) (by assumption) ?_
  simp only [Act.put, List.setIfInBounds_toArray, List.set_cons_zero, List.set_cons_succ]
  refine wpAnyH_takeD 125 (i := 4) (v := .pointer (some ⟨q, 2, none⟩)) rfl rfl (by kernel_rfl) (by kernel_rfl) (by kernel_rfl) (fun _ _ _ h => h) (Or.inl ⟨by rfl, fun wq hSw => by go_simp⟩) (by assumption) ?_
  simp only [Act.put, List.setIfInBounds_toArray, List.set_cons_zero, List.set_cons_succ]
  refine wpAnyH_takeD 126 (i := 5) (v := .slice (some ⟨gt, 0, none⟩) ts.length capt) rfl rfl (by kernel_rfl) (by kernel_rfl) (by kernel_rfl) (fun _ _ _ h => h) (Or.inl ⟨by rfl, fun wq hSw => by have k := (HW5.out.call hSw).q2; go_simp⟩) (by assumption) ?_
  simp only [Act.put, List.setIfInBounds_toArray, List.set_cons_zero, List.set_cons_succ]
  refine wpAnyH_takeD 127 (i := 6) (v := .int .i64 (k : Int)) rfl rfl (by kernel_rfl) (by kernel_rfl) (by kernel_rfl) (fun _ _ _ h => h) (Or.inl ⟨by rfl, fun wq hSw => by go_simp⟩) (by assumption) ?_
  simp only [Act.put, List.setIfInBounds_toArray, List.set_cons_zero, List.set_cons_succ]
  refine wpAnyH_takeD 128 (i := 7) (v := .pointer (some ⟨gt, k * 7, none⟩)) rfl rfl (by kernel_rfl) (by kernel_rfl) (by kernel_rfl) (fun _ _ _ h => h) (Or.inl ⟨by rfl, fun wq hSw => by go_simp⟩) (by assumption) ?_
  simp only [Act.put, List.setIfInBounds_toArray, List.set_cons_zero, List.set_cons_succ]
  refine wpAnyH_takeD 129 (i := 8) (v := .pointer (some ⟨gt, k * 7 + 6, none⟩)) rfl rfl (by kernel_rfl) (by kernel_rfl) (by kernel_rfl) (fun _ _ _ h => h) (Or.inl ⟨by rfl, fun wq hSw => by go_simp⟩) (by assumption) ?_
  simp only [Act.put, List.setIfInBounds_toArray, List.set_cons_zero, List.set_cons_succ]
  refine wpAnyH_takeD 130 (i := 9) (v := x.hv) rfl rfl (by kernel_rfl) (by kernel_rfl) (by kernel_rfl) (fun _ _ _ h => h) (Or.inl ⟨by rfl, fun wq hSw => by have k := row_said ((HW5.out.call hSw).t_range HX.out); go_simp⟩) (by assumption) ?_
  simp only [Act.put, List.setIfInBounds_toArray, List.set_cons_zero, List.set_cons_succ]
  refine wpAnyH_ready (rs := [10]) (by kernel_rfl) (by simp) ?_
  refine AllReadyH.cons rfl (fun K hK => ?_) AllReadyH.nil
  rw [if_pos (by rfl)]
  go_simp
  (with_reducible refine (left_calls w1.heap.size (.slice (some ⟨gx, 0, none⟩) x.l.length (x.l.length + 3)) x.hv x.l _ (HLX5.out.below hHeld) ((HW5.out.call hHeld).tk x HXM.out).1.bys H47.out).mono ?_)
  rintro e w7 ⟨rfl, rfl⟩
  dsimp only
  refine hK.out _ _ hHeld (fun hHeld => ?_)
  clear hK
  refine wpAnyH_takeD 16 (i := 11) (v := .bool true) rfl rfl (by kernel_rfl) (by kernel_rfl) (by kernel_rfl) (fun _ _ _ h => h) (Or.inl ⟨by rfl, fun wq hSw => by go_simp⟩) (by assumption) ?_
  simp only [Act.put, List.setIfInBounds_toArray, List.set_cons_zero, List.set_cons_succ]
  refine wpAnyH_done (by kernel_rfl) ?_ _
  have HW6 := Lib.hid (HW5.out.call hHeld)
  have HO6 := Lib.hid (HO5.out.below hHeld)
  have HLX6 := Lib.hid (HLX5.out.below hHeld)
  have HZ6 := Lib.hid (HZ5.out.below hHeld)
  have HU6 := Lib.hid (HU5.out.below hHeld)
  have HV6 := Lib.hid (HV5.out.below hHeld)
  have HCY6 := Lib.hid (HOK.out.hc.below HW6.out.r.low)
  have k6 : wd.cell? ⟨xb, 6, none⟩ = some (.slice (some ⟨gx, 0, none⟩) x.l.length (x.l.length + 3)) := Blk.cell (HXB5.out.below hHeld) 6
  have k10 : wd.cell? ⟨ob, 10, none⟩ = some v.c := Blk.cell HO6.out 10
  have HS6 := Lib.hid (Nat.le_trans HS5.out hHeld.size)
  clear HW5 HO5 HLX5 HXB5 HZ5 HU5 HV5 hHeld
  go_upto_region 18 with (go_at_call 87; (with_reducible refine (over_calls W0.heap.size w1.heap.size (.slice (some ⟨gx, 0, none⟩) x.l.length (x.l.length + 3)) v.c x.l o.c _ HLX6.out HCY6.out HWW.out H47.out).mono ?_); rintro e w7 ⟨rfl, hlx7, hgr⟩; have HG7 := Lib.hid (show wd.grownBy w7 (some gx) from hgr); clear hlx7 hgr)
  have HW7 := Lib.hid (HW6.out.over_ HLX6.out HWW.out HAW.out HG7.out)
  have HO7 := Lib.hid (HO6.out.so (SameO.over_ HLX6.out HG7.out))
  have HU7 := Lib.hid (HU6.out.kept (fun j hj => grown_at HG7.out j (HU6.out.lt j hj).2 (fun hh => by injection hh with hh; have := (HU6.out.lt j hj).1; have := HGX4.out; omega)))
  have HV7 := Lib.hid (HV6.out.kept (fun j hj => grown_at HG7.out j (HV6.out.lt j hj).2 (fun hh => by injection hh with hh; have := (HV6.out.lt j hj).1; have := HGX4.out; omega)))
  have HZ7 := Lib.hid (show TBlk w7 z R.t hu from Blk.grown HZ6.out HG7.out (fun hh => by obtain ⟨g', e, -, hb⟩ := HLX6.out; injection e with e; injection e with e; injection e with e; injection hh with hh; exact Blk.ne_ HZ6.out hb (by decide) (hh.trans e)))
  have HS7 := Lib.hid (Nat.le_trans HS6.out HG7.out.size)
  clear HW6 HO6 HLX6 HU6 HV6 HZ6 HG7 HCY6 k6 k10
  have HDT7 := Lib.hid (HD.out.below HW7.out.r.low)
  have HWW7 := Lib.hid HW7.out.r.low.size
  go_cut [17, 18, 19] (fun a b e wx => ∃ (z2 : Nat) (hu2 bv2 : Value), a = .pointer (some ⟨z2, 0, none⟩) ∧ b = bv2 ∧ e = .int .i64 R.e ∧ w7.heap.size ≤ z2 ∧ TBlk wx z2 R.t hu2 ∧ OwnB wx w7.heap.size hu2 R.h ∧ OwnB wx w7.heap.size bv2 R.out ∧ Below w7.heap.size w7 wx)
  case first =>
    have HB := Lib.hid (below_drew w7)
    refine wp_region_held_drew (S := fun wx => Below w7.heap.size w7 wx) (by kernel_rfl) HB.out (fun hHeld => ?_)
    generalize w7.drew = wd at HB hHeld ⊢
    refine wpAnyH_takeD 138 (i := 0) (v := .pointer (some ⟨q, 0, none⟩)) rfl rfl (by kernel_rfl) (by kernel_rfl) (by kernel_rfl) (fun _ _ _ h => h) (Or.inl ⟨by rfl, fun wq hSw => by go_simp⟩) (by assumption) ?_
    simp only [Act.put, List.setIfInBounds_toArray, List.set_cons_zero, List.set_cons_succ]
    refine wpAnyH_takeD 139 (i := 1) (v := .pointer (some ⟨q, 0, none⟩)) rfl rfl (by kernel_rfl) (by kernel_rfl) (by kernel_rfl) (fun _ _ _ h => h) (Or.inl ⟨by rfl, fun wq hSw => by go_simp⟩) (by assumption) ?_
    simp only [Act.put, List.setIfInBounds_toArray, List.set_cons_zero, List.set_cons_succ]
    refine wpAnyH_takeD 140 (i := 2) (v := .pointer (some ⟨q, 1, none⟩)) rfl rfl (by kernel_rfl) (by kernel_rfl) (by kernel_rfl) (fun _ _ _ h => h) (Or.inl ⟨by rfl, fun wq hSw => by go_simp⟩) (by assumption) ?_
    simp only [Act.put, List.setIfInBounds_toArray, List.set_cons_zero, List.set_cons_succ]
    refine wpAnyH_takeD 141 (i := 3) (v := .pointer (some ⟨gr, 0, none⟩)) rfl rfl (by kernel_rfl) (by kernel_rfl) (by kernel_rfl) (fun _ _ _ h => h) (Or.inl ⟨by rfl, fun wq hSw => by have k := (HW7.out.call hSw).q1; go_simp⟩) (by assumption) ?_
    simp only [Act.put, List.setIfInBounds_toArray, List.set_cons_zero, List.set_cons_succ]
    refine wpAnyH_takeD 142 (i := 4) (v := .pointer (some ⟨q, 0, none⟩)) rfl rfl (by kernel_rfl) (by kernel_rfl) (by kernel_rfl) (fun _ _ _ h => h) (Or.inl ⟨by rfl, fun wq hSw => by go_simp⟩) (by assumption) ?_
    simp only [Act.put, List.setIfInBounds_toArray, List.set_cons_zero, List.set_cons_succ]
    refine wpAnyH_takeD 143 (i := 5) (v := .pointer (some ⟨q, 0, none⟩)) rfl rfl (by kernel_rfl) (by kernel_rfl) (by kernel_rfl) (fun _ _ _ h => h) (Or.inl ⟨by rfl, fun wq hSw => by go_simp⟩) (by assumption) ?_
    simp only [Act.put, List.setIfInBounds_toArray, List.set_cons_zero, List.set_cons_succ]
    refine wpAnyH_takeD 144 (i := 6) (v := .pointer (some ⟨q, 3, none⟩)) rfl rfl (by kernel_rfl) (by kernel_rfl) (by kernel_rfl) (fun _ _ _ h => h) (Or.inl ⟨by rfl, fun wq hSw => by go_simp⟩) (by assumption) ?_
    simp only [Act.put, List.setIfInBounds_toArray, List.set_cons_zero, List.set_cons_succ]
    refine wpAnyH_takeD 145 (i := 7) (v := .slice (some ⟨gw, 0, none⟩) ts.length capw) rfl rfl (by kernel_rfl) (by kernel_rfl) (by kernel_rfl) (fun _ _ _ h => h) (Or.inl ⟨by rfl, fun wq hSw => by have k := (HW7.out.call hSw).q3; go_simp⟩) (by assumption) ?_
    simp only [Act.put, List.setIfInBounds_toArray, List.set_cons_zero, List.set_cons_succ]
    refine wpAnyH_takeD 146 (i := 8) (v := .int .i64 (k : Int)) rfl rfl (by kernel_rfl) (by kernel_rfl) (by kernel_rfl) (fun _ _ _ h => h) (Or.inl ⟨by rfl, fun wq hSw => by go_simp⟩) (by assumption) ?_
    simp only [Act.put, List.setIfInBounds_toArray, List.set_cons_zero, List.set_cons_succ]
    refine wpAnyH_takeD 147 (i := 9) (v := .pointer (some ⟨gw, k * 7, none⟩)) rfl rfl (by kernel_rfl) (by kernel_rfl) (by kernel_rfl) (fun _ _ _ h => h) (Or.inl ⟨by rfl, fun wq hSw => by go_simp⟩) (by assumption) ?_
    simp only [Act.put, List.setIfInBounds_toArray, List.set_cons_zero, List.set_cons_succ]
    refine wpAnyH_takeD 148 (i := 10) rfl rfl (by kernel_rfl) (by kernel_rfl) (by kernel_rfl) (fun _ _ _ h => h) (yieldsIf_load_mid (by rfl) _ _ rfl _ _ rfl (talkL x.t x.hw) _ (fun _ hS => (HW7.out.call hS).w_range HX.out) Tryz.underlying54 rfl talk_size) (by assumption) ?_
    simp only [Act.put, List.setIfInBounds_toArray, List.set_cons_zero, List.set_cons_succ]
    refine wpAnyH_takeD 149 (i := 11) (v := .pointer (some ⟨ob, 2, none⟩)) rfl rfl (by kernel_rfl) (by kernel_rfl) (by kernel_rfl) (fun _ _ _ h => h) (Or.inl ⟨by rfl, fun wq hSw => by go_simp⟩) (by assumption) ?_
    simp only [Act.put, List.setIfInBounds_toArray, List.set_cons_zero, List.set_cons_succ]
    refine wpAnyH_takeD 150 (i := 12) (v := .int .i64 o.n) rfl rfl (by kernel_rfl) (by kernel_rfl) (by kernel_rfl) (fun _ _ _ h => h) (Or.inl ⟨by rfl, fun wq hSw => by have k : wq.cell? ⟨ob, 2, none⟩ = some (.int .i64 o.n) := Blk.cell (HO7.out.below hSw) 2; go_simp⟩) (by assumption) ?_
    simp only [Act.put, List.setIfInBounds_toArray, List.set_cons_zero, List.set_cons_succ]
    refine wpAnyH_ready (rs := [13, 18]) (by kernel_rfl) (by simp) ?_
    refine AllReadyH.cons rfl (fun K hK => ?_) (AllReadyH.cons rfl (fun K hK => ?_) AllReadyH.nil)
    · as_aux_lemma =>
        rw [if_pos (by rfl)]
        go_simp
        (with_reducible refine (refRead_calls gr L x.t x.hw x.l o.n _ (HDT7.out.below hHeld).rt (((HW7.out.call hHeld).tk x HXM.out).2.bys) HXK.out HKS.out HNN.out).mono ?_)
        rw [HRX.out]
        rintro e wy ⟨⟨hu2, bv2, rfl, h1, h2⟩, hb⟩
        dsimp only
        have HX1 := Lib.hid (h1.more HB.out.size)
        have HY1 := Lib.hid (h2.more HB.out.size)
        replace HB := Lib.hid (HB.out.trans (hb.mono HB.out.size))
        clear h1 h2 hb hHeld
        refine hK.out _ _ HB.out (fun hHeld => ?_)
        clear hK
        refine wpAnyH_takeD 137 (i := 14) (v := .tuple #[talkV R.t hu2, bv2, .int .i64 R.e]) rfl rfl (by kernel_rfl) (by kernel_rfl) (by kernel_rfl) (fun _ _ _ h => h) (Or.inl ⟨by rfl, fun wq hSw => by go_simp⟩) (by assumption) ?_
        simp only [Act.put, List.setIfInBounds_toArray, List.set_cons_zero, List.set_cons_succ]
        refine wpAnyH_takeD 152 (i := 15) (v := talkV R.t hu2) rfl rfl (by kernel_rfl) (by kernel_rfl) (by kernel_rfl) (fun _ _ _ h => h) (Or.inl ⟨by rfl, fun wq hSw => by go_simp⟩) (by assumption) ?_
        simp only [Act.put, List.setIfInBounds_toArray, List.set_cons_zero, List.set_cons_succ]
        refine wpAnyH_takeD 153 (i := 16) (v := bv2) rfl rfl (by kernel_rfl) (by kernel_rfl) (by kernel_rfl) (fun _ _ _ h => h) (Or.inl ⟨by rfl, fun wq hSw => by go_simp⟩) (by assumption) ?_
        simp only [Act.put, List.setIfInBounds_toArray, List.set_cons_zero, List.set_cons_succ]
        refine wpAnyH_takeD 154 (i := 17) (v := .int .i64 R.e) rfl rfl (by kernel_rfl) (by kernel_rfl) (by kernel_rfl) (fun _ _ _ h => h) (Or.inl ⟨by rfl, fun wq hSw => by go_simp⟩) (by assumption) ?_
        simp only [Act.put, List.setIfInBounds_toArray, List.set_cons_zero, List.set_cons_succ]
        refine wpAnyH_ready (rs := [18]) (by kernel_rfl) (by simp) ?_
        refine AllReadyH.cons rfl (fun K hK => ?_) AllReadyH.nil
        rw [if_pos (by rfl)]
        go_simp
        have hzl := HB.out.size
        have HZ := Lib.hid (TBlk.zero wy)
        replace HX1 := Lib.hid (HX1.out.below ((Below.refl _ _).alloc (Nat.le_refl _) (Obj.cells #[.string ⟨#[]⟩, .string ⟨#[]⟩, .int .u64 0, .int .u64 0, .int .u8 0, .int .i64 0, .slice none 0 0] 54)))
        replace HY1 := Lib.hid (HY1.out.below ((Below.refl _ _).alloc (Nat.le_refl _) (Obj.cells #[.string ⟨#[]⟩, .string ⟨#[]⟩, .int .u64 0, .int .u64 0, .int .u8 0, .int .i64 0, .slice none 0 0] 54)))
        replace HB := Lib.hid (HB.out.alloc HB.out.size (Obj.cells #[.string ⟨#[]⟩, .string ⟨#[]⟩, .int .u64 0, .int .u64 0, .int .u8 0, .int .i64 0, .slice none 0 0] 54))
        generalize wy.alloc (Obj.cells #[.string ⟨#[]⟩, .string ⟨#[]⟩, .int .u64 0, .int .u64 0, .int .u8 0, .int .i64 0, .slice none 0 0] 54) = wa at HZ HB HX1 HY1 ⊢
        generalize wy.heap.size = z at HZ hzl ⊢
        clear hHeld
        refine hK.out _ _ HB.out (fun hHeld => ?_)
        clear hK
        refine wpAnyH_ready (rs := [19]) (by kernel_rfl) (by simp) ?_
        refine AllReadyH.cons rfl (fun K hK => ?_) AllReadyH.nil
        rw [if_pos (by rfl)]
        refine wp_storeT HZ.out R.t hu2 HX1.out.one _ _ rfl rfl rfl rfl ?_
        have HX12 := Lib.hid (HX1.out.far (HX1.out.blk_ne HZ.out (by decide)) (setCells_other _ z (talkL R.t hu2) 0))
        have HY12 := Lib.hid (HY1.out.far (HY1.out.blk_ne HZ.out (by decide)) (setCells_other _ z (talkL R.t hu2) 0))
        have HB2 := Lib.hid (below_setCells HB.out hzl (talkL R.t hu2) 0)
        have HZ2 := Lib.hid (setTalk (u := R.t) (hu := hu2) HZ.out)
        clear hHeld
        refine hK.out _ _ HB2.out (fun hHeld => ?_)
        clear hK
        refine wpAnyH_takeD 18 (i := 20) (v := bv2) rfl rfl (by kernel_rfl) (by kernel_rfl) (by kernel_rfl) (fun _ _ _ h => h) (Or.inl ⟨by rfl, fun wq hSw => by go_simp⟩) (by assumption) ?_
        simp only [Act.put, List.setIfInBounds_toArray, List.set_cons_zero, List.set_cons_succ]
        refine wpAnyH_takeD 19 (i := 21) (v := .int .i64 R.e) rfl rfl (by kernel_rfl) (by kernel_rfl) (by kernel_rfl) (fun _ _ _ h => h) (Or.inl ⟨by rfl, fun wq hSw => by go_simp⟩) (by assumption) ?_
        simp only [Act.put, List.setIfInBounds_toArray, List.set_cons_zero, List.set_cons_succ]
        refine wpAnyH_done (by kernel_rfl) ?_ _
        go_wp2_with fail
        go_meet
        case rel => exact ⟨z, hu2, bv2, rfl, rfl, rfl, hzl, HZ2.out, HX12.out, HY12.out, HB2.out⟩
    · as_aux_lemma =>
        rw [if_pos (by rfl)]
        go_simp
        have hzl := HB.out.size
        have HZ := Lib.hid (TBlk.zero wd)
        replace HB := Lib.hid (HB.out.alloc HB.out.size (Obj.cells #[.string ⟨#[]⟩, .string ⟨#[]⟩, .int .u64 0, .int .u64 0, .int .u8 0, .int .i64 0, .slice none 0 0] 54))
        generalize wd.alloc (Obj.cells #[.string ⟨#[]⟩, .string ⟨#[]⟩, .int .u64 0, .int .u64 0, .int .u8 0, .int .i64 0, .slice none 0 0] 54) = wa at HZ HB  ⊢
        generalize wd.heap.size = z at HZ hzl ⊢
        clear hHeld
        refine hK.out _ _ HB.out (fun hHeld => ?_)
        clear hK
        refine wpAnyH_ready (rs := [13]) (by kernel_rfl) (by simp) ?_
        refine AllReadyH.cons rfl (fun K hK => ?_) AllReadyH.nil
        rw [if_pos (by rfl)]
        go_simp
        (with_reducible refine (refRead_calls gr L x.t x.hw x.l o.n _ (HDT7.out.below hHeld).rt (((HW7.out.call hHeld).tk x HXM.out).2.bys) HXK.out HKS.out HNN.out).mono ?_)
        rw [HRX.out]
        rintro e wy ⟨⟨hu2, bv2, rfl, h1, h2⟩, hb⟩
        dsimp only
        have HX1 := Lib.hid (h1.more HB.out.size)
        have HY1 := Lib.hid (h2.more HB.out.size)
        replace HZ := Lib.hid (HZ.out.below hb)
        replace HB := Lib.hid (HB.out.trans (hb.mono HB.out.size))
        clear h1 h2 hb hHeld
        refine hK.out _ _ HB.out (fun hHeld => ?_)
        clear hK
        refine wpAnyH_takeD 137 (i := 14) (v := .tuple #[talkV R.t hu2, bv2, .int .i64 R.e]) rfl rfl (by kernel_rfl) (by kernel_rfl) (by kernel_rfl) (fun _ _ _ h => h) (Or.inl ⟨by rfl, fun wq hSw => by go_simp⟩) (by assumption) ?_
        simp only [Act.put, List.setIfInBounds_toArray, List.set_cons_zero, List.set_cons_succ]
        refine wpAnyH_takeD 152 (i := 15) (v := talkV R.t hu2) rfl rfl (by kernel_rfl) (by kernel_rfl) (by kernel_rfl) (fun _ _ _ h => h) (Or.inl ⟨by rfl, fun wq hSw => by go_simp⟩) (by assumption) ?_
        simp only [Act.put, List.setIfInBounds_toArray, List.set_cons_zero, List.set_cons_succ]
        refine wpAnyH_takeD 153 (i := 16) (v := bv2) rfl rfl (by kernel_rfl) (by kernel_rfl) (by kernel_rfl) (fun _ _ _ h => h) (Or.inl ⟨by rfl, fun wq hSw => by go_simp⟩) (by assumption) ?_
        simp only [Act.put, List.setIfInBounds_toArray, List.set_cons_zero, List.set_cons_succ]
        refine wpAnyH_takeD 154 (i := 17) (v := .int .i64 R.e) rfl rfl (by kernel_rfl) (by kernel_rfl) (by kernel_rfl) (fun _ _ _ h => h) (Or.inl ⟨by rfl, fun wq hSw => by go_simp⟩) (by assumption) ?_
        simp only [Act.put, List.setIfInBounds_toArray, List.set_cons_zero, List.set_cons_succ]
        refine wpAnyH_ready (rs := [19]) (by kernel_rfl) (by simp) ?_
        refine AllReadyH.cons rfl (fun K hK => ?_) AllReadyH.nil
        rw [if_pos (by rfl)]
        refine wp_storeT HZ.out R.t hu2 HX1.out.one _ _ rfl rfl rfl rfl ?_
        have HX12 := Lib.hid (HX1.out.far (HX1.out.blk_ne HZ.out (by decide)) (setCells_other _ z (talkL R.t hu2) 0))
        have HY12 := Lib.hid (HY1.out.far (HY1.out.blk_ne HZ.out (by decide)) (setCells_other _ z (talkL R.t hu2) 0))
        have HB2 := Lib.hid (below_setCells HB.out hzl (talkL R.t hu2) 0)
        have HZ2 := Lib.hid (setTalk (u := R.t) (hu := hu2) HZ.out)
        clear hHeld
        refine hK.out _ _ HB2.out (fun hHeld => ?_)
        clear hK
        refine wpAnyH_takeD 18 (i := 20) (v := bv2) rfl rfl (by kernel_rfl) (by kernel_rfl) (by kernel_rfl) (fun _ _ _ h => h) (Or.inl ⟨by rfl, fun wq hSw => by go_simp⟩) (by assumption) ?_
        simp only [Act.put, List.setIfInBounds_toArray, List.set_cons_zero, List.set_cons_succ]
        refine wpAnyH_takeD 19 (i := 21) (v := .int .i64 R.e) rfl rfl (by kernel_rfl) (by kernel_rfl) (by kernel_rfl) (fun _ _ _ h => h) (Or.inl ⟨by rfl, fun wq hSw => by go_simp⟩) (by assumption) ?_
        simp only [Act.put, List.setIfInBounds_toArray, List.set_cons_zero, List.set_cons_succ]
        refine wpAnyH_done (by kernel_rfl) ?_ _
        go_wp2_with fail
        go_meet
        case rel => exact ⟨z, hu2, bv2, rfl, rfl, rfl, hzl, HZ2.out, HX12.out, HY12.out, HB2.out⟩
  rename World => w8
  obtain ⟨z2, hu2, bv2, rfl, hbe, rfl, -, htz, hou, hov, hb8⟩ := hcut
  have HY8 := Lib.hid hov
  obtain ⟨rA2, rc2, rfl⟩ := HY8.out.val
  subst hbe
  have HB8 := Lib.hid hb8
  have HQ8 := Lib.hid htz
  have HX8 := Lib.hid hou
  clear hb8 htz hou hov
  have HW8 := Lib.hid (HW7.out.call HB8.out)
  have HU8 := Lib.hid (HU7.out.below HB8.out)
  have HV8 := Lib.hid (HV7.out.below HB8.out)
  have HZ8 := Lib.hid (HZ7.out.below HB8.out)
  clear HW7 HU7 HV7 HZ7 HB8 HO7 HDT7
  have hc1 := conv_any HV8.out.bys
  have hc2 := conv_any HY8.out.bys
  go_upto_region 20 with (fail)
  clear hc1 hc2 HY8
  have HNT := Lib.hid (show ts.length ≤ 536870912 from by have h1 := HCN.out.2.1; have h2 := HNM.out.1; omega)
  have HNB := Lib.hid (show bl.length ≤ 1073741823 from by have h1 := HCN.out.2.2; have h2 := HNM.out.2; omega)
  have HNC := Lib.hid (show cl.length ≤ 1073741823 from by rw [← HAG.out.len]; exact HNB.out)
  have HNB1 := Lib.hid (show bl.length ≤ 1073741824 from by have := HNB.out; omega)
  have HNC1 := Lib.hid (show cl.length ≤ 1073741824 from by have := HNC.out; omega)
  have HOL := Lib.hid (show R.out.length ≤ 1099511627776 from by have := HRO.out.2.1; omega)
  have HHL := Lib.hid (show R.h.length ≤ 1099511627776 from by have := HRO.out.2.2; omega)
  go_upto_region 21 with (go_at_call 80; (with_reducible refine (keeps_calls HW8.out.r w4.heap.size (.slice rA R.out.length rc) R.out HV8.out HOL.out HNB1.out HNC1.out).mono ?_); rintro e w9 ⟨rfl, vb9, vc9, c9, hr9, hc9, hs9⟩; have HR9 := Lib.hid hr9; have HC9 := Lib.hid hc9; have HS9 := Lib.hid hs9; clear hr9 hc9 hs9)
  have HW9 := Lib.hid (HW8.out.keep1 HR9.out HS9.out.s8 HV8.out HWW4.out HC9.out (fun j hj => ⟨HW4.out.ob.lt (HV8.out.lt j hj).1, HW4.out.oc.lt (HV8.out.lt j hj).1⟩))
  have HU9 := Lib.hid ((HU8.out.same8 HS9.out.s8).more HWW4.out)
  have HX9 := Lib.hid ((HX8.out.same8 HS9.out.s8).more HWW7.out)
  have HZ9 := Lib.hid (show TBlk w9 z R.t hu from HS9.out.blk rfl HZ8.out)
  have HQ9 := Lib.hid (show TBlk w9 z2 R.t hu2 from HS9.out.blk rfl HQ8.out)
  have HFR := Lib.hid (show ∀ j, hu.ownBlock = some j → Free (bl ++ [(.slice rA R.out.length rc, R.out)]) j ∧ Free (cl ++ [(c9, R.out)]) j from fun j hj => ⟨(HW4.out.ob.lt (HU8.out.lt j hj).1).snoc (HNE.out j hj), (HW4.out.oc.lt (HU8.out.lt j hj).1).snoc (fun hh => by have h1 := (HC9.out.lt j hh).1; have h2 := (HU8.out.lt j hj).2; omega)⟩)
  have HNB2 := Lib.hid (show (bl ++ [(Value.slice rA R.out.length rc, R.out)]).length ≤ 1073741824 from by rw [List.length_append, List.length_singleton]; have := HNB.out; omega)
  have HNC2 := Lib.hid (show (cl ++ [(c9, R.out)]).length ≤ 1073741824 from by rw [List.length_append, List.length_singleton]; have := HNC.out; omega)
  clear HW8 HR9 HU8 HX8 HZ8 HQ8 HV8 HC9
  go_upto_region 22 with (first
    | (refine wT HZ9.out rfl _ rfl rfl ?_)
    | (refine wT HQ9.out rfl _ rfl rfl ?_)
    | (go_at_call 29; (with_reducible refine (takes_calls HW9.out R.t hu hu2 R.h R.e HU9.out HX9.out HFR.out HHL.out HNT.out HNB2.out HNC2.out).mono ?_); rintro e w10 ⟨rfl, ⟨vt10, vw10, vb10, vc10, c10, hwb10, hcn10⟩, hs10⟩; have HW10 := Lib.hid hwb10; clear hwb10 hcn10 hs10))
  have HDW := Lib.hid (show DW W0 q gu gr lo (n + 1) (m + 1 + 1) (fun _ => False) w10 from DW.took (x := ⟨R.t, hu, hu2, R.h⟩) (e := R.e) HW10.out (HAG.out.snoc _ _ _) (snoc_all HLN.out (by have := HRO.out.2.1; omega)) HTK.out HCN.out.1 HCN.out.2.1 (by rw [List.length_append, List.length_singleton]; have := HCN.out.2.2; omega) HRO.out.1 (by have := HRO.out.2.2; omega))
  clear HW9 HW10 HZ9 HQ9 HU9 HX9
  go_wp2_with fail
  go_ret
  exact ⟨rfl, HDW.out.more (by omega) (by omega) (fun _ h => h)⟩
end Go.Proofs.YtlenlldiimohjaaGreatDoor
