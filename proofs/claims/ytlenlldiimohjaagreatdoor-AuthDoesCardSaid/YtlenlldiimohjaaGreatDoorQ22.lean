/-
  ADoI: what AuthDoes needs of them.
-/
import Derived.Test.YtlenlldiimohjaaGreatDoorQ19
namespace Go.Proofs.YtlenlldiimohjaaGreatDoor
open Go.RowKit SumLaw

set_option maxRecDepth 100000 in
set_option maxHeartbeats 12800000 in
/-- Allows. -/
theorem step6_calls {W0 w : World} {q gu gr lo n m : Nat} {L : List Acct} (hd : DT W0 gu gr L) (h : DW W0 q gu gr lo n m (fun _ => False) w) (hl0 : 0 < lo) (o : OpD) (v : OpV) (hok : OpOk W0 W0.heap.size o v) (hw : o.weight ≤ 268435456) (hn : n ≤ 268435456) (hm : m ≤ 268435456) (hkd : o.kind = 6) :
    Calls Tryz.prog 30 #[.pointer (some ⟨q, 0, none⟩), opV o v] w fun e w' => StepE W0 q gu gr lo n m e w' := by
  obtain ⟨hk, hu, ht, hb28, hc28, hl28⟩ := weight_key o hw
  have HD := Lib.hid hd
  have HOK := Lib.hid hok
  have HK28 := Lib.hid hk
  have HU28 := Lib.hid hu
  have HT28 := Lib.hid ht
  have HB28 := Lib.hid hb28
  have HC28 := Lib.hid hc28
  have HL28 := Lib.hid hl28
  have HWT := Lib.hid hw
  have HNM := Lib.hid (And.intro hn hm)
  have HB1 := Lib.hid ((Below.refl w.heap.size w).alloc (Nat.le_refl _) (Obj.cells (opL o v).toArray 92))
  have HO1 := Lib.hid (show OBlk (w.alloc (Obj.cells (opL o v).toArray 92)) w.heap.size o v from Blk.new w _ _)
  have HD1 := Lib.hid (h.call HB1.out)
  have HL0 := Lib.hid hl0
  have HKD := Lib.hid hkd
  clear hkd hd hok hk hu ht hb28 hc28 hl28 h hw hn hm hl0
  go_enter Tryz.func30, Tryz.ntmps30
  go_upto_region 1 with (fail)
  change Code.wp _ _ _ _ (w.alloc (Obj.cells (opL o v).toArray 92))
  generalize w.alloc (Obj.cells (opL o v).toArray 92) = w1 at HB1 HO1 HD1 ⊢
  generalize w.heap.size = ob at HO1 ⊢
  clear HB1
  obtain ⟨vt, vw, vb, vc, ts, bl, cl, hwb, hag, hlen, htk, hlo, hnn, hmm, -⟩ := HD1.out
  have HW1 := Lib.hid hwb
  have HAG := Lib.hid hag
  have HLN := Lib.hid hlen
  have HTK := Lib.hid htk
  have HCN := Lib.hid (And.intro hlo (And.intro hnn hmm))
  have HT0 := Lib.hid (show 0 < ts.length from Nat.lt_of_lt_of_le HL0.out hlo)
  clear hwb hag hlen htk hlo hnn hmm
  obtain ⟨k, hk⟩ : ∃ z, atN o.at_ ts.length = z := ⟨_, rfl⟩
  have HKE := Lib.hid hk
  have HKT := Lib.hid (show k < ts.length from by rw [← hk]; exact atN_lt o.at_ HT0.out)
  clear hk
  have k1 : w1.cell? ⟨ob, 1, none⟩ = some (.int .i64 o.at_) := Blk.cell HO1.out 1
  go_upto_region 2 with (go_at_call 81; (with_reducible refine (at_calls HW1.out.r o.at_ HOK.out.ha HT0.out).mono ?_); rw [HKE.out]; rintro e w2 ⟨rfl, rfl⟩)
  clear k1
  have k0 : w1.cell? ⟨ob, 0, none⟩ = some (.int .i64 6) := by rw [← HKD.out]; exact Blk.cell HO1.out 0
  obtain ⟨At, capt, rfl, htc, htm⟩ := len_of HW1.out.r.rt
  obtain ⟨Aw, capw, rfl, hwc, hwm⟩ := len_of HW1.out.r.rw_
  unfold maxLen at htm hwm
  have hkt : k < ts.length := HKT.out
  have hkt' : (k : Int) < (ts.length : Int) := by omega
  obtain ⟨gt, rfl⟩ := head_some HW1.out.r.rt (by omega)
  obtain ⟨gw, rfl⟩ := head_some HW1.out.r.rw_ (by omega)
  obtain ⟨x, hx⟩ : ∃ x, ts[k]? = some x := ⟨_, List.getElem?_eq_getElem hkt⟩
  have HX := Lib.hid hx
  have HXM := Lib.hid (List.mem_of_getElem? hx)
  have HXK := Lib.hid (HTK.out x HXM.out)
  have HUS := Lib.hid HXK.out.1
  have HTS := Lib.hid HXK.out.2.1
  have HOR := Lib.hid HXK.out.2.2.1
  have H33 := Lib.hid (show x.l.length ≤ 33 from HXK.out.2.2.2.1)
  have H47 := Lib.hid (show x.l.length ≤ 1099511627776 from by have := H33.out; omega)
  have HKS := Lib.hid (HD.out.ks x.t.user)
  have HNN := Lib.hid HOK.out.hn
  clear hx
  have k2 : w1.cell? ⟨q, 2, none⟩ = some (.slice (some ⟨gt, 0, none⟩) ts.length capt) := HW1.out.q2
  have HR7 := Lib.hid (HW1.out.t_range HX.out)
  have HXY := Lib.hid ((HW1.out.tk x HXM.out).1.bys)
  go_upto_region 28 with (fail)
  clear k0
  go_upto_region 29 with (first
    | (refine wTrow HR7.out rfl _ rfl rfl ?_)
    | (go_at_call 85; (with_reducible refine (lheard_calls x.t x.hv x.l _ HXY.out H33.out).mono ?_); rintro e w3 ⟨⟨ux, rfl, hlx⟩, hb⟩; obtain ⟨gx, rfl, hgx⟩ := hlx; have HLX := Lib.hid (show Lent w3 w1.heap.size (.slice (some ⟨gx, 0, none⟩) x.l.length (x.l.length + 3)) x.l from ⟨gx, rfl, hgx⟩); have HB3 := Lib.hid hb; clear hgx hb)
    | (refine wstT (TBlk.zero w3) x.t (.slice (some ⟨gx, 0, none⟩) x.l.length (x.l.length + 3)) rfl rfl _ _ rfl rfl rfl ?_; intro w4 hs ho hbl; have HXB := Lib.hid hs; have HB4 := Lib.hid (hbl _ _ (HB3.out.alloc HB3.out.size _) HB3.out.size); have HLX4 := Lib.hid (HLX.out.below (hbl _ _ ((Below.refl w3.heap.size w3).alloc (Nat.le_refl _) (Obj.cells #[.string ⟨#[]⟩, .string ⟨#[]⟩, .int .u64 0, .int .u64 0, .int .u8 0, .int .i64 0, .slice none 0 0] 54)) (Nat.le_refl _))); clear hs ho hbl))
  clear k2 HR7 HXY HLX HB3
  generalize w3.heap.size = xb at HXB ⊢
  have HW4 := Lib.hid (HW1.out.call HB4.out)
  have HO4 := Lib.hid (HO1.out.below HB4.out)
  have HDT4 := Lib.hid (HD.out.below HW4.out.r.low)
  have HWW := Lib.hid (show W0.heap.size ≤ w1.heap.size from HW1.out.r.low.size)
  have HWW4 := Lib.hid (show W0.heap.size ≤ w4.heap.size from HW4.out.r.low.size)
  have HGX := Lib.hid HLX4.out.ge_
  have HGX4 := Lib.hid HLX4.out.lt_
  have HAW := Lib.hid (HW1.out.away_new HGX.out)
  clear HD1 HW1 HO1 HB4
  have k4 : w4.cell? ⟨ob, 4, none⟩ = some (.string o.user) := Blk.cell HO4.out 4
  have k5 : w4.cell? ⟨ob, 5, none⟩ = some (.string o.tree) := Blk.cell HO4.out 5
  go_upto_region 30 with (first
    | (refine wT HXB.out rfl _ rfl rfl ?_)
    | (go_at_call 19; (with_reducible refine (allows_calls x.t (.slice (some ⟨gx, 0, none⟩) x.l.length (x.l.length + 3)) o.user o.tree _).mono ?_); rintro e w5 ⟨rfl, hb⟩; have HB5 := Lib.hid hb; clear hb))
  clear k4 k5
  have HW5 := Lib.hid (HW4.out.call HB5.out)
  have HO5 := Lib.hid (HO4.out.below HB5.out)
  have HLX5 := Lib.hid (HLX4.out.below HB5.out)
  have HXB5 := Lib.hid (HXB.out.below HB5.out)
  clear HXB HO4 HDT4 HB5 HLX4 HW4
  refine wp_region_held_drew (S := fun wx => Below w5.heap.size w5 wx) (by kernel_rfl) (below_drew w5) (fun hHeld => ?_)
  generalize w5.drew = wd at hHeld ⊢
  refine wpAnyH_takeD 228 (i := 0) (v := .pointer (some ⟨xb, 6, none⟩)) rfl rfl (by kernel_rfl) (by kernel_rfl) (by kernel_rfl) (fun _ _ _ h => h) (Or.inl ⟨by rfl, fun wq hSw => by go_simp⟩) (by assumption) ?_
  simp only [Act.put, List.setIfInBounds_toArray, List.set_cons_zero, List.set_cons_succ]
  refine wpAnyH_takeD 229 (i := 1) (v := .slice (some ⟨gx, 0, none⟩) x.l.length (x.l.length + 3)) rfl rfl (by kernel_rfl) (by kernel_rfl) (by kernel_rfl) (fun _ _ _ h => h) (Or.inl ⟨by rfl, fun wq hSw => by have k : wq.cell? ⟨xb, 6, none⟩ = some (.slice (some ⟨gx, 0, none⟩) x.l.length (x.l.length + 3)) := Blk.cell (HXB5.out.below hSw) 6; go_simp⟩) (by assumption) ?_
  simp only [Act.put, List.setIfInBounds_toArray, List.set_cons_zero, List.set_cons_succ]
  refine wpAnyH_takeD 230 (i := 2) (v := .pointer (some ⟨q, 0, none⟩)) rfl rfl (by kernel_rfl) (by kernel_rfl) (by kernel_rfl) (fun _ _ _ h => h) (Or.inl ⟨by rfl, fun wq hSw => by go_simp⟩) (by assumption) ?_
  simp only [Act.put, List.setIfInBounds_toArray, List.set_cons_zero, List.set_cons_succ]
  refine wpAnyH_takeD 231 (i := 3) (v := .pointer (some ⟨q, 0, none⟩)) rfl rfl (by kernel_rfl) (by kernel_rfl) (by kernel_rfl) (fun _ _ _ h => h) (Or.inl ⟨by rfl, fun wq hSw => by go_simp⟩) (by assumption) ?_
  simp only [Act.put, List.setIfInBounds_toArray, List.set_cons_zero, List.set_cons_succ]
  refine wpAnyH_takeD 232 (i := 4) (v := .pointer (some ⟨q, 2, none⟩)) rfl rfl (by kernel_rfl) (by kernel_rfl) (by kernel_rfl) (fun _ _ _ h => h) (Or.inl ⟨by rfl, fun wq hSw => by go_simp⟩) (by assumption) ?_
  simp only [Act.put, List.setIfInBounds_toArray, List.set_cons_zero, List.set_cons_succ]
  refine wpAnyH_takeD 233 (i := 5) (v := .slice (some ⟨gt, 0, none⟩) ts.length capt) rfl rfl (by kernel_rfl) (by kernel_rfl) (by kernel_rfl) (fun _ _ _ h => h) (Or.inl ⟨by rfl, fun wq hSw => by have k := (HW5.out.call hSw).q2; go_simp⟩) (by assumption) ?_
  simp only [Act.put, List.setIfInBounds_toArray, List.set_cons_zero, List.set_cons_succ]
  refine wpAnyH_takeD 234 (i := 6) (v := .int .i64 (k : Int)) rfl rfl (by kernel_rfl) (by kernel_rfl) (by kernel_rfl) (fun _ _ _ h => h) (Or.inl ⟨by rfl, fun wq hSw => by go_simp⟩) (by assumption) ?_
  simp only [Act.put, List.setIfInBounds_toArray, List.set_cons_zero, List.set_cons_succ]
  refine wpAnyH_takeD 235 (i := 7) (v := .pointer (some ⟨gt, k * 7, none⟩)) rfl rfl (by kernel_rfl) (by kernel_rfl) (by kernel_rfl) (fun _ _ _ h => h) (Or.inl ⟨by rfl, fun wq hSw => by go_simp⟩) (by assumption) ?_
  simp only [Act.put, List.setIfInBounds_toArray, List.set_cons_zero, List.set_cons_succ]
  refine wpAnyH_takeD 236 (i := 8) (v := .pointer (some ⟨gt, k * 7 + 6, none⟩)) rfl rfl (by kernel_rfl) (by kernel_rfl) (by kernel_rfl) (fun _ _ _ h => h) (Or.inl ⟨by rfl, fun wq hSw => by go_simp⟩) (by assumption) ?_
  simp only [Act.put, List.setIfInBounds_toArray, List.set_cons_zero, List.set_cons_succ]
  refine wpAnyH_takeD 237 (i := 9) (v := x.hv) rfl rfl (by kernel_rfl) (by kernel_rfl) (by kernel_rfl) (fun _ _ _ h => h) (Or.inl ⟨by rfl, fun wq hSw => by have k := row_said ((HW5.out.call hSw).t_range HX.out); go_simp⟩) (by assumption) ?_
  simp only [Act.put, List.setIfInBounds_toArray, List.set_cons_zero, List.set_cons_succ]
  refine wpAnyH_ready (rs := [10]) (by kernel_rfl) (by simp) ?_
  refine AllReadyH.cons rfl (fun K hK => ?_) AllReadyH.nil
  rw [if_pos (by rfl)]
  go_simp
  (with_reducible refine (left_calls w1.heap.size (.slice (some ⟨gx, 0, none⟩) x.l.length (x.l.length + 3)) x.hv x.l _ (HLX5.out.below hHeld) ((HW5.out.call hHeld).tk x HXM.out).1.bys H47.out).mono ?_)
  rintro e w7 ⟨rfl, rfl⟩
  dsimp only
  refine hK.out _ _ hHeld (fun hHeld => ?_)
  clear hK
  refine wpAnyH_takeD 24 (i := 11) (v := .bool true) rfl rfl (by kernel_rfl) (by kernel_rfl) (by kernel_rfl) (fun _ _ _ h => h) (Or.inl ⟨by rfl, fun wq hSw => by go_simp⟩) (by assumption) ?_
  simp only [Act.put, List.setIfInBounds_toArray, List.set_cons_zero, List.set_cons_succ]
  refine wpAnyH_done (by kernel_rfl) ?_ _
  have HW6 := Lib.hid (HW5.out.call hHeld)
  have HO6 := Lib.hid (HO5.out.below hHeld)
  clear HW5 HO5 HLX5 HXB5 hHeld
  generalize wd = w6 at HW6 HO6 ⊢
  go_upto_region 31 with (fail)
  refine wp_region_held_drew (S := fun wx => Below w6.heap.size w6 wx) (by kernel_rfl) (below_drew w6) (fun hHeld => ?_)
  generalize w6.drew = wd at hHeld ⊢
  refine wpAnyH_takeD 239 (i := 0) (v := .bool true) rfl rfl (by kernel_rfl) (by kernel_rfl) (by kernel_rfl) (fun _ _ _ h => h) (Or.inl ⟨by rfl, fun wq hSw => by go_simp⟩) (by assumption) ?_
  simp only [Act.put, List.setIfInBounds_toArray, List.set_cons_zero, List.set_cons_succ]
  refine wpAnyH_takeD 240 (i := 1) (v := .bool true) rfl rfl (by kernel_rfl) (by kernel_rfl) (by kernel_rfl) (fun _ _ _ h => h) (Or.inl ⟨by rfl, fun wq hSw => by go_simp⟩) (by assumption) ?_
  simp only [Act.put, List.setIfInBounds_toArray, List.set_cons_zero, List.set_cons_succ]
  refine wpAnyH_takeD 241 (i := 2) (v := .int .i64 (allowsS x.t o.user o.tree)) rfl rfl (by kernel_rfl) (by kernel_rfl) (by kernel_rfl) (fun _ _ _ h => h) (Or.inl ⟨by rfl, fun wq hSw => by go_simp⟩) (by assumption) ?_
  simp only [Act.put, List.setIfInBounds_toArray, List.set_cons_zero, List.set_cons_succ]
  refine wpAnyH_takeD 242 (i := 3) (v := .pointer (some ⟨q, 0, none⟩)) rfl rfl (by kernel_rfl) (by kernel_rfl) (by kernel_rfl) (fun _ _ _ h => h) (Or.inl ⟨by rfl, fun wq hSw => by go_simp⟩) (by assumption) ?_
  simp only [Act.put, List.setIfInBounds_toArray, List.set_cons_zero, List.set_cons_succ]
  refine wpAnyH_takeD 243 (i := 4) (v := .pointer (some ⟨q, 0, none⟩)) rfl rfl (by kernel_rfl) (by kernel_rfl) (by kernel_rfl) (fun _ _ _ h => h) (Or.inl ⟨by rfl, fun wq hSw => by go_simp⟩) (by assumption) ?_
  simp only [Act.put, List.setIfInBounds_toArray, List.set_cons_zero, List.set_cons_succ]
  refine wpAnyH_takeD 244 (i := 5) (v := .pointer (some ⟨q, 3, none⟩)) rfl rfl (by kernel_rfl) (by kernel_rfl) (by kernel_rfl) (fun _ _ _ h => h) (Or.inl ⟨by rfl, fun wq hSw => by go_simp⟩) (by assumption) ?_
  simp only [Act.put, List.setIfInBounds_toArray, List.set_cons_zero, List.set_cons_succ]
  refine wpAnyH_takeD 245 (i := 6) (v := .slice (some ⟨gw, 0, none⟩) ts.length capw) rfl rfl (by kernel_rfl) (by kernel_rfl) (by kernel_rfl) (fun _ _ _ h => h) (Or.inl ⟨by rfl, fun wq hSw => by have k := (HW6.out.call hSw).q3; go_simp⟩) (by assumption) ?_
  simp only [Act.put, List.setIfInBounds_toArray, List.set_cons_zero, List.set_cons_succ]
  refine wpAnyH_takeD 246 (i := 7) (v := .int .i64 (k : Int)) rfl rfl (by kernel_rfl) (by kernel_rfl) (by kernel_rfl) (fun _ _ _ h => h) (Or.inl ⟨by rfl, fun wq hSw => by go_simp⟩) (by assumption) ?_
  simp only [Act.put, List.setIfInBounds_toArray, List.set_cons_zero, List.set_cons_succ]
  refine wpAnyH_takeD 247 (i := 8) (v := .pointer (some ⟨gw, k * 7, none⟩)) rfl rfl (by kernel_rfl) (by kernel_rfl) (by kernel_rfl) (fun _ _ _ h => h) (Or.inl ⟨by rfl, fun wq hSw => by go_simp⟩) (by assumption) ?_
  simp only [Act.put, List.setIfInBounds_toArray, List.set_cons_zero, List.set_cons_succ]
  refine wpAnyH_takeD 248 (i := 9) rfl rfl (by kernel_rfl) (by kernel_rfl) (by kernel_rfl) (fun _ _ _ h => h) (yieldsIf_load_mid (by rfl) _ _ rfl _ _ rfl (talkL x.t x.hw) _ (fun _ hS => (HW6.out.call hS).w_range HX.out) Tryz.underlying54 rfl talk_size) (by assumption) ?_
  simp only [Act.put, List.setIfInBounds_toArray, List.set_cons_zero, List.set_cons_succ]
  refine wpAnyH_takeD 249 (i := 10) (v := .pointer (some ⟨ob, 4, none⟩)) rfl rfl (by kernel_rfl) (by kernel_rfl) (by kernel_rfl) (fun _ _ _ h => h) (Or.inl ⟨by rfl, fun wq hSw => by go_simp⟩) (by assumption) ?_
  simp only [Act.put, List.setIfInBounds_toArray, List.set_cons_zero, List.set_cons_succ]
  refine wpAnyH_takeD 250 (i := 11) (v := .string o.user) rfl rfl (by kernel_rfl) (by kernel_rfl) (by kernel_rfl) (fun _ _ _ h => h) (Or.inl ⟨by rfl, fun wq hSw => by have k : wq.cell? ⟨ob, 4, none⟩ = some (.string o.user) := Blk.cell (HO6.out.below hSw) 4; go_simp⟩) (by assumption) ?_
  simp only [Act.put, List.setIfInBounds_toArray, List.set_cons_zero, List.set_cons_succ]
  refine wpAnyH_takeD 251 (i := 12) (v := .pointer (some ⟨ob, 5, none⟩)) rfl rfl (by kernel_rfl) (by kernel_rfl) (by kernel_rfl) (fun _ _ _ h => h) (Or.inl ⟨by rfl, fun wq hSw => by go_simp⟩) (by assumption) ?_
  simp only [Act.put, List.setIfInBounds_toArray, List.set_cons_zero, List.set_cons_succ]
  refine wpAnyH_takeD 252 (i := 13) (v := .string o.tree) rfl rfl (by kernel_rfl) (by kernel_rfl) (by kernel_rfl) (fun _ _ _ h => h) (Or.inl ⟨by rfl, fun wq hSw => by have k : wq.cell? ⟨ob, 5, none⟩ = some (.string o.tree) := Blk.cell (HO6.out.below hSw) 5; go_simp⟩) (by assumption) ?_
  simp only [Act.put, List.setIfInBounds_toArray, List.set_cons_zero, List.set_cons_succ]
  refine wpAnyH_ready (rs := [14]) (by kernel_rfl) (by simp) ?_
  refine AllReadyH.cons rfl (fun K hK => ?_) AllReadyH.nil
  rw [if_pos (by rfl)]
  go_simp
  (with_reducible refine (refAllows_calls x.t x.hw o.user o.tree _).mono ?_)
  rintro e w7 ⟨rfl, hb⟩
  dsimp only
  refine hK.out _ _ (hHeld.trans (hb.mono hHeld.size)) (fun hHeld => ?_)
  clear hK hb
  refine wpAnyH_takeD 254 (i := 15) (v := .bool true) rfl rfl (by kernel_rfl) (by kernel_rfl) (by kernel_rfl) (fun _ _ _ h => h) (Or.inl ⟨by rfl, fun wq hSw => by go_simp⟩) (by assumption) ?_
  simp only [Act.put, List.setIfInBounds_toArray, List.set_cons_zero, List.set_cons_succ]
  refine wpAnyH_takeD 255 (i := 16) (v := .bool true) rfl rfl (by kernel_rfl) (by kernel_rfl) (by kernel_rfl) (fun _ _ _ h => h) (Or.inl ⟨by rfl, fun wq hSw => by go_simp⟩) (by assumption) ?_
  simp only [Act.put, List.setIfInBounds_toArray, List.set_cons_zero, List.set_cons_succ]
  refine wpAnyH_takeD 4 (i := 17) (v := .bool true) rfl rfl (by kernel_rfl) (by kernel_rfl) (by kernel_rfl) (fun _ _ _ h => h) (Or.inl ⟨by rfl, fun wq hSw => by go_simp⟩) (by assumption) ?_
  simp only [Act.put, List.setIfInBounds_toArray, List.set_cons_zero, List.set_cons_succ]
  refine wpAnyH_done (by kernel_rfl) ?_ _
  have HDW := Lib.hid (show DW W0 q gu gr lo n m (fun _ => False) _ from ⟨_, _, _, _, _, _, _, HW6.out.call hHeld, HAG.out, HLN.out, HTK.out, HCN.out.1, HCN.out.2.1, HCN.out.2.2, fun _ h => h.elim⟩)
  clear HW6 HO6 hHeld
  go_wp2_with fail
  go_ret
  exact ⟨rfl, HDW.out.more (by omega) (by omega) (fun _ h => h)⟩
theorem DW.q1 {W0 w : World} {q gu gr lo n m : Nat} {G : Nat → Prop} (h : DW W0 q gu gr lo n m G w) : w.cell? ⟨q, 1, none⟩ = some (.pointer (some ⟨gr, 0, none⟩)) := by
  obtain ⟨vt, vw, vb, vc, ts, bl, cl, h1, -⟩ := h
  exact h1.q1
/-- A Talk is loaded out of a row, as an arm. -/
theorem armTrow {op : Oper} {a : Act} {w : World} {K : Act → World → Prop} {Q : Exit → Act → World → Prop} {g o : Nat} {t : Tk} {hv : Value} (hr : w.rangeAt g o (talkL t hv)) (x : Operand) (ho : op.op = .load 54 x) (hx : a.eval x = .pointer (some ⟨g, o, none⟩))
    (h : K (a.put op.dst (talkV t hv)) w) : Oper.wp Tryz.prog op a w K Q := by
  have hl := run_loadVar_mid (P := Tryz.prog) w g o 54 (talkL t hv) _ hr Tryz.underlying54 rfl talk_size
  unfold Oper.wp execOp
  simp only [ho, hx, Instr.loadAt, Instr.sureAddr, Sem.run_bind, Sem.run_pure, Result.andThen_ok, hl]
  exact h
set_option maxRecDepth 100000 in
set_option maxHeartbeats 12800000 in
/-- Write of what is missing of the right answer. -/
theorem step9_calls {W0 w : World} {q gu gr lo n m : Nat} {L : List Acct} (hd : DT W0 gu gr L) (h : DW W0 q gu gr lo n m (fun _ => False) w) (hl0 : 0 < lo) (o : OpD) (v : OpV) (hok : OpOk W0 W0.heap.size o v) (hw : o.weight ≤ 268435456) (hn : n ≤ 268435456) (hm : m ≤ 268435456) (hkd : o.kind = 9) :
    Calls Tryz.prog 30 #[.pointer (some ⟨q, 0, none⟩), opV o v] w fun e w' => StepE W0 q gu gr lo n m e w' := by
  obtain ⟨hk, hu, ht, hb28, hc28, hl28⟩ := weight_key o hw
  have HD := Lib.hid hd
  have HOK := Lib.hid hok
  have HK28 := Lib.hid hk
  have HU28 := Lib.hid hu
  have HT28 := Lib.hid ht
  have HB28 := Lib.hid hb28
  have HC28 := Lib.hid hc28
  have HL28 := Lib.hid hl28
  have HWT := Lib.hid hw
  have HNM := Lib.hid (And.intro hn hm)
  have HB1 := Lib.hid ((Below.refl w.heap.size w).alloc (Nat.le_refl _) (Obj.cells (opL o v).toArray 92))
  have HO1 := Lib.hid (show OBlk (w.alloc (Obj.cells (opL o v).toArray 92)) w.heap.size o v from Blk.new w _ _)
  have HD1 := Lib.hid (h.call HB1.out)
  have HL0 := Lib.hid hl0
  have HKD := Lib.hid hkd
  clear hkd hd hok hk hu ht hb28 hc28 hl28 h hw hn hm hl0
  go_enter Tryz.func30, Tryz.ntmps30
  go_upto_region 1 with (fail)
  change Code.wp _ _ _ _ (w.alloc (Obj.cells (opL o v).toArray 92))
  generalize w.alloc (Obj.cells (opL o v).toArray 92) = w1 at HB1 HO1 HD1 ⊢
  generalize w.heap.size = ob at HO1 ⊢
  clear HB1
  obtain ⟨vt, vw, vb, vc, ts, bl, cl, hwb, hag, hlen, htk, hlo, hnn, hmm, -⟩ := HD1.out
  have HW1 := Lib.hid hwb
  have HAG := Lib.hid hag
  have HLN := Lib.hid hlen
  have HTK := Lib.hid htk
  have HCN := Lib.hid (And.intro hlo (And.intro hnn hmm))
  have HT0 := Lib.hid (show 0 < ts.length from Nat.lt_of_lt_of_le HL0.out hlo)
  clear hwb hag hlen htk hlo hnn hmm
  obtain ⟨k, hk⟩ : ∃ z, atN o.at_ ts.length = z := ⟨_, rfl⟩
  have HKE := Lib.hid hk
  have HKT := Lib.hid (show k < ts.length from by rw [← hk]; exact atN_lt o.at_ HT0.out)
  clear hk
  have k1 : w1.cell? ⟨ob, 1, none⟩ = some (.int .i64 o.at_) := Blk.cell HO1.out 1
  go_upto_region 2 with (go_at_call 81; (with_reducible refine (at_calls HW1.out.r o.at_ HOK.out.ha HT0.out).mono ?_); rw [HKE.out]; rintro e w2 ⟨rfl, rfl⟩)
  clear k1
  have k0 : w1.cell? ⟨ob, 0, none⟩ = some (.int .i64 9) := by rw [← HKD.out]; exact Blk.cell HO1.out 0
  obtain ⟨At, capt, rfl, htc, htm⟩ := len_of HW1.out.r.rt
  obtain ⟨Aw, capw, rfl, hwc, hwm⟩ := len_of HW1.out.r.rw_
  unfold maxLen at htm hwm
  have hkt : k < ts.length := HKT.out
  have hkt' : (k : Int) < (ts.length : Int) := by omega
  obtain ⟨gt, rfl⟩ := head_some HW1.out.r.rt (by omega)
  obtain ⟨gw, rfl⟩ := head_some HW1.out.r.rw_ (by omega)
  obtain ⟨x, hx⟩ : ∃ x, ts[k]? = some x := ⟨_, List.getElem?_eq_getElem hkt⟩
  have HX := Lib.hid hx
  have HXM := Lib.hid (List.mem_of_getElem? hx)
  have HXK := Lib.hid (HTK.out x HXM.out)
  have HUS := Lib.hid HXK.out.1
  have HTS := Lib.hid HXK.out.2.1
  have HOR := Lib.hid HXK.out.2.2.1
  have H33 := Lib.hid (show x.l.length ≤ 33 from HXK.out.2.2.2.1)
  have H47 := Lib.hid (show x.l.length ≤ 1099511627776 from by have := H33.out; omega)
  have HKS := Lib.hid (HD.out.ks x.t.user)
  have HNN := Lib.hid HOK.out.hn
  clear hx
  have HDX := Lib.hid (show DW W0 q gu gr ts.length n m (fun _ => False) w1 from ⟨_, _, _, _, ts, bl, cl, HW1.out, HAG.out, HLN.out, HTK.out, Nat.le_refl _, HCN.out.2.1, HCN.out.2.2, fun _ h => h.elim⟩)
  go_upto_region 26 with (fail)
  clear k0
  have HWD := Lib.hid (HW1.out.call (below_drew w1))
  have HDD := Lib.hid (HDX.out.call (below_drew w1))
  have hHeld0 : (w1.drew.cell? ⟨q, 1, none⟩ = some (.pointer (some ⟨gr, 0, none⟩))) ∧ OBlk w1.drew ob o v := ⟨HWD.out.q1, HO1.out.below (below_drew w1)⟩
  refine wp_region_held_drew (S := fun wx => (wx.cell? ⟨q, 1, none⟩ = some (.pointer (some ⟨gr, 0, none⟩))) ∧ OBlk wx ob o v) (by kernel_rfl) hHeld0 (fun hHeld => ?_)
  clear HW1 HO1 HD1 HDX hHeld0
  generalize w1.drew = wd at hHeld HWD HDD ⊢
  have HDTD := Lib.hid (HD.out.below HWD.out.r.low)
  refine wpAnyH_takeD 191 (i := 0) (v := .pointer (some ⟨q, 0, none⟩)) rfl rfl (by kernel_rfl) (by kernel_rfl) (by kernel_rfl) (fun _ _ _ h => h) (Or.inl ⟨by rfl, fun wq hSw => by go_simp⟩) (by assumption) ?_
  simp only [Act.put, List.setIfInBounds_toArray, List.set_cons_zero, List.set_cons_succ]
  refine wpAnyH_takeD 192 (i := 1) (v := .int .i64 (k : Int)) rfl rfl (by kernel_rfl) (by kernel_rfl) (by kernel_rfl) (fun _ _ _ h => h) (Or.inl ⟨by rfl, fun wq hSw => by go_simp⟩) (by assumption) ?_
  simp only [Act.put, List.setIfInBounds_toArray, List.set_cons_zero, List.set_cons_succ]
  refine wpAnyH_takeD 193 (i := 2) (v := .pointer (some ⟨q, 0, none⟩)) rfl rfl (by kernel_rfl) (by kernel_rfl) (by kernel_rfl) (fun _ _ _ h => h) (Or.inl ⟨by rfl, fun wq hSw => by go_simp⟩) (by assumption) ?_
  simp only [Act.put, List.setIfInBounds_toArray, List.set_cons_zero, List.set_cons_succ]
  refine wpAnyH_takeD 194 (i := 3) (v := .pointer (some ⟨q, 0, none⟩)) rfl rfl (by kernel_rfl) (by kernel_rfl) (by kernel_rfl) (fun _ _ _ h => h) (Or.inl ⟨by rfl, fun wq hSw => by go_simp⟩) (by assumption) ?_
  simp only [Act.put, List.setIfInBounds_toArray, List.set_cons_zero, List.set_cons_succ]
  refine wpAnyH_takeD 195 (i := 4) (v := .pointer (some ⟨q, 1, none⟩)) rfl rfl (by kernel_rfl) (by kernel_rfl) (by kernel_rfl) (fun _ _ _ h => h) (Or.inl ⟨by rfl, fun wq hSw => by go_simp⟩) (by assumption) ?_
  simp only [Act.put, List.setIfInBounds_toArray, List.set_cons_zero, List.set_cons_succ]
  refine wpAnyH_takeD 196 (i := 5) (v := .pointer (some ⟨gr, 0, none⟩)) rfl rfl (by kernel_rfl) (by kernel_rfl) (by kernel_rfl) (fun _ _ _ h => h) (Or.inl ⟨by rfl, fun wq hSw => by have k := hSw.1; go_simp⟩) (by assumption) ?_
  simp only [Act.put, List.setIfInBounds_toArray, List.set_cons_zero, List.set_cons_succ]
  refine wpAnyH_takeD 197 (i := 6) (v := .pointer (some ⟨q, 0, none⟩)) rfl rfl (by kernel_rfl) (by kernel_rfl) (by kernel_rfl) (fun _ _ _ h => h) (Or.inl ⟨by rfl, fun wq hSw => by go_simp⟩) (by assumption) ?_
  simp only [Act.put, List.setIfInBounds_toArray, List.set_cons_zero, List.set_cons_succ]
  refine wpAnyH_takeD 198 (i := 7) (v := .pointer (some ⟨q, 0, none⟩)) rfl rfl (by kernel_rfl) (by kernel_rfl) (by kernel_rfl) (fun _ _ _ h => h) (Or.inl ⟨by rfl, fun wq hSw => by go_simp⟩) (by assumption) ?_
  simp only [Act.put, List.setIfInBounds_toArray, List.set_cons_zero, List.set_cons_succ]
  refine wpAnyH_takeD 199 (i := 8) (v := .pointer (some ⟨q, 3, none⟩)) rfl rfl (by kernel_rfl) (by kernel_rfl) (by kernel_rfl) (fun _ _ _ h => h) (Or.inl ⟨by rfl, fun wq hSw => by go_simp⟩) (by assumption) ?_
  simp only [Act.put, List.setIfInBounds_toArray, List.set_cons_zero, List.set_cons_succ]
  refine wpAnyH_takeD 201 (i := 10) (v := .int .i64 (k : Int)) rfl rfl (by kernel_rfl) (by kernel_rfl) (by kernel_rfl) (fun _ _ _ h => h) (Or.inl ⟨by rfl, fun wq hSw => by go_simp⟩) (by assumption) ?_
  simp only [Act.put, List.setIfInBounds_toArray, List.set_cons_zero, List.set_cons_succ]
  refine wpAnyH_takeD 204 (i := 13) (v := .pointer (some ⟨ob, 6, none⟩)) rfl rfl (by kernel_rfl) (by kernel_rfl) (by kernel_rfl) (fun _ _ _ h => h) (Or.inl ⟨by rfl, fun wq hSw => by go_simp⟩) (by assumption) ?_
  simp only [Act.put, List.setIfInBounds_toArray, List.set_cons_zero, List.set_cons_succ]
  refine wpAnyH_takeD 205 (i := 14) (v := .int .u64 (o.seed : Int)) rfl rfl (by kernel_rfl) (by kernel_rfl) (by kernel_rfl) (fun _ _ _ h => h) (Or.inl ⟨by rfl, fun wq hSw => by have k : wq.cell? ⟨ob, 6, none⟩ = some (.int .u64 (o.seed : Int)) := Blk.cell hSw.2 6; go_simp⟩) (by assumption) ?_
  simp only [Act.put, List.setIfInBounds_toArray, List.set_cons_zero, List.set_cons_succ]
  refine wpAnyH_takeD 206 (i := 15) (v := .pointer (some ⟨ob, 2, none⟩)) rfl rfl (by kernel_rfl) (by kernel_rfl) (by kernel_rfl) (fun _ _ _ h => h) (Or.inl ⟨by rfl, fun wq hSw => by go_simp⟩) (by assumption) ?_
  simp only [Act.put, List.setIfInBounds_toArray, List.set_cons_zero, List.set_cons_succ]
  refine wpAnyH_takeD 207 (i := 16) (v := .int .i64 o.n) rfl rfl (by kernel_rfl) (by kernel_rfl) (by kernel_rfl) (fun _ _ _ h => h) (Or.inl ⟨by rfl, fun wq hSw => by have k : wq.cell? ⟨ob, 2, none⟩ = some (.int .i64 o.n) := Blk.cell hSw.2 2; go_simp⟩) (by assumption) ?_
  simp only [Act.put, List.setIfInBounds_toArray, List.set_cons_zero, List.set_cons_succ]
  refine wpAnyH_takeD 209 (i := 18) (v := .pointer (some ⟨ob, 10, none⟩)) rfl rfl (by kernel_rfl) (by kernel_rfl) (by kernel_rfl) (fun _ _ _ h => h) (Or.inl ⟨by rfl, fun wq hSw => by go_simp⟩) (by assumption) ?_
  simp only [Act.put, List.setIfInBounds_toArray, List.set_cons_zero, List.set_cons_succ]
  refine wpAnyH_takeD 210 (i := 19) (v := v.c) rfl rfl (by kernel_rfl) (by kernel_rfl) (by kernel_rfl) (fun _ _ _ h => h) (Or.inl ⟨by rfl, fun wq hSw => by have k : wq.cell? ⟨ob, 10, none⟩ = some v.c := Blk.cell hSw.2 10; go_simp⟩) (by assumption) ?_
  simp only [Act.put, List.setIfInBounds_toArray, List.set_cons_zero, List.set_cons_succ]
  refine wpAnyH_ready (rs := [9]) (by kernel_rfl) (by simp) ?_
  refine AllReadyH.cons rfl (fun K hK => ?_) AllReadyH.nil
  rw [if_pos (by rfl)]
  have k3 : wd.cell? ⟨q, 3, none⟩ = some (.slice (some ⟨gw, 0, none⟩) ts.length capw) := HWD.out.q3
  go_simp
  refine hK.out _ _ hHeld (fun hHeld => ?_)
  clear hK k3
  refine wpAnyH_takeD 202 (i := 11) (v := .pointer (some ⟨gw, k * 7, none⟩)) rfl rfl (by kernel_rfl) (by kernel_rfl) (by kernel_rfl) (fun _ _ _ h => h) (Or.inl ⟨by rfl, fun wq hSw => by go_simp⟩) (by assumption) ?_
  simp only [Act.put, List.setIfInBounds_toArray, List.set_cons_zero, List.set_cons_succ]
  refine wpAnyH_ready (rs := [12]) (by kernel_rfl) (by simp) ?_
  refine AllReadyH.cons rfl (fun K hK => ?_) AllReadyH.nil
  rw [if_pos (by rfl)]
  refine armTrow (HWD.out.w_range HX.out) _ rfl rfl ?_
  refine hK.out _ _ hHeld (fun hHeld => ?_)
  clear hK
  refine wpAnyH_ready (rs := [17]) (by kernel_rfl) (by simp) ?_
  refine AllReadyH.cons rfl (fun K hK => ?_) AllReadyH.nil
  rw [if_pos (by rfl)]
  go_simp
  (with_reducible refine (lright_calls gr L x.t x.hw x.l o.seed o.n _ HDTD.out.rt ((HWD.out.tk x HXM.out).2.bys) H33.out HOK.out.hs HUS.out HTS.out HKS.out HNN.out).mono ?_)
  rintro e w2 ⟨⟨rv, r, rfl, hown, hrl⟩, hb⟩
  dsimp only
  have HR2 := Lib.hid hown
  have HRL := Lib.hid hrl
  have HB2 := Lib.hid hb
  clear hown hrl hb
  obtain ⟨rA, rc, rfl⟩ := HR2.out.val
  have HD2 := Lib.hid (HDD.out.call HB2.out)
  have HRB := Lib.hid HR2.out.bys
  have HR28 := Lib.hid (show r.length ≤ 268435456 from by have := HRL.out; omega)
  have hS2 : (w2.cell? ⟨q, 1, none⟩ = some (.pointer (some ⟨gr, 0, none⟩))) ∧ OBlk w2 ob o v := ⟨(HWD.out.call HB2.out).q1, hHeld.2.below HB2.out⟩
  clear HWD HDD HB2 hHeld HDTD
  refine hK.out _ _ hS2 (fun hHeld => ?_)
  clear hK hS2
  refine wpAnyH_ready (rs := [20]) (by kernel_rfl) (by simp) ?_
  refine AllReadyH.cons rfl (fun K hK => ?_) AllReadyH.nil
  rw [if_pos (by rfl)]
  go_simp
  (with_reducible refine (lwrite_calls HD.out HD2.out k HKT.out (.slice rA r.length rc) v.c r o.c HRB.out HOK.out.hc HR28.out HNM.out.1 HNM.out.2).mono ?_)
  rintro e w3 ⟨rfl, hdw, hso⟩
  dsimp only
  have HDW := Lib.hid hdw
  have hS3 : (w3.cell? ⟨q, 1, none⟩ = some (.pointer (some ⟨gr, 0, none⟩))) ∧ OBlk w3 ob o v := ⟨HDW.out.q1, hHeld.2.so hso⟩
  clear hdw hso hHeld
  refine hK.out _ _ hS3 (fun hHeld => ?_)
  clear hK hS3
  refine wpAnyH_takeD 4 (i := 21) (v := .bool true) rfl rfl (by kernel_rfl) (by kernel_rfl) (by kernel_rfl) (fun _ _ _ h => h) (Or.inl ⟨by rfl, fun wq hSw => by go_simp⟩) (by assumption) ?_
  simp only [Act.put, List.setIfInBounds_toArray, List.set_cons_zero, List.set_cons_succ]
  refine wpAnyH_done (by kernel_rfl) ?_ _
  clear hHeld
  go_wp2_with fail
  go_ret
  exact ⟨rfl, (HDW.out.less HCN.out.1).more (by omega) (by omega) (fun _ h => h)⟩
end Go.Proofs.YtlenlldiimohjaaGreatDoor
