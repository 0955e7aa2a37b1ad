/-
  ADo2: what AuthDoes needs of them.
-/
import Derived.Test.YtlenlldiimohjaaGreatDoorQ09
import Derived.Great.BuildSlice
namespace Go.Proofs.YtlenlldiimohjaaGreatDoor
open Go.RowKit

theorem bs_info : (Tryz.prog.info? 47).map (fun i => (i.zero, i.size, i.bytes)) = some (some (.slice none 0 0), 1, 24) := by kernel_rfl
theorem tk_info : (Tryz.prog.info? 54).map (fun i => (i.zero, i.size, i.bytes)) = some (some (talkV Tk.none (.slice none 0 0)), 7, 88) := by kernel_rfl
theorem build_talk {it : TypeInfo} (h : it.size = 7) (t : Tk) (hv : Value) : Instr.fill (fun i => some (i * it.size, it.size)) ((Array.range (1 * it.size)).map ((talkV Tk.none (.slice none 0 0)).cells[· % (talkV Tk.none (.slice none 0 0)).cells.size]!)) [(0, talkV t hv)] = some (talkL t hv).toArray := by
  rw [h]
  kernel_rfl
/-- A Talk in a slice of its own. -/
theorem wp_buildT {o : Oper} {a : Act} {w : World} {K : Act → World → Prop} {Q : Exit → Act → World → Prop} (x : Operand) (ho : o.op = .buildSlice 83 1 #[(0, x)]) (t : Tk) (hv : Value) (hx : a.eval x = talkV t hv)
    (h : K (a.put o.dst (.slice (some ⟨w.heap.size, 0, none⟩) 1 1)) (w.alloc (.cells (talkL t hv).toArray 54))) : o.wp Tryz.prog a w K Q := by
  obtain ⟨it, h0, h1, h2, -⟩ := info_parts tk_info
  refine wp_buildSlice _ 54 1 _ ho (talkL t hv).toArray it (talkV Tk.none (.slice none 0 0)) Tryz.underlying83 h0 h1 (by rw [h2]; decide) (by rw [h2]; decide) ?_ h
  have e : (#[(0, x)].map fun (i, x) => (i, a.eval x)).toList = [(0, talkV t hv)] := by
    simp [hx]
  rw [e]
  exact build_talk h2 t hv
theorem reads_one (w : World) (t : TypeId) (v : Value) : Reads (w.alloc (.cells #[v] t)) (w.alloc (.cells #[v] t)).heap.size 1 (some ⟨w.heap.size, 0, none⟩) 1 [v] := by
  refine ⟨rfl, fun _ => ⟨_, rfl, by rw [World.size_alloc]; exact Nat.lt_succ_self _, fun j u hu => ?_⟩⟩
  rw [Addr.add_lit, World.cell?_alloc_new]
  simpa using hu
theorem OwnB.val {w : World} {base : Nat} {v : Value} {l : List UInt8} (h : OwnB w base v l) : ∃ A cap, v = .slice A l.length cap := by
  obtain ⟨A, cap, e, -⟩ := h.bys
  exact ⟨A, cap, e⟩
theorem OwnB.one {w : World} {base : Nat} {v : Value} {l : List UInt8} (h : OwnB w base v l) : v.oneCell' = true := h.bys.one
/-- What owns bytes, moved to another world. -/
theorem OwnB.fresh {w : World} {base : Nat} {v : Value} {l : List UInt8} {n : Nat} (h : w.ownsRow base 5 1 v n (byteL l)) : OwnB w base v l := OwnB.of_own h
set_option maxRecDepth 100000 in
set_option maxHeartbeats 6400000 in
/-- A list came out: it is kept, with a copy. -/
theorem keeps_calls {W0 w : World} {q gu gr : Nat} {vt vw vb vc : Value} {nt nw nb nc : Nat} {xt xw xb xc : List Value} (h : WR W0 q gu gr vt nt xt vw nw xw vb nb xb vc nc xc w) (B : Nat) (v : Value) (l : List UInt8) (hv : OwnB w B v l) (hl : l.length ≤ 1099511627776) (hnb : nb ≤ 1073741824) (hnc : nc ≤ 1073741824) :
    Calls Tryz.prog 80 #[.pointer (some ⟨q, 0, none⟩), v] w fun e w' => e = .returned (.tuple #[]) ∧ ∃ vb' vc' c, WR W0 q gu gr vt nt xt vw nw xw vb' (nb + 1) (xb ++ [v]) vc' (nc + 1) (xc ++ [c]) w' ∧ OwnB w' w.heap.size c l ∧ SameK w w' := by
  obtain ⟨i0, hi0, hz0, hz1, hz2⟩ := info_parts u8_info
  have HI := Lib.hid hi0; clear hi0
  have HZ0 := Lib.hid hz0; clear hz0
  have HZ1 := Lib.hid hz1; clear hz1
  have HZ2 := Lib.hid hz2; clear hz2
  obtain ⟨ib, hj0, hy0, hy1, hy2⟩ := info_parts bs_info
  have JI := Lib.hid hj0; clear hj0
  have J0 := Lib.hid hy0; clear hy0
  have J1 := Lib.hid hy1; clear hy1
  have J2 := Lib.hid hy2; clear hy2
  obtain ⟨vA, vcap, rfl⟩ := hv.val
  have HV := Lib.hid hv
  have HWR := Lib.hid h
  clear h hv
  have k4 : w.cell? ⟨q, 4, none⟩ = some vb := Blk.cell HWR.out.blk 4
  go_enter Tryz.func80, Tryz.ntmps80
  go_upto_region 2 with (at_builtin; refine wpList_append_own_at _ rfl (.tmp 9) (.tmp 11) _ rfl W0.heap.size 47 ib _ 1 24 Tryz.underlying84 JI.out J0.out J1.out J2.out rfl (by omega) vb nb xb rfl (HWR.out.rb.alloc _) ⟨w.heap.size, 0, none⟩ 1 1 [.slice vA l.length vcap] rfl rfl (cell_one_new _ _ _) (fun u hu => by rw [List.mem_singleton] at hu; subst hu; rfl) (by unfold maxLen; omega) (by omega) (by rw [World.size_alloc]; exact Nat.le_succ_of_le (Nat.le_of_lt (Nat.lt_of_le_of_lt HWR.out.qle (Blk.lt HWR.out.blk)))) ?_; intro v1 w1 hown hgr hnil hor; obtain ⟨mA, mcap, rfl, -⟩ := len_of hown; have HWA := Lib.hid (HWR.out.call ((Below.refl _ _).alloc (Nat.le_refl _) (Obj.cells #[.slice vA l.length vcap] 47))); have HO1 := Lib.hid hown; have HG1 := Lib.hid hgr; have HR1 := Lib.hid hor; clear k4 hown hgr hnil hor; have k4 : w1.cell? ⟨q, 4, none⟩ = some vb := (Blk.cell (Blk.grown HWA.out.blk HG1.out (fun hh => own_blk_ne HWA.out.rb HWA.out.blk (by decide) hh.symm)) 4); have z4 : w1.frozen? ⟨q, 4, none⟩ = false := (Blk.frozen (Blk.grown HWA.out.blk HG1.out (fun hh => own_blk_ne HWA.out.rb HWA.out.blk (by decide) hh.symm)) 4))
  have HS0 : Hid (SameK w _) := Lib.hid ((SameT.of_below ((Below.refl w.heap.size w).alloc (Nat.le_refl _) (Obj.cells #[.slice vA l.length vcap] 47))).trans (WR.same_b _ HWA.out rfl rfl (v' := .slice mA (nb + 1) mcap) HG1.out))
  have HW2 := Lib.hid (HWA.out.grow_b HO1.out HG1.out HR1.out)
  have HV2 := Lib.hid (HV.out.same8 HS0.out.s8)
  clear k4 z4 HWR HWA HO1 HG1 HR1 HV
  change Code.wp _ _ _ _ (w1.setCell ⟨q, 4, none⟩ (.slice mA (nb + 1) mcap))
  generalize w1.setCell ⟨q, 4, none⟩ (.slice mA (nb + 1) mcap) = w2a at HS0 HW2 HV2 ⊢
  refine wp_region_held_drew (S := fun _ => True) (by kernel_rfl) trivial (fun hHeld => ?_)
  have HS := Lib.hid (HS0.out.trans (SameT.of_below (below_drew w2a)))
  have HWR := Lib.hid (HW2.out.call (below_drew w2a))
  have HVR0 := Lib.hid (HV2.out.below (below_drew w2a))
  have HLE := Lib.hid HS.out.1
  clear HS0 HW2 HV2
  generalize w2a.drew = w2 at HS HWR HVR0 HLE hHeld ⊢
  have HVR := Lib.hid (show Reads w2 w2.heap.size 1 vA l.length (byteL l) from by
    obtain ⟨A, cap, e, -, -, h⟩ := HVR0.out.bys
    injection e with e1 e2 e3
    subst e1
    exact h)
  refine wpAnyH_takeD 15 (i := 0) (v := .pointer (some ⟨q, 0, none⟩)) rfl rfl (by kernel_rfl) (by kernel_rfl) (by kernel_rfl) (fun _ _ _ h => h) (Or.inl ⟨by rfl, fun wq hSw => by go_simp⟩) (by assumption) ?_
  simp only [Act.put, List.setIfInBounds_toArray, List.set_cons_zero, List.set_cons_succ]
  refine wpAnyH_takeD 16 (i := 1) (v := .pointer (some ⟨q, 0, none⟩)) rfl rfl (by kernel_rfl) (by kernel_rfl) (by kernel_rfl) (fun _ _ _ h => h) (Or.inl ⟨by rfl, fun wq hSw => by go_simp⟩) (by assumption) ?_
  simp only [Act.put, List.setIfInBounds_toArray, List.set_cons_zero, List.set_cons_succ]
  refine wpAnyH_takeD 17 (i := 2) (v := .pointer (some ⟨q, 0, none⟩)) rfl rfl (by kernel_rfl) (by kernel_rfl) (by kernel_rfl) (fun _ _ _ h => h) (Or.inl ⟨by rfl, fun wq hSw => by go_simp⟩) (by assumption) ?_
  simp only [Act.put, List.setIfInBounds_toArray, List.set_cons_zero, List.set_cons_succ]
  refine wpAnyH_takeD 18 (i := 3) (v := .pointer (some ⟨q, 5, none⟩)) rfl rfl (by kernel_rfl) (by kernel_rfl) (by kernel_rfl) (fun _ _ _ h => h) (Or.inl ⟨by rfl, fun wq hSw => by go_simp⟩) (by assumption) ?_
  simp only [Act.put, List.setIfInBounds_toArray, List.set_cons_zero, List.set_cons_succ]
  refine wpAnyH_takeD 20 (i := 5) (v := .slice none 0 0) rfl rfl (by kernel_rfl) (by kernel_rfl) (by kernel_rfl) (fun _ _ _ h => h) (Or.inl ⟨by rfl, fun wq hSw => by go_simp⟩) (by assumption) ?_
  simp only [Act.put, List.setIfInBounds_toArray, List.set_cons_zero, List.set_cons_succ]
  refine wpAnyH_takeD 21 (i := 6) (v := .slice vA l.length vcap) rfl rfl (by kernel_rfl) (by kernel_rfl) (by kernel_rfl) (fun _ _ _ h => h) (Or.inl ⟨by rfl, fun wq hSw => by go_simp⟩) (by assumption) ?_
  simp only [Act.put, List.setIfInBounds_toArray, List.set_cons_zero, List.set_cons_succ]
  refine wpAnyH_ready (rs := [4, 7]) (by kernel_rfl) (by simp) ?_
  refine AllReadyH.cons rfl (fun K hK => ?_) (AllReadyH.cons rfl (fun K hK => ?_) AllReadyH.nil)
  · as_aux_lemma =>
      have k5 : w2.cell? ⟨q, 5, none⟩ = some vc := Blk.cell HWR.out.blk 5
      rw [if_pos (by rfl)]
      go_simp
      refine hK.out _ _ trivial (fun hHeld => ?_)
      clear hK k5
      refine wpAnyH_ready (rs := [7]) (by kernel_rfl) (by simp) ?_
      refine AllReadyH.cons rfl (fun K hK => ?_) AllReadyH.nil
      rw [if_pos (by rfl)]
      refine wp_append_any _ (.tmp 20) (.tmp 21) _ rfl w.heap.size 5 i0 _ 1 1 Tryz.underlying47 HI.out HZ0.out HZ1.out HZ2.out rfl (by omega) (.slice none 0 0) 0 [] rfl ⟨by simp, .inl ⟨rfl, rfl⟩⟩ w2.heap.size vA l.length vcap (byteL l) rfl HVR.out (byteL_one l) (by unfold maxLen; omega) (by omega) HLE.out ?_
      intro c2 wy hown hgr hor
      rw [Nat.zero_add] at hown
      have hb : Below w2.heap.size w2 wy := (Below.refl w2.heap.size w2).grown hgr (Nat.le_refl _) (fun k hk => by cases hk)
      replace HWR := Lib.hid (HWR.out.call hb)
      replace HS := Lib.hid (HS.out.trans (SameT.of_below hb))
      have HLE := Lib.hid (Nat.le_trans HLE.out hb.size)
      have HC := Lib.hid (OwnB.of_own hown)
      obtain ⟨cA, ccap, rfl⟩ := HC.out.val
      clear hown hgr hor hb
      go_simp
      refine hK.out _ _ trivial (fun hHeld => ?_)
      clear hK
      refine wpAnyH_ready (rs := [8]) (by kernel_rfl) (by simp) ?_
      refine AllReadyH.cons rfl (fun K hK => ?_) AllReadyH.nil
      rw [if_pos (by rfl)]
      go_simp
      have hb : Below wy.heap.size wy (wy.alloc (Obj.cells #[.slice cA l.length ccap] 47)) := (Below.refl _ _).alloc (Nat.le_refl _) _
      have HRD := Lib.hid (reads_one wy 47 (.slice cA l.length ccap))
      replace HWR := Lib.hid (HWR.out.call hb)
      replace HS := Lib.hid (HS.out.trans (SameT.of_below hb))
      replace HC := Lib.hid (HC.out.below hb)
      replace HLE := Lib.hid (Nat.le_trans HLE.out hb.size)
      clear hb
      generalize wy.alloc (Obj.cells #[.slice cA l.length ccap] 47) = wz at HWR HS HC HRD HLE ⊢
      generalize wy.heap.size = z at HRD ⊢
      clear hHeld
      refine hK.out _ _ trivial (fun hHeld => ?_)
      clear hK
      refine wpAnyH_ready (rs := [9]) (by kernel_rfl) (by simp) ?_
      refine AllReadyH.cons rfl (fun K hK => ?_) AllReadyH.nil
      rw [if_pos (by rfl)]
      refine wp_append_any _ (.tmp 19) (.tmp 23) _ rfl W0.heap.size 47 ib _ 1 24 Tryz.underlying84 JI.out J0.out J1.out J2.out rfl (by omega) vc nc xc rfl HWR.out.rc wz.heap.size (some ⟨z, 0, none⟩) 1 1 [.slice cA l.length ccap] rfl HRD.out (fun u hu => by rw [List.mem_singleton] at hu; subst hu; rfl) (by unfold maxLen; omega) (by omega) (Nat.le_of_lt (Nat.lt_of_le_of_lt HWR.out.qle (Blk.lt HWR.out.blk))) ?_
      intro v3 wv hown hgr hor
      obtain ⟨nA, ncap, rfl, -⟩ := len_of hown
      have k5 : wv.cell? ⟨q, 5, none⟩ = some vc := Blk.cell (Blk.grown HWR.out.blk hgr (fun hh => own_blk_ne HWR.out.rc HWR.out.blk (by decide) hh.symm)) 5
      have z5 : wv.frozen? ⟨q, 5, none⟩ = false := Blk.frozen (Blk.grown HWR.out.blk hgr (fun hh => own_blk_ne HWR.out.rc HWR.out.blk (by decide) hh.symm)) 5
      have HW4 := Lib.hid (HWR.out.grow_c hown hgr hor)
      have HS4 := Lib.hid (HS.out.trans (WR.same_c _ HWR.out rfl rfl (v' := .slice nA (nc + 1) ncap) hgr))
      have HC4 := Lib.hid (HC.out.same8 (SameK.s8 (WR.same_c _ HWR.out rfl rfl (v' := .slice nA (nc + 1) ncap) hgr)))
      clear hown hgr hor HRD HC HS HWR
      go_simp
      refine hK.out _ _ trivial (fun hHeld => ?_)
      clear hK
      refine wpAnyH_takeD 25 (i := 10) (v := .pointer (some ⟨q, 0, none⟩)) rfl rfl (by kernel_rfl) (by kernel_rfl) (by kernel_rfl) (fun _ _ _ h => h) (Or.inl ⟨by rfl, fun wq hSw => by go_simp⟩) (by assumption) ?_
      simp only [Act.put, List.setIfInBounds_toArray, List.set_cons_zero, List.set_cons_succ]
      refine wpAnyH_takeD 26 (i := 11) (v := .pointer (some ⟨q, 5, none⟩)) rfl rfl (by kernel_rfl) (by kernel_rfl) (by kernel_rfl) (fun _ _ _ h => h) (Or.inl ⟨by rfl, fun wq hSw => by go_simp⟩) (by assumption) ?_
      simp only [Act.put, List.setIfInBounds_toArray, List.set_cons_zero, List.set_cons_succ]
      refine wpAnyH_ready (rs := [12]) (by kernel_rfl) (by simp) ?_
      refine AllReadyH.cons rfl (fun K hK => ?_) AllReadyH.nil
      rw [if_pos (by rfl)]
      go_simp
      refine hK.out _ _ trivial (fun hHeld => ?_)
      clear hK
      refine wpAnyH_done (by kernel_rfl) ?_ _
      go_wp2_with fail
      go_end0
      exact ⟨rfl, _, _, _, HW4.out, HC4.out, HS4.out⟩
  · as_aux_lemma =>
      rw [if_pos (by rfl)]
      refine wp_append_any _ (.tmp 20) (.tmp 21) _ rfl w.heap.size 5 i0 _ 1 1 Tryz.underlying47 HI.out HZ0.out HZ1.out HZ2.out rfl (by omega) (.slice none 0 0) 0 [] rfl ⟨by simp, .inl ⟨rfl, rfl⟩⟩ w2.heap.size vA l.length vcap (byteL l) rfl HVR.out (byteL_one l) (by unfold maxLen; omega) (by omega) HLE.out ?_
      intro c2 wy hown hgr hor
      rw [Nat.zero_add] at hown
      have hb : Below w2.heap.size w2 wy := (Below.refl w2.heap.size w2).grown hgr (Nat.le_refl _) (fun k hk => by cases hk)
      replace HWR := Lib.hid (HWR.out.call hb)
      replace HS := Lib.hid (HS.out.trans (SameT.of_below hb))
      have HLE := Lib.hid (Nat.le_trans HLE.out hb.size)
      have HC := Lib.hid (OwnB.of_own hown)
      obtain ⟨cA, ccap, rfl⟩ := HC.out.val
      clear hown hgr hor hb
      go_simp
      refine hK.out _ _ trivial (fun hHeld => ?_)
      clear hK
      refine wpAnyH_ready (rs := [4, 8]) (by kernel_rfl) (by simp) ?_
      refine AllReadyH.cons rfl (fun K hK => ?_) (AllReadyH.cons rfl (fun K hK => ?_) AllReadyH.nil)
      · as_aux_lemma =>
          have k5 : wy.cell? ⟨q, 5, none⟩ = some vc := Blk.cell HWR.out.blk 5
          rw [if_pos (by rfl)]
          go_simp
          refine hK.out _ _ trivial (fun hHeld => ?_)
          clear hK k5
          refine wpAnyH_ready (rs := [8]) (by kernel_rfl) (by simp) ?_
          refine AllReadyH.cons rfl (fun K hK => ?_) AllReadyH.nil
          rw [if_pos (by rfl)]
          go_simp
          have hb : Below wy.heap.size wy (wy.alloc (Obj.cells #[.slice cA l.length ccap] 47)) := (Below.refl _ _).alloc (Nat.le_refl _) _
          have HRD := Lib.hid (reads_one wy 47 (.slice cA l.length ccap))
          replace HWR := Lib.hid (HWR.out.call hb)
          replace HS := Lib.hid (HS.out.trans (SameT.of_below hb))
          replace HC := Lib.hid (HC.out.below hb)
          replace HLE := Lib.hid (Nat.le_trans HLE.out hb.size)
          clear hb
          generalize wy.alloc (Obj.cells #[.slice cA l.length ccap] 47) = wz at HWR HS HC HRD HLE ⊢
          generalize wy.heap.size = z at HRD ⊢
          clear hHeld
          refine hK.out _ _ trivial (fun hHeld => ?_)
          clear hK
          refine wpAnyH_ready (rs := [9]) (by kernel_rfl) (by simp) ?_
          refine AllReadyH.cons rfl (fun K hK => ?_) AllReadyH.nil
          rw [if_pos (by rfl)]
          refine wp_append_any _ (.tmp 19) (.tmp 23) _ rfl W0.heap.size 47 ib _ 1 24 Tryz.underlying84 JI.out J0.out J1.out J2.out rfl (by omega) vc nc xc rfl HWR.out.rc wz.heap.size (some ⟨z, 0, none⟩) 1 1 [.slice cA l.length ccap] rfl HRD.out (fun u hu => by rw [List.mem_singleton] at hu; subst hu; rfl) (by unfold maxLen; omega) (by omega) (Nat.le_of_lt (Nat.lt_of_le_of_lt HWR.out.qle (Blk.lt HWR.out.blk))) ?_
          intro v3 wv hown hgr hor
          obtain ⟨nA, ncap, rfl, -⟩ := len_of hown
          have k5 : wv.cell? ⟨q, 5, none⟩ = some vc := Blk.cell (Blk.grown HWR.out.blk hgr (fun hh => own_blk_ne HWR.out.rc HWR.out.blk (by decide) hh.symm)) 5
          have z5 : wv.frozen? ⟨q, 5, none⟩ = false := Blk.frozen (Blk.grown HWR.out.blk hgr (fun hh => own_blk_ne HWR.out.rc HWR.out.blk (by decide) hh.symm)) 5
          have HW4 := Lib.hid (HWR.out.grow_c hown hgr hor)
          have HS4 := Lib.hid (HS.out.trans (WR.same_c _ HWR.out rfl rfl (v' := .slice nA (nc + 1) ncap) hgr))
          have HC4 := Lib.hid (HC.out.same8 (SameK.s8 (WR.same_c _ HWR.out rfl rfl (v' := .slice nA (nc + 1) ncap) hgr)))
          clear hown hgr hor HRD HC HS HWR
          go_simp
          refine hK.out _ _ trivial (fun hHeld => ?_)
          clear hK
          refine wpAnyH_takeD 25 (i := 10) (v := .pointer (some ⟨q, 0, none⟩)) rfl rfl (by kernel_rfl) (by kernel_rfl) (by kernel_rfl) (fun _ _ _ h => h) (Or.inl ⟨by rfl, fun wq hSw => by go_simp⟩) (by assumption) ?_
          simp only [Act.put, List.setIfInBounds_toArray, List.set_cons_zero, List.set_cons_succ]
          refine wpAnyH_takeD 26 (i := 11) (v := .pointer (some ⟨q, 5, none⟩)) rfl rfl (by kernel_rfl) (by kernel_rfl) (by kernel_rfl) (fun _ _ _ h => h) (Or.inl ⟨by rfl, fun wq hSw => by go_simp⟩) (by assumption) ?_
          simp only [Act.put, List.setIfInBounds_toArray, List.set_cons_zero, List.set_cons_succ]
          refine wpAnyH_ready (rs := [12]) (by kernel_rfl) (by simp) ?_
          refine AllReadyH.cons rfl (fun K hK => ?_) AllReadyH.nil
          rw [if_pos (by rfl)]
          go_simp
          refine hK.out _ _ trivial (fun hHeld => ?_)
          clear hK
          refine wpAnyH_done (by kernel_rfl) ?_ _
          go_wp2_with fail
          go_end0
          exact ⟨rfl, _, _, _, HW4.out, HC4.out, HS4.out⟩
      · as_aux_lemma =>
          rw [if_pos (by rfl)]
          go_simp
          have hb : Below wy.heap.size wy (wy.alloc (Obj.cells #[.slice cA l.length ccap] 47)) := (Below.refl _ _).alloc (Nat.le_refl _) _
          have HRD := Lib.hid (reads_one wy 47 (.slice cA l.length ccap))
          replace HWR := Lib.hid (HWR.out.call hb)
          replace HS := Lib.hid (HS.out.trans (SameT.of_below hb))
          replace HC := Lib.hid (HC.out.below hb)
          replace HLE := Lib.hid (Nat.le_trans HLE.out hb.size)
          clear hb
          generalize wy.alloc (Obj.cells #[.slice cA l.length ccap] 47) = wz at HWR HS HC HRD HLE ⊢
          generalize wy.heap.size = z at HRD ⊢
          clear hHeld
          refine hK.out _ _ trivial (fun hHeld => ?_)
          clear hK
          refine wpAnyH_ready (rs := [4]) (by kernel_rfl) (by simp) ?_
          refine AllReadyH.cons rfl (fun K hK => ?_) AllReadyH.nil
          have k5 : wz.cell? ⟨q, 5, none⟩ = some vc := Blk.cell HWR.out.blk 5
          rw [if_pos (by rfl)]
          go_simp
          refine hK.out _ _ trivial (fun hHeld => ?_)
          clear hK k5
          refine wpAnyH_ready (rs := [9]) (by kernel_rfl) (by simp) ?_
          refine AllReadyH.cons rfl (fun K hK => ?_) AllReadyH.nil
          rw [if_pos (by rfl)]
          refine wp_append_any _ (.tmp 19) (.tmp 23) _ rfl W0.heap.size 47 ib _ 1 24 Tryz.underlying84 JI.out J0.out J1.out J2.out rfl (by omega) vc nc xc rfl HWR.out.rc wz.heap.size (some ⟨z, 0, none⟩) 1 1 [.slice cA l.length ccap] rfl HRD.out (fun u hu => by rw [List.mem_singleton] at hu; subst hu; rfl) (by unfold maxLen; omega) (by omega) (Nat.le_of_lt (Nat.lt_of_le_of_lt HWR.out.qle (Blk.lt HWR.out.blk))) ?_
          intro v3 wv hown hgr hor
          obtain ⟨nA, ncap, rfl, -⟩ := len_of hown
          have k5 : wv.cell? ⟨q, 5, none⟩ = some vc := Blk.cell (Blk.grown HWR.out.blk hgr (fun hh => own_blk_ne HWR.out.rc HWR.out.blk (by decide) hh.symm)) 5
          have z5 : wv.frozen? ⟨q, 5, none⟩ = false := Blk.frozen (Blk.grown HWR.out.blk hgr (fun hh => own_blk_ne HWR.out.rc HWR.out.blk (by decide) hh.symm)) 5
          have HW4 := Lib.hid (HWR.out.grow_c hown hgr hor)
          have HS4 := Lib.hid (HS.out.trans (WR.same_c _ HWR.out rfl rfl (v' := .slice nA (nc + 1) ncap) hgr))
          have HC4 := Lib.hid (HC.out.same8 (SameK.s8 (WR.same_c _ HWR.out rfl rfl (v' := .slice nA (nc + 1) ncap) hgr)))
          clear hown hgr hor HRD HC HS HWR
          go_simp
          refine hK.out _ _ trivial (fun hHeld => ?_)
          clear hK
          refine wpAnyH_takeD 25 (i := 10) (v := .pointer (some ⟨q, 0, none⟩)) rfl rfl (by kernel_rfl) (by kernel_rfl) (by kernel_rfl) (fun _ _ _ h => h) (Or.inl ⟨by rfl, fun wq hSw => by go_simp⟩) (by assumption) ?_
          simp only [Act.put, List.setIfInBounds_toArray, List.set_cons_zero, List.set_cons_succ]
          refine wpAnyH_takeD 26 (i := 11) (v := .pointer (some ⟨q, 5, none⟩)) rfl rfl (by kernel_rfl) (by kernel_rfl) (by kernel_rfl) (fun _ _ _ h => h) (Or.inl ⟨by rfl, fun wq hSw => by go_simp⟩) (by assumption) ?_
          simp only [Act.put, List.setIfInBounds_toArray, List.set_cons_zero, List.set_cons_succ]
          refine wpAnyH_ready (rs := [12]) (by kernel_rfl) (by simp) ?_
          refine AllReadyH.cons rfl (fun K hK => ?_) AllReadyH.nil
          rw [if_pos (by rfl)]
          go_simp
          refine hK.out _ _ trivial (fun hHeld => ?_)
          clear hK
          refine wpAnyH_done (by kernel_rfl) ?_ _
          go_wp2_with fail
          go_end0
          exact ⟨rfl, _, _, _, HW4.out, HC4.out, HS4.out⟩
theorem reads_talk (w : World) (t : Tk) (hv : Value) : Reads (w.alloc (Obj.cells (talkL t hv).toArray 54)) (w.alloc (Obj.cells (talkL t hv).toArray 54)).heap.size 7 (some ⟨w.heap.size, 0, none⟩) 1 (talkL t hv) := by
  refine ⟨rfl, fun _ => ⟨_, rfl, by rw [World.size_alloc]; exact Nat.lt_succ_self _, fun j u hu => ?_⟩⟩
  rw [Addr.add_lit, Nat.zero_add, Blk.cell (Blk.new w _ (talkL t hv).toArray), List.getElem?_toArray]
  exact hu
theorem talk_ones (t : Tk) (hv : Value) (h : hv.oneCell' = true) : ∀ u ∈ talkL t hv, u.oneCell' = true := by
  intro u hu
  simp only [talkL, List.mem_cons, List.not_mem_nil, or_false] at hu
  rcases hu with rfl | rfl | rfl | rfl | rfl | rfl | rfl
  all_goals first | rfl | exact h
theorem tRow_snoc (ts : List TalkW) (x : TalkW) : tRow (ts ++ [x]) = tRow ts ++ talkL x.t x.hv := by
  unfold tRow
  rw [List.flatMap_append, List.flatMap_singleton]
theorem wRow_snoc (ts : List TalkW) (x : TalkW) : wRow (ts ++ [x]) = wRow ts ++ talkL x.t x.hw := by
  unfold wRow
  rw [List.flatMap_append, List.flatMap_singleton]
theorem WB.kept {W0 w w' : World} {q gu gr : Nat} {vt vw vb vc vt' vw' vb' vc' v c : Value} {ts ts' : List TalkW} {bl cl : List (Value × List UInt8)} {l : List UInt8} {B : Nat} (h : WB W0 q gu gr vt vw vb vc ts bl cl w)
    (hr : WR W0 q gu gr vt' ts'.length (tRow ts') vw' ts'.length (wRow ts') vb' (bl.length + 1) ((bl.map fun p => p.1) ++ [v]) vc' (cl.length + 1) ((cl.map fun p => p.1) ++ [c]) w') (hs : Same8 w w') (hv : OwnB w B v l) (hB : W0.heap.size ≤ B)
    (hc : OwnB w' w.heap.size c l) (hf : ∀ k, v.ownBlock = some k → Free bl k ∧ Free cl k) (ht : ∀ x ∈ ts', x ∈ ts ∨ (OwnB w W0.heap.size x.hv x.l ∧ OwnB w W0.heap.size x.hw x.l)) : WB W0 q gu gr vt' vw' vb' vc' ts' (bl ++ [(v, l)]) (cl ++ [(c, l)]) w' := by
  refine ⟨?_, (h.ob.same8 hs).snoc ((hv.same8 hs).more hB) (fun k hk => (hf k hk).1), (h.oc.same8 hs).snoc (hc.more h.r.low.size) (fun k hk => h.oc.lt (hc.lt k hk).1), h.ap.snoc (fun k hk => (hf k hk).2) (fun k hk => h.ob.lt (hc.lt k hk).1) (fun k hk hk2 => Nat.lt_irrefl k (Nat.lt_of_lt_of_le (hv.lt k hk).2 (hc.lt k hk2).1)), fun x hx => ?_⟩
  · rw [List.length_append, List.length_append, List.map_append, List.map_append]
    exact hr
  · rcases ht x hx with hx | hx
    · exact ⟨(h.tk x hx).1.same8 hs, (h.tk x hx).2.same8 hs⟩
    · exact ⟨hx.1.same8 hs, hx.2.same8 hs⟩
set_option maxRecDepth 100000 in
set_option maxHeartbeats 6400000 in
/-- A Talk came out. -/
theorem takes_calls {W0 w : World} {q gu gr : Nat} {vt vw vb vc : Value} {ts : List TalkW} {bl cl : List (Value × List UInt8)} (h : WB W0 q gu gr vt vw vb vc ts bl cl w) (t : Tk) (hv hw : Value) (l : List UInt8) (e : Int) (h1 : OwnB w W0.heap.size hv l) (h2 : OwnB w W0.heap.size hw l)
    (hf : ∀ k, hv.ownBlock = some k → Free bl k ∧ Free cl k) (hl : l.length ≤ 1099511627776) (hnt : ts.length ≤ 536870912) (hnb : bl.length ≤ 1073741824) (hnc : cl.length ≤ 1073741824) :
    Calls Tryz.prog 29 #[.pointer (some ⟨q, 0, none⟩), talkV t hv, talkV t hw, .int .i64 e] w fun e' w' => e' = .returned (.bool true) ∧ (∃ vt' vw' vb' vc' c, WB W0 q gu gr vt' vw' vb' vc' (if e = 0 then ts ++ [⟨t, hv, hw, l⟩] else ts) (bl ++ [(hv, l)]) (cl ++ [(c, l)]) w' ∧ ∀ k, c.ownBlock = some k → w.heap.size ≤ k) ∧ Same8 w w' := by
  obtain ⟨it, hj0, hy0, hy1, hy2⟩ := info_parts tk_info
  have JI := Lib.hid hj0; clear hj0
  have J0 := Lib.hid hy0; clear hy0
  have J1 := Lib.hid hy1; clear hy1
  have J2 := Lib.hid hy2; clear hy2
  obtain ⟨A1, c1, rfl⟩ := h1.val
  obtain ⟨A2, c2, rfl⟩ := h2.val
  have NHT5 := Lib.hid (show vt.ownBlock ≠ some w.heap.size from fun hh => Nat.lt_irrefl _ (h.r.rt.lt _ hh).2)
  have NHT6 := Lib.hid (show vt.ownBlock ≠ some (w.heap.size + 1) from fun hh => by have := (h.r.rt.lt _ hh).2; omega)
  have NHU6 := Lib.hid (show vw.ownBlock ≠ some (w.heap.size + 1) from fun hh => by have := (h.r.rw_.lt _ hh).2; omega)
  have HB := Lib.hid (show Below w.heap.size w ((w.alloc (Obj.cells #[.string t.user, .string t.tree, .int .u64 t.ours, .int .u64 t.theirs, .int .u8 t.step, .int .i64 t.said, (.slice A1 l.length c1)] 54)).alloc (Obj.cells #[.string t.user, .string t.tree, .int .u64 t.ours, .int .u64 t.theirs, .int .u8 t.step, .int .i64 t.said, (.slice A2 l.length c2)] 54)) from ((Below.refl _ _).alloc (Nat.le_refl _) _).alloc (by simp) _)
  have HT := Lib.hid (show TBlk ((w.alloc (Obj.cells #[.string t.user, .string t.tree, .int .u64 t.ours, .int .u64 t.theirs, .int .u8 t.step, .int .i64 t.said, (.slice A1 l.length c1)] 54)).alloc (Obj.cells #[.string t.user, .string t.tree, .int .u64 t.ours, .int .u64 t.theirs, .int .u8 t.step, .int .i64 t.said, (.slice A2 l.length c2)] 54)) w.heap.size t (.slice A1 l.length c1) from Blk.alloc (Blk.new w _ (talkL t (.slice A1 l.length c1)).toArray) _)
  have HZ := Lib.hid (show TBlk ((w.alloc (Obj.cells #[.string t.user, .string t.tree, .int .u64 t.ours, .int .u64 t.theirs, .int .u8 t.step, .int .i64 t.said, (.slice A1 l.length c1)] 54)).alloc (Obj.cells #[.string t.user, .string t.tree, .int .u64 t.ours, .int .u64 t.theirs, .int .u8 t.step, .int .i64 t.said, (.slice A2 l.length c2)] 54)) (w.heap.size + 1) t (.slice A2 l.length c2) from by
    have h := Blk.new (w.alloc (Obj.cells (talkL t (.slice A1 l.length c1)).toArray 54)) 54 (talkL t (.slice A2 l.length c2)).toArray
    simp only [World.size_alloc] at h
    exact h)
  have HW0 := Lib.hid h
  have HV0 := Lib.hid h1
  have HX0 := Lib.hid h2
  have HF := Lib.hid hf
  have HLL := Lib.hid hl
  have HNB := Lib.hid hnb
  have HNC := Lib.hid hnc
  clear h h1 h2 hf hl hnb hnc
  go_enter Tryz.func29, Tryz.ntmps29
  go_upto_region 1 with (fail)
  generalize (w.alloc (Obj.cells #[.string t.user, .string t.tree, .int .u64 t.ours, .int .u64 t.theirs, .int .u8 t.step, .int .i64 t.said, (.slice A1 l.length c1)] 54)).alloc (Obj.cells #[.string t.user, .string t.tree, .int .u64 t.ours, .int .u64 t.theirs, .int .u8 t.step, .int .i64 t.said, (.slice A2 l.length c2)] 54) = w1 at HB HT HZ ⊢
  have HY1 := Lib.hid (HV0.out.bys.below HB.out |>.more HB.out.size)
  have HY2 := Lib.hid (HX0.out.bys.below HB.out |>.more HB.out.size)
  go_upto_region 4 with (first
    | (refine wT HT.out rfl _ rfl rfl ?_)
    | (refine wT HZ.out rfl _ rfl rfl ?_)
    | (go_at_call 79; (with_reducible refine (same_t t (.slice A1 l.length c1) (.slice A2 l.length c2) l _ HY1.out HY2.out).mono ?_); rintro e' w2 ⟨rfl, hb⟩; have HB2 := Lib.hid (HB.out.trans (hb.mono HB.out.size)); have HT2 := Lib.hid (HT.out.below hb); have HZ2 := Lib.hid (HZ.out.below hb); clear hb))
  have HWB := Lib.hid (HW0.out.call HB2.out)
  have HV2 := Lib.hid (HV0.out.below HB2.out)
  have HX2 := Lib.hid (HX0.out.below HB2.out)
  clear HT HZ HB HY1 HY2
  have k6 : w2.cell? ⟨w.heap.size, 6, none⟩ = some (.slice A1 l.length c1) := Blk.cell HT2.out 6
  generalize hb5 : w.heap.size = b5 at HT2 HZ2 NHT5 NHT6 NHU6 k6 ⊢
  have HB5 := Lib.hid hb5
  clear hb5
  generalize b5 + 1 = b6 at HZ2 NHT6 NHU6 ⊢
  go_upto_region 5 with (go_at_call 80; (with_reducible refine (keeps_calls HWB.out.r W0.heap.size (.slice A1 l.length c1) l HV2.out HLL.out HNB.out HNC.out).mono ?_); rintro e' w3 ⟨rfl, vb3, vc3, c3, hr3, hc3, hs3⟩; have HWR := Lib.hid hr3; have HC3 := Lib.hid hc3; have HS3 := Lib.hid hs3; clear hr3 hc3 hs3 k6)
  have HFR := Lib.hid (show ∀ k, c3.ownBlock = some k → w.heap.size ≤ k from fun k hk => Nat.le_trans HB2.out.size (HC3.out.lt k hk).1)
  have HT5 := Lib.hid (show TBlk w3 b5 t (.slice A1 l.length c1) from HS3.out.blk rfl HT2.out)
  have HT6 := Lib.hid (show TBlk w3 b6 t (.slice A2 l.length c2) from HS3.out.blk rfl HZ2.out)
  clear HT2 HZ2
  by_cases he : e = 0
  · have HEE := Lib.hid he
    have he' : (e == 0) = true := beq_iff_eq.2 he
    clear he
    go_upto_region 6 with (fail)
    clear he'
    generalize hxt : tRow ts = xt at HWR
    have HXT := Lib.hid hxt
    clear hxt
    generalize hxw : wRow ts = xw at HWR
    have HXW := Lib.hid hxw
    clear hxw
    go_cut [] (fun wx => ∃ v6, WR W0 q gu gr v6 (ts.length + 1) (xt ++ talkL t (.slice A1 l.length c1)) vw ts.length xw vb3 (bl.length + 1) ((bl.map fun p => p.1) ++ [.slice A1 l.length c1]) vc3 (cl.length + 1) ((cl.map fun p => p.1) ++ [c3]) wx ∧ TBlk wx b6 t (.slice A2 l.length c2) ∧ Same8 w3 wx)
    case first =>
      refine wp_region_held_drew (S := fun wx => TBlk wx b5 t (.slice A1 l.length c1)) (by kernel_rfl) (HT5.out.below (below_drew w3)) (fun hHeld => ?_)
      have HS : Hid (Same8 w3 w3.drew) := Lib.hid (SameT.of_below (below_drew w3))
      replace HWR := Lib.hid (HWR.out.call (below_drew w3))
      replace HT6 := Lib.hid (HT6.out.below (below_drew w3))
      clear HT5
      generalize w3.drew = wd at HS HWR HT6 hHeld ⊢
      refine wpAnyH_takeD 21 (i := 0) (v := .pointer (some ⟨q, 0, none⟩)) rfl rfl (by kernel_rfl) (by kernel_rfl) (by kernel_rfl) (fun _ _ _ h => h) (Or.inl ⟨by rfl, fun wq hSw => by go_simp⟩) (by assumption) ?_
      simp only [Act.put, List.setIfInBounds_toArray, List.set_cons_zero, List.set_cons_succ]
      refine wpAnyH_takeD 22 (i := 1) (v := .pointer (some ⟨q, 0, none⟩)) rfl rfl (by kernel_rfl) (by kernel_rfl) (by kernel_rfl) (fun _ _ _ h => h) (Or.inl ⟨by rfl, fun wq hSw => by go_simp⟩) (by assumption) ?_
      simp only [Act.put, List.setIfInBounds_toArray, List.set_cons_zero, List.set_cons_succ]
      refine wpAnyH_takeD 23 (i := 2) (v := .pointer (some ⟨q, 0, none⟩)) rfl rfl (by kernel_rfl) (by kernel_rfl) (by kernel_rfl) (fun _ _ _ h => h) (Or.inl ⟨by rfl, fun wq hSw => by go_simp⟩) (by assumption) ?_
      simp only [Act.put, List.setIfInBounds_toArray, List.set_cons_zero, List.set_cons_succ]
      refine wpAnyH_takeD 24 (i := 3) (v := .pointer (some ⟨q, 2, none⟩)) rfl rfl (by kernel_rfl) (by kernel_rfl) (by kernel_rfl) (fun _ _ _ h => h) (Or.inl ⟨by rfl, fun wq hSw => by go_simp⟩) (by assumption) ?_
      simp only [Act.put, List.setIfInBounds_toArray, List.set_cons_zero, List.set_cons_succ]
      refine wpAnyH_takeD 26 (i := 5) rfl rfl (by kernel_rfl) (by kernel_rfl) (by kernel_rfl) (fun _ _ _ h => h) (yieldsIf_load_mid (by rfl) _ _ rfl _ _ rfl (talkL t (.slice A1 l.length c1)) _ (fun _ hS => Blk.range hS 0 _ rfl) Tryz.underlying54 rfl talk_size) (by assumption) ?_
      simp only [Act.put, List.setIfInBounds_toArray, List.set_cons_zero, List.set_cons_succ]
      refine wpAnyH_ready (rs := [4, 6]) (by kernel_rfl) (by simp) ?_
      refine AllReadyH.cons rfl (fun K hK => ?_) (AllReadyH.cons rfl (fun K hK => ?_) AllReadyH.nil)
      · as_aux_lemma =>
          have k5 : wd.cell? ⟨q, 2, none⟩ = some vt := Blk.cell HWR.out.blk 2
          rw [if_pos (by rfl)]
          go_simp
          refine hK.out _ _ hHeld (fun hHeld => ?_)
          clear hK k5
          refine wpAnyH_ready (rs := [6]) (by kernel_rfl) (by simp) ?_
          refine AllReadyH.cons rfl (fun K hK => ?_) AllReadyH.nil
          rw [if_pos (by rfl)]
          refine wp_buildT _ rfl t (.slice A1 l.length c1) rfl ?_
          go_simp
          have hb : Below wd.heap.size wd (wd.alloc (Obj.cells (talkL t (.slice A1 l.length c1)).toArray 54)) := (Below.refl _ _).alloc (Nat.le_refl _) _
          have HRD := Lib.hid (reads_talk wd t (.slice A1 l.length c1))
          replace HWR := Lib.hid (HWR.out.call hb)
          replace HS := Lib.hid (HS.out.trans (SameT.of_below hb))
          replace HT6 := Lib.hid (HT6.out.below hb)
          have hS2 := TBlk.below hHeld hb
          clear hb hHeld
          generalize wd.alloc (Obj.cells _ _) = wz at HWR HS HT6 HRD hS2 ⊢
          generalize wd.heap.size = z at HRD ⊢
          refine hK.out _ _ hS2 (fun hHeld => ?_)
          clear hK hS2
          refine wpAnyH_ready (rs := [7]) (by kernel_rfl) (by simp) ?_
          refine AllReadyH.cons rfl (fun K hK => ?_) AllReadyH.nil
          rw [if_pos (by rfl)]
          refine wp_append_any _ (.tmp 25) (.tmp 27) _ rfl W0.heap.size 54 it _ 7 88 Tryz.underlying83 JI.out J0.out J1.out J2.out (by rfl) (by omega) vt ts.length xt rfl HWR.out.rt wz.heap.size (some ⟨z, 0, none⟩) 1 1 (talkL t (.slice A1 l.length c1)) rfl HRD.out (talk_ones t (.slice A1 l.length c1) rfl) (by unfold maxLen; omega) (by omega) (Nat.le_of_lt (Nat.lt_of_le_of_lt HWR.out.qle (Blk.lt HWR.out.blk))) ?_
          intro v3 wv hown hgr hor
          obtain ⟨nA, ncap, rfl, -⟩ := len_of hown
          have k5 : wv.cell? ⟨q, 2, none⟩ = some vt := Blk.cell (Blk.grown HWR.out.blk hgr (fun hh => own_blk_ne HWR.out.rt HWR.out.blk (by decide) hh.symm)) 2
          have z5 : wv.frozen? ⟨q, 2, none⟩ = false := Blk.frozen (Blk.grown HWR.out.blk hgr (fun hh => own_blk_ne HWR.out.rt HWR.out.blk (by decide) hh.symm)) 2
          have HW4 := Lib.hid (HWR.out.grow_t hown hgr hor)
          have HS4 := Lib.hid (HS.out.trans (WR.same_t _ HWR.out rfl rfl (v' := .slice nA (ts.length + 1) ncap) hgr))
          have hS2 := Blk.grown hHeld hgr (fun hh => NHT5.out hh.symm)
          have HT6v := Blk.grown HT6.out hgr (fun hh => NHT6.out hh.symm)
          have hqq : 54 ≠ 86 := by decide
          have hq := Blk.grown HWR.out.blk hgr (fun hh => own_blk_ne HWR.out.rt HWR.out.blk (by decide) hh.symm)
          have hS4 := Blk.far hS2 (p := ⟨q, 2, none⟩) (Blk.ne_ hS2 hq hqq) (.slice nA (ts.length + 1) ncap)
          have HT64 := Lib.hid (show TBlk _ b6 t (.slice A2 l.length c2) from Blk.far HT6v (p := ⟨q, 2, none⟩) (Blk.ne_ HT6v hq hqq) (.slice nA (ts.length + 1) ncap))
          clear hown hgr hor HRD HS HWR hHeld hq hqq HT6v
          go_simp
          refine hK.out _ _ hS2 (fun hHeld => ?_)
          clear hK hS2
          refine wpAnyH_takeD 29 (i := 8) (v := .pointer (some ⟨q, 0, none⟩)) rfl rfl (by kernel_rfl) (by kernel_rfl) (by kernel_rfl) (fun _ _ _ h => h) (Or.inl ⟨by rfl, fun wq hSw => by go_simp⟩) (by assumption) ?_
          simp only [Act.put, List.setIfInBounds_toArray, List.set_cons_zero, List.set_cons_succ]
          refine wpAnyH_takeD 30 (i := 9) (v := .pointer (some ⟨q, 2, none⟩)) rfl rfl (by kernel_rfl) (by kernel_rfl) (by kernel_rfl) (fun _ _ _ h => h) (Or.inl ⟨by rfl, fun wq hSw => by go_simp⟩) (by assumption) ?_
          simp only [Act.put, List.setIfInBounds_toArray, List.set_cons_zero, List.set_cons_succ]
          refine wpAnyH_ready (rs := [10]) (by kernel_rfl) (by simp) ?_
          refine AllReadyH.cons rfl (fun K hK => ?_) AllReadyH.nil
          rw [if_pos (by rfl)]
          go_simp
          refine hK.out _ _ hS4 (fun hHeld => ?_)
          clear hK
          refine wpAnyH_done (by kernel_rfl) ?_ _
          go_wp2_with fail
          go_meet
          case rel => exact ⟨_, HW4.out, HT64.out, HS4.out⟩
      · as_aux_lemma =>
          rw [if_pos (by rfl)]
          refine wp_buildT _ rfl t (.slice A1 l.length c1) rfl ?_
          go_simp
          have hb : Below wd.heap.size wd (wd.alloc (Obj.cells (talkL t (.slice A1 l.length c1)).toArray 54)) := (Below.refl _ _).alloc (Nat.le_refl _) _
          have HRD := Lib.hid (reads_talk wd t (.slice A1 l.length c1))
          replace HWR := Lib.hid (HWR.out.call hb)
          replace HS := Lib.hid (HS.out.trans (SameT.of_below hb))
          replace HT6 := Lib.hid (HT6.out.below hb)
          have hS2 := TBlk.below hHeld hb
          clear hb hHeld
          generalize wd.alloc (Obj.cells _ _) = wz at HWR HS HT6 HRD hS2 ⊢
          generalize wd.heap.size = z at HRD ⊢
          refine hK.out _ _ hS2 (fun hHeld => ?_)
          clear hK hS2
          refine wpAnyH_ready (rs := [4]) (by kernel_rfl) (by simp) ?_
          refine AllReadyH.cons rfl (fun K hK => ?_) AllReadyH.nil
          have k5 : wz.cell? ⟨q, 2, none⟩ = some vt := Blk.cell HWR.out.blk 2
          rw [if_pos (by rfl)]
          go_simp
          refine hK.out _ _ hHeld (fun hHeld => ?_)
          clear hK k5
          refine wpAnyH_ready (rs := [7]) (by kernel_rfl) (by simp) ?_
          refine AllReadyH.cons rfl (fun K hK => ?_) AllReadyH.nil
          rw [if_pos (by rfl)]
          refine wp_append_any _ (.tmp 25) (.tmp 27) _ rfl W0.heap.size 54 it _ 7 88 Tryz.underlying83 JI.out J0.out J1.out J2.out (by rfl) (by omega) vt ts.length xt rfl HWR.out.rt wz.heap.size (some ⟨z, 0, none⟩) 1 1 (talkL t (.slice A1 l.length c1)) rfl HRD.out (talk_ones t (.slice A1 l.length c1) rfl) (by unfold maxLen; omega) (by omega) (Nat.le_of_lt (Nat.lt_of_le_of_lt HWR.out.qle (Blk.lt HWR.out.blk))) ?_
          intro v3 wv hown hgr hor
          obtain ⟨nA, ncap, rfl, -⟩ := len_of hown
          have k5 : wv.cell? ⟨q, 2, none⟩ = some vt := Blk.cell (Blk.grown HWR.out.blk hgr (fun hh => own_blk_ne HWR.out.rt HWR.out.blk (by decide) hh.symm)) 2
          have z5 : wv.frozen? ⟨q, 2, none⟩ = false := Blk.frozen (Blk.grown HWR.out.blk hgr (fun hh => own_blk_ne HWR.out.rt HWR.out.blk (by decide) hh.symm)) 2
          have HW4 := Lib.hid (HWR.out.grow_t hown hgr hor)
          have HS4 := Lib.hid (HS.out.trans (WR.same_t _ HWR.out rfl rfl (v' := .slice nA (ts.length + 1) ncap) hgr))
          have hS2 := Blk.grown hHeld hgr (fun hh => NHT5.out hh.symm)
          have HT6v := Blk.grown HT6.out hgr (fun hh => NHT6.out hh.symm)
          have hqq : 54 ≠ 86 := by decide
          have hq := Blk.grown HWR.out.blk hgr (fun hh => own_blk_ne HWR.out.rt HWR.out.blk (by decide) hh.symm)
          have hS4 := Blk.far hS2 (p := ⟨q, 2, none⟩) (Blk.ne_ hS2 hq hqq) (.slice nA (ts.length + 1) ncap)
          have HT64 := Lib.hid (show TBlk _ b6 t (.slice A2 l.length c2) from Blk.far HT6v (p := ⟨q, 2, none⟩) (Blk.ne_ HT6v hq hqq) (.slice nA (ts.length + 1) ncap))
          clear hown hgr hor HRD HS HWR hHeld hq hqq HT6v
          go_simp
          refine hK.out _ _ hS2 (fun hHeld => ?_)
          clear hK hS2
          refine wpAnyH_takeD 29 (i := 8) (v := .pointer (some ⟨q, 0, none⟩)) rfl rfl (by kernel_rfl) (by kernel_rfl) (by kernel_rfl) (fun _ _ _ h => h) (Or.inl ⟨by rfl, fun wq hSw => by go_simp⟩) (by assumption) ?_
          simp only [Act.put, List.setIfInBounds_toArray, List.set_cons_zero, List.set_cons_succ]
          refine wpAnyH_takeD 30 (i := 9) (v := .pointer (some ⟨q, 2, none⟩)) rfl rfl (by kernel_rfl) (by kernel_rfl) (by kernel_rfl) (fun _ _ _ h => h) (Or.inl ⟨by rfl, fun wq hSw => by go_simp⟩) (by assumption) ?_
          simp only [Act.put, List.setIfInBounds_toArray, List.set_cons_zero, List.set_cons_succ]
          refine wpAnyH_ready (rs := [10]) (by kernel_rfl) (by simp) ?_
          refine AllReadyH.cons rfl (fun K hK => ?_) AllReadyH.nil
          rw [if_pos (by rfl)]
          go_simp
          refine hK.out _ _ hS4 (fun hHeld => ?_)
          clear hK
          refine wpAnyH_done (by kernel_rfl) ?_ _
          go_wp2_with fail
          go_meet
          case rel => exact ⟨_, HW4.out, HT64.out, HS4.out⟩
    obtain ⟨v6, hr6, ht6, hs6⟩ := hcut
    replace HWR := Lib.hid hr6
    replace HT6 := Lib.hid ht6
    have HS6 := Lib.hid hs6
    clear hr6 ht6 hs6 HT5
    go_upto_region 7 with (fail)
    go_cut [] (fun wx => ∃ v7, WR W0 q gu gr v6 (ts.length + 1) (xt ++ talkL t (.slice A1 l.length c1)) v7 (ts.length + 1) (xw ++ talkL t (.slice A2 l.length c2)) vb3 (bl.length + 1) ((bl.map fun p => p.1) ++ [.slice A1 l.length c1]) vc3 (cl.length + 1) ((cl.map fun p => p.1) ++ [c3]) wx ∧ Same8 wc wx)
    case first =>
      refine wp_region_held_drew (S := fun wx => TBlk wx b6 t (.slice A2 l.length c2)) (by kernel_rfl) (HT6.out.below (below_drew wc)) (fun hHeld => ?_)
      have HS : Hid (Same8 wc wc.drew) := Lib.hid (SameT.of_below (below_drew wc))
      replace HWR := Lib.hid (HWR.out.call (below_drew wc))
      clear HT6
      generalize wc.drew = wd at HS HWR hHeld ⊢
      refine wpAnyH_takeD 31 (i := 0) (v := .pointer (some ⟨q, 0, none⟩)) rfl rfl (by kernel_rfl) (by kernel_rfl) (by kernel_rfl) (fun _ _ _ h => h) (Or.inl ⟨by rfl, fun wq hSw => by go_simp⟩) (by assumption) ?_
      simp only [Act.put, List.setIfInBounds_toArray, List.set_cons_zero, List.set_cons_succ]
      refine wpAnyH_takeD 32 (i := 1) (v := .pointer (some ⟨q, 0, none⟩)) rfl rfl (by kernel_rfl) (by kernel_rfl) (by kernel_rfl) (fun _ _ _ h => h) (Or.inl ⟨by rfl, fun wq hSw => by go_simp⟩) (by assumption) ?_
      simp only [Act.put, List.setIfInBounds_toArray, List.set_cons_zero, List.set_cons_succ]
      refine wpAnyH_takeD 33 (i := 2) (v := .pointer (some ⟨q, 0, none⟩)) rfl rfl (by kernel_rfl) (by kernel_rfl) (by kernel_rfl) (fun _ _ _ h => h) (Or.inl ⟨by rfl, fun wq hSw => by go_simp⟩) (by assumption) ?_
      simp only [Act.put, List.setIfInBounds_toArray, List.set_cons_zero, List.set_cons_succ]
      refine wpAnyH_takeD 34 (i := 3) (v := .pointer (some ⟨q, 3, none⟩)) rfl rfl (by kernel_rfl) (by kernel_rfl) (by kernel_rfl) (fun _ _ _ h => h) (Or.inl ⟨by rfl, fun wq hSw => by go_simp⟩) (by assumption) ?_
      simp only [Act.put, List.setIfInBounds_toArray, List.set_cons_zero, List.set_cons_succ]
      refine wpAnyH_takeD 36 (i := 5) rfl rfl (by kernel_rfl) (by kernel_rfl) (by kernel_rfl) (fun _ _ _ h => h) (yieldsIf_load_mid (by rfl) _ _ rfl _ _ rfl (talkL t (.slice A2 l.length c2)) _ (fun _ hS => Blk.range hS 0 _ rfl) Tryz.underlying54 rfl talk_size) (by assumption) ?_
      simp only [Act.put, List.setIfInBounds_toArray, List.set_cons_zero, List.set_cons_succ]
      refine wpAnyH_ready (rs := [4, 6]) (by kernel_rfl) (by simp) ?_
      refine AllReadyH.cons rfl (fun K hK => ?_) (AllReadyH.cons rfl (fun K hK => ?_) AllReadyH.nil)
      · as_aux_lemma =>
          have k5 : wd.cell? ⟨q, 3, none⟩ = some vw := Blk.cell HWR.out.blk 3
          rw [if_pos (by rfl)]
          go_simp
          refine hK.out _ _ hHeld (fun hHeld => ?_)
          clear hK k5
          refine wpAnyH_ready (rs := [6]) (by kernel_rfl) (by simp) ?_
          refine AllReadyH.cons rfl (fun K hK => ?_) AllReadyH.nil
          rw [if_pos (by rfl)]
          refine wp_buildT _ rfl t (.slice A2 l.length c2) rfl ?_
          go_simp
          have hb : Below wd.heap.size wd (wd.alloc (Obj.cells (talkL t (.slice A2 l.length c2)).toArray 54)) := (Below.refl _ _).alloc (Nat.le_refl _) _
          have HRD := Lib.hid (reads_talk wd t (.slice A2 l.length c2))
          replace HWR := Lib.hid (HWR.out.call hb)
          replace HS := Lib.hid (HS.out.trans (SameT.of_below hb))
          have hS2 := TBlk.below hHeld hb
          clear hb hHeld
          generalize wd.alloc (Obj.cells _ _) = wz at HWR HS HRD hS2 ⊢
          generalize wd.heap.size = z at HRD ⊢
          refine hK.out _ _ hS2 (fun hHeld => ?_)
          clear hK hS2
          refine wpAnyH_ready (rs := [7]) (by kernel_rfl) (by simp) ?_
          refine AllReadyH.cons rfl (fun K hK => ?_) AllReadyH.nil
          rw [if_pos (by rfl)]
          refine wp_append_any _ (.tmp 35) (.tmp 37) _ rfl W0.heap.size 54 it _ 7 88 Tryz.underlying83 JI.out J0.out J1.out J2.out (by rfl) (by omega) vw ts.length xw rfl HWR.out.rw_ wz.heap.size (some ⟨z, 0, none⟩) 1 1 (talkL t (.slice A2 l.length c2)) rfl HRD.out (talk_ones t (.slice A2 l.length c2) rfl) (by unfold maxLen; omega) (by omega) (Nat.le_of_lt (Nat.lt_of_le_of_lt HWR.out.qle (Blk.lt HWR.out.blk))) ?_
          intro v3 wv hown hgr hor
          obtain ⟨nA, ncap, rfl, -⟩ := len_of hown
          have k5 : wv.cell? ⟨q, 3, none⟩ = some vw := Blk.cell (Blk.grown HWR.out.blk hgr (fun hh => own_blk_ne HWR.out.rw_ HWR.out.blk (by decide) hh.symm)) 3
          have z5 : wv.frozen? ⟨q, 3, none⟩ = false := Blk.frozen (Blk.grown HWR.out.blk hgr (fun hh => own_blk_ne HWR.out.rw_ HWR.out.blk (by decide) hh.symm)) 3
          have HW4 := Lib.hid (HWR.out.grow_w hown hgr hor)
          have HS4 := Lib.hid (HS.out.trans (WR.same_w _ HWR.out rfl rfl (v' := .slice nA (ts.length + 1) ncap) hgr))
          have hS2 := Blk.grown hHeld hgr (fun hh => NHU6.out hh.symm)
          have hqq : 54 ≠ 86 := by decide
          have hq := Blk.grown HWR.out.blk hgr (fun hh => own_blk_ne HWR.out.rw_ HWR.out.blk (by decide) hh.symm)
          have hS4 := Blk.far hS2 (p := ⟨q, 3, none⟩) (Blk.ne_ hS2 hq hqq) (.slice nA (ts.length + 1) ncap)
          clear hown hgr hor HRD HS HWR hHeld hq hqq
          go_simp
          refine hK.out _ _ hS2 (fun hHeld => ?_)
          clear hK hS2
          refine wpAnyH_takeD 39 (i := 8) (v := .pointer (some ⟨q, 0, none⟩)) rfl rfl (by kernel_rfl) (by kernel_rfl) (by kernel_rfl) (fun _ _ _ h => h) (Or.inl ⟨by rfl, fun wq hSw => by go_simp⟩) (by assumption) ?_
          simp only [Act.put, List.setIfInBounds_toArray, List.set_cons_zero, List.set_cons_succ]
          refine wpAnyH_takeD 40 (i := 9) (v := .pointer (some ⟨q, 3, none⟩)) rfl rfl (by kernel_rfl) (by kernel_rfl) (by kernel_rfl) (fun _ _ _ h => h) (Or.inl ⟨by rfl, fun wq hSw => by go_simp⟩) (by assumption) ?_
          simp only [Act.put, List.setIfInBounds_toArray, List.set_cons_zero, List.set_cons_succ]
          refine wpAnyH_ready (rs := [10]) (by kernel_rfl) (by simp) ?_
          refine AllReadyH.cons rfl (fun K hK => ?_) AllReadyH.nil
          rw [if_pos (by rfl)]
          go_simp
          refine hK.out _ _ hS4 (fun hHeld => ?_)
          clear hK
          refine wpAnyH_done (by kernel_rfl) ?_ _
          go_wp2_with fail
          go_meet
          case rel => exact ⟨_, HW4.out, HS4.out⟩
      · as_aux_lemma =>
          rw [if_pos (by rfl)]
          refine wp_buildT _ rfl t (.slice A2 l.length c2) rfl ?_
          go_simp
          have hb : Below wd.heap.size wd (wd.alloc (Obj.cells (talkL t (.slice A2 l.length c2)).toArray 54)) := (Below.refl _ _).alloc (Nat.le_refl _) _
          have HRD := Lib.hid (reads_talk wd t (.slice A2 l.length c2))
          replace HWR := Lib.hid (HWR.out.call hb)
          replace HS := Lib.hid (HS.out.trans (SameT.of_below hb))
          have hS2 := TBlk.below hHeld hb
          clear hb hHeld
          generalize wd.alloc (Obj.cells _ _) = wz at HWR HS HRD hS2 ⊢
          generalize wd.heap.size = z at HRD ⊢
          refine hK.out _ _ hS2 (fun hHeld => ?_)
          clear hK hS2
          refine wpAnyH_ready (rs := [4]) (by kernel_rfl) (by simp) ?_
          refine AllReadyH.cons rfl (fun K hK => ?_) AllReadyH.nil
          have k5 : wz.cell? ⟨q, 3, none⟩ = some vw := Blk.cell HWR.out.blk 3
          rw [if_pos (by rfl)]
          go_simp
          refine hK.out _ _ hHeld (fun hHeld => ?_)
          clear hK k5
          refine wpAnyH_ready (rs := [7]) (by kernel_rfl) (by simp) ?_
          refine AllReadyH.cons rfl (fun K hK => ?_) AllReadyH.nil
          rw [if_pos (by rfl)]
          refine wp_append_any _ (.tmp 35) (.tmp 37) _ rfl W0.heap.size 54 it _ 7 88 Tryz.underlying83 JI.out J0.out J1.out J2.out (by rfl) (by omega) vw ts.length xw rfl HWR.out.rw_ wz.heap.size (some ⟨z, 0, none⟩) 1 1 (talkL t (.slice A2 l.length c2)) rfl HRD.out (talk_ones t (.slice A2 l.length c2) rfl) (by unfold maxLen; omega) (by omega) (Nat.le_of_lt (Nat.lt_of_le_of_lt HWR.out.qle (Blk.lt HWR.out.blk))) ?_
          intro v3 wv hown hgr hor
          obtain ⟨nA, ncap, rfl, -⟩ := len_of hown
          have k5 : wv.cell? ⟨q, 3, none⟩ = some vw := Blk.cell (Blk.grown HWR.out.blk hgr (fun hh => own_blk_ne HWR.out.rw_ HWR.out.blk (by decide) hh.symm)) 3
          have z5 : wv.frozen? ⟨q, 3, none⟩ = false := Blk.frozen (Blk.grown HWR.out.blk hgr (fun hh => own_blk_ne HWR.out.rw_ HWR.out.blk (by decide) hh.symm)) 3
          have HW4 := Lib.hid (HWR.out.grow_w hown hgr hor)
          have HS4 := Lib.hid (HS.out.trans (WR.same_w _ HWR.out rfl rfl (v' := .slice nA (ts.length + 1) ncap) hgr))
          have hS2 := Blk.grown hHeld hgr (fun hh => NHU6.out hh.symm)
          have hqq : 54 ≠ 86 := by decide
          have hq := Blk.grown HWR.out.blk hgr (fun hh => own_blk_ne HWR.out.rw_ HWR.out.blk (by decide) hh.symm)
          have hS4 := Blk.far hS2 (p := ⟨q, 3, none⟩) (Blk.ne_ hS2 hq hqq) (.slice nA (ts.length + 1) ncap)
          clear hown hgr hor HRD HS HWR hHeld hq hqq
          go_simp
          refine hK.out _ _ hS2 (fun hHeld => ?_)
          clear hK hS2
          refine wpAnyH_takeD 39 (i := 8) (v := .pointer (some ⟨q, 0, none⟩)) rfl rfl (by kernel_rfl) (by kernel_rfl) (by kernel_rfl) (fun _ _ _ h => h) (Or.inl ⟨by rfl, fun wq hSw => by go_simp⟩) (by assumption) ?_
          simp only [Act.put, List.setIfInBounds_toArray, List.set_cons_zero, List.set_cons_succ]
          refine wpAnyH_takeD 40 (i := 9) (v := .pointer (some ⟨q, 3, none⟩)) rfl rfl (by kernel_rfl) (by kernel_rfl) (by kernel_rfl) (fun _ _ _ h => h) (Or.inl ⟨by rfl, fun wq hSw => by go_simp⟩) (by assumption) ?_
          simp only [Act.put, List.setIfInBounds_toArray, List.set_cons_zero, List.set_cons_succ]
          refine wpAnyH_ready (rs := [10]) (by kernel_rfl) (by simp) ?_
          refine AllReadyH.cons rfl (fun K hK => ?_) AllReadyH.nil
          rw [if_pos (by rfl)]
          go_simp
          refine hK.out _ _ hS4 (fun hHeld => ?_)
          clear hK
          refine wpAnyH_done (by kernel_rfl) ?_ _
          go_wp2_with fail
          go_meet
          case rel => exact ⟨_, HW4.out, HS4.out⟩
    obtain ⟨v7, hr7, hs7⟩ := hcut
    have HEND := Lib.hid (show WB W0 q gu gr v6 v7 vb3 vc3 (ts ++ [⟨t, .slice A1 l.length c1, .slice A2 l.length c2, l⟩]) (bl ++ [(.slice A1 l.length c1, l)]) (cl ++ [(c3, l)]) _ from HWB.out.kept (by
      rw [List.length_append, List.length_singleton, tRow_snoc, wRow_snoc, HXT.out, HXW.out]
      exact hr7) ((HS3.out.s8.trans HS6.out).trans hs7) HV2.out (Nat.le_refl _) (HC3.out.same8 (HS6.out.trans hs7)) HF.out (fun x hx => by
        rcases List.mem_append.1 hx with hx | hx
        · exact .inl hx
        · rw [List.mem_singleton] at hx
          subst hx
          exact .inr ⟨HV2.out, HX2.out⟩))
    have HSE : Hid (Same8 w _) := Lib.hid ((SameT.of_below HB2.out).trans ((HS3.out.s8.trans HS6.out).trans hs7))
    clear hr7 hs7 HWR HS3 HS6 HT6
    go_wp2_with fail
    go_ret
    exact ⟨rfl, ⟨_, _, _, _, _, HEND.out, HFR.out⟩, HSE.out⟩
  · have HEE := Lib.hid he
    have he' : (e == 0) = false := beq_eq_false_iff_ne.2 he
    clear he
    have HEND := Lib.hid (show WB W0 q gu gr vt vw vb3 vc3 ts (bl ++ [(.slice A1 l.length c1, l)]) (cl ++ [(c3, l)]) w3 from HWB.out.kept HWR.out HS3.out.s8 HV2.out (Nat.le_refl _) HC3.out HF.out (fun x hx => .inl hx))
    have HSE : Hid (Same8 w w3) := Lib.hid ((SameT.of_below HB2.out).trans HS3.out.s8)
    clear HWR HS3 HT5 HT6
    go_wp2_with fail
    go_ret
    exact ⟨rfl, ⟨_, _, _, _, _, HEND.out, HFR.out⟩, HSE.out⟩
end Go.Proofs.YtlenlldiimohjaaGreatDoor
