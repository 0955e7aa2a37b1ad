/-
  vergerlaw03: MsgOne. Conditions: the tables and the errors that it reads lie as laid.
-/
import Derived.Test.YtkblmloobkiloaaGreatDoorQ28
namespace Go.Proofs.YtkblmloobkiloaaGreatDoor
open Go.RowKit

theorem Bys.at2 {w : World} {B : Nat} {A : Option Addr} {n c : Nat} {l : List UInt8} (h : Bys w B (.slice A n c) l) {k : Nat} {b : UInt8} (hx : l[k]? = some b) : ∃ ad, A = some ad ∧ ad.block < B ∧ w.cell? (ad.add k) = some (.int .u8 (b.toNat : Int)) := by
  obtain ⟨A', c', e, -, -, hr⟩ := h
  injection e with e1 e2 e3
  subst e1
  have hk : k < l.length := (List.getElem?_eq_some_iff.1 hx).1
  obtain ⟨ad, u, h1, h2, h3, h4⟩ := hr.at_ hk
  refine ⟨ad, h1, h2, h4.trans ?_⟩
  rw [byteL, List.getElem?_map, hx] at h3
  exact h3.symm ▸ rfl
theorem dec_bad {x : List UInt8} {m : Mg} {e : Nat} (h : dec x = (m, e)) (he : e ≠ 0) : (e = 31 ∧ m = head 0 0) ∨ ((e = 32 ∨ e = 33) ∧ 7 ≤ x.length ∧ m = head (numL ((x.drop 4).take 1)) (numL ((x.drop 5).take 2))) := by
  unfold dec at h
  split at h
  · injection h with h1 h2; exact .inl ⟨h2.symm, h1.symm⟩
  · rename_i hl
    split at h
    · injection h with h1 h2; exact .inl ⟨h2.symm, h1.symm⟩
    · split at h
      · injection h with h1 h2; exact .inr ⟨.inl h2.symm, by omega, h1.symm⟩
      · split at h
        · injection h with h1 h2; exact absurd h2.symm he
        · injection h with h1 h2; exact .inr ⟨.inr h2.symm, by omega, h1.symm⟩
theorem seven {x : List UInt8} (h : 7 ≤ x.length) : ∃ b4 b5 b6 : UInt8, x[4]? = some b4 ∧ x[5]? = some b5 ∧ x[6]? = some b6 ∧ numL ((x.drop 4).take 1) = b4.toNat ∧ numL ((x.drop 5).take 2) = b5.toNat + 256 * b6.toNat := by
  match x, h with
  | a0 :: a1 :: a2 :: a3 :: b4 :: b5 :: b6 :: r, _ => exact ⟨b4, b5, b6, rfl, rfl, rfl, rfl, rfl⟩
theorem wp_storeM {op : Oper} {a : Act} {w : World} {K : Act → World → Prop} {Q : Exit → Act → World → Prop} {q : Nat} {m0 m : Mg} {an aq ad vn vq vd : Value} (hk : MBlk w q m0 an aq ad) (hov : over (msgL m0 an aq ad).toArray 0 (msgL m vn vq vd) = (msgL m vn vq vd).toArray) (h1 : (msgL m vn vq vd).toArray.all (·.oneCell') = true) (y z : Operand) (ho : op.op = .store 41 y z) (hx : a.eval y = .pointer (some ⟨q, 0, none⟩)) (hy : a.eval z = msgV m vn vq vd)
    (hd : op.dst = none) (h : ∀ w' : World, MBlk w' q m vn vq vd → (∀ S : Nat → Prop, S q → ∀ v, Off S v w → Off S v w') → K a w') : op.wp Tryz.prog a w K Q :=
  wp_store_mid _ y z ho q 0 (msgL m vn vq vd).toArray hx hy (fun j hj => by
    have hj' : j < 36 := by simpa using hj
    rw [Nat.zero_add]
    refine ⟨?_, Blk.frozen hk j⟩
    rw [Blk.cell hk j, Array.getElem?_eq_getElem (by simpa using hj')]
    rfl) msg_size h1 (by rw [hd]; exact h _ (by have := Blk.setCells_ (msgL m vn vq vd) 0 hk; rw [hov] at this; exact this) (fun S hS v hv => setCells_off hv hS _ 0))
/-- Where a law stands that has read m into a block. -/
structure LS (w0 w : World) : Prop where
  up : Below w0.heap.size w0 w
  wd : Worldly w
theorem LS.next {w0 w w' : World} (h : LS w0 w) (hb : Below w.heap.size w w') : LS w0 w' := ⟨h.up.trans (hb.mono h.up.size), h.wd.next hb⟩
theorem LS.start {w : World} (h : Worldly w) : LS w w := ⟨Below.refl _ _, h⟩
theorem LS.bys {w0 w : World} {v : Value} {x : List UInt8} (h : LS w0 w) (hx : Bys w0 w0.heap.size v x) : Bys w w.heap.size v x := (hx.below h.up).more h.up.size
theorem sum_mem {f : Fld} {fs : List Fld} (g : Fld → Nat) (h : f ∈ fs) : g f ≤ (fs.map g).sum := by
  induction fs with
  | nil => cases h
  | cons a fs ih =>
    rw [List.map_cons, List.sum_cons]
    rcases List.mem_cons.1 h with rfl | h
    · omega
    · have := ih h
      omega
theorem ref_size {m : Mg} {fs : List Fld} (hk : kindF m.kind = some fs) (h : (refused m).1 = 0) : m.size fs ≤ 65536 := by
  unfold refused at h
  rw [hk] at h
  dsimp only at h
  split at h
  · split at h
    · cases h
    · omega
  · cases h
theorem enc_small {m : Mg} (h : (refused m).1 = 0) (hc : clean m = m) : m.small := by
  obtain ⟨fs, hk⟩ := not_refused h
  intro f
  by_cases hm : f ∈ fs
  · have h1 := sum_mem m.long hm
    have h2 := ref_size hk h
    unfold Mg.size at h2
    omega
  · have hf : fs.foldl (fun c f => c.move m f) (head m.kind m.tag) = m := by
      have := hc
      unfold clean at this
      rw [hk] at this
      exact this
    have h1 : Alike m (head m.kind m.tag) f := by
      intro d
      have := foldl_out m f fs (head m.kind m.tag) hm d
      rwa [hf] at this
    rw [h1.long]
    have := head_long m.kind m.tag f
    omega

set_option maxRecDepth 100000 in
set_option maxHeartbeats 6400000 in
theorem one_calls (hv : Value) (x : List UInt8) (w : World) (hw : Worldly w) (hx : Bys w w.heap.size hv x) : Calls Tryz.prog 9 #[hv] w fun e w' => e = .returned (.bool true) ∧ Below w.heap.size w w' := by
  have HX := Lib.hid hx
  have HS0 := Lib.hid (LS.start hw)
  obtain ⟨A, cap, rfl, hxc, hxm, -⟩ := hx
  have hxl : x.length ≤ 9223372036854775807 := by unfold maxLen at hxm; omega
  clear hw hxc hxm
  go_enter Tryz.func9, Tryz.ntmps9
  go_wp2_with fail
  refine (works_calls w HS0.out.wd.se HS0.out.wd.rd HS0.out.wd.tp).mono ?_
  rintro e w1 ⟨rfl, hb⟩
  have HS1 := Lib.hid (HS0.out.next hb)
  clear hb
  by_cases hbig : 8388608 < x.length
  · go_wp2_with fail
    refine bodyPost_ret (v := .bool true) (by simp [results, Tryz.results9]) rfl ⟨rfl, ?_⟩
    exact HS1.out.up
  · have HBIG := Lib.hid hbig
    go_wp2_with fail
    refine (decode_calls _ x w1 (HS1.out.bys HX.out) HS1.out.wd.rd (by have := HBIG.out; omega)).mono ?_
    rintro e w2 ⟨⟨vn, vq, vd, rfl, hol⟩, hb⟩
    have HOL := Lib.hid hol
    have HS2 := Lib.hid (HS1.out.next hb)
    clear hol hb HS1
    obtain ⟨m, e, hd⟩ : ∃ m e, dec x = (m, e) := ⟨_, _, rfl⟩
    have HD := Lib.hid hd
    rw [hd] at HOL ⊢
    dsimp only at HOL ⊢
    clear hd
    go_upto_region 5 with (change wpList _ _ _ _ _ (w2.alloc (.cells (mgN (head 0 0)).toArray 41)); have hup : Below w2.heap.size w2 (w2.alloc (.cells (mgN (head 0 0)).toArray 41)) := (Below.refl _ _).alloc (Nat.le_refl _) _; have HMZ := Lib.hid (show MBlk (w2.alloc (.cells (mgN (head 0 0)).toArray 41)) w2.heap.size (head 0 0) (.slice none 0 0) (.slice none 0 0) (.slice none 0 0) from Blk.new w2 _ _); generalize (w2.alloc (.cells (mgN (head 0 0)).toArray 41)) = w2z at hup HMZ ⊢; refine wstK HMZ.out 0 (msgL m vn vq vd) _ (over_msg ..) (Nat.le_refl 36) (msg_one _ (own_one HOL.out.n) (own_one HOL.out.q) (own_one HOL.out.d)) rfl _ _ _ rfl rfl rfl msg_size ?_; intro w3 hs ho; have HM3 := Lib.hid (show MBlk w3 w2.heap.size m vn vq vd from hs); have HBB := Lib.hid (hup.trans ((ho (fun i => i = w2.heap.size) rfl w2z (Off.refl _ _)).below (fun k hk => (by have hk : k = w2.heap.size := hk; omega)) hup.size)); clear hs ho hup HMZ)
    have HOL3 := Lib.hid (HOL.out.below HBB.out).lists
    have HOW3 := Lib.hid (And.intro (own_one HOL.out.n) (And.intro (own_one HOL.out.q) (own_one HOL.out.d)))
    have HS3 := Lib.hid (HS2.out.next HBB.out)
    generalize w2.heap.size = q4 at HM3 ⊢
    clear HOL HS2 HBB
    by_cases h31 : e = 31
    · subst h31
      have hm : m = head 0 0 := by rcases dec_bad HD.out (by decide) with h | h; exact h.2; omega
      have HSAME := Lib.hid (same_calls m (head 0 0) vn vq vd (.slice none 0 0) (.slice none 0 0) (.slice none 0 0) w3 HOL3.out ⟨Nams.nil_ _ _, Qids.nil_ _ _, Bys.nil_ _ _⟩)
      have HMM := Lib.hid hm
      clear hm
      go_wp2_with (refine wlw HM3.out 0 (msgL m vn vq vd) rfl rfl _ _ rfl rfl _ Tryz.underlying41 rfl msg_size ?_)
      refine HSAME.out.mono ?_
      rintro e w4 ⟨⟨r, rfl, hr⟩, hb⟩
      obtain rfl : r = true := hr.2 HMM.out
      have HS4 := Lib.hid (HS3.out.next hb)
      clear hr hb
      go_wp2_with fail
      refine bodyPost_ret (v := .bool true) (by simp [results, Tryz.results9]) rfl ⟨rfl, ?_⟩
      exact HS4.out.up
    · have h7 : 7 ≤ x.length := by
        by_cases h0 : e = 0
        · subst h0
          obtain ⟨-, -, -, -, -, -, h, -⟩ := dec_some HD.out
          exact h
        · rcases dec_bad HD.out h0 with h | h
          · exact absurd h.1 h31
          · exact h.2.1
      obtain ⟨b4, b5, b6, e4, e5, e6, hkd, htg⟩ := seven h7
      have hq31 : ((e : Int) == 31) = false := by rw [beq_eq_false_iff_ne]; omega
      go_upto_region 10 with (fail)
      obtain ⟨ad, rfl, hadl, k4⟩ := (HX.out.below HS3.out.up).at2 e4
      obtain ⟨ad', had, -, k5⟩ := (HX.out.below HS3.out.up).at2 e5
      obtain rfl : ad = ad' := Option.some.inj had
      obtain ⟨ad', had, -, k6⟩ := (HX.out.below HS3.out.up).at2 e6
      obtain rfl : ad = ad' := Option.some.inj had
      have K4 := Lib.hid (show w3.cell? ⟨ad.block, ad.off + 4, none⟩ = some (.int .u8 (b4.toNat : Int)) from k4)
      have K5 := Lib.hid (show w3.cell? ⟨ad.block, ad.off + 5, none⟩ = some (.int .u8 (b5.toNat : Int)) from k5)
      have K6 := Lib.hid (show w3.cell? ⟨ad.block, ad.off + 6, none⟩ = some (.int .u8 (b6.toNat : Int)) from k6)
      have hlt := Nat.lt_of_lt_of_le hadl HS3.out.up.size
      have HLT := Lib.hid hlt
      have l4 : b4.toNat < 256 := b4.toNat_lt
      have l5 : b5.toNat < 256 := b5.toNat_lt
      have l6 : b6.toNat < 256 := b6.toNat_lt
      have n4 : ¬ (x.length : Int) ≤ 4 := by omega
      have n5 : ¬ (x.length : Int) ≤ 5 := by omega
      have n6 : ¬ (x.length : Int) ≤ 6 := by omega
      have HKD := Lib.hid hkd
      have HTG := Lib.hid htg
      have HN31 := Lib.hid h31
      clear k4 k5 k6 had hadl hlt e4 e5 e6 hkd htg h31
      have HB := Lib.hid (below_drew w3)
      have HMA := Lib.hid (show MBlk w3.drew q4 m vn vq vd from HM3.out)
      try simp only [Act.put]
      refine wp_region_held_drew (S := Below w3.heap.size w3) (by kernel_rfl) HB.out (fun hHeld => ?_)
      generalize w3.drew = wd at HB hHeld ⊢
      refine wpAnyH_takeD 35 (i := 0) (v := .slice (some ad) x.length cap) rfl rfl (by kernel_rfl) (by kernel_rfl) (by kernel_rfl) (fun _ _ _ h => h) (Or.inl ⟨by rfl, fun wq hSw => by go_simp⟩) (by assumption) ?_
      simp only [Act.put, List.setIfInBounds_toArray, List.set_cons_zero, List.set_cons_succ]
      refine wpAnyH_takeD 36 (i := 1) (v := .pointer (some ⟨ad.block, ad.off + 4, none⟩)) rfl rfl (by kernel_rfl) (by kernel_rfl) (by kernel_rfl) (fun _ _ _ h => h) (Or.inl ⟨by rfl, fun wq hSw => by go_simp⟩) (by assumption) ?_
      simp only [Act.put, List.setIfInBounds_toArray, List.set_cons_zero, List.set_cons_succ]
      refine wpAnyH_takeD 37 (i := 2) (v := .int .u8 (b4.toNat : Int)) rfl rfl (by kernel_rfl) (by kernel_rfl) (by kernel_rfl) (fun _ _ _ h => h) (Or.inl ⟨by rfl, fun wq hSw => by have k := (hSw.cell (p := ⟨ad.block, ad.off + 4, none⟩) HLT.out).trans K4.out; go_simp⟩) (by assumption) ?_
      simp only [Act.put, List.setIfInBounds_toArray, List.set_cons_zero, List.set_cons_succ]
      refine wpAnyH_takeD 38 (i := 3) (v := .slice (some ad) x.length cap) rfl rfl (by kernel_rfl) (by kernel_rfl) (by kernel_rfl) (fun _ _ _ h => h) (Or.inl ⟨by rfl, fun wq hSw => by go_simp⟩) (by assumption) ?_
      simp only [Act.put, List.setIfInBounds_toArray, List.set_cons_zero, List.set_cons_succ]
      refine wpAnyH_takeD 39 (i := 4) (v := .pointer (some ⟨ad.block, ad.off + 5, none⟩)) rfl rfl (by kernel_rfl) (by kernel_rfl) (by kernel_rfl) (fun _ _ _ h => h) (Or.inl ⟨by rfl, fun wq hSw => by go_simp⟩) (by assumption) ?_
      simp only [Act.put, List.setIfInBounds_toArray, List.set_cons_zero, List.set_cons_succ]
      refine wpAnyH_takeD 40 (i := 5) (v := .int .u8 (b5.toNat : Int)) rfl rfl (by kernel_rfl) (by kernel_rfl) (by kernel_rfl) (fun _ _ _ h => h) (Or.inl ⟨by rfl, fun wq hSw => by have k := (hSw.cell (p := ⟨ad.block, ad.off + 5, none⟩) HLT.out).trans K5.out; go_simp⟩) (by assumption) ?_
      simp only [Act.put, List.setIfInBounds_toArray, List.set_cons_zero, List.set_cons_succ]
      refine wpAnyH_takeD 41 (i := 6) (v := .int .u16 (b5.toNat : Int)) rfl rfl (by kernel_rfl) (by kernel_rfl) (by kernel_rfl) (fun _ _ _ h => h) (Or.inl ⟨by rfl, fun wq hSw => by have hw : IntKind.u16.wrap (b5.toNat : Int) = (b5.toNat : Int) := (by rw [IntKind.wrap_u16]; omega); go_simp⟩) (by assumption) ?_
      simp only [Act.put, List.setIfInBounds_toArray, List.set_cons_zero, List.set_cons_succ]
      refine wpAnyH_takeD 42 (i := 7) (v := .slice (some ad) x.length cap) rfl rfl (by kernel_rfl) (by kernel_rfl) (by kernel_rfl) (fun _ _ _ h => h) (Or.inl ⟨by rfl, fun wq hSw => by go_simp⟩) (by assumption) ?_
      simp only [Act.put, List.setIfInBounds_toArray, List.set_cons_zero, List.set_cons_succ]
      refine wpAnyH_takeD 43 (i := 8) (v := .pointer (some ⟨ad.block, ad.off + 6, none⟩)) rfl rfl (by kernel_rfl) (by kernel_rfl) (by kernel_rfl) (fun _ _ _ h => h) (Or.inl ⟨by rfl, fun wq hSw => by go_simp⟩) (by assumption) ?_
      simp only [Act.put, List.setIfInBounds_toArray, List.set_cons_zero, List.set_cons_succ]
      refine wpAnyH_takeD 44 (i := 9) (v := .int .u8 (b6.toNat : Int)) rfl rfl (by kernel_rfl) (by kernel_rfl) (by kernel_rfl) (fun _ _ _ h => h) (Or.inl ⟨by rfl, fun wq hSw => by have k := (hSw.cell (p := ⟨ad.block, ad.off + 6, none⟩) HLT.out).trans K6.out; go_simp⟩) (by assumption) ?_
      simp only [Act.put, List.setIfInBounds_toArray, List.set_cons_zero, List.set_cons_succ]
      refine wpAnyH_takeD 45 (i := 10) (v := .int .u16 (b6.toNat : Int)) rfl rfl (by kernel_rfl) (by kernel_rfl) (by kernel_rfl) (fun _ _ _ h => h) (Or.inl ⟨by rfl, fun wq hSw => by have hw : IntKind.u16.wrap (b6.toNat : Int) = (b6.toNat : Int) := (by rw [IntKind.wrap_u16]; omega); go_simp⟩) (by assumption) ?_
      simp only [Act.put, List.setIfInBounds_toArray, List.set_cons_zero, List.set_cons_succ]
      refine wpAnyH_takeD 46 (i := 11) (v := .int .u16 (256 * (b6.toNat : Int))) rfl rfl (by kernel_rfl) (by kernel_rfl) (by kernel_rfl) (fun _ _ _ h => h) (Or.inl ⟨by rfl, fun wq hSw => by have hw : IntKind.u16.wrap (256 * (b6.toNat : Int)) = 256 * (b6.toNat : Int) := (by rw [IntKind.wrap_u16]; omega); go_simp⟩) (by assumption) ?_
      simp only [Act.put, List.setIfInBounds_toArray, List.set_cons_zero, List.set_cons_succ]
      refine wpAnyH_takeD 47 (i := 12) (v := .int .u16 ((b5.toNat + 256 * b6.toNat : Nat) : Int)) rfl rfl (by kernel_rfl) (by kernel_rfl) (by kernel_rfl) (fun _ _ _ h => h) (Or.inl ⟨by rfl, fun wq hSw => by have hw : IntKind.u16.wrap ((b5.toNat : Int) + 256 * (b6.toNat : Int)) = (b5.toNat : Int) + 256 * (b6.toNat : Int) := (by rw [IntKind.wrap_u16]; omega); have hc : ((b5.toNat + 256 * b6.toNat : Nat) : Int) = (b5.toNat : Int) + 256 * (b6.toNat : Int) := (by omega); rw [hc]; go_simp⟩) (by assumption) ?_
      simp only [Act.put, List.setIfInBounds_toArray, List.set_cons_zero, List.set_cons_succ]
      refine wpAnyH_takeD 48 (i := 13) (v := .agg #[.int .u8 (b4.toNat : Int), .int .u16 ((b5.toNat + 256 * b6.toNat : Nat) : Int), .int .u32 0, .string ⟨#[]⟩, .int .u32 0, .string ⟨#[]⟩, .string ⟨#[]⟩, .string ⟨#[]⟩, .int .u16 0, .int .u32 0, .int .u32 0, .slice none 0 0, .slice none 0 0, .int .u8 0, .int .u32 0, .int .u64 0, .int .u8 0, .int .u32 0, .string ⟨#[]⟩, .int .u32 0, .int .u64 0, .int .u32 0, .slice none 0 0, .int .u16 0, .int .u32 0, .int .u8 0, .int .u32 0, .int .u64 0, .int .u32 0, .int .u32 0, .int .u32 0, .int .u64 0, .string ⟨#[]⟩, .string ⟨#[]⟩, .string ⟨#[]⟩, .string ⟨#[]⟩]) rfl rfl (by kernel_rfl) (by kernel_rfl) (by kernel_rfl) (fun _ _ _ h => h) (Or.inl ⟨by rfl, fun wq hSw => by go_simp⟩) (by assumption) ?_
      simp only [Act.put, List.setIfInBounds_toArray, List.set_cons_zero, List.set_cons_succ]
      generalize hkd' : b4.toNat = kd at *
      have HKE := Lib.hid hkd'
      clear hkd'
      generalize htg' : b5.toNat + 256 * b6.toNat = tg at *
      have HTE := Lib.hid htg'
      clear htg'
      refine wpAnyH_ready (rs := [14]) (by kernel_rfl) (by simp) ?_
      refine AllReadyH.cons rfl (fun K hK => ?_) AllReadyH.nil
      rw [if_pos (by rfl)]
      go_simp
      have HU1 := Lib.hid (show Below wd.heap.size wd (wd.alloc (.cells (mgN (head 0 0)).toArray 41)) from (Below.refl _ _).alloc (Nat.le_refl _) _)
      have HZA := Lib.hid (show MBlk (wd.alloc (.cells (mgN (head 0 0)).toArray 41)) wd.heap.size (head 0 0) (.slice none 0 0) (.slice none 0 0) (.slice none 0 0) from Blk.new wd _ _)
      change K _ (wd.alloc (.cells (mgN (head 0 0)).toArray 41))
      generalize wd.alloc (.cells (mgN (head 0 0)).toArray 41) = wa at HU1 HZA ⊢
      refine hK.out _ _ (hHeld.trans (HU1.out.mono hHeld.size)) (fun hHeld2 => ?_)
      clear hK hHeld2
      refine wpAnyH_ready (rs := [15]) (by kernel_rfl) (by simp) ?_
      refine AllReadyH.cons rfl (fun K hK => ?_) AllReadyH.nil
      rw [if_pos (by rfl)]
      refine wp_storeM HZA.out (m := head kd tg) (over_msg ..) (msg_one _ rfl rfl rfl) _ _ rfl rfl rfl rfl ?_
      intro wb hs ho
      have HM7 := Lib.hid hs
      have hoff := ho (fun i => i = wd.heap.size) rfl wa (Off.refl _ _)
      have hbl : Below wd.heap.size wd wb := HU1.out.trans (hoff.below (fun k hk => (by have hk : k = wd.heap.size := hk; omega)) HU1.out.size)
      have hb3 : Below w3.heap.size w3 wb := hHeld.trans (hbl.mono hHeld.size)
      refine hK.out _ _ hb3 (fun hHeld3 => ?_)
      clear hK hHeld3
      have HM4 := Lib.hid (Blk.below HM3.out hb3 (Blk.lt HM3.out))
      have HOL4 := Lib.hid ((HOL3.out.below hb3).more hb3.size)
      have HS4 := Lib.hid (HS3.out.next hb3)
      generalize wd.heap.size = q7 at HM7 ⊢
      clear hs ho hoff hbl hb3 hHeld HU1 HZA HM3 HOL3 HS3 HB HMA
      refine wpAnyH_done (by kernel_rfl) ?_ _
      by_cases h0 : e = 0
      · subst h0
        obtain ⟨hr, hen, hcl, hok, hk1, hk2, -, -⟩ := dec_some HD.out
        have HOK := Lib.hid hok
        have HSM := Lib.hid (enc_small hr hcl)
        have hee : enc m = (x, 0) := Prod.ext hen (by rw [enc_refused2, hr])
        have HEN := Lib.hid (encode_calls m vn vq vd wb hok HOL4.out HS4.out.wd.rd HSM.out)
        rw [hee] at HEN
        have HCL := Lib.hid hcl
        have HKK := Lib.hid (show m.kind = kd ∧ m.tag = tg from ⟨hk1.trans HKD.out, hk2.trans HTG.out⟩)
        clear hr hen hcl hok hk1 hk2 hee hq31
        go_wp2_with (refine wlw HM4.out 0 (msgL m vn vq vd) rfl rfl _ _ rfl rfl _ Tryz.underlying41 rfl msg_size ?_)
        refine HEN.out.mono ?_
        rintro e w5 ⟨⟨v, rfl, hown⟩, hb⟩
        dsimp only at hown ⊢
        have HF5 := Lib.hid (Bys.of_own hown)
        have HM5 := Lib.hid (Blk.below HM4.out hb (Blk.lt HM4.out))
        have HM75 := Lib.hid (Blk.below HM7.out hb (Blk.lt HM7.out))
        have HOL5 := Lib.hid ((HOL4.out.below hb).more hb.size)
        have HS5 := Lib.hid (HS4.out.next hb)
        clear hown hb HEN HM4 HM7 HOL4 HS4
        have HCN := Lib.hid (clean_calls m vn vq vd w5 HOL5.out HSM.out)
        rw [HCL.out] at HCN
        go_wp2_with (refine wlw HM5.out 0 (msgL m vn vq vd) rfl rfl _ _ rfl rfl _ Tryz.underlying41 rfl msg_size ?_)
        refine HCN.out.mono ?_
        rintro e w6 ⟨⟨cn, cq, cd, rfl, hol⟩, hb⟩
        have HOLC := Lib.hid hol
        have HF6 := Lib.hid ((HF5.out.below hb).more hb.size)
        have HM6 := Lib.hid (Blk.below HM5.out hb (Blk.lt HM5.out))
        have HM76 := Lib.hid (Blk.below HM75.out hb (Blk.lt HM75.out))
        have HOL6 := Lib.hid ((HOL5.out.below hb).more hb.size)
        have HS6 := Lib.hid (HS5.out.next hb)
        clear hol hb HCN HF5 HM5 HM75 HOL5 HS5
        dsimp only
        go_upto_region 16 with (change wpList _ _ _ _ _ (w6.alloc (.cells (mgN (head 0 0)).toArray 41)); have hup : Below w6.heap.size w6 (w6.alloc (.cells (mgN (head 0 0)).toArray 41)) := (Below.refl _ _).alloc (Nat.le_refl _) _; have HMZ := Lib.hid (show MBlk (w6.alloc (.cells (mgN (head 0 0)).toArray 41)) w6.heap.size (head 0 0) (.slice none 0 0) (.slice none 0 0) (.slice none 0 0) from Blk.new w6 _ _); generalize (w6.alloc (.cells (mgN (head 0 0)).toArray 41)) = w6z at hup HMZ ⊢; refine wstK HMZ.out 0 (msgL m cn cq cd) _ (over_msg ..) (Nat.le_refl 36) (msg_one _ (own_one HOLC.out.n) (own_one HOLC.out.q) (own_one HOLC.out.d)) rfl _ _ _ rfl rfl rfl msg_size ?_; intro w7 hs ho; have HMC := Lib.hid (show MBlk w7 w6.heap.size m cn cq cd from hs); have HBB := Lib.hid (hup.trans ((ho (fun i => i = w6.heap.size) rfl w6z (Off.refl _ _)).below (fun k hk => (by have hk : k = w6.heap.size := hk; omega)) hup.size)); clear hs ho hup HMZ)
        have HF7 := Lib.hid ((HF6.out.below HBB.out).more HBB.out.size)
        have HM47 := Lib.hid (Blk.below HM6.out HBB.out (Blk.lt HM6.out))
        have HM77 := Lib.hid (Blk.below HM76.out HBB.out (Blk.lt HM76.out))
        have HOL7 := Lib.hid ((HOL6.out.below HBB.out).more HBB.out.size)
        have HOC7 := Lib.hid (HOLC.out.below HBB.out).lists
        have HS7 := Lib.hid (HS6.out.next HBB.out)
        generalize w6.heap.size = q11 at HMC ⊢
        clear HF6 HM6 HM76 HOL6 HOLC HS6 HBB
        have HSAME := Lib.hid (same_calls m m vn vq vd cn cq cd w7 HOL7.out HOC7.out)
        go_wp2_with (first | (refine wlw HM47.out 0 (msgL m vn vq vd) rfl rfl _ _ rfl rfl _ Tryz.underlying41 rfl msg_size ?_) | (refine wlw HMC.out 0 (msgL m cn cq cd) rfl rfl _ _ rfl rfl _ Tryz.underlying41 rfl msg_size ?_))
        refine HSAME.out.mono ?_
        rintro e w8 ⟨⟨r, rfl, hr⟩, hb⟩
        obtain rfl : r = true := hr.2 rfl
        have HS8 := Lib.hid (HS7.out.next hb)
        have HM8 := Lib.hid (Blk.below HM47.out hb (Blk.lt HM47.out))
        have HM78 := Lib.hid (Blk.below HM77.out hb (Blk.lt HM77.out))
        have hc1 := conv_bys (HF7.out.below hb)
        have hc2 := conv_bys (HS8.out.bys HX.out)
        have c40 : w8.cell? ⟨q4, 0, none⟩ = some (.int .u8 (kd : Int)) := (Blk.cell HM8.out 0).trans (by rw [← HKK.out.1]; rfl)
        have c41 : w8.cell? ⟨q4, 1, none⟩ = some (.int .u16 (tg : Int)) := (Blk.cell HM8.out 1).trans (by rw [← HKK.out.2]; rfl)
        have c70 : w8.cell? ⟨q7, 0, none⟩ = some (.int .u8 (kd : Int)) := Blk.cell HM78.out 0
        have c71 : w8.cell? ⟨q7, 1, none⟩ = some (.int .u16 (tg : Int)) := Blk.cell HM78.out 1
        clear hb hr HSAME HF7 HM47 HM77 HOL7 HOC7 HS7 HMC
        go_wp2_with fail
        refine bodyPost_ret (v := .bool true) (by simp [results, Tryz.results9]) rfl ⟨rfl, ?_⟩
        exact HS8.out.up
      · have hm : m = head kd tg := by
          rcases dec_bad HD.out h0 with h | h
          · exact absurd h.1 HN31.out
          · rw [h.2.2, HKD.out, HTG.out]
        have he : e = 32 ∨ e = 33 := by
          rcases dec_bad HD.out h0 with h | h
          · exact absurd h.1 HN31.out
          · exact h.1
        have HMM := Lib.hid hm
        have HSAME := Lib.hid (same_calls m (head kd tg) vn vq vd (.slice none 0 0) (.slice none 0 0) (.slice none 0 0) wb HOL4.out ⟨Nams.nil_ _ _, Qids.nil_ _ _, Bys.nil_ _ _⟩)
        clear hm h0 hq31
        rcases he with rfl | rfl
        all_goals (
          go_wp2_with (first | (refine wlw HM4.out 0 (msgL m vn vq vd) rfl rfl _ _ rfl rfl _ Tryz.underlying41 rfl msg_size ?_) | (refine wlw HM7.out 0 (msgL (head kd tg) (.slice none 0 0) (.slice none 0 0) (.slice none 0 0)) rfl rfl _ _ rfl rfl _ Tryz.underlying41 rfl msg_size ?_))
          refine HSAME.out.mono ?_
          rintro e w5 ⟨⟨r, rfl, hr⟩, hb⟩
          obtain rfl : r = true := hr.2 HMM.out
          have HS5 := Lib.hid (HS4.out.next hb)
          clear hb hr
          go_wp2_with fail
          refine bodyPost_ret (v := .bool true) (by simp [results, Tryz.results9]) rfl ⟨rfl, ?_⟩
          exact HS5.out.up)
end Go.Proofs.YtkblmloobkiloaaGreatDoor
