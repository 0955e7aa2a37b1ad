/-
  MT4 MR8: what the laws of package msg need of them.
-/
import Derived.Test.YtkblmloobkiloaaGreatDoorQ07
import Derived.Test.YtkblmloobkiloaaGreatDoorQ13
namespace Go.Proofs.YtkblmloobkiloaaGreatDoor
open Go.RowKit
open Go.Lib (decDigits)

theorem wrap_u64_nat {n : Nat} (h : n < 18446744073709551616) : IntKind.u64.wrap (n : Int) = (n : Int) := by
  rw [IntKind.wrap_u64]
  omega
theorem dig_len (n : Nat) (h : n < 18446744073709551616) : (ofL (decDigits n)).size ≤ 20 := by
  rw [ofL_size, Lib.decDigits_length]
  by_cases h0 : n = 0
  · subst h0
    have := Lib.decDigits_length 0
    have h1 : (Lib.decDigits 0).length = 1 := by simp [Lib.decDigits]
    omega
  · have := Lib.numDigits_eq n (by omega) h
    split at this <;> omega
set_option maxRecDepth 100000 in
set_option maxHeartbeats 1600000 in
theorem dot_calls (q : Qd) (hq : q.kind < 18446744073709551616 ∧ q.vers < 18446744073709551616 ∧ q.path < 18446744073709551616) (w : World) (ht : TP w) (h8 : 8 ≤ w.heap.size) :
    Calls Tryz.prog 176 #[qdV q] w fun e w' => e = .returned (.string (ofL (dotL q))) ∧ Below w.heap.size w w' := by
  have hup : Below w.heap.size w (w.alloc (.cells #[.int .u8 (q.kind : Int), .int .u32 (q.vers : Int), .int .u64 (q.path : Int)] 37)) := (Below.refl _ _).alloc (Nat.le_refl _) _
  have HN := Lib.hid (Blk.new w 37 #[.int .u8 (q.kind : Int), .int .u32 (q.vers : Int), .int .u64 (q.path : Int)])
  have HT0 := Lib.hid (ht.low hup h8)
  have HB := Lib.hid hup
  have HQ := Lib.hid hq
  have h1 := dig_len q.kind hq.1
  have h2 := dig_len q.vers hq.2.1
  have h3 := dig_len q.path hq.2.2
  have H8 := Lib.hid h8
  clear hup ht hq h8
  unfold qdV
  go_enter Tryz.func176, Tryz.ntmps176
  go_upto_region 1 with (fail)
  generalize w.alloc (.cells #[.int .u8 (q.kind : Int), .int .u32 (q.vers : Int), .int .u64 (q.path : Int)] 37) = w0 at HN HB HT0 ⊢
  generalize hb : w.heap.size = b at HN H8 HB ⊢
  have HBB := Lib.hid hb; clear hb
  have HL := Lib.hid (Blk.lt HN.out)
  have HTP := Lib.hid (show ∀ wx, Below w0.heap.size w0 wx → TP wx from fun wx h => HT0.out.low h (by have := HL.out; have := H8.out; omega))
  have k0 : w0.cell? ⟨b, 0, none⟩ = some (.int .u8 (q.kind : Int)) := HN.out.cell 0
  have k1 : w0.cell? ⟨b, 1, none⟩ = some (.int .u32 (q.vers : Int)) := HN.out.cell 1
  have k2 : w0.cell? ⟨b, 2, none⟩ = some (.int .u64 (q.path : Int)) := HN.out.cell 2
  have HRES := Lib.hid (show ofL (decDigits q.kind) ++ ⟨#[46]⟩ ++ ofL (decDigits q.vers) ++ ⟨#[46]⟩ ++ ofL (decDigits q.path) = ofL (dotL q) from by
    apply ByteArray.ext
    rw [← Array.toList_inj]
    simp [ofL, dotL, ByteArray.data_append])
  generalize hx1 : ofL (decDigits q.kind) = X1 at h1 HRES
  have HX1 := Lib.hid hx1; clear hx1
  generalize hx2 : ofL (decDigits q.vers) = X2 at h2 HRES
  have HX2 := Lib.hid hx2; clear hx2
  generalize hx3 : ofL (decDigits q.path) = X3 at h3 HRES
  have HX3 := Lib.hid hx3; clear hx3
  have hw1 : IntKind.u64.wrap (q.kind : Int) = (q.kind : Int) := wrap_u64_nat HQ.out.1
  have hw2 : IntKind.u64.wrap (q.vers : Int) = (q.vers : Int) := wrap_u64_nat HQ.out.2.1
  refine wp_region_held_drew (S := fun wx => Below w0.heap.size w0 wx) (by kernel_rfl) (below_drew w0) (fun hHeld => ?_)
  generalize w0.drew = wd at hHeld ⊢
  refine wpAnyH_takeD 3 (i := 0) (v := .pointer (some ⟨b, 0, none⟩)) rfl rfl (by kernel_rfl) (by kernel_rfl) (by kernel_rfl) (fun _ _ _ h => h) (Or.inl ⟨by rfl, fun wq hSw => by go_simp⟩) (by assumption) ?_
  simp only [Act.put, List.setIfInBounds_toArray, List.set_cons_zero, List.set_cons_succ]
  refine wpAnyH_takeD 4 (i := 1) (v := .int .u8 (q.kind : Int)) rfl rfl (by kernel_rfl) (by kernel_rfl) (by kernel_rfl) (fun _ _ _ h => h) (Or.inl ⟨by rfl, fun wq hSw => by have k0 := (hSw.cell (p := ⟨b, 0, none⟩) HL.out).trans k0; go_simp⟩) (by assumption) ?_
  simp only [Act.put, List.setIfInBounds_toArray, List.set_cons_zero, List.set_cons_succ]
  refine wpAnyH_takeD 5 (i := 2) (v := .int .u64 (q.kind : Int)) rfl rfl (by kernel_rfl) (by kernel_rfl) (by kernel_rfl) (fun _ _ _ h => h) (Or.inl ⟨by rfl, fun wq hSw => by go_simp⟩) (by assumption) ?_
  simp only [Act.put, List.setIfInBounds_toArray, List.set_cons_zero, List.set_cons_succ]
  refine wpAnyH_takeD 8 (i := 5) (v := .pointer (some ⟨b, 1, none⟩)) rfl rfl (by kernel_rfl) (by kernel_rfl) (by kernel_rfl) (fun _ _ _ h => h) (Or.inl ⟨by rfl, fun wq hSw => by go_simp⟩) (by assumption) ?_
  simp only [Act.put, List.setIfInBounds_toArray, List.set_cons_zero, List.set_cons_succ]
  refine wpAnyH_takeD 9 (i := 6) (v := .int .u32 (q.vers : Int)) rfl rfl (by kernel_rfl) (by kernel_rfl) (by kernel_rfl) (fun _ _ _ h => h) (Or.inl ⟨by rfl, fun wq hSw => by have k1 := (hSw.cell (p := ⟨b, 1, none⟩) HL.out).trans k1; go_simp⟩) (by assumption) ?_
  simp only [Act.put, List.setIfInBounds_toArray, List.set_cons_zero, List.set_cons_succ]
  refine wpAnyH_takeD 10 (i := 7) (v := .int .u64 (q.vers : Int)) rfl rfl (by kernel_rfl) (by kernel_rfl) (by kernel_rfl) (fun _ _ _ h => h) (Or.inl ⟨by rfl, fun wq hSw => by go_simp⟩) (by assumption) ?_
  simp only [Act.put, List.setIfInBounds_toArray, List.set_cons_zero, List.set_cons_succ]
  refine wpAnyH_takeD 14 (i := 11) (v := .pointer (some ⟨b, 2, none⟩)) rfl rfl (by kernel_rfl) (by kernel_rfl) (by kernel_rfl) (fun _ _ _ h => h) (Or.inl ⟨by rfl, fun wq hSw => by go_simp⟩) (by assumption) ?_
  simp only [Act.put, List.setIfInBounds_toArray, List.set_cons_zero, List.set_cons_succ]
  refine wpAnyH_takeD 15 (i := 12) (v := .int .u64 (q.path : Int)) rfl rfl (by kernel_rfl) (by kernel_rfl) (by kernel_rfl) (fun _ _ _ h => h) (Or.inl ⟨by rfl, fun wq hSw => by have k2 := (hSw.cell (p := ⟨b, 2, none⟩) HL.out).trans k2; go_simp⟩) (by assumption) ?_
  simp only [Act.put, List.setIfInBounds_toArray, List.set_cons_zero, List.set_cons_succ]
  refine wpAnyH_ready (rs := [3]) (by kernel_rfl) (by simp) ?_
  refine AllReadyH.cons rfl (fun K hK => ?_) AllReadyH.nil
  rw [if_pos (by rfl)]
  go_simp
  (with_reducible refine (digits_calls q.kind HQ.out.1 wd (HTP.out _ hHeld)).mono ?_)
  rintro e wy ⟨rfl, hb⟩
  rw [HX1.out]
  dsimp only
  have hHeld2 := hHeld.trans (hb.mono hHeld.size)
  clear hb hHeld
  refine hK.out _ _ hHeld2 (fun hHeld => ?_)
  clear hK hHeld2
  refine wpAnyH_takeD 7 (i := 4) (v := .string (X1 ++ ⟨#[46]⟩)) rfl rfl (by kernel_rfl) (by kernel_rfl) (by kernel_rfl) (fun _ _ _ h => h) (Or.inl ⟨by rfl, fun wq hSw => by go_simp <;> (first | omega | (simp only [ByteArray.size_append]; omega) | skip)⟩) (by assumption) ?_
  simp only [Act.put, List.setIfInBounds_toArray, List.set_cons_zero, List.set_cons_succ]
  refine wpAnyH_ready (rs := [8]) (by kernel_rfl) (by simp) ?_
  refine AllReadyH.cons rfl (fun K hK => ?_) AllReadyH.nil
  rw [if_pos (by rfl)]
  go_simp
  (with_reducible refine (digits_calls q.vers HQ.out.2.1 wy (HTP.out _ hHeld)).mono ?_)
  rintro e wy ⟨rfl, hb⟩
  rw [HX2.out]
  dsimp only
  have hHeld2 := hHeld.trans (hb.mono hHeld.size)
  clear hb hHeld
  refine hK.out _ _ hHeld2 (fun hHeld => ?_)
  clear hK hHeld2
  refine wpAnyH_takeD 12 (i := 9) (v := .string ((X1 ++ ⟨#[46]⟩) ++ X2)) rfl rfl (by kernel_rfl) (by kernel_rfl) (by kernel_rfl) (fun _ _ _ h => h) (Or.inl ⟨by rfl, fun wq hSw => by go_simp <;> (first | omega | (simp only [ByteArray.size_append]; omega) | skip)⟩) (by assumption) ?_
  simp only [Act.put, List.setIfInBounds_toArray, List.set_cons_zero, List.set_cons_succ]
  refine wpAnyH_takeD 13 (i := 10) (v := .string (((X1 ++ ⟨#[46]⟩) ++ X2) ++ ⟨#[46]⟩)) rfl rfl (by kernel_rfl) (by kernel_rfl) (by kernel_rfl) (fun _ _ _ h => h) (Or.inl ⟨by rfl, fun wq hSw => by go_simp <;> (first | omega | (simp only [ByteArray.size_append]; omega) | skip)⟩) (by assumption) ?_
  simp only [Act.put, List.setIfInBounds_toArray, List.set_cons_zero, List.set_cons_succ]
  refine wpAnyH_ready (rs := [13]) (by kernel_rfl) (by simp) ?_
  refine AllReadyH.cons rfl (fun K hK => ?_) AllReadyH.nil
  rw [if_pos (by rfl)]
  go_simp
  (with_reducible refine (digits_calls q.path HQ.out.2.2 wy (HTP.out _ hHeld)).mono ?_)
  rintro e wy ⟨rfl, hb⟩
  rw [HX3.out]
  dsimp only
  have hHeld2 := hHeld.trans (hb.mono hHeld.size)
  clear hb hHeld
  refine hK.out _ _ hHeld2 (fun hHeld => ?_)
  clear hK hHeld2
  refine wpAnyH_takeD 17 (i := 14) (v := .string ((((X1 ++ ⟨#[46]⟩) ++ X2) ++ ⟨#[46]⟩) ++ X3)) rfl rfl (by kernel_rfl) (by kernel_rfl) (by kernel_rfl) (fun _ _ _ h => h) (Or.inl ⟨by rfl, fun wq hSw => by go_simp <;> (first | omega | (simp only [ByteArray.size_append]; omega) | skip)⟩) (by assumption) ?_
  simp only [Act.put, List.setIfInBounds_toArray, List.set_cons_zero, List.set_cons_succ]
  refine wpAnyH_takeD 2 (i := 15) (v := .string ((((X1 ++ ⟨#[46]⟩) ++ X2) ++ ⟨#[46]⟩) ++ X3)) rfl rfl (by kernel_rfl) (by kernel_rfl) (by kernel_rfl) (fun _ _ _ h => h) (Or.inl ⟨by rfl, fun wq hSw => by go_simp⟩) (by assumption) ?_
  simp only [Act.put, List.setIfInBounds_toArray, List.set_cons_zero, List.set_cons_succ]
  refine wpAnyH_done (by kernel_rfl) ?_ _
  have HBF := Lib.hid (HB.out.trans (hHeld.mono (by have := HL.out; omega)))
  clear hHeld
  go_wp2_with fail
  go_ret
  rw [HRES.out]
  exact ⟨rfl, by have hb := HBB.out; rw [hb]; exact HBF.out⟩
end Go.Proofs.YtkblmloobkiloaaGreatDoor
namespace Go.Proofs.YtkblmloobkiloaaGreatDoor
open Go.RowKit

theorem getO_lt (k : Nat) (st : Option (List UInt8)) : (getO k st).1 < 256 ^ k := by
  cases st with
  | none => exact Nat.pow_pos (by decide)
  | some r =>
    by_cases h : k ≤ r.length
    · rw [getO_yes h]
      exact Nat.lt_of_lt_of_le (numL_lt _) (Nat.pow_le_pow_right (by decide) (by rw [List.length_take]; omega))
    · rw [getO_short (by omega)]
      exact Nat.pow_pos (by decide)
theorem st_one (n0 n1 n2 n3 n4 n5 n6 n7 n8 : Int) (a b c d : ByteArray) : ([.int .u16 n0, .int .u32 n1, .int .u8 n2, .int .u32 n3, .int .u64 n4, .int .u32 n5, .int .u32 n6, .int .u32 n7, .int .u64 n8, .string a, .string b, .string c, .string d] : List Value).toArray.all (·.oneCell') = true := by simp [Value.oneCell']
theorem over_st (n0 n1 n2 n3 n4 n5 n6 n7 n8 : Int) (a b c d : ByteArray) : over #[.int .u16 0, .int .u32 0, .int .u8 0, .int .u32 0, .int .u64 0, .int .u32 0, .int .u32 0, .int .u32 0, .int .u64 0, .string ⟨#[]⟩, .string ⟨#[]⟩, .string ⟨#[]⟩, .string ⟨#[]⟩] 0 [.int .u16 n0, .int .u32 n1, .int .u8 n2, .int .u32 n3, .int .u64 n4, .int .u32 n5, .int .u32 n6, .int .u32 n7, .int .u64 n8, .string a, .string b, .string c, .string d] = #[.int .u16 n0, .int .u32 n1, .int .u8 n2, .int .u32 n3, .int .u64 n4, .int .u32 n5, .int .u32 n6, .int .u32 n7, .int .u64 n8, .string a, .string b, .string c, .string d] := by kernel_rfl
set_option maxRecDepth 100000 in
set_option maxHeartbeats 6400000 in
theorem take_calls {w : World} {p : Nat} {bv : Value} {l : List UInt8} {st : Option (List UInt8)} (hr : Ready w) (h8 : 8 ≤ p) (h : RdS w p bv l st) :
    Calls Tryz.prog 262 #[.pointer (some ⟨p, 0, none⟩)] w fun e w' => e = .returned (stV (takeO st).1) ∧ RdS w' p bv l (takeO st).2 ∧ OffR p w w' := by
  have HB := Lib.hid (Blk.new w 39 #[.int .u16 0, .int .u32 0, .int .u8 0, .int .u32 0, .int .u64 0, .int .u32 0, .int .u32 0, .int .u32 0, .int .u64 0, .string ⟨#[]⟩, .string ⟨#[]⟩, .string ⟨#[]⟩, .string ⟨#[]⟩])
  have HS := Lib.hid (h.below ((Below.refl _ _).alloc (Nat.le_refl _) (.cells #[.int .u16 0, .int .u32 0, .int .u8 0, .int .u32 0, .int .u64 0, .int .u32 0, .int .u32 0, .int .u32 0, .int .u64 0, .string ⟨#[]⟩, .string ⟨#[]⟩, .string ⟨#[]⟩, .string ⟨#[]⟩] 39)))
  have HO := Lib.hid ((Off.refl (fun i => i = p ∨ w.heap.size ≤ i) w).alloc (.cells #[.int .u16 0, .int .u32 0, .int .u8 0, .int .u32 0, .int .u64 0, .int .u32 0, .int .u32 0, .int .u32 0, .int .u64 0, .string ⟨#[]⟩, .string ⟨#[]⟩, .string ⟨#[]⟩, .string ⟨#[]⟩] 39))
  have HRD := Lib.hid hr
  have HSZ := Lib.hid (show (w.alloc (.cells #[.int .u16 0, .int .u32 0, .int .u8 0, .int .u32 0, .int .u64 0, .int .u32 0, .int .u32 0, .int .u32 0, .int .u64 0, .string ⟨#[]⟩, .string ⟨#[]⟩, .string ⟨#[]⟩, .string ⟨#[]⟩] 39)).heap.size = w.heap.size + 1 from World.size_alloc ..)
  have HLT := Lib.hid h.lt
  have H8 := Lib.hid (And.intro h8 hr.eight)
  clear h hr h8
  go_enter Tryz.func262, Tryz.ntmps262
  go_upto_region 1 with (fail)
  generalize w.alloc (.cells #[.int .u16 0, .int .u32 0, .int .u8 0, .int .u32 0, .int .u64 0, .int .u32 0, .int .u32 0, .int .u32 0, .int .u64 0, .string ⟨#[]⟩, .string ⟨#[]⟩, .string ⟨#[]⟩, .string ⟨#[]⟩] 39) = w0 at HS HB HO HSZ ⊢
  generalize hz : w.heap.size = z at HB HLT HO H8 HSZ ⊢
  have HZ := Lib.hid hz; clear hz
  go_wp2_with fail
  refine (part_calls HS.out).mono ?_
  rintro e w1 ⟨q, pv, x, rfl, hq, hs, hp, ho⟩
  have HPS := Lib.hid hp
  have HS1 := Lib.hid hs
  have HB1 := Lib.hid (ho.blk HB.out (by have := HLT.out; omega))
  have HO1 := Lib.hid (HO.out.trans ho.toN)
  have HQ := Lib.hid (show z < q from by have := HSZ.out; omega)
  have HQN := Lib.hid hs.lt
  clear hq hs hp ho HS HB HO
  generalize hps : (partO st).1 = ps at *
  generalize hrs : (partO st).2 = rs at *
  have HPO := Lib.hid (And.intro hps hrs); clear hps hrs
  have HP1 := Lib.hid (Off.refl (fun i => i = q ∨ i = z ∨ w1.heap.size ≤ i) w1)
  have HNU := Lib.hid (show ∀ g cur fr, (g = q ∨ g = z ∨ w1.heap.size ≤ g) → w1.heap[g]? ≠ some (Obj.cells cur 5 fr) from fun g cur fr hg => by
    rcases hg with hg | hg | hg
    · exact HS1.out.noU8 g cur fr hg
    · exact blk_noU8 HB1.out (by decide) g cur fr hg
    · exact new_noU8 g cur fr hg)
  have H0 := Lib.hid (show ∀ i, i = p ∨ z ≤ i → 8 ≤ i from fun i hi => by have := H8.out; omega)
  generalize hn1 : w1.heap.size = n1 at HP1 HNU HQN
  have HN1 := Lib.hid hn1; clear hn1
  go_wp2_with fail
  refine (rdU16_calls HS1.out).mono ?_
  rintro e w2 ⟨rfl, hs, hb⟩
  have HS2 := Lib.hid hs
  have HB2 := Lib.hid (hb.blk HB1.out (by have := HQ.out; omega))
  have HO2 := Lib.hid (HO1.out.trans (hb.mono fun k _ hk => .inr (by have := HQ.out; have hk : k = q := hk; omega)))
  have HP2 := Lib.hid (HP1.out.trans (hb.mono fun k _ hk => .inl hk))
  clear hs hb HS1 HB1 HO1 HP1
  generalize hty : getO 2 ps = ty at *
  have H_ty := Lib.hid hty; clear hty
  go_wp2_with fail
  refine (rdU32_calls HS2.out).mono ?_
  rintro e w3 ⟨rfl, hs, hb⟩
  have HS3 := Lib.hid hs
  have HB3 := Lib.hid (hb.blk HB2.out (by have := HQ.out; omega))
  have HO3 := Lib.hid (HO2.out.trans (hb.mono fun k _ hk => .inr (by have := HQ.out; have hk : k = q := hk; omega)))
  have HP3 := Lib.hid (HP2.out.trans (hb.mono fun k _ hk => .inl hk))
  clear hs hb HS2 HB2 HO2 HP2
  generalize hdv : getO 4 ty.2 = dv at *
  have H_dv := Lib.hid hdv; clear hdv
  have HFN0 := Lib.hid (show n1 ≤ w3.heap.size from by have := HP3.out.size; have := HN1.out; omega)
  go_wp2_with (have HF4 := Lib.hid (Blk.new w3 39 #[.int .u16 0, .int .u32 0, .int .u8 0, .int .u32 0, .int .u64 0, .int .u32 0, .int .u32 0, .int .u32 0, .int .u64 0, .string ⟨#[]⟩, .string ⟨#[]⟩, .string ⟨#[]⟩, .string ⟨#[]⟩]); have HS4 := Lib.hid (HS3.out.below ((Below.refl _ _).alloc (Nat.le_refl _) (.cells #[.int .u16 0, .int .u32 0, .int .u8 0, .int .u32 0, .int .u64 0, .int .u32 0, .int .u32 0, .int .u32 0, .int .u64 0, .string ⟨#[]⟩, .string ⟨#[]⟩, .string ⟨#[]⟩, .string ⟨#[]⟩] 39))); have HB4 := Lib.hid (HB3.out.alloc (.cells #[.int .u16 0, .int .u32 0, .int .u8 0, .int .u32 0, .int .u64 0, .int .u32 0, .int .u32 0, .int .u32 0, .int .u64 0, .string ⟨#[]⟩, .string ⟨#[]⟩, .string ⟨#[]⟩, .string ⟨#[]⟩] 39)); have HO4 := Lib.hid (HO3.out.alloc (.cells #[.int .u16 0, .int .u32 0, .int .u8 0, .int .u32 0, .int .u64 0, .int .u32 0, .int .u32 0, .int .u32 0, .int .u64 0, .string ⟨#[]⟩, .string ⟨#[]⟩, .string ⟨#[]⟩, .string ⟨#[]⟩] 39)); have HP4 := Lib.hid (HP3.out.alloc (.cells #[.int .u16 0, .int .u32 0, .int .u8 0, .int .u32 0, .int .u64 0, .int .u32 0, .int .u32 0, .int .u32 0, .int .u64 0, .string ⟨#[]⟩, .string ⟨#[]⟩, .string ⟨#[]⟩, .string ⟨#[]⟩] 39)); generalize w3.alloc (.cells #[.int .u16 0, .int .u32 0, .int .u8 0, .int .u32 0, .int .u64 0, .int .u32 0, .int .u32 0, .int .u32 0, .int .u64 0, .string ⟨#[]⟩, .string ⟨#[]⟩, .string ⟨#[]⟩, .string ⟨#[]⟩] 39) = w4 at HF4 HS4 HB4 HO4 HP4 ⊢; generalize w3.heap.size = f at HF4 HFN0 ⊢; refine wstK HF4.out 0 [.int .u16 (ty.1 : Int), .int .u32 (dv.1 : Int), .int .u8 0, .int .u32 0, .int .u64 0, .int .u32 0, .int .u32 0, .int .u32 0, .int .u64 0, .string ⟨#[]⟩, .string ⟨#[]⟩, .string ⟨#[]⟩, .string ⟨#[]⟩] #[.int .u16 (ty.1 : Int), .int .u32 (dv.1 : Int), .int .u8 0, .int .u32 0, .int .u64 0, .int .u32 0, .int .u32 0, .int .u32 0, .int .u64 0, .string ⟨#[]⟩, .string ⟨#[]⟩, .string ⟨#[]⟩, .string ⟨#[]⟩] (over_st ..) (Nat.le_refl 13) (st_one ..) rfl _ _ _ rfl rfl rfl stat_size ?_; intro w5 hs ho; have HFN := Lib.hid HFN0.out; have HF5 := Lib.hid hs; have HS5 := Lib.hid (HS4.out.off (ho (fun i => i = f) rfl w4 (Off.refl _ _)) (by have := HFN0.out; have := HQN.out; omega) (blk_noU8 HF4.out (by decide))); have HB5 := Lib.hid ((ho (fun i => i = f) rfl w4 (Off.refl _ _)).blk HB4.out (by have := HFN0.out; have := HQN.out; have := HQ.out; omega)); have HO5 := Lib.hid (ho _ (.inr (by have := HFN0.out; have := HQN.out; have := HQ.out; omega)) w HO4.out); have HP5 := Lib.hid (ho _ (.inr (.inr HFN0.out)) w1 HP4.out); clear hs ho HS3 HB3 HO3 HP3 HS4 HB4 HO4 HP4 HF4 HFN0)
  refine (takeQid_calls HS5.out).mono ?_
  rintro e w6 ⟨rfl, hs, hb⟩
  have HS6 := Lib.hid hs
  have HB6 := Lib.hid (hb.blk HB5.out (by have := HQ.out; omega))
  have HO6 := Lib.hid (HO5.out.trans (hb.mono fun k _ hk => .inr (by have := HQ.out; have hk : k = q := hk; omega)))
  have HP6 := Lib.hid (HP5.out.trans (hb.mono fun k _ hk => .inl hk))
  have HF6 := Lib.hid (hb.blk HF5.out (by have := HFN.out; have := HQN.out; omega))
  clear hs hb HS5 HB5 HO5 HP5 HF5
  generalize hqd : qidO dv.2 = qd at *
  have H_qd := Lib.hid hqd; clear hqd
  have k0 : w6.cell? ⟨f, 2, none⟩ = some (.int .u8 0) := HF6.out.cell 2
  have k1 : w6.cell? ⟨f, 3, none⟩ = some (.int .u32 0) := HF6.out.cell 3
  have k2 : w6.cell? ⟨f, 4, none⟩ = some (.int .u64 0) := HF6.out.cell 4
  have f0 : w6.frozen? ⟨f, 2, none⟩ = false := HF6.out.frozen 2
  have f1 : w6.frozen? ⟨f, 3, none⟩ = false := HF6.out.frozen 3
  have f2 : w6.frozen? ⟨f, 4, none⟩ = false := HF6.out.frozen 4
  have hso := fun (S : Nat → Prop) (hS : S f) => (((Off.refl S w6).setCell (p := ⟨f, 2, none⟩) hS (.int .u8 (qd.1.kind : Int))).setCell (p := ⟨f, 3, none⟩) hS (.int .u32 (qd.1.vers : Int))).setCell (p := ⟨f, 4, none⟩) hS (.int .u64 (qd.1.path : Int))
  have HF7 := Lib.hid (show Blk (((w6.setCell ⟨f, 2, none⟩ (.int .u8 (qd.1.kind : Int))).setCell ⟨f, 3, none⟩ (.int .u32 (qd.1.vers : Int))).setCell ⟨f, 4, none⟩ (.int .u64 (qd.1.path : Int))) f 39 #[.int .u16 (ty.1 : Int), .int .u32 (dv.1 : Int), .int .u8 (qd.1.kind : Int), .int .u32 (qd.1.vers : Int), .int .u64 (qd.1.path : Int), .int .u32 0, .int .u32 0, .int .u32 0, .int .u64 0, .string ⟨#[]⟩, .string ⟨#[]⟩, .string ⟨#[]⟩, .string ⟨#[]⟩] from ((HF6.out.set_ 2 (.int .u8 (qd.1.kind : Int))).set_ 3 (.int .u32 (qd.1.vers : Int))).set_ 4 (.int .u64 (qd.1.path : Int)))
  have HS7 := Lib.hid (HS6.out.off (hso (fun i => i = f) rfl) (by have := HFN.out; have := HQN.out; omega) (blk_noU8 HF6.out (by decide)))
  have HB7 := Lib.hid ((hso (fun i => i = f) rfl).blk HB6.out (by have := HFN.out; have := HQN.out; have := HQ.out; omega))
  have HO7 := Lib.hid (HO6.out.trans (hso _ (.inr (by have := HFN.out; have := HQN.out; have := HQ.out; omega))))
  have HP7 := Lib.hid (HP6.out.trans (hso _ (.inr (.inr HFN.out))))
  clear hso HS6 HB6 HO6 HP6 HF6
  go_wp2_with fail
  clear k0 k1 k2 f0 f1 f2
  generalize ((w6.setCell ⟨f, 2, none⟩ (.int .u8 (qd.1.kind : Int))).setCell ⟨f, 3, none⟩ (.int .u32 (qd.1.vers : Int))).setCell ⟨f, 4, none⟩ (.int .u64 (qd.1.path : Int)) = w7 at HF7 HS7 HB7 HO7 HP7 ⊢
  refine (rdU32_calls HS7.out).mono ?_
  rintro e w8 ⟨rfl, hs, hb⟩
  have HS8 := Lib.hid hs
  have HB8 := Lib.hid (hb.blk HB7.out (by have := HQ.out; omega))
  have HO8 := Lib.hid (HO7.out.trans (hb.mono fun k _ hk => .inr (by have := HQ.out; have hk : k = q := hk; omega)))
  have HP8 := Lib.hid (HP7.out.trans (hb.mono fun k _ hk => .inl hk))
  have HF8 := Lib.hid (hb.blk HF7.out (by have := HFN.out; have := HQN.out; omega))
  clear hs hb HS7 HB7 HO7 HP7 HF7
  generalize hmo : getO 4 qd.2 = mo at *
  have H_mo := Lib.hid hmo; clear hmo
  have ks : w8.cell? ⟨f, 5, none⟩ = some (.int .u32 0) := HF8.out.cell 5
  have fs : w8.frozen? ⟨f, 5, none⟩ = false := HF8.out.frozen 5
  have HF9 := Lib.hid (show Blk (w8.setCell ⟨f, 5, none⟩ (.int .u32 (mo.1 : Int))) f 39 #[.int .u16 (ty.1 : Int), .int .u32 (dv.1 : Int), .int .u8 (qd.1.kind : Int), .int .u32 (qd.1.vers : Int), .int .u64 (qd.1.path : Int), .int .u32 (mo.1 : Int), .int .u32 0, .int .u32 0, .int .u64 0, .string ⟨#[]⟩, .string ⟨#[]⟩, .string ⟨#[]⟩, .string ⟨#[]⟩] from HF8.out.set_ 5 (.int .u32 (mo.1 : Int)))
  have hso := fun (S : Nat → Prop) (hS : S f) => (Off.refl S w8).setCell (p := ⟨f, 5, none⟩) hS (.int .u32 (mo.1 : Int))
  have HS9 := Lib.hid (HS8.out.off (hso (fun i => i = f) rfl) (by have := HFN.out; have := HQN.out; omega) (blk_noU8 HF8.out (by decide)))
  have HB9 := Lib.hid ((hso (fun i => i = f) rfl).blk HB8.out (by have := HFN.out; have := HQN.out; have := HQ.out; omega))
  have HO9 := Lib.hid (HO8.out.trans (hso _ (.inr (by have := HFN.out; have := HQN.out; have := HQ.out; omega))))
  have HP9 := Lib.hid (HP8.out.trans (hso _ (.inr (.inr HFN.out))))
  clear hso HS8 HB8 HO8 HP8 HF8
  go_wp2_with fail
  clear ks fs
  generalize w8.setCell ⟨f, 5, none⟩ (.int .u32 (mo.1 : Int)) = w9 at HS9 HB9 HO9 HP9 HF9 ⊢
  refine (rdU32_calls HS9.out).mono ?_
  rintro e w10 ⟨rfl, hs, hb⟩
  have HS10 := Lib.hid hs
  have HB10 := Lib.hid (hb.blk HB9.out (by have := HQ.out; omega))
  have HO10 := Lib.hid (HO9.out.trans (hb.mono fun k _ hk => .inr (by have := HQ.out; have hk : k = q := hk; omega)))
  have HP10 := Lib.hid (HP9.out.trans (hb.mono fun k _ hk => .inl hk))
  have HF10 := Lib.hid (hb.blk HF9.out (by have := HFN.out; have := HQN.out; omega))
  clear hs hb HS9 HB9 HO9 HP9 HF9
  generalize hat_ : getO 4 mo.2 = at_ at *
  have H_at_ := Lib.hid hat_; clear hat_
  have ks : w10.cell? ⟨f, 6, none⟩ = some (.int .u32 0) := HF10.out.cell 6
  have fs : w10.frozen? ⟨f, 6, none⟩ = false := HF10.out.frozen 6
  have HF11 := Lib.hid (show Blk (w10.setCell ⟨f, 6, none⟩ (.int .u32 (at_.1 : Int))) f 39 #[.int .u16 (ty.1 : Int), .int .u32 (dv.1 : Int), .int .u8 (qd.1.kind : Int), .int .u32 (qd.1.vers : Int), .int .u64 (qd.1.path : Int), .int .u32 (mo.1 : Int), .int .u32 (at_.1 : Int), .int .u32 0, .int .u64 0, .string ⟨#[]⟩, .string ⟨#[]⟩, .string ⟨#[]⟩, .string ⟨#[]⟩] from HF10.out.set_ 6 (.int .u32 (at_.1 : Int)))
  have hso := fun (S : Nat → Prop) (hS : S f) => (Off.refl S w10).setCell (p := ⟨f, 6, none⟩) hS (.int .u32 (at_.1 : Int))
  have HS11 := Lib.hid (HS10.out.off (hso (fun i => i = f) rfl) (by have := HFN.out; have := HQN.out; omega) (blk_noU8 HF10.out (by decide)))
  have HB11 := Lib.hid ((hso (fun i => i = f) rfl).blk HB10.out (by have := HFN.out; have := HQN.out; have := HQ.out; omega))
  have HO11 := Lib.hid (HO10.out.trans (hso _ (.inr (by have := HFN.out; have := HQN.out; have := HQ.out; omega))))
  have HP11 := Lib.hid (HP10.out.trans (hso _ (.inr (.inr HFN.out))))
  clear hso HS10 HB10 HO10 HP10 HF10
  go_wp2_with fail
  clear ks fs
  generalize w10.setCell ⟨f, 6, none⟩ (.int .u32 (at_.1 : Int)) = w11 at HS11 HB11 HO11 HP11 HF11 ⊢
  refine (rdU32_calls HS11.out).mono ?_
  rintro e w12 ⟨rfl, hs, hb⟩
  have HS12 := Lib.hid hs
  have HB12 := Lib.hid (hb.blk HB11.out (by have := HQ.out; omega))
  have HO12 := Lib.hid (HO11.out.trans (hb.mono fun k _ hk => .inr (by have := HQ.out; have hk : k = q := hk; omega)))
  have HP12 := Lib.hid (HP11.out.trans (hb.mono fun k _ hk => .inl hk))
  have HF12 := Lib.hid (hb.blk HF11.out (by have := HFN.out; have := HQN.out; omega))
  clear hs hb HS11 HB11 HO11 HP11 HF11
  generalize hmt : getO 4 at_.2 = mt at *
  have H_mt := Lib.hid hmt; clear hmt
  have ks : w12.cell? ⟨f, 7, none⟩ = some (.int .u32 0) := HF12.out.cell 7
  have fs : w12.frozen? ⟨f, 7, none⟩ = false := HF12.out.frozen 7
  have HF13 := Lib.hid (show Blk (w12.setCell ⟨f, 7, none⟩ (.int .u32 (mt.1 : Int))) f 39 #[.int .u16 (ty.1 : Int), .int .u32 (dv.1 : Int), .int .u8 (qd.1.kind : Int), .int .u32 (qd.1.vers : Int), .int .u64 (qd.1.path : Int), .int .u32 (mo.1 : Int), .int .u32 (at_.1 : Int), .int .u32 (mt.1 : Int), .int .u64 0, .string ⟨#[]⟩, .string ⟨#[]⟩, .string ⟨#[]⟩, .string ⟨#[]⟩] from HF12.out.set_ 7 (.int .u32 (mt.1 : Int)))
  have hso := fun (S : Nat → Prop) (hS : S f) => (Off.refl S w12).setCell (p := ⟨f, 7, none⟩) hS (.int .u32 (mt.1 : Int))
  have HS13 := Lib.hid (HS12.out.off (hso (fun i => i = f) rfl) (by have := HFN.out; have := HQN.out; omega) (blk_noU8 HF12.out (by decide)))
  have HB13 := Lib.hid ((hso (fun i => i = f) rfl).blk HB12.out (by have := HFN.out; have := HQN.out; have := HQ.out; omega))
  have HO13 := Lib.hid (HO12.out.trans (hso _ (.inr (by have := HFN.out; have := HQN.out; have := HQ.out; omega))))
  have HP13 := Lib.hid (HP12.out.trans (hso _ (.inr (.inr HFN.out))))
  clear hso HS12 HB12 HO12 HP12 HF12
  go_wp2_with fail
  clear ks fs
  generalize w12.setCell ⟨f, 7, none⟩ (.int .u32 (mt.1 : Int)) = w13 at HS13 HB13 HO13 HP13 HF13 ⊢
  refine (rdU64_calls HS13.out).mono ?_
  rintro e w14 ⟨rfl, hs, hb⟩
  have HS14 := Lib.hid hs
  have HB14 := Lib.hid (hb.blk HB13.out (by have := HQ.out; omega))
  have HO14 := Lib.hid (HO13.out.trans (hb.mono fun k _ hk => .inr (by have := HQ.out; have hk : k = q := hk; omega)))
  have HP14 := Lib.hid (HP13.out.trans (hb.mono fun k _ hk => .inl hk))
  have HF14 := Lib.hid (hb.blk HF13.out (by have := HFN.out; have := HQN.out; omega))
  clear hs hb HS13 HB13 HO13 HP13 HF13
  generalize hln : getO 8 mt.2 = ln at *
  have H_ln := Lib.hid hln; clear hln
  have ks : w14.cell? ⟨f, 8, none⟩ = some (.int .u64 0) := HF14.out.cell 8
  have fs : w14.frozen? ⟨f, 8, none⟩ = false := HF14.out.frozen 8
  have HF15 := Lib.hid (show Blk (w14.setCell ⟨f, 8, none⟩ (.int .u64 (ln.1 : Int))) f 39 #[.int .u16 (ty.1 : Int), .int .u32 (dv.1 : Int), .int .u8 (qd.1.kind : Int), .int .u32 (qd.1.vers : Int), .int .u64 (qd.1.path : Int), .int .u32 (mo.1 : Int), .int .u32 (at_.1 : Int), .int .u32 (mt.1 : Int), .int .u64 (ln.1 : Int), .string ⟨#[]⟩, .string ⟨#[]⟩, .string ⟨#[]⟩, .string ⟨#[]⟩] from HF14.out.set_ 8 (.int .u64 (ln.1 : Int)))
  have hso := fun (S : Nat → Prop) (hS : S f) => (Off.refl S w14).setCell (p := ⟨f, 8, none⟩) hS (.int .u64 (ln.1 : Int))
  have HS15 := Lib.hid (HS14.out.off (hso (fun i => i = f) rfl) (by have := HFN.out; have := HQN.out; omega) (blk_noU8 HF14.out (by decide)))
  have HB15 := Lib.hid ((hso (fun i => i = f) rfl).blk HB14.out (by have := HFN.out; have := HQN.out; have := HQ.out; omega))
  have HO15 := Lib.hid (HO14.out.trans (hso _ (.inr (by have := HFN.out; have := HQN.out; have := HQ.out; omega))))
  have HP15 := Lib.hid (HP14.out.trans (hso _ (.inr (.inr HFN.out))))
  clear hso HS14 HB14 HO14 HP14 HF14
  go_wp2_with fail
  clear ks fs
  generalize w14.setCell ⟨f, 8, none⟩ (.int .u64 (ln.1 : Int)) = w15 at HS15 HB15 HO15 HP15 HF15 ⊢
  refine (rdText_calls (HRD.out.low (HO15.out.below (B := 8) H0.out HRD.out.eight) (Nat.le_refl 8)) (by have := HQ.out; have := H8.out; omega) HS15.out).mono ?_
  rintro e w16 ⟨rfl, hs, hb⟩
  have HS16 := Lib.hid hs
  have HB16 := Lib.hid (hb.blk HB15.out (by have := HQ.out; omega))
  have HO16 := Lib.hid (HO15.out.trans (hb.mono fun k _ hk => .inr (by have := HQ.out; have hk : k = q := hk; omega)))
  have HP16 := Lib.hid (HP15.out.trans (hb.mono fun k _ hk => .inl hk))
  have HF16 := Lib.hid (hb.blk HF15.out (by have := HFN.out; have := HQN.out; omega))
  clear hs hb HS15 HB15 HO15 HP15 HF15
  generalize ht1 : textO ln.2 = t1 at *
  have H_t1 := Lib.hid ht1; clear ht1
  have ks : w16.cell? ⟨f, 9, none⟩ = some (.string ⟨#[]⟩) := HF16.out.cell 9
  have fs : w16.frozen? ⟨f, 9, none⟩ = false := HF16.out.frozen 9
  have HF17 := Lib.hid (show Blk (w16.setCell ⟨f, 9, none⟩ (.string t1.1)) f 39 #[.int .u16 (ty.1 : Int), .int .u32 (dv.1 : Int), .int .u8 (qd.1.kind : Int), .int .u32 (qd.1.vers : Int), .int .u64 (qd.1.path : Int), .int .u32 (mo.1 : Int), .int .u32 (at_.1 : Int), .int .u32 (mt.1 : Int), .int .u64 (ln.1 : Int), .string t1.1, .string ⟨#[]⟩, .string ⟨#[]⟩, .string ⟨#[]⟩] from HF16.out.set_ 9 (.string t1.1))
  have hso := fun (S : Nat → Prop) (hS : S f) => (Off.refl S w16).setCell (p := ⟨f, 9, none⟩) hS (.string t1.1)
  have HS17 := Lib.hid (HS16.out.off (hso (fun i => i = f) rfl) (by have := HFN.out; have := HQN.out; omega) (blk_noU8 HF16.out (by decide)))
  have HB17 := Lib.hid ((hso (fun i => i = f) rfl).blk HB16.out (by have := HFN.out; have := HQN.out; have := HQ.out; omega))
  have HO17 := Lib.hid (HO16.out.trans (hso _ (.inr (by have := HFN.out; have := HQN.out; have := HQ.out; omega))))
  have HP17 := Lib.hid (HP16.out.trans (hso _ (.inr (.inr HFN.out))))
  clear hso HS16 HB16 HO16 HP16 HF16
  go_wp2_with fail
  clear ks fs
  generalize w16.setCell ⟨f, 9, none⟩ (.string t1.1) = w17 at HS17 HB17 HO17 HP17 HF17 ⊢
  refine (rdText_calls (HRD.out.low (HO17.out.below (B := 8) H0.out HRD.out.eight) (Nat.le_refl 8)) (by have := HQ.out; have := H8.out; omega) HS17.out).mono ?_
  rintro e w18 ⟨rfl, hs, hb⟩
  have HS18 := Lib.hid hs
  have HB18 := Lib.hid (hb.blk HB17.out (by have := HQ.out; omega))
  have HO18 := Lib.hid (HO17.out.trans (hb.mono fun k _ hk => .inr (by have := HQ.out; have hk : k = q := hk; omega)))
  have HP18 := Lib.hid (HP17.out.trans (hb.mono fun k _ hk => .inl hk))
  have HF18 := Lib.hid (hb.blk HF17.out (by have := HFN.out; have := HQN.out; omega))
  clear hs hb HS17 HB17 HO17 HP17 HF17
  generalize ht2 : textO t1.2 = t2 at *
  have H_t2 := Lib.hid ht2; clear ht2
  have ks : w18.cell? ⟨f, 10, none⟩ = some (.string ⟨#[]⟩) := HF18.out.cell 10
  have fs : w18.frozen? ⟨f, 10, none⟩ = false := HF18.out.frozen 10
  have HF19 := Lib.hid (show Blk (w18.setCell ⟨f, 10, none⟩ (.string t2.1)) f 39 #[.int .u16 (ty.1 : Int), .int .u32 (dv.1 : Int), .int .u8 (qd.1.kind : Int), .int .u32 (qd.1.vers : Int), .int .u64 (qd.1.path : Int), .int .u32 (mo.1 : Int), .int .u32 (at_.1 : Int), .int .u32 (mt.1 : Int), .int .u64 (ln.1 : Int), .string t1.1, .string t2.1, .string ⟨#[]⟩, .string ⟨#[]⟩] from HF18.out.set_ 10 (.string t2.1))
  have hso := fun (S : Nat → Prop) (hS : S f) => (Off.refl S w18).setCell (p := ⟨f, 10, none⟩) hS (.string t2.1)
  have HS19 := Lib.hid (HS18.out.off (hso (fun i => i = f) rfl) (by have := HFN.out; have := HQN.out; omega) (blk_noU8 HF18.out (by decide)))
  have HB19 := Lib.hid ((hso (fun i => i = f) rfl).blk HB18.out (by have := HFN.out; have := HQN.out; have := HQ.out; omega))
  have HO19 := Lib.hid (HO18.out.trans (hso _ (.inr (by have := HFN.out; have := HQN.out; have := HQ.out; omega))))
  have HP19 := Lib.hid (HP18.out.trans (hso _ (.inr (.inr HFN.out))))
  clear hso HS18 HB18 HO18 HP18 HF18
  go_wp2_with fail
  clear ks fs
  generalize w18.setCell ⟨f, 10, none⟩ (.string t2.1) = w19 at HS19 HB19 HO19 HP19 HF19 ⊢
  refine (rdText_calls (HRD.out.low (HO19.out.below (B := 8) H0.out HRD.out.eight) (Nat.le_refl 8)) (by have := HQ.out; have := H8.out; omega) HS19.out).mono ?_
  rintro e w20 ⟨rfl, hs, hb⟩
  have HS20 := Lib.hid hs
  have HB20 := Lib.hid (hb.blk HB19.out (by have := HQ.out; omega))
  have HO20 := Lib.hid (HO19.out.trans (hb.mono fun k _ hk => .inr (by have := HQ.out; have hk : k = q := hk; omega)))
  have HP20 := Lib.hid (HP19.out.trans (hb.mono fun k _ hk => .inl hk))
  have HF20 := Lib.hid (hb.blk HF19.out (by have := HFN.out; have := HQN.out; omega))
  clear hs hb HS19 HB19 HO19 HP19 HF19
  generalize ht3 : textO t2.2 = t3 at *
  have H_t3 := Lib.hid ht3; clear ht3
  have ks : w20.cell? ⟨f, 11, none⟩ = some (.string ⟨#[]⟩) := HF20.out.cell 11
  have fs : w20.frozen? ⟨f, 11, none⟩ = false := HF20.out.frozen 11
  have HF21 := Lib.hid (show Blk (w20.setCell ⟨f, 11, none⟩ (.string t3.1)) f 39 #[.int .u16 (ty.1 : Int), .int .u32 (dv.1 : Int), .int .u8 (qd.1.kind : Int), .int .u32 (qd.1.vers : Int), .int .u64 (qd.1.path : Int), .int .u32 (mo.1 : Int), .int .u32 (at_.1 : Int), .int .u32 (mt.1 : Int), .int .u64 (ln.1 : Int), .string t1.1, .string t2.1, .string t3.1, .string ⟨#[]⟩] from HF20.out.set_ 11 (.string t3.1))
  have hso := fun (S : Nat → Prop) (hS : S f) => (Off.refl S w20).setCell (p := ⟨f, 11, none⟩) hS (.string t3.1)
  have HS21 := Lib.hid (HS20.out.off (hso (fun i => i = f) rfl) (by have := HFN.out; have := HQN.out; omega) (blk_noU8 HF20.out (by decide)))
  have HB21 := Lib.hid ((hso (fun i => i = f) rfl).blk HB20.out (by have := HFN.out; have := HQN.out; have := HQ.out; omega))
  have HO21 := Lib.hid (HO20.out.trans (hso _ (.inr (by have := HFN.out; have := HQN.out; have := HQ.out; omega))))
  have HP21 := Lib.hid (HP20.out.trans (hso _ (.inr (.inr HFN.out))))
  clear hso HS20 HB20 HO20 HP20 HF20
  go_wp2_with fail
  clear ks fs
  generalize w20.setCell ⟨f, 11, none⟩ (.string t3.1) = w21 at HS21 HB21 HO21 HP21 HF21 ⊢
  refine (rdText_calls (HRD.out.low (HO21.out.below (B := 8) H0.out HRD.out.eight) (Nat.le_refl 8)) (by have := HQ.out; have := H8.out; omega) HS21.out).mono ?_
  rintro e w22 ⟨rfl, hs, hb⟩
  have HS22 := Lib.hid hs
  have HB22 := Lib.hid (hb.blk HB21.out (by have := HQ.out; omega))
  have HO22 := Lib.hid (HO21.out.trans (hb.mono fun k _ hk => .inr (by have := HQ.out; have hk : k = q := hk; omega)))
  have HP22 := Lib.hid (HP21.out.trans (hb.mono fun k _ hk => .inl hk))
  have HF22 := Lib.hid (hb.blk HF21.out (by have := HFN.out; have := HQN.out; omega))
  clear hs hb HS21 HB21 HO21 HP21 HF21
  generalize ht4 : textO t3.2 = t4 at *
  have H_t4 := Lib.hid ht4; clear ht4
  have ks : w22.cell? ⟨f, 12, none⟩ = some (.string ⟨#[]⟩) := HF22.out.cell 12
  have fs : w22.frozen? ⟨f, 12, none⟩ = false := HF22.out.frozen 12
  have HF23 := Lib.hid (show Blk (w22.setCell ⟨f, 12, none⟩ (.string t4.1)) f 39 #[.int .u16 (ty.1 : Int), .int .u32 (dv.1 : Int), .int .u8 (qd.1.kind : Int), .int .u32 (qd.1.vers : Int), .int .u64 (qd.1.path : Int), .int .u32 (mo.1 : Int), .int .u32 (at_.1 : Int), .int .u32 (mt.1 : Int), .int .u64 (ln.1 : Int), .string t1.1, .string t2.1, .string t3.1, .string t4.1] from HF22.out.set_ 12 (.string t4.1))
  have hso := fun (S : Nat → Prop) (hS : S f) => (Off.refl S w22).setCell (p := ⟨f, 12, none⟩) hS (.string t4.1)
  have HS23 := Lib.hid (HS22.out.off (hso (fun i => i = f) rfl) (by have := HFN.out; have := HQN.out; omega) (blk_noU8 HF22.out (by decide)))
  have HB23 := Lib.hid ((hso (fun i => i = f) rfl).blk HB22.out (by have := HFN.out; have := HQN.out; have := HQ.out; omega))
  have HO23 := Lib.hid (HO22.out.trans (hso _ (.inr (by have := HFN.out; have := HQN.out; have := HQ.out; omega))))
  have HP23 := Lib.hid (HP22.out.trans (hso _ (.inr (.inr HFN.out))))
  clear hso HS22 HB22 HO22 HP22 HF22
  go_wp2_with fail
  clear ks fs
  generalize w22.setCell ⟨f, 12, none⟩ (.string t4.1) = w23 at HS23 HB23 HO23 HP23 HF23 ⊢
  refine (end_calls HS23.out).mono ?_
  rintro e w24 ⟨rfl, hs, hb⟩
  have HS24 := Lib.hid hs
  have HB24 := Lib.hid (hb.blk HB23.out (by have := HQ.out; omega))
  have HO24 := Lib.hid (HO23.out.trans (hb.mono fun k _ hk => .inr (by have := HQ.out; have hk : k = q := hk; omega)))
  have HP24 := Lib.hid (HP23.out.trans (hb.mono fun k _ hk => .inl hk))
  have HF24 := Lib.hid (hb.blk HF23.out (by have := HFN.out; have := HQN.out; omega))
  clear hs hb HS23 HB23 HO23 HP23 HF23
  have HREC := Lib.hid (show recC ps = (⟨ty.1, dv.1, qd.1, mo.1, at_.1, mt.1, ln.1, t1.1, t2.1, t3.1, t4.1⟩, endO t4.2) from by
    unfold recC
    simp only [H_ty.out, H_dv.out, H_qd.out, H_mo.out, H_at_.out, H_mt.out, H_ln.out, H_t1.out, H_t2.out, H_t3.out, H_t4.out])
  go_wp2_with fail
  refine (err_calls HS24.out).mono ?_
  rintro e w25 ⟨⟨er, wh, rfl, he⟩, hs, hb⟩
  have HB25 := Lib.hid (Blk.below HB24.out hb (Blk.lt HB24.out))
  have HF25 := Lib.hid (Blk.below HF24.out hb (Blk.lt HF24.out))
  have HO25 := Lib.hid (HO24.out.trans (Off.of_below hb))
  have HP25 := Lib.hid (HPS.out.off (HP24.out.trans (Off.of_below hb)) (by have := HLT.out; have := HQ.out; have := HN1.out; have := HQN.out; omega) HNU.out)
  clear hs hb HS24 HB24 HF24 HO24 HP24
  cases hE : endO t4.2 with
  | none =>
    rw [hE] at he
    have hne0 : er ≠ 0 := fun h0 => by have h1 := he.1 h0; cases h1
    have hne : ((er : Int) != 0) = true := by rw [bne_iff_ne]; omega
    have HT := Lib.hid (show takeO st = (zst, none) from by
      unfold takeO
      rw [HPO.out.1, HREC.out]
      dsimp only
      rw [hE])
    have HER := Lib.hid hne0
    clear he hE hne0
    go_wp2_with fail
    refine (fail_calls er HER.out HP25.out).mono ?_
    rintro e w26 ⟨rfl, hs, hb⟩
    have HS26 := Lib.hid hs
    have HB26 := Lib.hid (hb.blk HB25.out (by have := HLT.out; omega))
    have HO26 := Lib.hid (HO25.out.trans hb.toN)
    clear hs hb
    go_wp2_with (refine wstK HB26.out 0 [.int .u16 0, .int .u32 0, .int .u8 0, .int .u32 0, .int .u64 0, .int .u32 0, .int .u32 0, .int .u32 0, .int .u64 0, .string ⟨#[]⟩, .string ⟨#[]⟩, .string ⟨#[]⟩, .string ⟨#[]⟩] #[.int .u16 0, .int .u32 0, .int .u8 0, .int .u32 0, .int .u64 0, .int .u32 0, .int .u32 0, .int .u32 0, .int .u64 0, .string ⟨#[]⟩, .string ⟨#[]⟩, .string ⟨#[]⟩, .string ⟨#[]⟩] (over_st ..) (Nat.le_refl 13) (st_one ..) rfl _ _ _ rfl rfl rfl stat_size ?_; intro wz hs ho; have HBz := Lib.hid hs; have HOz := Lib.hid (ho (fun i => i = p ∨ z ≤ i) (.inr (Nat.le_refl _)) w HO26.out); have HSz := Lib.hid (HS26.out.off (ho (fun i => i = z) rfl w26 (Off.refl _ _)) (by have := HLT.out; omega) (blk_noU8 HB26.out (by decide))); clear hs ho)
    refine bodyPost_ret (results_row (l := [.int .u16 0, .int .u32 0, .int .u8 0, .int .u32 0, .int .u64 0, .int .u32 0, .int .u32 0, .int .u32 0, .int .u64 0, .string ⟨#[]⟩, .string ⟨#[]⟩, .string ⟨#[]⟩, .string ⟨#[]⟩]) rfl Tryz.underlying39 rfl stat_size rfl HBz.out) rfl ⟨?_, ?_, HOz.out.toR (by have := HZ.out; omega)⟩
    · rw [HT.out]; try rfl
    · rw [HT.out]
      exact HSz.out

  | some y =>
    rw [hE] at he
    have hne : ((er : Int) != 0) = false := by rw [he.2 rfl]; rfl
    have HT := Lib.hid (show takeO st = (⟨ty.1, dv.1, qd.1, mo.1, at_.1, mt.1, ln.1, t1.1, t2.1, t3.1, t4.1⟩, rs) from by
      unfold takeO
      rw [HPO.out.1, HREC.out]
      dsimp only
      rw [hE, HPO.out.2])
    clear he hE
    go_wp2_with (first | (refine wlw HF25.out 0 [.int .u16 (ty.1 : Int), .int .u32 (dv.1 : Int), .int .u8 (qd.1.kind : Int), .int .u32 (qd.1.vers : Int), .int .u64 (qd.1.path : Int), .int .u32 (mo.1 : Int), .int .u32 (at_.1 : Int), .int .u32 (mt.1 : Int), .int .u64 (ln.1 : Int), .string t1.1, .string t2.1, .string t3.1, .string t4.1] rfl rfl _ _ rfl rfl _ Tryz.underlying39 rfl stat_size ?_) | (refine wstK HB25.out 0 [.int .u16 (ty.1 : Int), .int .u32 (dv.1 : Int), .int .u8 (qd.1.kind : Int), .int .u32 (qd.1.vers : Int), .int .u64 (qd.1.path : Int), .int .u32 (mo.1 : Int), .int .u32 (at_.1 : Int), .int .u32 (mt.1 : Int), .int .u64 (ln.1 : Int), .string t1.1, .string t2.1, .string t3.1, .string t4.1] #[.int .u16 (ty.1 : Int), .int .u32 (dv.1 : Int), .int .u8 (qd.1.kind : Int), .int .u32 (qd.1.vers : Int), .int .u64 (qd.1.path : Int), .int .u32 (mo.1 : Int), .int .u32 (at_.1 : Int), .int .u32 (mt.1 : Int), .int .u64 (ln.1 : Int), .string t1.1, .string t2.1, .string t3.1, .string t4.1] (over_st ..) (Nat.le_refl 13) (st_one ..) rfl _ _ _ rfl rfl rfl stat_size ?_; intro wz hs ho; have HBz := Lib.hid hs; have HOz := Lib.hid (ho (fun i => i = p ∨ z ≤ i) (.inr (Nat.le_refl _)) w HO25.out); have HSz := Lib.hid (HP25.out.off (ho (fun i => i = z) rfl w25 (Off.refl _ _)) (by have := HLT.out; omega) (blk_noU8 HB25.out (by decide))); clear hs ho))
    refine bodyPost_ret (results_row (l := [.int .u16 (ty.1 : Int), .int .u32 (dv.1 : Int), .int .u8 (qd.1.kind : Int), .int .u32 (qd.1.vers : Int), .int .u64 (qd.1.path : Int), .int .u32 (mo.1 : Int), .int .u32 (at_.1 : Int), .int .u32 (mt.1 : Int), .int .u64 (ln.1 : Int), .string t1.1, .string t2.1, .string t3.1, .string t4.1]) rfl Tryz.underlying39 rfl stat_size rfl HBz.out) rfl ⟨?_, ?_, HOz.out.toR (by have := HZ.out; omega)⟩
    · rw [HT.out]; try rfl
    · rw [HT.out]
      exact HSz.out
set_option maxRecDepth 100000 in
set_option maxHeartbeats 3200000 in
theorem takeStat_calls {w : World} {p : Nat} {bv : Value} {l : List UInt8} {st : Option (List UInt8)} (hr : Ready w) (h8 : 8 ≤ p) (h : RdS w p bv l st) :
    Calls Tryz.prog 237 #[.pointer (some ⟨p, 0, none⟩)] w fun e w' => e = .returned (stV (stO st).1) ∧ RdS w' p bv l (stO st).2 ∧ OffR p w w' := by
  have HB := Lib.hid (Blk.new w 39 #[.int .u16 0, .int .u32 0, .int .u8 0, .int .u32 0, .int .u64 0, .int .u32 0, .int .u32 0, .int .u32 0, .int .u64 0, .string ⟨#[]⟩, .string ⟨#[]⟩, .string ⟨#[]⟩, .string ⟨#[]⟩])
  have HS := Lib.hid (h.below ((Below.refl _ _).alloc (Nat.le_refl _) (.cells #[.int .u16 0, .int .u32 0, .int .u8 0, .int .u32 0, .int .u64 0, .int .u32 0, .int .u32 0, .int .u32 0, .int .u64 0, .string ⟨#[]⟩, .string ⟨#[]⟩, .string ⟨#[]⟩, .string ⟨#[]⟩] 39)))
  have HO := Lib.hid ((Off.refl (fun i => i = p ∨ w.heap.size ≤ i) w).alloc (.cells #[.int .u16 0, .int .u32 0, .int .u8 0, .int .u32 0, .int .u64 0, .int .u32 0, .int .u32 0, .int .u32 0, .int .u64 0, .string ⟨#[]⟩, .string ⟨#[]⟩, .string ⟨#[]⟩, .string ⟨#[]⟩] 39))
  have HRD := Lib.hid hr
  have HLT := Lib.hid h.lt
  have H8 := Lib.hid (And.intro h8 hr.eight)
  clear h hr h8
  go_enter Tryz.func237, Tryz.ntmps237
  go_upto_region 1 with (fail)
  generalize w.alloc (.cells #[.int .u16 0, .int .u32 0, .int .u8 0, .int .u32 0, .int .u64 0, .int .u32 0, .int .u32 0, .int .u32 0, .int .u64 0, .string ⟨#[]⟩, .string ⟨#[]⟩, .string ⟨#[]⟩, .string ⟨#[]⟩] 39) = w0 at HS HB HO ⊢
  generalize hz : w.heap.size = z at HB HLT HO H8 ⊢
  have HZ := Lib.hid hz; clear hz
  have H0 := Lib.hid (show ∀ i, i = p ∨ z ≤ i → 8 ≤ i from fun i hi => by have := H8.out; omega)
  go_wp2_with fail
  refine (rdU16_calls HS.out).mono ?_
  rintro e w1 ⟨rfl, hs, hb⟩
  have HS1 := Lib.hid hs
  have HB1 := Lib.hid (hb.blk HB.out (by have := HLT.out; omega))
  have HO1 := Lib.hid (HO.out.trans hb.toN)
  clear hs hb HS HB HO
  go_wp2_with fail
  refine (left_calls HS1.out).mono ?_
  rintro e w2 ⟨rfl, hs, hb⟩
  have HS2 := Lib.hid hs
  have HB2 := Lib.hid (Blk.below HB1.out hb (Blk.lt HB1.out))
  have HO2 := Lib.hid (HO1.out.trans (Off.of_below hb))
  clear hs hb HS1 HB1 HO1
  generalize hA : getO 2 st = A at *
  have hAl : A.1 < 65536 := by rw [← hA]; exact getO_lt 2 st
  have HA := Lib.hid hA; clear hA
  obtain ⟨n, rs⟩ := A
  have hw : wrap64 (n : Int) = (n : Int) := IntWalk.wrap64_in _ (by have : n < 65536 := hAl; omega)
  clear hAl
  dsimp only at HS2 ⊢
  by_cases hn : n = (rs.getD []).length
  · have HT := Lib.hid (show takeO rs = stO st from by
      unfold stO
      rw [HA.out]
      dsimp only
      cases rs with
      | none => rfl
      | some r => dsimp only; rw [if_pos (show n = r.length from hn)])
    have hne : ((n : Int) != (((rs.getD []).length : Nat) : Int)) = false := by rw [hn]; simp
    clear hn
    go_wp2_with fail
    refine (take_calls (HRD.out.low (HO2.out.below (B := 8) H0.out HRD.out.eight) (Nat.le_refl 8)) H8.out.1 HS2.out).mono ?_
    rw [HT.out]
    rintro e w3 ⟨rfl, hs, hb⟩
    have HS3 := Lib.hid hs
    have HB3 := Lib.hid (hb.blk HB2.out (by have := HLT.out; omega))
    have HO3 := Lib.hid (HO2.out.trans hb.toN)
    clear hs hb HS2 HB2 HO2
    go_wp2_with (refine wstK HB3.out 0 (stL (stO st).1) (stL (stO st).1).toArray (over_st ..) (Nat.le_refl 13) (st_one ..) rfl _ _ _ rfl rfl rfl stat_size ?_; intro wz hs ho; have HBz := Lib.hid hs; have HOz := Lib.hid (ho (fun i => i = p ∨ z ≤ i) (.inr (Nat.le_refl _)) w HO3.out); have HSz := Lib.hid (HS3.out.off (ho (fun i => i = z) rfl w3 (Off.refl _ _)) (by have := HLT.out; omega) (blk_noU8 HB3.out (by decide))); clear hs ho)
    exact bodyPost_ret (results_row (l := stL (stO st).1) rfl Tryz.underlying39 rfl stat_size rfl HBz.out) rfl ⟨rfl, HSz.out, HOz.out.toR (by have := HZ.out; omega)⟩
  · have HT := Lib.hid (show stO st = (zst, none) from by
      unfold stO
      rw [HA.out]
      dsimp only
      cases rs with
      | none => rfl
      | some r => dsimp only; rw [if_neg (show ¬ n = r.length from hn)])
    have hne : ((n : Int) != (((rs.getD []).length : Nat) : Int)) = true := by rw [bne_iff_ne]; omega
    clear hn
    go_wp2_with fail
    refine (fail_calls 33 (by decide) HS2.out).mono ?_
    rintro e w3 ⟨rfl, hs, hb⟩
    have HS3 := Lib.hid hs
    have HB3 := Lib.hid (hb.blk HB2.out (by have := HLT.out; omega))
    have HO3 := Lib.hid (HO2.out.trans hb.toN)
    clear hs hb HS2 HB2 HO2
    go_wp2_with fail
    refine (take_calls (HRD.out.low (HO3.out.below (B := 8) H0.out HRD.out.eight) (Nat.le_refl 8)) H8.out.1 HS3.out).mono ?_
    rw [show takeO none = (zst, none) from rfl]
    rintro e w4 ⟨rfl, hs, hb⟩
    have HS4 := Lib.hid hs
    have HB4 := Lib.hid (hb.blk HB3.out (by have := HLT.out; omega))
    have HO4 := Lib.hid (HO3.out.trans hb.toN)
    clear hs hb HS3 HB3 HO3
    go_wp2_with (refine wstK HB4.out 0 (stL zst) (stL zst).toArray (over_st ..) (Nat.le_refl 13) (st_one ..) rfl _ _ _ rfl rfl rfl stat_size ?_; intro wz hs ho; have HBz := Lib.hid hs; have HOz := Lib.hid (ho (fun i => i = p ∨ z ≤ i) (.inr (Nat.le_refl _)) w HO4.out); have HSz := Lib.hid (HS4.out.off (ho (fun i => i = z) rfl w4 (Off.refl _ _)) (by have := HLT.out; omega) (blk_noU8 HB4.out (by decide))); clear hs ho)
    rw [HT.out]
    exact bodyPost_ret (results_row (l := stL zst) rfl Tryz.underlying39 rfl stat_size rfl HBz.out) rfl ⟨rfl, HSz.out, HOz.out.toR (by have := HZ.out; omega)⟩
end Go.Proofs.YtkblmloobkiloaaGreatDoor
