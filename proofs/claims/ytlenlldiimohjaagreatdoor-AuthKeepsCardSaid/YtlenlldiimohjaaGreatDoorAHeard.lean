
/-
  The program's heard, Answer, Confirms. Conditions: TZ, SV.
-/
import Derived.Test.YtlenlldiimohjaaGreatDoorAPiece
namespace Go.Proofs.YtlenlldiimohjaaGreatDoor
open Go.RowKit

theorem Bys.cut {w : World} {B n cap lo hi : Nat} {ad : Addr} {l : List UInt8} (h : Bys w B (.slice (some ad) n cap) l) (h0 : 0 < lo) (hlo : lo ≤ hi) (hhi : hi ≤ l.length) :
    Bys w B (.slice (some ⟨ad.block, ad.off + lo, none⟩) (hi - lo) (cap - lo)) ((l.take hi).drop lo) := by
  obtain ⟨A, c, e, h1, h2, h3⟩ := h
  injection e with e1 e2 e3
  subst e1
  subst e3
  have hlen : ((l.take hi).drop lo).length = hi - lo := by
    rw [List.length_drop, List.length_take]
    omega
  refine ⟨some ⟨ad.block, ad.off + lo, none⟩, cap - lo, by rw [hlen], by rw [hlen]; omega, by omega, by simp, fun hn => ?_⟩
  obtain ⟨ad', hA, hb, hc⟩ := h3.2 (by rw [hlen] at hn; omega)
  injection hA with hA
  subst hA
  refine ⟨_, rfl, hb, fun j u hu => ?_⟩
  have he : (⟨ad.block, ad.off + lo, none⟩ : Addr) = ad.add lo := by
    unfold Addr.add
    rw [if_neg (by omega)]
  rw [he, add_of_add]
  refine hc _ u ?_
  rw [List.getElem?_map, List.getElem?_drop] at hu
  rw [List.getElem?_map]
  have hj : lo + j < hi := by
    rcases Nat.lt_or_ge (lo + j) hi with h | h
    · exact h
    · rw [List.getElem?_eq_none (by rw [List.length_take]; omega)] at hu
      cases hu
  rw [List.getElem?_take_of_lt hj] at hu
  exact hu
def heard25 (b : List UInt8) : Nat × Bool := if b.length = 25 then ((numS (ofL ((b.take 24).drop 8))).1, (numS (ofL ((b.take 24).drop 8))).2 && decide (helloS (numS (ofL ((b.take 24).drop 8))).1 = ofL b)) else (0, false)
/-- Where heard stands. -/
def AH (w0 : World) (B : Nat) (v : Value) (b : List UInt8) (w : World) : Prop := Bys w B v b ∧ TZ w ∧ Below w0.heap.size w0 w ∧ B ≤ w0.heap.size
theorem AH.next {w0 w w' : World} {B : Nat} {v : Value} {b : List UInt8} (h : AH w0 B v b w) (hb : Below w.heap.size w w') : AH w0 B v b w' :=
  ⟨h.1.below (hb.mono (Nat.le_trans h.2.2.2 h.2.2.1.size)), h.2.1.below hb (Nat.le_refl _), h.2.2.1.trans (hb.mono h.2.2.1.size), h.2.2.2⟩
theorem AH.tz {w0 w : World} {B : Nat} {v : Value} {b : List UInt8} (h : AH w0 B v b w) : TZ w := h.2.1
theorem AH.low {w0 w : World} {B : Nat} {v : Value} {b : List UInt8} (h : AH w0 B v b w) : Below w0.heap.size w0 w := h.2.2.1
theorem AH.by_ {w0 w : World} {B : Nat} {v : Value} {b : List UInt8} (h : AH w0 B v b w) : Bys w B v b := h.1
set_option maxRecDepth 100000 in
set_option maxHeartbeats 3200000 in
theorem heard_calls (v : Value) (b : List UInt8) (B : Nat) (w : World) (h : Bys w B v b) (hB : B ≤ w.heap.size) (htz : TZ w) (hsv : SV w) :
    Calls Tryz.prog 63 #[v] w fun e w' => (e = .returned (.tuple #[.int .u64 ((heard25 b).1 : Int), .bool (heard25 b).2]) ∧ (heard25 b).1 < 18446744073709551616) ∧ Below w.heap.size w w' := by
  have HH := Lib.hid h
  obtain ⟨A, cap, rfl, hcap, hm, hr⟩ := h
  have HTZ := Lib.hid htz
  have HSV := Lib.hid hsv
  have HBB := Lib.hid hB
  clear htz hsv
  by_cases h25 : b.length = 25
  · have HS0 := Lib.hid (show heard25 b = _ from if_pos h25)
    obtain ⟨ad, rfl, hb, hcell⟩ := hr.2 (by omega)
    have hc8 : ¬ cap = 8 := by omega
    have hc24 : (24 : Int) ≤ (cap : Int) := by omega
    have HCUT := Lib.hid (Bys.cut (lo := 8) (hi := 24) HH.out (by omega) (by omega) (by omega))
    have HSZ := Lib.hid (show (ofL ((b.take 24).drop 8)).size = 16 from by
      show ((b.take 24).drop 8).toArray.size = 16
      rw [List.size_toArray, List.length_drop, List.length_take, h25]
      rfl)
    have hne : (b.take 24).drop 8 ≠ [] := fun h0 => by
      have := congrArg List.length h0
      rw [List.length_drop, List.length_take, h25] at this
      simp at this
    have hnb : b ≠ [] := fun h0 => by rw [h0] at h25; simp at h25
    have HNB := Lib.hid hnb
    have hconv : (convert 47 9 (.slice (some ⟨ad.block, ad.off + 8, none⟩) 16 (cap - 8))).run Tryz.prog w = .ok (.string (ofL ((b.take 24).drop 8))) w := conv_bys HCUT.out hne
    generalize (b.take 24).drop 8 = m at hconv HS0 HSZ
    obtain ⟨nn, ok, hns⟩ : ∃ a c, numS (ofL m) = (a, c) := ⟨_, _, rfl⟩
    rw [hns] at HS0
    have HNS := Lib.hid hns
    rw [h25] at HH ⊢
    clear hcell hr hne hnb hns HCUT
    go_enter Tryz.func63, Tryz.ntmps63
    go_upto_region 4 with (go_at_call 60; refine (number_calls (ofL m) (by rw [HSZ.out]; decide) (by rw [HSZ.out]; decide) _ HSV.out HTZ.out).mono ?_; rw [HNS.out]; rintro e w2 ⟨rfl, hlt, hb2⟩; have HLT := Lib.hid hlt; have HA := Lib.hid (show AH w B (.slice (some ad) 25 cap) b w2 from ⟨HH.out.below (hb2.mono HBB.out), HTZ.out.below hb2 (Nat.le_refl _), hb2, HBB.out⟩); clear hlt hb2)
    clear hconv
    try dsimp only
    cases ok with
    | false =>
      have HS := Lib.hid (show heard25 b = (nn, false) from by rw [HS0.out]; rfl)
      refine wp_region_held_drew (S := AH w B (.slice (some ad) 25 cap) b) (by kernel_rfl) (HA.out.next (below_drew _)) (fun hHeld => ?_)
      generalize w2.drew = wd at hHeld ⊢
      refine wpAnyH_takeD 16 (i := 0) (v := .int .u64 (nn : Int)) rfl rfl (by kernel_rfl) (by kernel_rfl) (by kernel_rfl) (fun _ _ _ h => h) (Or.inl ⟨by rfl, fun wq hSw => by go_simp⟩) (by assumption) ?_
      simp only [Act.put, List.setIfInBounds_toArray, List.set_cons_zero, List.set_cons_succ]
      refine wpAnyH_takeD 17 (i := 1) (v := .bool false) rfl rfl (by kernel_rfl) (by kernel_rfl) (by kernel_rfl) (fun _ _ _ h => h) (Or.inl ⟨by rfl, fun wq hSw => by go_simp⟩) (by assumption) ?_
      simp only [Act.put, List.setIfInBounds_toArray, List.set_cons_zero, List.set_cons_succ]
      refine wpAnyH_takeD 18 (i := 2) (v := .bool false) rfl rfl (by kernel_rfl) (by kernel_rfl) (by kernel_rfl) (fun _ _ _ h => h) (Or.inl ⟨by rfl, fun wq hSw => by go_simp⟩) (by assumption) ?_
      simp only [Act.put, List.setIfInBounds_toArray, List.set_cons_zero, List.set_cons_succ]
      refine wpAnyH_takeD 19 (i := 3) (v := undef) rfl rfl (by kernel_rfl) (by kernel_rfl) (by kernel_rfl) (fun _ _ _ h => h) (Or.inr ⟨by rfl, rfl⟩) (by assumption) ?_
      simp only [Act.put, List.setIfInBounds_toArray, List.set_cons_zero, List.set_cons_succ]
      refine wpAnyH_takeD 20 (i := 4) (v := undef) rfl rfl (by kernel_rfl) (by kernel_rfl) (by kernel_rfl) (fun _ _ _ h => h) (Or.inr ⟨by rfl, rfl⟩) (by assumption) ?_
      simp only [Act.put, List.setIfInBounds_toArray, List.set_cons_zero, List.set_cons_succ]
      refine wpAnyH_takeD 21 (i := 5) (v := undef) rfl rfl (by kernel_rfl) (by kernel_rfl) (by kernel_rfl) (fun _ _ _ h => h) (Or.inr ⟨by rfl, rfl⟩) (by assumption) ?_
      simp only [Act.put, List.setIfInBounds_toArray, List.set_cons_zero, List.set_cons_succ]
      refine wpAnyH_takeD 22 (i := 6) (v := undef) rfl rfl (by kernel_rfl) (by kernel_rfl) (by kernel_rfl) (fun _ _ _ h => h) (Or.inr ⟨by rfl, rfl⟩) (by assumption) ?_
      simp only [Act.put, List.setIfInBounds_toArray, List.set_cons_zero, List.set_cons_succ]
      refine wpAnyH_takeD 23 (i := 7) (v := undef) rfl rfl (by kernel_rfl) (by kernel_rfl) (by kernel_rfl) (fun _ _ _ h => h) (Or.inr ⟨by rfl, rfl⟩) (by assumption) ?_
      simp only [Act.put, List.setIfInBounds_toArray, List.set_cons_zero, List.set_cons_succ]
      refine wpAnyH_takeD 24 (i := 8) (v := .bool false) rfl rfl (by kernel_rfl) (by kernel_rfl) (by kernel_rfl) (fun _ _ _ h => h) (Or.inl ⟨by rfl, fun wq hSw => by go_simp⟩) (by assumption) ?_
      simp only [Act.put, List.setIfInBounds_toArray, List.set_cons_zero, List.set_cons_succ]
      refine wpAnyH_takeD 2 (i := 9) (v := .int .u64 (nn : Int)) rfl rfl (by kernel_rfl) (by kernel_rfl) (by kernel_rfl) (fun _ _ _ h => h) (Or.inl ⟨by rfl, fun wq hSw => by go_simp⟩) (by assumption) ?_
      simp only [Act.put, List.setIfInBounds_toArray, List.set_cons_zero, List.set_cons_succ]
      refine wpAnyH_takeD 3 (i := 10) (v := .bool false) rfl rfl (by kernel_rfl) (by kernel_rfl) (by kernel_rfl) (fun _ _ _ h => h) (Or.inl ⟨by rfl, fun wq hSw => by go_simp⟩) (by assumption) ?_
      simp only [Act.put, List.setIfInBounds_toArray, List.set_cons_zero, List.set_cons_succ]
      refine wpAnyH_done (by kernel_rfl) ?_ _
      go_wp2_with fail
      go_ret2
      exact ⟨⟨by rw [HS.out]; rfl, by rw [HS.out]; exact HLT.out⟩, hHeld.low⟩
    | true =>
      have hbq := beq_str (helloS nn) (ofL b)
      obtain ⟨hh, hhh⟩ : ∃ z, helloS nn = z := ⟨_, rfl⟩
      rw [hhh] at hbq
      have HS := Lib.hid (show heard25 b = (nn, decide (hh = ofL b)) from by rw [HS0.out, ← hhh]; rfl)
      have HHH := Lib.hid hhh
      clear hhh
      generalize decide (hh = ofL b) = d at hbq HS
      refine wp_region_held_drew (S := AH w B (.slice (some ad) 25 cap) b) (by kernel_rfl) (HA.out.next (below_drew _)) (fun hHeld => ?_)
      generalize w2.drew = wd at hHeld ⊢
      refine wpAnyH_takeD 16 (i := 0) (v := .int .u64 (nn : Int)) rfl rfl (by kernel_rfl) (by kernel_rfl) (by kernel_rfl) (fun _ _ _ h => h) (Or.inl ⟨by rfl, fun wq hSw => by go_simp⟩) (by assumption) ?_
      simp only [Act.put, List.setIfInBounds_toArray, List.set_cons_zero, List.set_cons_succ]
      refine wpAnyH_takeD 17 (i := 1) (v := .bool true) rfl rfl (by kernel_rfl) (by kernel_rfl) (by kernel_rfl) (fun _ _ _ h => h) (Or.inl ⟨by rfl, fun wq hSw => by go_simp⟩) (by assumption) ?_
      simp only [Act.put, List.setIfInBounds_toArray, List.set_cons_zero, List.set_cons_succ]
      refine wpAnyH_takeD 18 (i := 2) (v := .bool true) rfl rfl (by kernel_rfl) (by kernel_rfl) (by kernel_rfl) (fun _ _ _ h => h) (Or.inl ⟨by rfl, fun wq hSw => by go_simp⟩) (by assumption) ?_
      simp only [Act.put, List.setIfInBounds_toArray, List.set_cons_zero, List.set_cons_succ]
      refine wpAnyH_takeD 19 (i := 3) (v := .int .u64 (nn : Int)) rfl rfl (by kernel_rfl) (by kernel_rfl) (by kernel_rfl) (fun _ _ _ h => h) (Or.inl ⟨by rfl, fun wq hSw => by go_simp⟩) (by assumption) ?_
      simp only [Act.put, List.setIfInBounds_toArray, List.set_cons_zero, List.set_cons_succ]
      refine wpAnyH_takeD 21 (i := 5) (v := .slice (some ad) 25 cap) rfl rfl (by kernel_rfl) (by kernel_rfl) (by kernel_rfl) (fun _ _ _ h => h) (Or.inl ⟨by rfl, fun wq hSw => by go_simp⟩) (by assumption) ?_
      simp only [Act.put, List.setIfInBounds_toArray, List.set_cons_zero, List.set_cons_succ]
      refine wpAnyH_takeD 22 (i := 6) (v := .string (ofL b)) rfl rfl (by kernel_rfl) (by kernel_rfl) (by kernel_rfl) (fun _ _ _ h => h) (Or.inl ⟨by rfl, fun wq hSw => by have k := conv_bys hSw.by_ HNB.out; go_simp⟩) (by assumption) ?_
      simp only [Act.put, List.setIfInBounds_toArray, List.set_cons_zero, List.set_cons_succ]
      refine wpAnyH_ready (rs := [4]) (by kernel_rfl) (by simp) ?_
      refine AllReadyH.cons rfl (fun K hK => ?_) AllReadyH.nil
      rw [if_pos (by rfl)]
      go_simp
      (with_reducible refine (hello_calls nn HLT.out _ hHeld.tz).mono ?_)
      rw [HHH.out]
      rintro e w4 ⟨rfl, hb⟩
      dsimp only
      have hOld := hHeld.next hb
      clear hHeld hb
      refine hK.out _ _ hOld (fun hHeld => ?_)
      clear hK hOld
      refine wpAnyH_takeD 23 (i := 7) (v := .bool d) rfl rfl (by kernel_rfl) (by kernel_rfl) (by kernel_rfl) (fun _ _ _ h => h) (Or.inl ⟨by rfl, fun wq hSw => by go_simp⟩) (by assumption) ?_
      simp only [Act.put, List.setIfInBounds_toArray, List.set_cons_zero, List.set_cons_succ]
      refine wpAnyH_takeD 24 (i := 8) (v := .bool d) rfl rfl (by kernel_rfl) (by kernel_rfl) (by kernel_rfl) (fun _ _ _ h => h) (Or.inl ⟨by rfl, fun wq hSw => by go_simp⟩) (by assumption) ?_
      simp only [Act.put, List.setIfInBounds_toArray, List.set_cons_zero, List.set_cons_succ]
      refine wpAnyH_takeD 2 (i := 9) (v := .int .u64 (nn : Int)) rfl rfl (by kernel_rfl) (by kernel_rfl) (by kernel_rfl) (fun _ _ _ h => h) (Or.inl ⟨by rfl, fun wq hSw => by go_simp⟩) (by assumption) ?_
      simp only [Act.put, List.setIfInBounds_toArray, List.set_cons_zero, List.set_cons_succ]
      refine wpAnyH_takeD 3 (i := 10) (v := .bool d) rfl rfl (by kernel_rfl) (by kernel_rfl) (by kernel_rfl) (fun _ _ _ h => h) (Or.inl ⟨by rfl, fun wq hSw => by go_simp⟩) (by assumption) ?_
      simp only [Act.put, List.setIfInBounds_toArray, List.set_cons_zero, List.set_cons_succ]
      refine wpAnyH_done (by kernel_rfl) ?_ _
      go_wp2_with fail
      go_ret2
      exact ⟨⟨by rw [HS.out]; rfl, by rw [HS.out]; exact HLT.out⟩, hHeld.low⟩
  · have HS := Lib.hid (show heard25 b = (0, false) from if_neg h25)
    have hq : ((b.length : Int) != 25) = true := by rw [bne_iff_ne]; omega
    go_enter Tryz.func63, Tryz.ntmps63
    go_wp2_with fail
    go_ret2
    exact ⟨⟨by rw [HS.out]; rfl, by rw [HS.out]; decide⟩, Below.refl _ _⟩
end Go.Proofs.YtlenlldiimohjaaGreatDoor
