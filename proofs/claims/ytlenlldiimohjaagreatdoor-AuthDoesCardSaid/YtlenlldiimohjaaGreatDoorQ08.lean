/-
  AHeard AConf AReads AWrites AFreshL AKeepL ATabL ATab AFreshM AOwnB: what AuthDoes needs of them.
-/
import Derived.Test.YtlenlldiimohjaaGreatDoorQ07
import Derived.Laws.EntriesVeiled
import Derived.Test.YtlenlldiimohjaaGreatDoorQ03
import Derived.Test.YtlenlldiimohjaaGreatDoorQ06
import Derived.Lib.FrozenHead
namespace Go.Proofs.YtlenlldiimohjaaGreatDoor
open Go.RowKit

theorem Bys.cut {w : World} {B n cap lo hi : Nat} {ad : Addr} {l : List UInt8} (h : Bys w B (.slice (some ad) n cap) l) (h0 : 0 < lo) (hlo : lo ≤ hi) (hhi : hi ≤ l.length) :
    Bys w B (.slice (some ⟨ad.block, ad.off + lo, none⟩) (hi - lo) (cap - lo)) ((l.take hi).drop lo) := by
  obtain ⟨A, c, e, h1, h2, h3⟩ := h
  injection e with e1 e2 e3
  subst e1
  subst e3
  have hlen : ((l.take hi).drop lo).length = hi - lo := by
    rw [List.length_drop, List.length_take]
    omega
  refine ⟨some ⟨ad.block, ad.off + lo, none⟩, cap - lo, by rw [hlen], by rw [hlen]; omega, by omega, by simp, fun hn => ?_⟩
  obtain ⟨ad', hA, hb, hc⟩ := h3.2 (by rw [hlen] at hn; omega)
  injection hA with hA
  subst hA
  refine ⟨_, rfl, hb, fun j u hu => ?_⟩
  have he : (⟨ad.block, ad.off + lo, none⟩ : Addr) = ad.add lo := by
    unfold Addr.add
    rw [if_neg (by omega)]
  rw [he, add_of_add]
  refine hc _ u ?_
  rw [List.getElem?_map, List.getElem?_drop] at hu
  rw [List.getElem?_map]
  have hj : lo + j < hi := by
    rcases Nat.lt_or_ge (lo + j) hi with h | h
    · exact h
    · rw [List.getElem?_eq_none (by rw [List.length_take]; omega)] at hu
      cases hu
  rw [List.getElem?_take_of_lt hj] at hu
  exact hu
def heard25 (b : List UInt8) : Nat × Bool := if b.length = 25 then ((numS (ofL ((b.take 24).drop 8))).1, (numS (ofL ((b.take 24).drop 8))).2 && decide (helloS (numS (ofL ((b.take 24).drop 8))).1 = ofL b)) else (0, false)
/-- Where heard stands. -/
def AH (w0 : World) (B : Nat) (v : Value) (b : List UInt8) (w : World) : Prop := Bys w B v b ∧ TZ w ∧ Below w0.heap.size w0 w ∧ B ≤ w0.heap.size
theorem AH.next {w0 w w' : World} {B : Nat} {v : Value} {b : List UInt8} (h : AH w0 B v b w) (hb : Below w.heap.size w w') : AH w0 B v b w' :=
  ⟨h.1.below (hb.mono (Nat.le_trans h.2.2.2 h.2.2.1.size)), h.2.1.below hb (Nat.le_refl _), h.2.2.1.trans (hb.mono h.2.2.1.size), h.2.2.2⟩
theorem AH.tz {w0 w : World} {B : Nat} {v : Value} {b : List UInt8} (h : AH w0 B v b w) : TZ w := h.2.1
theorem AH.low {w0 w : World} {B : Nat} {v : Value} {b : List UInt8} (h : AH w0 B v b w) : Below w0.heap.size w0 w := h.2.2.1
theorem AH.by_ {w0 w : World} {B : Nat} {v : Value} {b : List UInt8} (h : AH w0 B v b w) : Bys w B v b := h.1
set_option maxRecDepth 100000 in
set_option maxHeartbeats 3200000 in
theorem heard_calls (v : Value) (b : List UInt8) (B : Nat) (w : World) (h : Bys w B v b) (hB : B ≤ w.heap.size) (htz : TZ w) (hsv : SV w) :
    Calls Tryz.prog 63 #[v] w fun e w' => (e = .returned (.tuple #[.int .u64 ((heard25 b).1 : Int), .bool (heard25 b).2]) ∧ (heard25 b).1 < 18446744073709551616) ∧ Below w.heap.size w w' := by
  have HH := Lib.hid h
  obtain ⟨A, cap, rfl, hcap, hm, hr⟩ := h
  have HTZ := Lib.hid htz
  have HSV := Lib.hid hsv
  have HBB := Lib.hid hB
  clear htz hsv
  by_cases h25 : b.length = 25
  · have HS0 := Lib.hid (show heard25 b = _ from if_pos h25)
    obtain ⟨ad, rfl, hb, hcell⟩ := hr.2 (by omega)
    have hc8 : ¬ cap = 8 := by omega
    have hc24 : (24 : Int) ≤ (cap : Int) := by omega
    have HCUT := Lib.hid (Bys.cut (lo := 8) (hi := 24) HH.out (by omega) (by omega) (by omega))
    have HSZ := Lib.hid (show (ofL ((b.take 24).drop 8)).size = 16 from by
      show ((b.take 24).drop 8).toArray.size = 16
      rw [List.size_toArray, List.length_drop, List.length_take, h25]
      rfl)
    have hne : (b.take 24).drop 8 ≠ [] := fun h0 => by
      have := congrArg List.length h0
      rw [List.length_drop, List.length_take, h25] at this
      simp at this
    have hnb : b ≠ [] := fun h0 => by rw [h0] at h25; simp at h25
    have HNB := Lib.hid hnb
    have hconv : (convert 47 9 (.slice (some ⟨ad.block, ad.off + 8, none⟩) 16 (cap - 8))).run Tryz.prog w = .ok (.string (ofL ((b.take 24).drop 8))) w := conv_bys HCUT.out hne
    generalize (b.take 24).drop 8 = m at hconv HS0 HSZ
    obtain ⟨nn, ok, hns⟩ : ∃ a c, numS (ofL m) = (a, c) := ⟨_, _, rfl⟩
    rw [hns] at HS0
    have HNS := Lib.hid hns
    rw [h25] at HH ⊢
    clear hcell hr hne hnb hns HCUT
    go_enter Tryz.func63, Tryz.ntmps63
    go_upto_region 4 with (go_at_call 60; refine (number_calls (ofL m) (by rw [HSZ.out]; decide) (by rw [HSZ.out]; decide) _ HSV.out HTZ.out).mono ?_; rw [HNS.out]; rintro e w2 ⟨rfl, hlt, hb2⟩; have HLT := Lib.hid hlt; have HA := Lib.hid (show AH w B (.slice (some ad) 25 cap) b w2 from ⟨HH.out.below (hb2.mono HBB.out), HTZ.out.below hb2 (Nat.le_refl _), hb2, HBB.out⟩); clear hlt hb2)
    clear hconv
    try dsimp only
    cases ok with
    | false =>
      have HS := Lib.hid (show heard25 b = (nn, false) from by rw [HS0.out]; rfl)
      refine wp_region_held_drew (S := AH w B (.slice (some ad) 25 cap) b) (by kernel_rfl) (HA.out.next (below_drew _)) (fun hHeld => ?_)
      generalize w2.drew = wd at hHeld ⊢
      refine wpAnyH_takeD 16 (i := 0) (v := .int .u64 (nn : Int)) rfl rfl (by kernel_rfl) (by kernel_rfl) (by kernel_rfl) (fun _ _ _ h => h) (Or.inl ⟨by rfl, fun wq hSw => by go_simp⟩) (by assumption) ?_
      simp only [Act.put, List.setIfInBounds_toArray, List.set_cons_zero, List.set_cons_succ]
      refine wpAnyH_takeD 17 (i := 1) (v := .bool false) rfl rfl (by kernel_rfl) (by kernel_rfl) (by kernel_rfl) (fun _ _ _ h => h) (Or.inl ⟨by rfl, fun wq hSw => by go_simp⟩) (by assumption) ?_
      simp only [Act.put, List.setIfInBounds_toArray, List.set_cons_zero, List.set_cons_succ]
      refine wpAnyH_takeD 18 (i := 2) (v := .bool false) rfl rfl (by kernel_rfl) (by kernel_rfl) (by kernel_rfl) (fun _ _ _ h => h) (Or.inl ⟨by rfl, fun wq hSw => by go_simp⟩) (by assumption) ?_
      simp only [Act.put, List.setIfInBounds_toArray, List.set_cons_zero, List.set_cons_succ]
      refine wpAnyH_takeD 19 (i := 3) (v := undef) rfl rfl (by kernel_rfl) (by kernel_rfl) (by kernel_rfl) (fun _ _ _ h => h) (Or.inr ⟨by rfl, rfl⟩) (by assumption) ?_
      simp only [Act.put, List.setIfInBounds_toArray, List.set_cons_zero, List.set_cons_succ]
      refine wpAnyH_takeD 20 (i := 4) (v := undef) rfl rfl (by kernel_rfl) (by kernel_rfl) (by kernel_rfl) (fun _ _ _ h => h) (Or.inr ⟨by rfl, rfl⟩) (by assumption) ?_
      simp only [Act.put, List.setIfInBounds_toArray, List.set_cons_zero, List.set_cons_succ]
      refine wpAnyH_takeD 21 (i := 5) (v := undef) rfl rfl (by kernel_rfl) (by kernel_rfl) (by kernel_rfl) (fun _ _ _ h => h) (Or.inr ⟨by rfl, rfl⟩) (by assumption) ?_
      simp only [Act.put, List.setIfInBounds_toArray, List.set_cons_zero, List.set_cons_succ]
      refine wpAnyH_takeD 22 (i := 6) (v := undef) rfl rfl (by kernel_rfl) (by kernel_rfl) (by kernel_rfl) (fun _ _ _ h => h) (Or.inr ⟨by rfl, rfl⟩) (by assumption) ?_
      simp only [Act.put, List.setIfInBounds_toArray, List.set_cons_zero, List.set_cons_succ]
      refine wpAnyH_takeD 23 (i := 7) (v := undef) rfl rfl (by kernel_rfl) (by kernel_rfl) (by kernel_rfl) (fun _ _ _ h => h) (Or.inr ⟨by rfl, rfl⟩) (by assumption) ?_
      simp only [Act.put, List.setIfInBounds_toArray, List.set_cons_zero, List.set_cons_succ]
      refine wpAnyH_takeD 24 (i := 8) (v := .bool false) rfl rfl (by kernel_rfl) (by kernel_rfl) (by kernel_rfl) (fun _ _ _ h => h) (Or.inl ⟨by rfl, fun wq hSw => by go_simp⟩) (by assumption) ?_
      simp only [Act.put, List.setIfInBounds_toArray, List.set_cons_zero, List.set_cons_succ]
      refine wpAnyH_takeD 2 (i := 9) (v := .int .u64 (nn : Int)) rfl rfl (by kernel_rfl) (by kernel_rfl) (by kernel_rfl) (fun _ _ _ h => h) (Or.inl ⟨by rfl, fun wq hSw => by go_simp⟩) (by assumption) ?_
      simp only [Act.put, List.setIfInBounds_toArray, List.set_cons_zero, List.set_cons_succ]
      refine wpAnyH_takeD 3 (i := 10) (v := .bool false) rfl rfl (by kernel_rfl) (by kernel_rfl) (by kernel_rfl) (fun _ _ _ h => h) (Or.inl ⟨by rfl, fun wq hSw => by go_simp⟩) (by assumption) ?_
      simp only [Act.put, List.setIfInBounds_toArray, List.set_cons_zero, List.set_cons_succ]
      refine wpAnyH_done (by kernel_rfl) ?_ _
      go_wp2_with fail
      go_ret2
      exact ⟨⟨by rw [HS.out]; rfl, by rw [HS.out]; exact HLT.out⟩, hHeld.low⟩
    | true =>
      have hbq := beq_str (helloS nn) (ofL b)
      obtain ⟨hh, hhh⟩ : ∃ z, helloS nn = z := ⟨_, rfl⟩
      rw [hhh] at hbq
      have HS := Lib.hid (show heard25 b = (nn, decide (hh = ofL b)) from by rw [HS0.out, ← hhh]; rfl)
      have HHH := Lib.hid hhh
      clear hhh
      generalize decide (hh = ofL b) = d at hbq HS
      refine wp_region_held_drew (S := AH w B (.slice (some ad) 25 cap) b) (by kernel_rfl) (HA.out.next (below_drew _)) (fun hHeld => ?_)
      generalize w2.drew = wd at hHeld ⊢
      refine wpAnyH_takeD 16 (i := 0) (v := .int .u64 (nn : Int)) rfl rfl (by kernel_rfl) (by kernel_rfl) (by kernel_rfl) (fun _ _ _ h => h) (Or.inl ⟨by rfl, fun wq hSw => by go_simp⟩) (by assumption) ?_
      simp only [Act.put, List.setIfInBounds_toArray, List.set_cons_zero, List.set_cons_succ]
      refine wpAnyH_takeD 17 (i := 1) (v := .bool true) rfl rfl (by kernel_rfl) (by kernel_rfl) (by kernel_rfl) (fun _ _ _ h => h) (Or.inl ⟨by rfl, fun wq hSw => by go_simp⟩) (by assumption) ?_
      simp only [Act.put, List.setIfInBounds_toArray, List.set_cons_zero, List.set_cons_succ]
      refine wpAnyH_takeD 18 (i := 2) (v := .bool true) rfl rfl (by kernel_rfl) (by kernel_rfl) (by kernel_rfl) (fun _ _ _ h => h) (Or.inl ⟨by rfl, fun wq hSw => by go_simp⟩) (by assumption) ?_
      simp only [Act.put, List.setIfInBounds_toArray, List.set_cons_zero, List.set_cons_succ]
      refine wpAnyH_takeD 19 (i := 3) (v := .int .u64 (nn : Int)) rfl rfl (by kernel_rfl) (by kernel_rfl) (by kernel_rfl) (fun _ _ _ h => h) (Or.inl ⟨by rfl, fun wq hSw => by go_simp⟩) (by assumption) ?_
      simp only [Act.put, List.setIfInBounds_toArray, List.set_cons_zero, List.set_cons_succ]
      refine wpAnyH_takeD 21 (i := 5) (v := .slice (some ad) 25 cap) rfl rfl (by kernel_rfl) (by kernel_rfl) (by kernel_rfl) (fun _ _ _ h => h) (Or.inl ⟨by rfl, fun wq hSw => by go_simp⟩) (by assumption) ?_
      simp only [Act.put, List.setIfInBounds_toArray, List.set_cons_zero, List.set_cons_succ]
      refine wpAnyH_takeD 22 (i := 6) (v := .string (ofL b)) rfl rfl (by kernel_rfl) (by kernel_rfl) (by kernel_rfl) (fun _ _ _ h => h) (Or.inl ⟨by rfl, fun wq hSw => by have k := conv_bys hSw.by_ HNB.out; go_simp⟩) (by assumption) ?_
      simp only [Act.put, List.setIfInBounds_toArray, List.set_cons_zero, List.set_cons_succ]
      refine wpAnyH_ready (rs := [4]) (by kernel_rfl) (by simp) ?_
      refine AllReadyH.cons rfl (fun K hK => ?_) AllReadyH.nil
      rw [if_pos (by rfl)]
      go_simp
      (with_reducible refine (hello_calls nn HLT.out _ hHeld.tz).mono ?_)
      rw [HHH.out]
      rintro e w4 ⟨rfl, hb⟩
      dsimp only
      have hOld := hHeld.next hb
      clear hHeld hb
      refine hK.out _ _ hOld (fun hHeld => ?_)
      clear hK hOld
      refine wpAnyH_takeD 23 (i := 7) (v := .bool d) rfl rfl (by kernel_rfl) (by kernel_rfl) (by kernel_rfl) (fun _ _ _ h => h) (Or.inl ⟨by rfl, fun wq hSw => by go_simp⟩) (by assumption) ?_
      simp only [Act.put, List.setIfInBounds_toArray, List.set_cons_zero, List.set_cons_succ]
      refine wpAnyH_takeD 24 (i := 8) (v := .bool d) rfl rfl (by kernel_rfl) (by kernel_rfl) (by kernel_rfl) (fun _ _ _ h => h) (Or.inl ⟨by rfl, fun wq hSw => by go_simp⟩) (by assumption) ?_
      simp only [Act.put, List.setIfInBounds_toArray, List.set_cons_zero, List.set_cons_succ]
      refine wpAnyH_takeD 2 (i := 9) (v := .int .u64 (nn : Int)) rfl rfl (by kernel_rfl) (by kernel_rfl) (by kernel_rfl) (fun _ _ _ h => h) (Or.inl ⟨by rfl, fun wq hSw => by go_simp⟩) (by assumption) ?_
      simp only [Act.put, List.setIfInBounds_toArray, List.set_cons_zero, List.set_cons_succ]
      refine wpAnyH_takeD 3 (i := 10) (v := .bool d) rfl rfl (by kernel_rfl) (by kernel_rfl) (by kernel_rfl) (fun _ _ _ h => h) (Or.inl ⟨by rfl, fun wq hSw => by go_simp⟩) (by assumption) ?_
      simp only [Act.put, List.setIfInBounds_toArray, List.set_cons_zero, List.set_cons_succ]
      refine wpAnyH_done (by kernel_rfl) ?_ _
      go_wp2_with fail
      go_ret2
      exact ⟨⟨by rw [HS.out]; rfl, by rw [HS.out]; exact HLT.out⟩, hHeld.low⟩
  · have HS := Lib.hid (show heard25 b = (0, false) from if_neg h25)
    have hq : ((b.length : Int) != 25) = true := by rw [bne_iff_ne]; omega
    go_enter Tryz.func63, Tryz.ntmps63
    go_wp2_with fail
    go_ret2
    exact ⟨⟨by rw [HS.out]; rfl, by rw [HS.out]; decide⟩, Below.refl _ _⟩
end Go.Proofs.YtlenlldiimohjaaGreatDoor
namespace Go.Proofs.YtlenlldiimohjaaGreatDoor
open Go.RowKit

theorem lineS_size (key user tree : ByteArray) (ours : Int) (theirs : Nat) : (lineS key user tree ours theirs).size = 33 := by
  unfold lineS
  generalize shN key user tree 1 ours theirs = n
  show (hexN 16 theirs ++ hexN 16 n ++ [10]).toArray.size = 33
  rw [List.size_toArray, List.length_append, List.length_append, hexN_len, hexN_len]
  rfl
/-- What Confirms answers. -/
def confS (key user tree : ByteArray) (hello : List UInt8) (theirs : Int) (proof : List UInt8) : Bool := (heard25 hello).2 && (decide (proof.length = 17) && decide (ofL proof = shownS (shN key user tree 2 ((heard25 hello).1 : Int) theirs)))
set_option maxRecDepth 100000 in
set_option maxHeartbeats 3200000 in
theorem confirms_calls (key user tree : ByteArray) (v pv : Value) (b p : List UInt8) (theirs : Int) (B : Nat) (w : World) (h : Bys w B v b) (hp : Bys w B pv p) (hB : B ≤ w.heap.size) (htz : TZ w) (hsv : SV w)
    (hk : key.size ≤ maxLen) (hu : user.size ≤ maxLen) (ht : tree.size ≤ maxLen) :
    Calls Tryz.prog 23 #[.string key, .string user, .string tree, v, .int .u64 theirs, pv] w fun e w' => e = .returned (.bool (confS key user tree b theirs p)) ∧ Below w.heap.size w w' := by
  have HH := Lib.hid h
  have HPB := Lib.hid hp
  have HTZ := Lib.hid htz
  have HSV := Lib.hid hsv
  have HK := Lib.hid hk
  have HU := Lib.hid hu
  have HTR := Lib.hid ht
  have HBB := Lib.hid hB
  obtain ⟨pA, pc, rfl, -⟩ := hp
  obtain ⟨nn, ok, hn⟩ : ∃ a c, heard25 b = (a, c) := ⟨_, _, rfl⟩
  have HNS := Lib.hid hn
  have HCS := Lib.hid (show confS key user tree b theirs p = (ok && (decide (p.length = 17) && decide (ofL p = shownS (shN key user tree 2 (nn : Int) theirs)))) from by unfold confS; rw [hn])
  clear h htz hsv hk hu ht hn hB
  cases ok with
  | false =>
    go_enter Tryz.func23, Tryz.ntmps23
    go_upto_region 2 with (go_at_call 63; refine (heard_calls v b B _ HH.out HBB.out HTZ.out HSV.out).mono ?_; rw [HNS.out]; rintro e w2 ⟨⟨rfl, hlt⟩, hb2⟩; have HA := Lib.hid (show AH w B (.slice pA p.length pc) p w2 from ⟨HPB.out.below (hb2.mono HBB.out), HTZ.out.below hb2 (Nat.le_refl _), hb2, HBB.out⟩); clear hlt hb2)
    refine wp_region_held_drew (S := AH w B (.slice pA p.length pc) p) (by kernel_rfl) (HA.out.next (below_drew _)) (fun hHeld => ?_)
    generalize w2.drew = wd at hHeld ⊢
    refine wpAnyH_takeD 20 (i := 0) (v := .bool false) rfl rfl (by kernel_rfl) (by kernel_rfl) (by kernel_rfl) (fun _ _ _ h => h) (Or.inl ⟨by rfl, fun wq hSw => by go_simp⟩) (by assumption) ?_
    simp only [Act.put, List.setIfInBounds_toArray, List.set_cons_zero, List.set_cons_succ]
    refine wpAnyH_takeD 21 (i := 1) (v := .bool false) rfl rfl (by kernel_rfl) (by kernel_rfl) (by kernel_rfl) (fun _ _ _ h => h) (Or.inl ⟨by rfl, fun wq hSw => by go_simp⟩) (by assumption) ?_
    simp only [Act.put, List.setIfInBounds_toArray, List.set_cons_zero, List.set_cons_succ]
    refine wpAnyH_takeD 22 (i := 2) (v := undef) rfl rfl (by kernel_rfl) (by kernel_rfl) (by kernel_rfl) (fun _ _ _ h => h) (Or.inr ⟨by rfl, rfl⟩) (by assumption) ?_
    simp only [Act.put, List.setIfInBounds_toArray, List.set_cons_zero, List.set_cons_succ]
    refine wpAnyH_takeD 23 (i := 3) (v := undef) rfl rfl (by kernel_rfl) (by kernel_rfl) (by kernel_rfl) (fun _ _ _ h => h) (Or.inr ⟨by rfl, rfl⟩) (by assumption) ?_
    simp only [Act.put, List.setIfInBounds_toArray, List.set_cons_zero, List.set_cons_succ]
    refine wpAnyH_takeD 24 (i := 4) (v := undef) rfl rfl (by kernel_rfl) (by kernel_rfl) (by kernel_rfl) (fun _ _ _ h => h) (Or.inr ⟨by rfl, rfl⟩) (by assumption) ?_
    simp only [Act.put, List.setIfInBounds_toArray, List.set_cons_zero, List.set_cons_succ]
    refine wpAnyH_takeD 25 (i := 5) (v := .bool false) rfl rfl (by kernel_rfl) (by kernel_rfl) (by kernel_rfl) (fun _ _ _ h => h) (Or.inl ⟨by rfl, fun wq hSw => by go_simp⟩) (by assumption) ?_
    simp only [Act.put, List.setIfInBounds_toArray, List.set_cons_zero, List.set_cons_succ]
    refine wpAnyH_takeD 26 (i := 6) (v := .bool false) rfl rfl (by kernel_rfl) (by kernel_rfl) (by kernel_rfl) (fun _ _ _ h => h) (Or.inl ⟨by rfl, fun wq hSw => by go_simp⟩) (by assumption) ?_
    simp only [Act.put, List.setIfInBounds_toArray, List.set_cons_zero, List.set_cons_succ]
    refine wpAnyH_takeD 27 (i := 7) (v := undef) rfl rfl (by kernel_rfl) (by kernel_rfl) (by kernel_rfl) (fun _ _ _ h => h) (Or.inr ⟨by rfl, rfl⟩) (by assumption) ?_
    simp only [Act.put, List.setIfInBounds_toArray, List.set_cons_zero, List.set_cons_succ]
    refine wpAnyH_takeD 28 (i := 8) (v := undef) rfl rfl (by kernel_rfl) (by kernel_rfl) (by kernel_rfl) (fun _ _ _ h => h) (Or.inr ⟨by rfl, rfl⟩) (by assumption) ?_
    simp only [Act.put, List.setIfInBounds_toArray, List.set_cons_zero, List.set_cons_succ]
    refine wpAnyH_takeD 29 (i := 9) (v := undef) rfl rfl (by kernel_rfl) (by kernel_rfl) (by kernel_rfl) (fun _ _ _ h => h) (Or.inr ⟨by rfl, rfl⟩) (by assumption) ?_
    simp only [Act.put, List.setIfInBounds_toArray, List.set_cons_zero, List.set_cons_succ]
    refine wpAnyH_takeD 30 (i := 10) (v := undef) rfl rfl (by kernel_rfl) (by kernel_rfl) (by kernel_rfl) (fun _ _ _ h => h) (Or.inr ⟨by rfl, rfl⟩) (by assumption) ?_
    simp only [Act.put, List.setIfInBounds_toArray, List.set_cons_zero, List.set_cons_succ]
    refine wpAnyH_takeD 31 (i := 11) (v := undef) rfl rfl (by kernel_rfl) (by kernel_rfl) (by kernel_rfl) (fun _ _ _ h => h) (Or.inr ⟨by rfl, rfl⟩) (by assumption) ?_
    simp only [Act.put, List.setIfInBounds_toArray, List.set_cons_zero, List.set_cons_succ]
    refine wpAnyH_takeD 32 (i := 12) (v := undef) rfl rfl (by kernel_rfl) (by kernel_rfl) (by kernel_rfl) (fun _ _ _ h => h) (Or.inr ⟨by rfl, rfl⟩) (by assumption) ?_
    simp only [Act.put, List.setIfInBounds_toArray, List.set_cons_zero, List.set_cons_succ]
    refine wpAnyH_takeD 33 (i := 13) (v := undef) rfl rfl (by kernel_rfl) (by kernel_rfl) (by kernel_rfl) (fun _ _ _ h => h) (Or.inr ⟨by rfl, rfl⟩) (by assumption) ?_
    simp only [Act.put, List.setIfInBounds_toArray, List.set_cons_zero, List.set_cons_succ]
    refine wpAnyH_takeD 34 (i := 14) (v := undef) rfl rfl (by kernel_rfl) (by kernel_rfl) (by kernel_rfl) (fun _ _ _ h => h) (Or.inr ⟨by rfl, rfl⟩) (by assumption) ?_
    simp only [Act.put, List.setIfInBounds_toArray, List.set_cons_zero, List.set_cons_succ]
    refine wpAnyH_takeD 35 (i := 15) (v := undef) rfl rfl (by kernel_rfl) (by kernel_rfl) (by kernel_rfl) (fun _ _ _ h => h) (Or.inr ⟨by rfl, rfl⟩) (by assumption) ?_
    simp only [Act.put, List.setIfInBounds_toArray, List.set_cons_zero, List.set_cons_succ]
    refine wpAnyH_takeD 36 (i := 16) (v := .bool false) rfl rfl (by kernel_rfl) (by kernel_rfl) (by kernel_rfl) (fun _ _ _ h => h) (Or.inl ⟨by rfl, fun wq hSw => by go_simp⟩) (by assumption) ?_
    simp only [Act.put, List.setIfInBounds_toArray, List.set_cons_zero, List.set_cons_succ]
    refine wpAnyH_takeD 12 (i := 17) (v := .bool false) rfl rfl (by kernel_rfl) (by kernel_rfl) (by kernel_rfl) (fun _ _ _ h => h) (Or.inl ⟨by rfl, fun wq hSw => by go_simp⟩) (by assumption) ?_
    simp only [Act.put, List.setIfInBounds_toArray, List.set_cons_zero, List.set_cons_succ]
    refine wpAnyH_done (by kernel_rfl) ?_ _
    go_wp2_with fail
    go_ret
    exact ⟨by rw [HCS.out]; rfl, hHeld.low⟩
  | true =>
    by_cases h17 : p.length = 17
    · have hnp : p ≠ [] := fun h0 => by rw [h0] at h17; simp at h17
      have HNP := Lib.hid hnp
      obtain ⟨S, hS⟩ : ∃ z, shownS (shN key user tree 2 (nn : Int) theirs) = z := ⟨_, rfl⟩
      have hbq := beq_str (ofL p) S
      rw [hS, decide_eq_true h17] at HCS
      have HSS := Lib.hid hS
      generalize decide (ofL p = S) = d at hbq HCS
      have hq : ((p.length : Int) == 17) = true := by rw [beq_iff_eq]; omega
      have HPL := Lib.hid h17
      clear hS hnp h17
      go_enter Tryz.func23, Tryz.ntmps23
      go_upto_region 2 with (go_at_call 63; refine (heard_calls v b B _ HH.out HBB.out HTZ.out HSV.out).mono ?_; rw [HNS.out]; rintro e w2 ⟨⟨rfl, hlt⟩, hb2⟩; have HA := Lib.hid (show AH w B (.slice pA p.length pc) p w2 from ⟨HPB.out.below (hb2.mono HBB.out), HTZ.out.below hb2 (Nat.le_refl _), hb2, HBB.out⟩); clear hlt hb2)
      refine wp_region_held_drew (S := AH w B (.slice pA p.length pc) p) (by kernel_rfl) (HA.out.next (below_drew _)) (fun hHeld => ?_)
      generalize w2.drew = wd at hHeld ⊢
      refine wpAnyH_takeD 20 (i := 0) (v := .bool true) rfl rfl (by kernel_rfl) (by kernel_rfl) (by kernel_rfl) (fun _ _ _ h => h) (Or.inl ⟨by rfl, fun wq hSw => by go_simp⟩) (by assumption) ?_
      simp only [Act.put, List.setIfInBounds_toArray, List.set_cons_zero, List.set_cons_succ]
      refine wpAnyH_takeD 21 (i := 1) (v := .bool true) rfl rfl (by kernel_rfl) (by kernel_rfl) (by kernel_rfl) (fun _ _ _ h => h) (Or.inl ⟨by rfl, fun wq hSw => by go_simp⟩) (by assumption) ?_
      simp only [Act.put, List.setIfInBounds_toArray, List.set_cons_zero, List.set_cons_succ]
      refine wpAnyH_takeD 22 (i := 2) (v := .slice pA p.length pc) rfl rfl (by kernel_rfl) (by kernel_rfl) (by kernel_rfl) (fun _ _ _ h => h) (Or.inl ⟨by rfl, fun wq hSw => by go_simp⟩) (by assumption) ?_
      simp only [Act.put, List.setIfInBounds_toArray, List.set_cons_zero, List.set_cons_succ]
      refine wpAnyH_takeD 23 (i := 3) (v := .int .i64 (p.length : Int)) rfl rfl (by kernel_rfl) (by kernel_rfl) (by kernel_rfl) (fun _ _ _ h => h) (Or.inl ⟨by rfl, fun wq hSw => by go_simp⟩) (by assumption) ?_
      simp only [Act.put, List.setIfInBounds_toArray, List.set_cons_zero, List.set_cons_succ]
      refine wpAnyH_takeD 24 (i := 4) (v := .bool true) rfl rfl (by kernel_rfl) (by kernel_rfl) (by kernel_rfl) (fun _ _ _ h => h) (Or.inl ⟨by rfl, fun wq hSw => by go_simp⟩) (by assumption) ?_
      simp only [Act.put, List.setIfInBounds_toArray, List.set_cons_zero, List.set_cons_succ]
      refine wpAnyH_takeD 25 (i := 5) (v := .bool true) rfl rfl (by kernel_rfl) (by kernel_rfl) (by kernel_rfl) (fun _ _ _ h => h) (Or.inl ⟨by rfl, fun wq hSw => by go_simp⟩) (by assumption) ?_
      simp only [Act.put, List.setIfInBounds_toArray, List.set_cons_zero, List.set_cons_succ]
      refine wpAnyH_takeD 26 (i := 6) (v := .bool true) rfl rfl (by kernel_rfl) (by kernel_rfl) (by kernel_rfl) (fun _ _ _ h => h) (Or.inl ⟨by rfl, fun wq hSw => by go_simp⟩) (by assumption) ?_
      simp only [Act.put, List.setIfInBounds_toArray, List.set_cons_zero, List.set_cons_succ]
      refine wpAnyH_takeD 27 (i := 7) (v := .slice pA p.length pc) rfl rfl (by kernel_rfl) (by kernel_rfl) (by kernel_rfl) (fun _ _ _ h => h) (Or.inl ⟨by rfl, fun wq hSw => by go_simp⟩) (by assumption) ?_
      simp only [Act.put, List.setIfInBounds_toArray, List.set_cons_zero, List.set_cons_succ]
      refine wpAnyH_takeD 28 (i := 8) (v := .string (ofL p)) rfl rfl (by kernel_rfl) (by kernel_rfl) (by kernel_rfl) (fun _ _ _ h => h) (Or.inl ⟨by rfl, fun wq hSw => by have k := conv_bys hSw.by_ HNP.out; go_simp⟩) (by assumption) ?_
      simp only [Act.put, List.setIfInBounds_toArray, List.set_cons_zero, List.set_cons_succ]
      refine wpAnyH_takeD 29 (i := 9) (v := .string key) rfl rfl (by kernel_rfl) (by kernel_rfl) (by kernel_rfl) (fun _ _ _ h => h) (Or.inl ⟨by rfl, fun wq hSw => by go_simp⟩) (by assumption) ?_
      simp only [Act.put, List.setIfInBounds_toArray, List.set_cons_zero, List.set_cons_succ]
      refine wpAnyH_takeD 30 (i := 10) (v := .int .u64 (nn : Int)) rfl rfl (by kernel_rfl) (by kernel_rfl) (by kernel_rfl) (fun _ _ _ h => h) (Or.inl ⟨by rfl, fun wq hSw => by go_simp⟩) (by assumption) ?_
      simp only [Act.put, List.setIfInBounds_toArray, List.set_cons_zero, List.set_cons_succ]
      refine wpAnyH_takeD 31 (i := 11) (v := .int .u64 theirs) rfl rfl (by kernel_rfl) (by kernel_rfl) (by kernel_rfl) (fun _ _ _ h => h) (Or.inl ⟨by rfl, fun wq hSw => by go_simp⟩) (by assumption) ?_
      simp only [Act.put, List.setIfInBounds_toArray, List.set_cons_zero, List.set_cons_succ]
      refine wpAnyH_takeD 32 (i := 12) (v := .string user) rfl rfl (by kernel_rfl) (by kernel_rfl) (by kernel_rfl) (fun _ _ _ h => h) (Or.inl ⟨by rfl, fun wq hSw => by go_simp⟩) (by assumption) ?_
      simp only [Act.put, List.setIfInBounds_toArray, List.set_cons_zero, List.set_cons_succ]
      refine wpAnyH_takeD 33 (i := 13) (v := .string tree) rfl rfl (by kernel_rfl) (by kernel_rfl) (by kernel_rfl) (fun _ _ _ h => h) (Or.inl ⟨by rfl, fun wq hSw => by go_simp⟩) (by assumption) ?_
      simp only [Act.put, List.setIfInBounds_toArray, List.set_cons_zero, List.set_cons_succ]
      refine wpAnyH_ready (rs := [14]) (by kernel_rfl) (by simp) ?_
      refine AllReadyH.cons rfl (fun K hK => ?_) AllReadyH.nil
      rw [if_pos (by rfl)]
      go_simp
      (with_reducible refine (shown_calls key user tree 2 (nn : Int) theirs _ hHeld.tz HK.out HU.out HTR.out).mono ?_)
      rw [HSS.out]
      rintro e w4 ⟨rfl, hb⟩
      dsimp only
      have hOld := hHeld.next hb
      clear hHeld hb
      refine hK.out _ _ hOld (fun hHeld => ?_)
      clear hK hOld
      refine wpAnyH_takeD 35 (i := 15) (v := .bool d) rfl rfl (by kernel_rfl) (by kernel_rfl) (by kernel_rfl) (fun _ _ _ h => h) (Or.inl ⟨by rfl, fun wq hSw => by go_simp⟩) (by assumption) ?_
      simp only [Act.put, List.setIfInBounds_toArray, List.set_cons_zero, List.set_cons_succ]
      refine wpAnyH_takeD 36 (i := 16) (v := .bool d) rfl rfl (by kernel_rfl) (by kernel_rfl) (by kernel_rfl) (fun _ _ _ h => h) (Or.inl ⟨by rfl, fun wq hSw => by go_simp⟩) (by assumption) ?_
      simp only [Act.put, List.setIfInBounds_toArray, List.set_cons_zero, List.set_cons_succ]
      refine wpAnyH_takeD 12 (i := 17) (v := .bool d) rfl rfl (by kernel_rfl) (by kernel_rfl) (by kernel_rfl) (fun _ _ _ h => h) (Or.inl ⟨by rfl, fun wq hSw => by go_simp⟩) (by assumption) ?_
      simp only [Act.put, List.setIfInBounds_toArray, List.set_cons_zero, List.set_cons_succ]
      refine wpAnyH_done (by kernel_rfl) ?_ _
      go_wp2_with fail
      go_ret
      exact ⟨by rw [HCS.out]; rfl, hHeld.low⟩
    · rw [decide_eq_false h17] at HCS
      have hq : ((p.length : Int) == 17) = false := by rw [beq_eq_false_iff_ne]; omega
      clear h17
      go_enter Tryz.func23, Tryz.ntmps23
      go_upto_region 2 with (go_at_call 63; refine (heard_calls v b B _ HH.out HBB.out HTZ.out HSV.out).mono ?_; rw [HNS.out]; rintro e w2 ⟨⟨rfl, hlt⟩, hb2⟩; have HA := Lib.hid (show AH w B (.slice pA p.length pc) p w2 from ⟨HPB.out.below (hb2.mono HBB.out), HTZ.out.below hb2 (Nat.le_refl _), hb2, HBB.out⟩); clear hlt hb2)
      refine wp_region_held_drew (S := AH w B (.slice pA p.length pc) p) (by kernel_rfl) (HA.out.next (below_drew _)) (fun hHeld => ?_)
      generalize w2.drew = wd at hHeld ⊢
      refine wpAnyH_takeD 20 (i := 0) (v := .bool true) rfl rfl (by kernel_rfl) (by kernel_rfl) (by kernel_rfl) (fun _ _ _ h => h) (Or.inl ⟨by rfl, fun wq hSw => by go_simp⟩) (by assumption) ?_
      simp only [Act.put, List.setIfInBounds_toArray, List.set_cons_zero, List.set_cons_succ]
      refine wpAnyH_takeD 21 (i := 1) (v := .bool true) rfl rfl (by kernel_rfl) (by kernel_rfl) (by kernel_rfl) (fun _ _ _ h => h) (Or.inl ⟨by rfl, fun wq hSw => by go_simp⟩) (by assumption) ?_
      simp only [Act.put, List.setIfInBounds_toArray, List.set_cons_zero, List.set_cons_succ]
      refine wpAnyH_takeD 22 (i := 2) (v := .slice pA p.length pc) rfl rfl (by kernel_rfl) (by kernel_rfl) (by kernel_rfl) (fun _ _ _ h => h) (Or.inl ⟨by rfl, fun wq hSw => by go_simp⟩) (by assumption) ?_
      simp only [Act.put, List.setIfInBounds_toArray, List.set_cons_zero, List.set_cons_succ]
      refine wpAnyH_takeD 23 (i := 3) (v := .int .i64 (p.length : Int)) rfl rfl (by kernel_rfl) (by kernel_rfl) (by kernel_rfl) (fun _ _ _ h => h) (Or.inl ⟨by rfl, fun wq hSw => by go_simp⟩) (by assumption) ?_
      simp only [Act.put, List.setIfInBounds_toArray, List.set_cons_zero, List.set_cons_succ]
      refine wpAnyH_takeD 24 (i := 4) (v := .bool false) rfl rfl (by kernel_rfl) (by kernel_rfl) (by kernel_rfl) (fun _ _ _ h => h) (Or.inl ⟨by rfl, fun wq hSw => by go_simp⟩) (by assumption) ?_
      simp only [Act.put, List.setIfInBounds_toArray, List.set_cons_zero, List.set_cons_succ]
      refine wpAnyH_takeD 25 (i := 5) (v := .bool false) rfl rfl (by kernel_rfl) (by kernel_rfl) (by kernel_rfl) (fun _ _ _ h => h) (Or.inl ⟨by rfl, fun wq hSw => by go_simp⟩) (by assumption) ?_
      simp only [Act.put, List.setIfInBounds_toArray, List.set_cons_zero, List.set_cons_succ]
      refine wpAnyH_takeD 26 (i := 6) (v := .bool false) rfl rfl (by kernel_rfl) (by kernel_rfl) (by kernel_rfl) (fun _ _ _ h => h) (Or.inl ⟨by rfl, fun wq hSw => by go_simp⟩) (by assumption) ?_
      simp only [Act.put, List.setIfInBounds_toArray, List.set_cons_zero, List.set_cons_succ]
      refine wpAnyH_takeD 27 (i := 7) (v := undef) rfl rfl (by kernel_rfl) (by kernel_rfl) (by kernel_rfl) (fun _ _ _ h => h) (Or.inr ⟨by rfl, rfl⟩) (by assumption) ?_
      simp only [Act.put, List.setIfInBounds_toArray, List.set_cons_zero, List.set_cons_succ]
      refine wpAnyH_takeD 28 (i := 8) (v := undef) rfl rfl (by kernel_rfl) (by kernel_rfl) (by kernel_rfl) (fun _ _ _ h => h) (Or.inr ⟨by rfl, rfl⟩) (by assumption) ?_
      simp only [Act.put, List.setIfInBounds_toArray, List.set_cons_zero, List.set_cons_succ]
      refine wpAnyH_takeD 29 (i := 9) (v := undef) rfl rfl (by kernel_rfl) (by kernel_rfl) (by kernel_rfl) (fun _ _ _ h => h) (Or.inr ⟨by rfl, rfl⟩) (by assumption) ?_
      simp only [Act.put, List.setIfInBounds_toArray, List.set_cons_zero, List.set_cons_succ]
      refine wpAnyH_takeD 30 (i := 10) (v := undef) rfl rfl (by kernel_rfl) (by kernel_rfl) (by kernel_rfl) (fun _ _ _ h => h) (Or.inr ⟨by rfl, rfl⟩) (by assumption) ?_
      simp only [Act.put, List.setIfInBounds_toArray, List.set_cons_zero, List.set_cons_succ]
      refine wpAnyH_takeD 31 (i := 11) (v := undef) rfl rfl (by kernel_rfl) (by kernel_rfl) (by kernel_rfl) (fun _ _ _ h => h) (Or.inr ⟨by rfl, rfl⟩) (by assumption) ?_
      simp only [Act.put, List.setIfInBounds_toArray, List.set_cons_zero, List.set_cons_succ]
      refine wpAnyH_takeD 32 (i := 12) (v := undef) rfl rfl (by kernel_rfl) (by kernel_rfl) (by kernel_rfl) (fun _ _ _ h => h) (Or.inr ⟨by rfl, rfl⟩) (by assumption) ?_
      simp only [Act.put, List.setIfInBounds_toArray, List.set_cons_zero, List.set_cons_succ]
      refine wpAnyH_takeD 33 (i := 13) (v := undef) rfl rfl (by kernel_rfl) (by kernel_rfl) (by kernel_rfl) (fun _ _ _ h => h) (Or.inr ⟨by rfl, rfl⟩) (by assumption) ?_
      simp only [Act.put, List.setIfInBounds_toArray, List.set_cons_zero, List.set_cons_succ]
      refine wpAnyH_takeD 34 (i := 14) (v := undef) rfl rfl (by kernel_rfl) (by kernel_rfl) (by kernel_rfl) (fun _ _ _ h => h) (Or.inr ⟨by rfl, rfl⟩) (by assumption) ?_
      simp only [Act.put, List.setIfInBounds_toArray, List.set_cons_zero, List.set_cons_succ]
      refine wpAnyH_takeD 35 (i := 15) (v := undef) rfl rfl (by kernel_rfl) (by kernel_rfl) (by kernel_rfl) (fun _ _ _ h => h) (Or.inr ⟨by rfl, rfl⟩) (by assumption) ?_
      simp only [Act.put, List.setIfInBounds_toArray, List.set_cons_zero, List.set_cons_succ]
      refine wpAnyH_takeD 36 (i := 16) (v := .bool false) rfl rfl (by kernel_rfl) (by kernel_rfl) (by kernel_rfl) (fun _ _ _ h => h) (Or.inl ⟨by rfl, fun wq hSw => by go_simp⟩) (by assumption) ?_
      simp only [Act.put, List.setIfInBounds_toArray, List.set_cons_zero, List.set_cons_succ]
      refine wpAnyH_takeD 12 (i := 17) (v := .bool false) rfl rfl (by kernel_rfl) (by kernel_rfl) (by kernel_rfl) (fun _ _ _ h => h) (Or.inl ⟨by rfl, fun wq hSw => by go_simp⟩) (by assumption) ?_
      simp only [Act.put, List.setIfInBounds_toArray, List.set_cons_zero, List.set_cons_succ]
      refine wpAnyH_done (by kernel_rfl) ?_ _
      go_wp2_with fail
      go_ret
      exact ⟨by rw [HCS.out]; rfl, hHeld.low⟩
end Go.Proofs.YtlenlldiimohjaaGreatDoor
namespace Go.Proofs.YtlenlldiimohjaaGreatDoor
open Go.RowKit

/-- Where reads stands. -/
def RL (w0 : World) (t : Tk) (hv : Value) (all : List UInt8) (av : Value) (w : World) : Prop := TBlk w w0.heap.size t hv ∧ TBlk w (w0.heap.size + 1) Tk.none (.slice none 0 0) ∧ Bys w w.heap.size hv [] ∧ w.ownsRow w0.heap.size 5 1 av all.length (byteL all) ∧ Below w0.heap.size w0 w
section
variable {w0 w w' : World} {t : Tk} {hv av : Value} {all : List UInt8}
theorem RL.next (h : RL w0 t hv all av w) (hb : Below w.heap.size w w') : RL w0 t hv all av w' := ⟨h.1.below hb, h.2.1.below hb, (h.2.2.1.below hb).more hb.size, own_other_b h.2.2.2.1 hb, h.2.2.2.2.trans (hb.mono h.2.2.2.2.size)⟩
theorem RL.tb (h : RL w0 t hv all av w) : TBlk w w0.heap.size t hv := h.1
theorem RL.zb (h : RL w0 t hv all av w) : TBlk w (w0.heap.size + 1) Tk.none (.slice none 0 0) := h.2.1
theorem RL.hb (h : RL w0 t hv all av w) : Bys w w.heap.size hv [] := h.2.2.1
theorem RL.low (h : RL w0 t hv all av w) : Below w0.heap.size w0 w := h.2.2.2.2
variable {ops : Array Oper} {op : Oper} {a : Act} {K : Act → World → Prop} {Q : Exit → Act → World → Prop} {q : Nat}
theorem setTalk {n0 u : Tk} {h0 hu : Value} (h : TBlk w q n0 h0) : TBlk (w.setCells q 0 (talkL u hu)) q u hu := by
  have h2 := Blk.setCells_ (talkL u hu) 0 h
  rw [over_talk] at h2
  exact h2
/-- A Talk is stored whole, at a step of a region. -/
theorem wp_storeT {n0 : Tk} {h0 : Value} (hk : TBlk w q n0 h0) (u : Tk) (hu : Value) (h1 : hu.oneCell' = true) (y z : Operand) (ho : op.op = .store 54 y z) (hx : a.eval y = .pointer (some ⟨q, 0, none⟩)) (hy : a.eval z = talkV u hu)
    (hd : op.dst = none) (h : K a (w.setCells q 0 (talkL u hu))) : op.wp Tryz.prog a w K Q :=
  wp_store_mid _ y z ho q 0 (talkL u hu).toArray hx hy (fun j hj => by
    have hj' : j < 7 := by simpa using hj
    rw [Nat.zero_add]
    refine ⟨?_, Blk.frozen hk j⟩
    rw [Blk.cell hk j, Array.getElem?_eq_getElem (by simpa using hj')]
    rfl) talk_size (talk_cells u hu h1) (by rw [hd]; exact h)
end
end Go.Proofs.YtlenlldiimohjaaGreatDoor
namespace Go.Proofs.YtlenlldiimohjaaGreatDoor
open Go.RowKit

/-- Where writes stands. -/
def WL7 (w0 : World) (t : Tk) (hv : Value) (l : List UInt8) (w : World) : Prop := TBlk w w0.heap.size t hv ∧ TBlk w (w0.heap.size + 1) Tk.none (.slice none 0 0) ∧ Bys w w.heap.size hv l ∧ Below w0.heap.size w0 w
section
variable {w0 w w' : World} {t : Tk} {hv : Value} {l : List UInt8}
theorem WL7.next (h : WL7 w0 t hv l w) (hb : Below w.heap.size w w') : WL7 w0 t hv l w' := ⟨h.1.below hb, h.2.1.below hb, (h.2.2.1.below hb).more hb.size, h.2.2.2.trans (hb.mono h.2.2.2.size)⟩
theorem WL7.tb (h : WL7 w0 t hv l w) : TBlk w w0.heap.size t hv := h.1
theorem WL7.zb (h : WL7 w0 t hv l w) : TBlk w (w0.heap.size + 1) Tk.none (.slice none 0 0) := h.2.1
theorem WL7.hb (h : WL7 w0 t hv l w) : Bys w w.heap.size hv l := h.2.2.1
theorem WL7.low (h : WL7 w0 t hv l w) : Below w0.heap.size w0 w := h.2.2.2
variable {ops : Array Oper} {op : Oper} {a : Act}
end
theorem Bys.take_ {w : World} {B n cap k : Nat} {A : Option Addr} {l : List UInt8} (h : Bys w B (.slice A n cap) l) (hk : k ≤ l.length) : Bys w B (.slice A k cap) (l.take k) := by
  obtain ⟨A2, c, e, h1, h2, h3⟩ := h
  injection e with e1 e2 e3
  subst e1
  subst e3
  have hl : (l.take k).length = k := by rw [List.length_take]; omega
  refine ⟨A, cap, by rw [hl], by omega, h2, by simp, fun hn => ?_⟩
  rw [hl] at hn
  obtain ⟨ad, hA, hb, hc⟩ := h3.2 (by omega)
  refine ⟨ad, hA, hb, fun j u hu => hc j u ?_⟩
  rw [List.getElem?_map] at hu ⊢
  have hj : j < k := by
    rcases Nat.lt_or_ge j k with h | h
    · exact h
    · rw [List.getElem?_eq_none (by omega)] at hu
      cases hu
  rw [List.getElem?_take_of_lt hj] at hu
  exact hu
theorem Bys.lt_ {w : World} {B : Nat} {hv : Value} {l : List UInt8} (h : Bys w B hv l) (hl : l ≠ []) : ∀ k, hv.ownBlock = some k → k < B := by
  obtain ⟨A, cap, e, _, _, hr⟩ := h
  obtain ⟨ad, rfl, hb, _⟩ := hr.2 (List.length_pos_iff.2 hl)
  intro k hk
  rw [e] at hk
  injection hk with hk
  omega
end Go.Proofs.YtlenlldiimohjaaGreatDoor
namespace Go.Proofs.YtlenlldiimohjaaGreatDoor
open Go.RowKit SumLaw

theorem lineS_list (key user tree : ByteArray) (ours : Int) (theirs : Nat) : (lineS key user tree ours theirs).data.toList = hexN 16 theirs ++ hexN 16 (shN key user tree 1 ours theirs) ++ [10] := by
  unfold lineS
  simp [ofL]
theorem helloS_list (n : Nat) : (helloS n).data.toList = [118, 101, 114, 103, 101, 114, 49, 32] ++ hexN 16 n ++ [10] := by
  unfold helloS
  simp [ofL]
theorem shownS_list (n : Nat) : (shownS n).data.toList = hexN 16 n ++ [10] := by
  unfold shownS
  simp [ofL]
end Go.Proofs.YtlenlldiimohjaaGreatDoor
namespace Go.Proofs.YtlenlldiimohjaaGreatDoor
open Go.RowKit SumLaw

theorem hello25 (n : Nat) : (helloS n).data.toList.length = 25 := by
  rw [helloS_list, List.length_append, List.length_append, hexN_len]
  rfl
theorem shown17 (n : Nat) : (shownS n).data.toList.length = 17 := by
  rw [shownS_list, List.length_append, hexN_len]
  rfl
end Go.Proofs.YtlenlldiimohjaaGreatDoor
namespace Go.Proofs.YtlenlldiimohjaaGreatDoor

def vA : Acct := { name := ⟨#[118]⟩, leader := ⟨#[]⟩, members := [], key := ⟨#[]⟩ }
theorem key_no {k : ByteArray} (h : isKey k = true) : k.size ≤ 32 ∧ (∀ x ∈ k.data.toList, x ≠ 10) ∧ (∀ x ∈ k.data.toList, x ≠ 58) := by
  unfold isKey at h
  rw [Bool.and_eq_true, decide_eq_true_iff, List.all_eq_true] at h
  refine ⟨h.1, fun x hx hc => ?_, fun x hx hc => ?_⟩
  · have := h.2 x hx
    rw [hc] at this
    exact absurd this (by decide)
  · have := h.2 x hx
    rw [hc] at this
    exact absurd this (by decide)
theorem account_key {x : ByteArray} {a : Acct} (h : account x = some a) : isKey a.key = true := by
  unfold account at h
  split at h
  · rename_i x1 x2 x3 x4 hcut
    by_cases hf : formed { name := x1, leader := x2, members := if x3.size = 0 then [] else cut 44 x3, key := x4 } = true
    · rw [if_pos hf] at h
      injection h with h
      subst h
      unfold formed at hf
      rw [Bool.and_eq_true] at hf
      exact hf.2
    · rw [if_neg hf] at h
      cases h
  · cases h
/-- All accounts that are read are formed. -/
theorem readLines_formed : ∀ (l : List ByteArray) (i : Nat) (L : List Acct) (P : List Nat) {L2 : List Acct} {P2 : List Nat}, readLines l i L P = .ok (L2, P2) → (∀ a ∈ L, isKey a.key = true) → ∀ a ∈ L2, isKey a.key = true
  | [], i, L, P, L2, P2, h, ha => by
    rw [readLines] at h
    injection h with h
    injection h with h1 h2
    subst h1
    exact ha
  | x :: l, i, L, P, L2, P2, h, ha => by
    rw [readLines] at h
    split at h
    · exact readLines_formed l _ _ _ h ha
    · split at h
      · cases h
      · rename_i a hacc
        split at h
        · cases h
        · refine readLines_formed l _ _ _ h (fun b hb => ?_)
          rcases List.mem_append.1 hb with hb | hb
          · exact ha b hb
          · rw [List.mem_singleton] at hb
            subst hb
            exact account_key hacc
theorem parse_keys {s : ByteArray} {L : List Acct} (h : parse s = .ok L) (u : ByteArray) : (keyOfUser L u).size = 0 ∨ isKey (keyOfUser L u) = true := by
  unfold parse at h
  split at h
  · cases h
  · split at h
    · cases h
    · rename_i L2 P2 hr
      split at h
      · cases h
      · split at h
        · cases h
        · injection h with h
          subst h
          have hf := readLines_formed _ _ _ _ hr (by intro a ha; cases ha)
          unfold keyOfUser
          cases hfd : List.find? (fun a => decide (a.name = u)) L2 with
          | none => exact .inl rfl
          | some a => exact .inr (hf a (List.mem_of_find?_eq_some hfd))
end Go.Proofs.YtlenlldiimohjaaGreatDoor
namespace Go.Proofs.YtlenlldiimohjaaGreatDoor
open Go.ChangeShapes Go.WideShapes Go.ChangeAt Go.RowKit

end Go.Proofs.YtlenlldiimohjaaGreatDoor
namespace Go.Proofs.YtlenlldiimohjaaGreatDoor
open Go.RowKit SumLaw

/-- Bytes that came out behind block q. -/
def BL (w : World) (q : Nat) (ls : List (Value × List UInt8)) : Prop := ∀ p ∈ ls, Bys w w.heap.size p.1 p.2 ∧ ∀ k, p.1.ownBlock = some k → q < k
theorem BL.nil_ (w : World) (q : Nat) : BL w q [] := fun _ h => by cases h
/-- Two Talks, at q and r; w1 is the world behind the table. -/
def FS (w1 : World) (q r : Nat) (t : Tk) (ht : Value) (v : Tk) (hv : Value) (ls : List (Value × List UInt8)) (w : World) : Prop :=
  Below w1.heap.size w1 w ∧ (w1.heap.size ≤ q ∧ q < r) ∧ TBlk w q t ht ∧ TBlk w r v hv ∧ BL w r ls
section
variable {w1 w w' : World} {q r g : Nat} {t u v : Tk} {ht hu hv : Value} {ls : List (Value × List UInt8)} {L : List Acct}
theorem FS.low (h : FS w1 q r t ht v hv ls w) : Below w1.heap.size w1 w := h.1
theorem FS.tab (h : FS w1 q r t ht v hv ls w) (hp : PTab w1 g L) : PTab w g L := hp.below h.1
theorem FS.tz (h : FS w1 q r t ht v hv ls w) (hp : TZ w1) : TZ w := hp.below h.1 (Nat.le_refl _)
theorem FS.sv (h : FS w1 q r t ht v hv ls w) (hp : SV w1) : SV w := hp.below h.1 (Nat.le_refl _)
theorem FS.tb (h : FS w1 q r t ht v hv ls w) : TBlk w q t ht := h.2.2.1
theorem FS.vb (h : FS w1 q r t ht v hv ls w) : TBlk w r v hv := h.2.2.2.1
theorem FS.bys (h : FS w1 q r t ht v hv ls w) {p : Value × List UInt8} (hp : p ∈ ls) : Bys w w.heap.size p.1 p.2 := (h.2.2.2.2 p hp).1
theorem FS.call (h : FS w1 q r t ht v hv ls w) (hb : Below w.heap.size w w') : FS w1 q r t ht v hv ls w' :=
  ⟨h.1.trans (hb.mono h.1.size), h.2.1, h.2.2.1.below hb, h.2.2.2.1.below hb, fun p hp => ⟨((h.2.2.2.2 p hp).1.below hb).more hb.size, (h.2.2.2.2 p hp).2⟩⟩
theorem FS.add (h : FS w1 q r t ht v hv ls w) {b : Value} {l : List UInt8} (hb : Bys w w.heap.size b l) (hn : ∀ k, b.ownBlock = some k → r < k) : FS w1 q r t ht v hv ((b, l) :: ls) w :=
  ⟨h.1, h.2.1, h.2.2.1, h.2.2.2.1, fun p hp => by
    rcases List.mem_cons.1 hp with rfl | hp
    · exact ⟨hb, hn⟩
    · exact h.2.2.2.2 p hp⟩
end
theorem line33 (k u t : ByteArray) (a : Int) (n : Nat) : (lineS k u t a n).data.toList.length = 33 := by
  rw [lineS_list, List.length_append, List.length_append, hexN_len, hexN_len]
  rfl
/-- The world behind two Begins. -/
theorem FS.start {w1 w2 w3 w4 w5 : World} {t v : Tk} {ht hv : Value} {O O' : Obj} (hb2 : Below w1.heap.size w1 w2) (hs : TBlk w3 w2.heap.size t ht) (hbl : ∀ B (x : World), Below B x (w2.alloc O) → B ≤ w2.heap.size → Below B x w3) (hb4 : Below w3.heap.size w3 w4)
    (hs5 : TBlk w5 w4.heap.size v hv) (ho5 : ∀ i, i ≠ w4.heap.size → w5.heap[i]? = (w4.alloc O').heap[i]?) (hbl5 : ∀ B (x : World), Below B x (w4.alloc O') → B ≤ w4.heap.size → Below B x w5) : FS w1 w2.heap.size w4.heap.size t ht v hv [] w5 := by
  have h3 : Below w1.heap.size w1 w3 := hbl _ _ (hb2.alloc hb2.size _) hb2.size
  have h4 : Below w1.heap.size w1 w4 := h3.trans (hb4.mono h3.size)
  have hlt : w2.heap.size < w4.heap.size := Nat.lt_of_lt_of_le (Blk.lt hs) hb4.size
  exact ⟨hbl5 _ _ (h4.alloc h4.size _) h4.size, ⟨hb2.size, hlt⟩, (ho5 _ (by omega)).trans (Blk.alloc (hs.below hb4) _), hs5, BL.nil_ _ _⟩
theorem FS.hd {w1 w : World} {q r : Nat} {t v : Tk} {ht hv : Value} {b : Value} {l : List UInt8} {ls : List (Value × List UInt8)} (h : FS w1 q r t ht v hv ((b, l) :: ls) w) : Bys w w.heap.size b l := h.bys (.head _)
section
variable {k : ByteArray} {g : Nat} {w : World}
end
theorem Cuts.more {w : World} {B B' : Nat} {v : Value} {l : List Int} (h : Cuts w B v l) (hB : B ≤ B') : Cuts w B' v l := by
  obtain ⟨⟨A, cap, e, h1, h2⟩, h3⟩ := h
  exact ⟨⟨A, cap, e, h1, h2.more hB⟩, h3⟩
/-- One Talk, at q. -/
def FT (w1 : World) (q : Nat) (t : Tk) (ht : Value) (ls : List (Value × List UInt8)) (w : World) : Prop := Below w1.heap.size w1 w ∧ w1.heap.size ≤ q ∧ TBlk w q t ht ∧ BL w q ls
section
variable {w1 w w' : World} {q g : Nat} {t u : Tk} {ht hu : Value} {ls : List (Value × List UInt8)} {L : List Acct}
theorem FT.low (h : FT w1 q t ht ls w) : Below w1.heap.size w1 w := h.1
theorem FT.tab (h : FT w1 q t ht ls w) (hp : PTab w1 g L) : PTab w g L := hp.below h.1
theorem FT.tz (h : FT w1 q t ht ls w) (hp : TZ w1) : TZ w := hp.below h.1 (Nat.le_refl _)
theorem FT.sv (h : FT w1 q t ht ls w) (hp : SV w1) : SV w := hp.below h.1 (Nat.le_refl _)
theorem FT.cuts (h : FT w1 q t ht ls w) {v : Value} {l : List Int} (hp : Cuts w1 w1.heap.size v l) : Cuts w w.heap.size v l := (hp.below h.1).more h.1.size
theorem FT.tb (h : FT w1 q t ht ls w) : TBlk w q t ht := h.2.2.1
theorem FT.bys (h : FT w1 q t ht ls w) {p : Value × List UInt8} (hp : p ∈ ls) : Bys w w.heap.size p.1 p.2 := (h.2.2.2 p hp).1
theorem FT.call (h : FT w1 q t ht ls w) (hb : Below w.heap.size w w') : FT w1 q t ht ls w' :=
  ⟨h.1.trans (hb.mono h.1.size), h.2.1, h.2.2.1.below hb, fun p hp => ⟨((h.2.2.2 p hp).1.below hb).more hb.size, (h.2.2.2 p hp).2⟩⟩
theorem FT.add (h : FT w1 q t ht ls w) {b : Value} {l : List UInt8} (hb : Bys w w.heap.size b l) (hn : ∀ k, b.ownBlock = some k → q < k) : FT w1 q t ht ((b, l) :: ls) w :=
  ⟨h.1, h.2.1, h.2.2.1, fun p hp => by
    rcases List.mem_cons.1 hp with rfl | hp
    · exact ⟨hb, hn⟩
    · exact h.2.2.2 p hp⟩
theorem FT.start {w1 w2 w3 : World} {t : Tk} {ht : Value} {O : Obj} (hb2 : Below w1.heap.size w1 w2) (hs : TBlk w3 w2.heap.size t ht) (hbl : ∀ B (x : World), Below B x (w2.alloc O) → B ≤ w2.heap.size → Below B x w3) : FT w1 w2.heap.size t ht [] w3 :=
  ⟨hbl _ _ (hb2.alloc hb2.size _) hb2.size, hb2.size, hs, BL.nil_ _ _⟩
theorem FT.hd {b : Value} {l : List UInt8} (h : FT w1 q t ht ((b, l) :: ls) w) : Bys w w.heap.size b l := h.bys (.head _)
end
end Go.Proofs.YtlenlldiimohjaaGreatDoor
namespace Go.Proofs.YtlenlldiimohjaaGreatDoor
open Go.RowKit

/-- The value v owns the bytes l, at a block from base on. -/
def OwnB (w : World) (base : Nat) (v : Value) (l : List UInt8) : Prop :=
  (v = .slice none 0 0 ∧ l = []) ∨ ∃ g cap cur fz, v = .slice (some ⟨g, 0, none⟩) l.length cap ∧ base ≤ g ∧ w.heap[g]? = some (.cells cur 5 fz) ∧ (fz.2 ≤ fz.1 ∨ cap ≤ fz.1) ∧ l.length ≤ cap ∧ cap ≤ maxLen ∧ cur.size = cap ∧ cur.toList.take l.length = byteL l
theorem byteL_len (l : List UInt8) : (byteL l).length = l.length := List.length_map ..
section
variable {w w' : World} {base : Nat} {v : Value} {l : List UInt8}
theorem OwnB.nil_ (w : World) (base : Nat) : OwnB w base (.slice none 0 0) [] := .inl ⟨rfl, rfl⟩
theorem OwnB.of_row (h : w.ownsRow base 5 1 v l.length (byteL l)) : OwnB w base v l := by
  rcases h.2 with ⟨rfl, h0⟩ | ⟨g, cap, cur, rfl, hb, hg, hc, hm, hs, ht⟩
  · exact .inl ⟨rfl, List.eq_nil_of_length_eq_zero h0⟩
  · exact .inr ⟨g, cap, cur, (0, 0), rfl, hb, hg, .inl (Nat.le_refl _), hc, hm, by omega, by rw [Nat.mul_one] at ht; exact ht⟩
theorem OwnB.of_own {n : Nat} (h : w.ownsRow base 5 1 v n (byteL l)) : OwnB w base v l := by
  have hn : l.length = n := by
    have := h.1
    rw [byteL_len, Nat.mul_one] at this
    exact this
  subst hn
  exact OwnB.of_row h
theorem OwnB.far {q : Nat} (h : OwnB w base v l) (hne : v.ownBlock ≠ some q) (ho : ∀ i, i ≠ q → w'.heap[i]? = w.heap[i]?) : OwnB w' base v l := by
  rcases h with h | ⟨g, cap, cur, fz, rfl, hb, hg, rest⟩
  · exact .inl h
  · exact .inr ⟨g, cap, cur, fz, rfl, hb, (ho g (fun he => hne (by rw [he]; rfl))).trans hg, rest⟩
theorem OwnB.lt (h : OwnB w base v l) : ∀ k, v.ownBlock = some k → base ≤ k ∧ k < w.heap.size := by
  intro k hk
  rcases h with ⟨rfl, _⟩ | ⟨g, cap, cur, fz, rfl, hb, hg, _⟩
  · cases hk
  · injection hk with hk
    subst hk
    exact ⟨hb, (Array.getElem?_eq_some_iff.1 hg).1⟩
theorem OwnB.kept (h : OwnB w base v l) (hk : ∀ k, v.ownBlock = some k → w'.heap[k]? = w.heap[k]?) : OwnB w' base v l := by
  rcases h with h | ⟨g, cap, cur, fz, rfl, hb, hg, rest⟩
  · exact .inl h
  · exact .inr ⟨g, cap, cur, fz, rfl, hb, (hk g rfl).trans hg, rest⟩
theorem OwnB.below (h : OwnB w base v l) (hb : Below w.heap.size w w') : OwnB w' base v l := h.kept fun k hk => hb.block k (h.lt k hk).2
theorem OwnB.more {base' : Nat} (h : OwnB w base v l) (hb : base' ≤ base) : OwnB w base' v l := by
  rcases h with h | ⟨g, cap, cur, fz, e, hbg, rest⟩
  · exact .inl h
  · exact .inr ⟨g, cap, cur, fz, e, Nat.le_trans hb hbg, rest⟩
theorem OwnB.cells (h : OwnB w base v l) {g : Nat} (hg : v.ownBlock = some g) : ∀ j u, (byteL l)[j]? = some u → w.cell? ⟨g, j, none⟩ = some u := by
  intro j u hu
  rcases h with ⟨rfl, _⟩ | ⟨g', cap, cur, fz, rfl, _, hgg, _, _, _, _, htake⟩
  · cases hg
  · injection hg with hg
    subst hg
    show w.cell? ⟨g', j, none⟩ = some u
    rw [cell_of_row w g' j cur _ fz hgg]
    rw [← htake, List.getElem?_take] at hu
    split at hu
    · simpa using hu
    · cases hu
theorem OwnB.bys (h : OwnB w base v l) : Bys w w.heap.size v l := by
  rcases id h with ⟨rfl, rfl⟩ | ⟨g, cap, cur, fz, rfl, hb, hg, -, hc, hm, -⟩
  · exact Bys.nil_ _ _
  · refine ⟨_, cap, rfl, hc, hm, by rw [byteL_len, Nat.mul_one], fun _ => ⟨_, rfl, (Array.getElem?_eq_some_iff.1 hg).1, fun j u hu => ?_⟩⟩
    rw [Addr.add_lit, Nat.zero_add]
    exact h.cells rfl j u hu
theorem OwnB.blk_ne {q : Nat} {t : TypeId} {cs : Array Value} (h : OwnB w base v l) (hq : Blk w q t cs) (hne : 5 ≠ t) : v.ownBlock ≠ some q := by
  intro hk
  rcases h with ⟨rfl, _⟩ | ⟨g, cap, cur, fz, rfl, _, hg, _⟩
  · cases hk
  · injection hk with hk
    subst hk
    have h2 : w.heap[g]? = some (.cells cs t (0, 0)) := hq
    rw [hg] at h2
    injection h2 with h2
    injection h2 with _ h2 _
    exact hne h2
theorem OwnB.row_ne {b2 size n : Nat} {t : TypeId} {v2 : Value} {xs : List Value} (h : OwnB w base v l) (hq : w.ownsRow b2 t size v2 n xs) (hne : 5 ≠ t) : ∀ k, v.ownBlock = some k → v2.ownBlock ≠ some k := by
  intro k hk hk2
  rcases hq.2 with ⟨rfl, _⟩ | ⟨g, cap, cur, rfl, _, hg, _⟩
  · cases hk2
  · injection hk2 with hk2
    subst hk2
    exact h.blk_ne (cs := cur) hg hne hk
end
/-- '[]byte(s)': a row of one's own. -/
theorem bytes_own (s : ByteArray) (w : World) (hs : s.size ≤ maxLen) : ∃ (cap : Nat) (w1 : World), (convert 9 47 (.string s)).run Tryz.prog w = .ok (.slice (some ⟨w.heap.size, 0, none⟩) s.size cap) w1 ∧ OwnB w1 w.heap.size (.slice (some ⟨w.heap.size, 0, none⟩) s.size cap) s.data.toList ∧ Below w.heap.size w w1 ∧ w.heap.size < w1.heap.size := by
  have h := run_bytes_of_string (P := Tryz.prog) w 9 47 5 s Tryz.underlying9 Tryz.underlying47 Tryz.underlying5
  have hge := grownCap_ge w s.size 0 5
  have hsl : s.data.toList.length = s.size := Array.length_toList
  have hbs : (bytesRow s (grownCap w s.size 0 5)).size = grownCap w s.size 0 5 := by
    have : s.data.size = s.size := rfl
    simp [bytesRow]
    omega
  refine ⟨_, _, h, .inr ⟨w.heap.size, _, _, _, by rw [hsl], Nat.le_refl _, heap_alloc_new w.drew _, .inr (by rw [hbs]; exact Nat.le_refl _), by rw [hsl]; exact hge, grownCap_le_maxLen _ _ _ _ hs, hbs, ?_⟩, (Below.refl w.heap.size w).drew.alloc (Nat.le_refl _) _, by rw [World.size_alloc]; exact Nat.lt_succ_self _⟩
  rw [hsl]
  simp only [bytesRow, Array.toList_append, Array.toList_map]
  rw [List.take_append_of_le_length (by rw [List.length_map, hsl]; exact Nat.le_refl _), List.take_of_length_le (by rw [List.length_map, hsl]; exact Nat.le_refl _)]
section
variable {w w' : World} {base : Nat} {v : Value} {l : List UInt8}
theorem OwnB.frozen (h : OwnB w base v l) {g : Nat} (hg : v.ownBlock = some g) {j : Nat} (hj : j < l.length) : w.frozen? ⟨g, j, none⟩ = false := by
  rcases h with ⟨rfl, _⟩ | ⟨g', cap, cur, fz, rfl, _, hgg, hfz, hlc, _, _, _⟩
  · cases hg
  · injection hg with hg
    subst hg
    obtain ⟨lo, hi⟩ := fz
    show w.frozen? ⟨g', j, none⟩ = false
    simp only [World.frozen?, hgg, Bool.and_eq_false_iff, decide_eq_false_iff_not]
    simp only at hfz
    omega
theorem OwnB.set_ (h : OwnB w base v l) {g : Nat} (hg : v.ownBlock = some g) (j : Nat) (c : UInt8) : OwnB (w.setCell ⟨g, j, none⟩ (.int .u8 (c.toNat : Int))) base v (l.set j c) := by
  rcases h with ⟨rfl, _⟩ | ⟨g', cap, cur, fz, rfl, hb, hgg, hfz, hlc, hm, hs, ht⟩
  · cases hg
  · injection hg with hg
    subst hg
    show OwnB (w.setCell ⟨g', j, none⟩ _) base _ _
    rw [setCell_eq_setRow w g' j cur _ fz _ hgg]
    refine .inr ⟨g', cap, _, fz, by rw [List.length_set], hb, setRow_heap w g' cur _ _ fz hgg, hfz, by rw [List.length_set]; exact hlc, hm, by simp [hs], ?_⟩
    rw [List.length_set, Array.toList_setIfInBounds, List.take_set, ht]
    simp [byteL, List.map_set]
end
section
variable {w : World}
theorem run_storeCells_atM (P : Program) (g o : Nat) (t : TypeId) (fz : Nat × Nat) (n : Nat) (hfz : fz.2 ≤ fz.1 ∨ n ≤ fz.1) : ∀ (vs : List Value) (i : Nat) (cur : Array Value) (w : World), w.heap[g]? = some (.cells cur t fz) → cur.size = n → o + i + vs.length ≤ n → (∀ v ∈ vs, v.oneCell' = true) →
    (storeCells ⟨g, o, none⟩ vs i).run P w = .ok () (w.setRow g (cur.toList.take (o + i) ++ vs ++ cur.toList.drop (o + i + vs.length)).toArray)
  | [], i, cur, w, hg, _, _, _ => by
    simp only [storeCells, List.append_nil, List.length_nil, Nat.add_zero, List.take_append_drop, Array.toArray_toList]
    rw [setRow_self w g cur t fz hg]
    rfl
  | v :: rest, i, cur, w, hg, hn, hl, h1 => by
    have hi : o + i < cur.size := by simp at hl; omega
    have hadd : (⟨g, o, none⟩ : Addr).add i = ⟨g, o + i, none⟩ := by unfold Addr.add; split <;> simp_all
    have hcell : w.cell? ⟨g, o + i, none⟩ = some cur[o + i] := by simp [World.cell?, hg, hi]
    have hfro : w.frozen? ⟨g, o + i, none⟩ = false := by
      obtain ⟨lo, hi'⟩ := fz
      simp only [World.frozen?, hg, Bool.and_eq_false_iff, decide_eq_false_iff_not]
      simp only at hfz
      omega
    have hst : (store ((⟨g, o, none⟩ : Addr).add i) v).run P w = .ok () (w.setRow g (cur.setIfInBounds (o + i) v)) := by
      rw [hadd, run_store P w _ v _ (h1 v (by simp)), hcell]
      simp [hfro, setCell_eq_setRow w g (o + i) cur t fz v hg]
    have ih := run_storeCells_atM P g o t fz n hfz rest (i + 1) (cur.setIfInBounds (o + i) v) (w.setRow g (cur.setIfInBounds (o + i) v)) (setRow_heap w g cur _ t _ hg) (by simp [hn]) (by simp at hl ⊢; omega) (fun x hx => h1 x (by simp [hx]))
    simp only [storeCells, Sem.run_bind, hst, Result.andThen_ok, ih, setRow_setRow]
    congr 3
    have e := list_seg_step cur.toList (o + i) v rest (by simp at hl ⊢; omega)
    simpa [Array.toList_setIfInBounds, Nat.add_assoc] using e
/-- Bytes are laid behind a row of one's own. -/
theorem run_append_B (w : World) (ty : TypeId) (base : Nat) (v : Value) (l b : List UInt8) (hown : OwnB w base v l) (ad : Addr) (c : Nat) (hnews : ∀ j u, (byteL b)[j]? = some u → w.cell? (ad.add j) = some u)
    (h63 : l.length + b.length ≤ maxLen) (hbytes : l.length + b.length ≤ 140737488355328) (hbase : base ≤ w.heap.size) :
    ∃ v' w', (Builtin.append_ #[47, 47] ty #[v, .slice (some ad) b.length c]).run Tryz.prog w = .ok v' w' ∧ OwnB w' base v' (l ++ b) ∧ w.grownBy w' v.ownBlock ∧ (v'.ownBlock = v.ownBlock ∨ v'.ownBlock = some w.heap.size) := by
  obtain ⟨i, hi, hz, hsize, hby⟩ := info_parts u8_info
  rcases id hown with ⟨rfl, rfl⟩ | ⟨g, cap, cur, fz, rfl, hbg, hg, hfz, hnc, hcm, hcs, htake⟩
  · obtain ⟨v', w', h1, h2, h3, _, h5⟩ := run_append_own_at (P := Tryz.prog) w base 47 ty 5 i _ 1 1 Tryz.underlying47 hi hz hsize hby rfl (by decide) (.slice none 0 0) 0 [] ⟨rfl, .inl ⟨rfl, rfl⟩⟩ ad b.length c (byteL b) (by rw [byteL_len, Nat.mul_one]) hnews (byteL_one _) (by simpa using h63) (by simpa using hbytes) hbase
    refine ⟨v', w', h1, OwnB.of_row ?_, h3, h5⟩
    rw [Nat.zero_add] at h2
    exact h2
  · by_cases hroom : l.length + b.length ≤ cap
    · have hf := run_firstCells_some (P := Tryz.prog) w i.size b.length ad b.length c (byteL b) (by rw [byteL_len, hsize, Nat.mul_one]) hnews
      rw [hsize] at hf
      have hst := run_storeCells_atM Tryz.prog g l.length 5 fz cap hfz (byteL b) 0 cur w hg hcs (by rw [byteL_len]; omega) (byteL_one _)
      simp only [Nat.add_zero, byteL_len] at hst
      refine ⟨.slice (some ⟨g, 0, none⟩) (l.length + b.length) cap, w.setRow g (cur.toList.take l.length ++ byteL b ++ cur.toList.drop (l.length + b.length)).toArray, ?_, .inr ⟨g, cap, _, fz, by rw [List.length_append], hbg, setRow_heap w g cur _ _ fz hg, hfz, by rw [List.length_append]; exact hroom, hcm, ?_, ?_⟩, ⟨rfl, rfl, rfl, by simp, fun k _ hk => setRow_other w g k _ (fun e => hk (by simp [Value.ownBlock, e]))⟩, .inl rfl⟩
      · simp [Builtin.append_, run_underlying Tryz.underlying47, sizeOf, typeInfo, hi, hsize, Builtin.lenOf, hroom, hf, Addr.add_lit, hst]
      · simp only [List.size_toArray, List.length_append, List.length_take, List.length_drop, Array.length_toList, byteL_len]
        omega
      · rw [htake, List.length_append, show byteL (l ++ b) = byteL l ++ byteL b from List.map_append]
        exact List.take_left' (by rw [List.length_append, byteL_len, byteL_len])
    · have holds : ∀ j u, (byteL l)[j]? = some u → w.cell? ((⟨g, 0, none⟩ : Addr).add j) = some u := fun j u hu => by
        rw [Addr.add_lit, Nat.zero_add]
        exact hown.cells rfl j u hu
      have hr := run_append_grow (P := Tryz.prog) w 47 ty 5 i (.int .u8 0) Tryz.underlying47 hi hz ⟨g, 0, none⟩ l.length cap (byteL l) (by rw [byteL_len, hsize, Nat.mul_one]) holds ad b.length c (byteL b) (by rw [byteL_len, hsize, Nat.mul_one]) hnews (by omega) (by unfold maxLen at h63; omega) (growslice_fits (by omega) (by rw [hby]; omega))
      have hge := grownCap_ge w (l.length + b.length) cap 5
      have hcm2 : grownCap w (l.length + b.length) cap 5 ≤ maxLen := grownCap_le_maxLen w _ cap _ h63
      refine ⟨_, _, hr, .inr ⟨w.heap.size, _, _, (0, 0), by rw [List.length_append], hbase, heap_alloc_new w.drew _, .inl (Nat.le_refl _), by rw [List.length_append]; exact hge, hcm2, ?_, ?_⟩, ⟨rfl, rfl, rfl, by simp, fun k hk _ => heap_alloc_old w.drew _ hk⟩, .inr rfl⟩
      · have hz1 : (Value.int IntKind.u8 0).cells.size = 1 := rfl
        simp only [Array.size_append, List.size_toArray, size_zeroCells, hz1, byteL_len]
        omega
      · simp only [Array.toList_append, List.append_assoc]
        rw [← List.append_assoc, List.length_append, show byteL (l ++ b) = byteL l ++ byteL b from List.map_append]
        exact List.take_left' (by rw [List.length_append, byteL_len, byteL_len])
theorem wp_append_B {w : World} {o : Oper} {a : Act} {K : Act → World → Prop} {Q : Exit → Act → World → Prop} (s x : Operand) (ho : o.op = .call { callee := .builtin .append, args := #[s, x], argTypes := #[47, 47] })
    (base : Nat) (v : Value) (l b : List UInt8) (hs : a.eval s = v) (hown : OwnB w base v l) (ad : Addr) (c : Nat) (hx : a.eval x = .slice (some ad) b.length c) (hnews : ∀ j u, (byteL b)[j]? = some u → w.cell? (ad.add j) = some u)
    (h63 : l.length + b.length ≤ maxLen) (hbytes : l.length + b.length ≤ 140737488355328) (hbase : base ≤ w.heap.size)
    (h : ∀ v' w', OwnB w' base v' (l ++ b) → w.grownBy w' v.ownBlock → (v'.ownBlock = v.ownBlock ∨ v'.ownBlock = some w.heap.size) → K (a.put o.dst v') w') : o.wp Tryz.prog a w K Q := by
  obtain ⟨v', w', hr, h2, h3, h4⟩ := run_append_B w o.type base v l b hown ad c hnews h63 hbytes hbase
  unfold Oper.wp execOp
  simp only [ho, resolve, invoke, builtin, Sem.run_bind, Sem.run_pure, Result.andThen_ok, List.map_toArray, List.map_cons, List.map_nil, hs, hx, hr]
  exact h v' w' h2 h3 h4
end
end Go.Proofs.YtlenlldiimohjaaGreatDoor
