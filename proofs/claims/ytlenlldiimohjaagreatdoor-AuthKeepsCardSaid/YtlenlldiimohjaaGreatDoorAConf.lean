
/-
  The program's Answer, Confirms. Conditions: TZ, SV.
-/
import Derived.Test.YtlenlldiimohjaaGreatDoorAHeard
namespace Go.Proofs.YtlenlldiimohjaaGreatDoor
open Go.RowKit

/-- The bytes of a string, anew. -/
theorem bys_new {X : ByteArray} {w w1 : World} {cap : Nat} (hX : X.size ≤ maxLen) (hcb : ∀ j (hj : j < X.size), w1.cell? ⟨w.heap.size, j, none⟩ = some (.int .u8 (X[j].toNat : Int))) (hgt : w.heap.size < w1.heap.size) (hbc : X.size ≤ cap) (hbm : X.size ≤ maxLen → cap ≤ maxLen) : Bys w1 w1.heap.size (.slice (some ⟨w.heap.size, 0, none⟩) X.size cap) X.data.toList := by
  have hxl : X.data.toList.length = X.size := Array.length_toList
  refine ⟨some ⟨w.heap.size, 0, none⟩, cap, by rw [hxl], by rw [hxl]; exact hbc, hbm hX, by simp, fun _ => ⟨_, rfl, hgt, fun j u hu => ?_⟩⟩
  rw [List.getElem?_map, Option.map_eq_some_iff] at hu
  obtain ⟨c, hc1, rfl⟩ := hu
  obtain ⟨hj, rfl⟩ := List.getElem?_eq_some_iff.1 hc1
  rw [Addr.add_lit, Nat.zero_add]
  have hjx : j < X.size := by rw [Array.length_toList] at hj; exact hj
  exact hcb j hjx
theorem lineS_size (key user tree : ByteArray) (ours : Int) (theirs : Nat) : (lineS key user tree ours theirs).size = 33 := by
  unfold lineS
  generalize shN key user tree 1 ours theirs = n
  show (hexN 16 theirs ++ hexN 16 n ++ [10]).toArray.size = 33
  rw [List.size_toArray, List.length_append, List.length_append, hexN_len, hexN_len]
  rfl
set_option maxRecDepth 100000 in
set_option maxHeartbeats 3200000 in
theorem authAnswer_calls (key user tree : ByteArray) (v : Value) (b : List UInt8) (theirs B : Nat) (w : World) (h : Bys w B v b) (hB : B ≤ w.heap.size) (htz : TZ w) (hsv : SV w) (h64 : theirs < 18446744073709551616)
    (hk : key.size ≤ maxLen) (hu : user.size ≤ maxLen) (ht : tree.size ≤ maxLen) :
    Calls Tryz.prog 21 #[.string key, .string user, .string tree, v, .int .u64 (theirs : Int)] w fun e w' =>
      (if (heard25 b).2 = true then ∃ r, e = .returned (.tuple #[r, .int .i64 0]) ∧ Bys w' w'.heap.size r (lineS key user tree ((heard25 b).1 : Int) theirs).data.toList ∧ ∀ k, r.ownBlock = some k → w.heap.size ≤ k else e = .returned (.tuple #[.slice none 0 0, .int .i64 70])) ∧ Below w.heap.size w w' := by
  have HH := Lib.hid h
  have HTZ := Lib.hid htz
  have HSV := Lib.hid hsv
  have HK := Lib.hid hk
  have HU := Lib.hid hu
  have HTR := Lib.hid ht
  obtain ⟨nn, ok, hn⟩ : ∃ a c, heard25 b = (a, c) := ⟨_, _, rfl⟩
  have HNS := Lib.hid hn
  have HBB := Lib.hid hB
  rw [hn]
  clear h htz hsv hk hu ht hn hB
  cases ok with
  | false =>
    refine Calls.mono ?_ (R := fun e w' => e = .returned (.tuple #[.slice none 0 0, .int .i64 70]) ∧ Below w.heap.size w w') (hr := fun e w' hq => ⟨by rw [if_neg (fun hh => Bool.noConfusion hh)]; exact hq.1, hq.2⟩)
    go_enter Tryz.func21, Tryz.ntmps21
    go_wp2_with (go_at_call 63; refine (heard_calls v b B _ HH.out HBB.out HTZ.out HSV.out).mono ?_; rw [HNS.out]; rintro e w2 ⟨⟨rfl, hlt⟩, hb2⟩; have HB2 := Lib.hid hb2; clear hlt hb2)
    go_ret2
    exact ⟨rfl, HB2.out⟩
  | true =>
    obtain ⟨X, hX⟩ : ∃ z, lineS key user tree (nn : Int) theirs = z := ⟨_, rfl⟩
    rw [hX]
    have hxs : X.size = 33 := by rw [← hX]; exact lineS_size _ _ _ _ _
    have HXX := Lib.hid hX
    clear hX
    refine Calls.mono ?_ (R := fun e w' => (∃ r, e = .returned (.tuple #[r, .int .i64 0]) ∧ Bys w' w'.heap.size r X.data.toList ∧ ∀ k, r.ownBlock = some k → w.heap.size ≤ k) ∧ Below w.heap.size w w') (hr := fun e w' hq => ⟨by rw [if_pos rfl]; exact hq.1, hq.2⟩)
    go_enter Tryz.func21, Tryz.ntmps21
    go_wp2_with (first
      | (go_at_call 63; refine (heard_calls v b B _ HH.out HBB.out HTZ.out HSV.out).mono ?_; rw [HNS.out]; rintro e w2 ⟨⟨rfl, hlt⟩, hb2⟩; have HB2 := Lib.hid hb2; have HTZ2 := Lib.hid (HTZ.out.below hb2 (Nat.le_refl _)); clear hlt hb2)
      | (go_at_call 61; (with_reducible refine (answer_calls key ⟨user, tree, (nn : Int), 0, 0, 0⟩ (.slice none 0 0) theirs h64 _ HTZ2.out HK.out HU.out HTR.out).mono ?_); rw [show lineS key (Tk.mk user tree (nn : Int) 0 0 0).user (Tk.mk user tree (nn : Int) 0 0 0).tree (Tk.mk user tree (nn : Int) 0 0 0).ours theirs = X from HXX.out]; rintro e w3 ⟨rfl, hb3⟩; have HB3 := Lib.hid (HB2.out.trans (hb3.mono HB2.out.size)); obtain ⟨cap, w4, hconv, hcb, -, hb4, hgt, hbc, hbm⟩ := bytes_of X w3; have HB4 := Lib.hid (HB3.out.trans (hb4.mono HB3.out.size)); have HBY := Lib.hid (show Bys w4 w4.heap.size (.slice (some ⟨w3.heap.size, 0, none⟩) 33 cap) X.data.toList from (by have h := bys_new (by unfold maxLen; omega) hcb hgt hbc hbm; rw [hxs] at h; exact h)); clear hb3 hcb hb4 hgt hbc hbm))
    go_ret2
    exact ⟨⟨_, rfl, HBY.out, (fun k hk => by injection hk with hk; have h2 : w3.heap.size = k := hk; have := HB3.out.size; omega)⟩, HB4.out⟩
/-- What Confirms answers. -/
def confS (key user tree : ByteArray) (hello : List UInt8) (theirs : Int) (proof : List UInt8) : Bool := (heard25 hello).2 && (decide (proof.length = 17) && decide (ofL proof = shownS (shN key user tree 2 ((heard25 hello).1 : Int) theirs)))
set_option maxRecDepth 100000 in
set_option maxHeartbeats 3200000 in
theorem confirms_calls (key user tree : ByteArray) (v pv : Value) (b p : List UInt8) (theirs : Int) (B : Nat) (w : World) (h : Bys w B v b) (hp : Bys w B pv p) (hB : B ≤ w.heap.size) (htz : TZ w) (hsv : SV w)
    (hk : key.size ≤ maxLen) (hu : user.size ≤ maxLen) (ht : tree.size ≤ maxLen) :
    Calls Tryz.prog 23 #[.string key, .string user, .string tree, v, .int .u64 theirs, pv] w fun e w' => e = .returned (.bool (confS key user tree b theirs p)) ∧ Below w.heap.size w w' := by
  have HH := Lib.hid h
  have HPB := Lib.hid hp
  have HTZ := Lib.hid htz
  have HSV := Lib.hid hsv
  have HK := Lib.hid hk
  have HU := Lib.hid hu
  have HTR := Lib.hid ht
  have HBB := Lib.hid hB
  obtain ⟨pA, pc, rfl, -⟩ := hp
  obtain ⟨nn, ok, hn⟩ : ∃ a c, heard25 b = (a, c) := ⟨_, _, rfl⟩
  have HNS := Lib.hid hn
  have HCS := Lib.hid (show confS key user tree b theirs p = (ok && (decide (p.length = 17) && decide (ofL p = shownS (shN key user tree 2 (nn : Int) theirs)))) from by unfold confS; rw [hn])
  clear h htz hsv hk hu ht hn hB
  cases ok with
  | false =>
    go_enter Tryz.func23, Tryz.ntmps23
    go_upto_region 2 with (go_at_call 63; refine (heard_calls v b B _ HH.out HBB.out HTZ.out HSV.out).mono ?_; rw [HNS.out]; rintro e w2 ⟨⟨rfl, hlt⟩, hb2⟩; have HA := Lib.hid (show AH w B (.slice pA p.length pc) p w2 from ⟨HPB.out.below (hb2.mono HBB.out), HTZ.out.below hb2 (Nat.le_refl _), hb2, HBB.out⟩); clear hlt hb2)
    refine wp_region_held_drew (S := AH w B (.slice pA p.length pc) p) (by kernel_rfl) (HA.out.next (below_drew _)) (fun hHeld => ?_)
    generalize w2.drew = wd at hHeld ⊢
    refine wpAnyH_takeD 20 (i := 0) (v := .bool false) rfl rfl (by kernel_rfl) (by kernel_rfl) (by kernel_rfl) (fun _ _ _ h => h) (Or.inl ⟨by rfl, fun wq hSw => by go_simp⟩) (by assumption) ?_
    simp only [Act.put, List.setIfInBounds_toArray, List.set_cons_zero, List.set_cons_succ]
    refine wpAnyH_takeD 21 (i := 1) (v := .bool false) rfl rfl (by kernel_rfl) (by kernel_rfl) (by kernel_rfl) (fun _ _ _ h => h) (Or.inl ⟨by rfl, fun wq hSw => by go_simp⟩) (by assumption) ?_
    simp only [Act.put, List.setIfInBounds_toArray, List.set_cons_zero, List.set_cons_succ]
    refine wpAnyH_takeD 22 (i := 2) (v := undef) rfl rfl (by kernel_rfl) (by kernel_rfl) (by kernel_rfl) (fun _ _ _ h => h) (Or.inr ⟨by rfl, rfl⟩) (by assumption) ?_
    simp only [Act.put, List.setIfInBounds_toArray, List.set_cons_zero, List.set_cons_succ]
    refine wpAnyH_takeD 23 (i := 3) (v := undef) rfl rfl (by kernel_rfl) (by kernel_rfl) (by kernel_rfl) (fun _ _ _ h => h) (Or.inr ⟨by rfl, rfl⟩) (by assumption) ?_
    simp only [Act.put, List.setIfInBounds_toArray, List.set_cons_zero, List.set_cons_succ]
    refine wpAnyH_takeD 24 (i := 4) (v := undef) rfl rfl (by kernel_rfl) (by kernel_rfl) (by kernel_rfl) (fun _ _ _ h => h) (Or.inr ⟨by rfl, rfl⟩) (by assumption) ?_
    simp only [Act.put, List.setIfInBounds_toArray, List.set_cons_zero, List.set_cons_succ]
    refine wpAnyH_takeD 25 (i := 5) (v := .bool false) rfl rfl (by kernel_rfl) (by kernel_rfl) (by kernel_rfl) (fun _ _ _ h => h) (Or.inl ⟨by rfl, fun wq hSw => by go_simp⟩) (by assumption) ?_
    simp only [Act.put, List.setIfInBounds_toArray, List.set_cons_zero, List.set_cons_succ]
    refine wpAnyH_takeD 26 (i := 6) (v := .bool false) rfl rfl (by kernel_rfl) (by kernel_rfl) (by kernel_rfl) (fun _ _ _ h => h) (Or.inl ⟨by rfl, fun wq hSw => by go_simp⟩) (by assumption) ?_
    simp only [Act.put, List.setIfInBounds_toArray, List.set_cons_zero, List.set_cons_succ]
    refine wpAnyH_takeD 27 (i := 7) (v := undef) rfl rfl (by kernel_rfl) (by kernel_rfl) (by kernel_rfl) (fun _ _ _ h => h) (Or.inr ⟨by rfl, rfl⟩) (by assumption) ?_
    simp only [Act.put, List.setIfInBounds_toArray, List.set_cons_zero, List.set_cons_succ]
    refine wpAnyH_takeD 28 (i := 8) (v := undef) rfl rfl (by kernel_rfl) (by kernel_rfl) (by kernel_rfl) (fun _ _ _ h => h) (Or.inr ⟨by rfl, rfl⟩) (by assumption) ?_
    simp only [Act.put, List.setIfInBounds_toArray, List.set_cons_zero, List.set_cons_succ]
    refine wpAnyH_takeD 29 (i := 9) (v := undef) rfl rfl (by kernel_rfl) (by kernel_rfl) (by kernel_rfl) (fun _ _ _ h => h) (Or.inr ⟨by rfl, rfl⟩) (by assumption) ?_
    simp only [Act.put, List.setIfInBounds_toArray, List.set_cons_zero, List.set_cons_succ]
    refine wpAnyH_takeD 30 (i := 10) (v := undef) rfl rfl (by kernel_rfl) (by kernel_rfl) (by kernel_rfl) (fun _ _ _ h => h) (Or.inr ⟨by rfl, rfl⟩) (by assumption) ?_
    simp only [Act.put, List.setIfInBounds_toArray, List.set_cons_zero, List.set_cons_succ]
    refine wpAnyH_takeD 31 (i := 11) (v := undef) rfl rfl (by kernel_rfl) (by kernel_rfl) (by kernel_rfl) (fun _ _ _ h => h) (Or.inr ⟨by rfl, rfl⟩) (by assumption) ?_
    simp only [Act.put, List.setIfInBounds_toArray, List.set_cons_zero, List.set_cons_succ]
    refine wpAnyH_takeD 32 (i := 12) (v := undef) rfl rfl (by kernel_rfl) (by kernel_rfl) (by kernel_rfl) (fun _ _ _ h => h) (Or.inr ⟨by rfl, rfl⟩) (by assumption) ?_
    simp only [Act.put, List.setIfInBounds_toArray, List.set_cons_zero, List.set_cons_succ]
    refine wpAnyH_takeD 33 (i := 13) (v := undef) rfl rfl (by kernel_rfl) (by kernel_rfl) (by kernel_rfl) (fun _ _ _ h => h) (Or.inr ⟨by rfl, rfl⟩) (by assumption) ?_
    simp only [Act.put, List.setIfInBounds_toArray, List.set_cons_zero, List.set_cons_succ]
    refine wpAnyH_takeD 34 (i := 14) (v := undef) rfl rfl (by kernel_rfl) (by kernel_rfl) (by kernel_rfl) (fun _ _ _ h => h) (Or.inr ⟨by rfl, rfl⟩) (by assumption) ?_
    simp only [Act.put, List.setIfInBounds_toArray, List.set_cons_zero, List.set_cons_succ]
    refine wpAnyH_takeD 35 (i := 15) (v := undef) rfl rfl (by kernel_rfl) (by kernel_rfl) (by kernel_rfl) (fun _ _ _ h => h) (Or.inr ⟨by rfl, rfl⟩) (by assumption) ?_
    simp only [Act.put, List.setIfInBounds_toArray, List.set_cons_zero, List.set_cons_succ]
    refine wpAnyH_takeD 36 (i := 16) (v := .bool false) rfl rfl (by kernel_rfl) (by kernel_rfl) (by kernel_rfl) (fun _ _ _ h => h) (Or.inl ⟨by rfl, fun wq hSw => by go_simp⟩) (by assumption) ?_
    simp only [Act.put, List.setIfInBounds_toArray, List.set_cons_zero, List.set_cons_succ]
    refine wpAnyH_takeD 12 (i := 17) (v := .bool false) rfl rfl (by kernel_rfl) (by kernel_rfl) (by kernel_rfl) (fun _ _ _ h => h) (Or.inl ⟨by rfl, fun wq hSw => by go_simp⟩) (by assumption) ?_
    simp only [Act.put, List.setIfInBounds_toArray, List.set_cons_zero, List.set_cons_succ]
    refine wpAnyH_done (by kernel_rfl) ?_ _
    go_wp2_with fail
    go_ret
    exact ⟨by rw [HCS.out]; rfl, hHeld.low⟩
  | true =>
    by_cases h17 : p.length = 17
    · have hnp : p ≠ [] := fun h0 => by rw [h0] at h17; simp at h17
      have HNP := Lib.hid hnp
      obtain ⟨S, hS⟩ : ∃ z, shownS (shN key user tree 2 (nn : Int) theirs) = z := ⟨_, rfl⟩
      have hbq := beq_str (ofL p) S
      rw [hS, decide_eq_true h17] at HCS
      have HSS := Lib.hid hS
      generalize decide (ofL p = S) = d at hbq HCS
      have hq : ((p.length : Int) == 17) = true := by rw [beq_iff_eq]; omega
      have HPL := Lib.hid h17
      clear hS hnp h17
      go_enter Tryz.func23, Tryz.ntmps23
      go_upto_region 2 with (go_at_call 63; refine (heard_calls v b B _ HH.out HBB.out HTZ.out HSV.out).mono ?_; rw [HNS.out]; rintro e w2 ⟨⟨rfl, hlt⟩, hb2⟩; have HA := Lib.hid (show AH w B (.slice pA p.length pc) p w2 from ⟨HPB.out.below (hb2.mono HBB.out), HTZ.out.below hb2 (Nat.le_refl _), hb2, HBB.out⟩); clear hlt hb2)
      refine wp_region_held_drew (S := AH w B (.slice pA p.length pc) p) (by kernel_rfl) (HA.out.next (below_drew _)) (fun hHeld => ?_)
      generalize w2.drew = wd at hHeld ⊢
      refine wpAnyH_takeD 20 (i := 0) (v := .bool true) rfl rfl (by kernel_rfl) (by kernel_rfl) (by kernel_rfl) (fun _ _ _ h => h) (Or.inl ⟨by rfl, fun wq hSw => by go_simp⟩) (by assumption) ?_
      simp only [Act.put, List.setIfInBounds_toArray, List.set_cons_zero, List.set_cons_succ]
      refine wpAnyH_takeD 21 (i := 1) (v := .bool true) rfl rfl (by kernel_rfl) (by kernel_rfl) (by kernel_rfl) (fun _ _ _ h => h) (Or.inl ⟨by rfl, fun wq hSw => by go_simp⟩) (by assumption) ?_
      simp only [Act.put, List.setIfInBounds_toArray, List.set_cons_zero, List.set_cons_succ]
      refine wpAnyH_takeD 22 (i := 2) (v := .slice pA p.length pc) rfl rfl (by kernel_rfl) (by kernel_rfl) (by kernel_rfl) (fun _ _ _ h => h) (Or.inl ⟨by rfl, fun wq hSw => by go_simp⟩) (by assumption) ?_
      simp only [Act.put, List.setIfInBounds_toArray, List.set_cons_zero, List.set_cons_succ]
      refine wpAnyH_takeD 23 (i := 3) (v := .int .i64 (p.length : Int)) rfl rfl (by kernel_rfl) (by kernel_rfl) (by kernel_rfl) (fun _ _ _ h => h) (Or.inl ⟨by rfl, fun wq hSw => by go_simp⟩) (by assumption) ?_
      simp only [Act.put, List.setIfInBounds_toArray, List.set_cons_zero, List.set_cons_succ]
      refine wpAnyH_takeD 24 (i := 4) (v := .bool true) rfl rfl (by kernel_rfl) (by kernel_rfl) (by kernel_rfl) (fun _ _ _ h => h) (Or.inl ⟨by rfl, fun wq hSw => by go_simp⟩) (by assumption) ?_
      simp only [Act.put, List.setIfInBounds_toArray, List.set_cons_zero, List.set_cons_succ]
      refine wpAnyH_takeD 25 (i := 5) (v := .bool true) rfl rfl (by kernel_rfl) (by kernel_rfl) (by kernel_rfl) (fun _ _ _ h => h) (Or.inl ⟨by rfl, fun wq hSw => by go_simp⟩) (by assumption) ?_
      simp only [Act.put, List.setIfInBounds_toArray, List.set_cons_zero, List.set_cons_succ]
      refine wpAnyH_takeD 26 (i := 6) (v := .bool true) rfl rfl (by kernel_rfl) (by kernel_rfl) (by kernel_rfl) (fun _ _ _ h => h) (Or.inl ⟨by rfl, fun wq hSw => by go_simp⟩) (by assumption) ?_
      simp only [Act.put, List.setIfInBounds_toArray, List.set_cons_zero, List.set_cons_succ]
      refine wpAnyH_takeD 27 (i := 7) (v := .slice pA p.length pc) rfl rfl (by kernel_rfl) (by kernel_rfl) (by kernel_rfl) (fun _ _ _ h => h) (Or.inl ⟨by rfl, fun wq hSw => by go_simp⟩) (by assumption) ?_
      simp only [Act.put, List.setIfInBounds_toArray, List.set_cons_zero, List.set_cons_succ]
      refine wpAnyH_takeD 28 (i := 8) (v := .string (ofL p)) rfl rfl (by kernel_rfl) (by kernel_rfl) (by kernel_rfl) (fun _ _ _ h => h) (Or.inl ⟨by rfl, fun wq hSw => by have k := conv_bys hSw.by_ HNP.out; go_simp⟩) (by assumption) ?_
      simp only [Act.put, List.setIfInBounds_toArray, List.set_cons_zero, List.set_cons_succ]
      refine wpAnyH_takeD 29 (i := 9) (v := .string key) rfl rfl (by kernel_rfl) (by kernel_rfl) (by kernel_rfl) (fun _ _ _ h => h) (Or.inl ⟨by rfl, fun wq hSw => by go_simp⟩) (by assumption) ?_
      simp only [Act.put, List.setIfInBounds_toArray, List.set_cons_zero, List.set_cons_succ]
      refine wpAnyH_takeD 30 (i := 10) (v := .int .u64 (nn : Int)) rfl rfl (by kernel_rfl) (by kernel_rfl) (by kernel_rfl) (fun _ _ _ h => h) (Or.inl ⟨by rfl, fun wq hSw => by go_simp⟩) (by assumption) ?_
      simp only [Act.put, List.setIfInBounds_toArray, List.set_cons_zero, List.set_cons_succ]
      refine wpAnyH_takeD 31 (i := 11) (v := .int .u64 theirs) rfl rfl (by kernel_rfl) (by kernel_rfl) (by kernel_rfl) (fun _ _ _ h => h) (Or.inl ⟨by rfl, fun wq hSw => by go_simp⟩) (by assumption) ?_
      simp only [Act.put, List.setIfInBounds_toArray, List.set_cons_zero, List.set_cons_succ]
      refine wpAnyH_takeD 32 (i := 12) (v := .string user) rfl rfl (by kernel_rfl) (by kernel_rfl) (by kernel_rfl) (fun _ _ _ h => h) (Or.inl ⟨by rfl, fun wq hSw => by go_simp⟩) (by assumption) ?_
      simp only [Act.put, List.setIfInBounds_toArray, List.set_cons_zero, List.set_cons_succ]
      refine wpAnyH_takeD 33 (i := 13) (v := .string tree) rfl rfl (by kernel_rfl) (by kernel_rfl) (by kernel_rfl) (fun _ _ _ h => h) (Or.inl ⟨by rfl, fun wq hSw => by go_simp⟩) (by assumption) ?_
      simp only [Act.put, List.setIfInBounds_toArray, List.set_cons_zero, List.set_cons_succ]
      refine wpAnyH_ready (rs := [14]) (by kernel_rfl) (by simp) ?_
      refine AllReadyH.cons rfl (fun K hK => ?_) AllReadyH.nil
      rw [if_pos (by rfl)]
      go_simp
      (with_reducible refine (shown_calls key user tree 2 (nn : Int) theirs _ hHeld.tz HK.out HU.out HTR.out).mono ?_)
      rw [HSS.out]
      rintro e w4 ⟨rfl, hb⟩
      dsimp only
      have hOld := hHeld.next hb
      clear hHeld hb
      refine hK.out _ _ hOld (fun hHeld => ?_)
      clear hK hOld
      refine wpAnyH_takeD 35 (i := 15) (v := .bool d) rfl rfl (by kernel_rfl) (by kernel_rfl) (by kernel_rfl) (fun _ _ _ h => h) (Or.inl ⟨by rfl, fun wq hSw => by go_simp⟩) (by assumption) ?_
      simp only [Act.put, List.setIfInBounds_toArray, List.set_cons_zero, List.set_cons_succ]
      refine wpAnyH_takeD 36 (i := 16) (v := .bool d) rfl rfl (by kernel_rfl) (by kernel_rfl) (by kernel_rfl) (fun _ _ _ h => h) (Or.inl ⟨by rfl, fun wq hSw => by go_simp⟩) (by assumption) ?_
      simp only [Act.put, List.setIfInBounds_toArray, List.set_cons_zero, List.set_cons_succ]
      refine wpAnyH_takeD 12 (i := 17) (v := .bool d) rfl rfl (by kernel_rfl) (by kernel_rfl) (by kernel_rfl) (fun _ _ _ h => h) (Or.inl ⟨by rfl, fun wq hSw => by go_simp⟩) (by assumption) ?_
      simp only [Act.put, List.setIfInBounds_toArray, List.set_cons_zero, List.set_cons_succ]
      refine wpAnyH_done (by kernel_rfl) ?_ _
      go_wp2_with fail
      go_ret
      exact ⟨by rw [HCS.out]; rfl, hHeld.low⟩
    · rw [decide_eq_false h17] at HCS
      have hq : ((p.length : Int) == 17) = false := by rw [beq_eq_false_iff_ne]; omega
      clear h17
      go_enter Tryz.func23, Tryz.ntmps23
      go_upto_region 2 with (go_at_call 63; refine (heard_calls v b B _ HH.out HBB.out HTZ.out HSV.out).mono ?_; rw [HNS.out]; rintro e w2 ⟨⟨rfl, hlt⟩, hb2⟩; have HA := Lib.hid (show AH w B (.slice pA p.length pc) p w2 from ⟨HPB.out.below (hb2.mono HBB.out), HTZ.out.below hb2 (Nat.le_refl _), hb2, HBB.out⟩); clear hlt hb2)
      refine wp_region_held_drew (S := AH w B (.slice pA p.length pc) p) (by kernel_rfl) (HA.out.next (below_drew _)) (fun hHeld => ?_)
      generalize w2.drew = wd at hHeld ⊢
      refine wpAnyH_takeD 20 (i := 0) (v := .bool true) rfl rfl (by kernel_rfl) (by kernel_rfl) (by kernel_rfl) (fun _ _ _ h => h) (Or.inl ⟨by rfl, fun wq hSw => by go_simp⟩) (by assumption) ?_
      simp only [Act.put, List.setIfInBounds_toArray, List.set_cons_zero, List.set_cons_succ]
      refine wpAnyH_takeD 21 (i := 1) (v := .bool true) rfl rfl (by kernel_rfl) (by kernel_rfl) (by kernel_rfl) (fun _ _ _ h => h) (Or.inl ⟨by rfl, fun wq hSw => by go_simp⟩) (by assumption) ?_
      simp only [Act.put, List.setIfInBounds_toArray, List.set_cons_zero, List.set_cons_succ]
      refine wpAnyH_takeD 22 (i := 2) (v := .slice pA p.length pc) rfl rfl (by kernel_rfl) (by kernel_rfl) (by kernel_rfl) (fun _ _ _ h => h) (Or.inl ⟨by rfl, fun wq hSw => by go_simp⟩) (by assumption) ?_
      simp only [Act.put, List.setIfInBounds_toArray, List.set_cons_zero, List.set_cons_succ]
      refine wpAnyH_takeD 23 (i := 3) (v := .int .i64 (p.length : Int)) rfl rfl (by kernel_rfl) (by kernel_rfl) (by kernel_rfl) (fun _ _ _ h => h) (Or.inl ⟨by rfl, fun wq hSw => by go_simp⟩) (by assumption) ?_
      simp only [Act.put, List.setIfInBounds_toArray, List.set_cons_zero, List.set_cons_succ]
      refine wpAnyH_takeD 24 (i := 4) (v := .bool false) rfl rfl (by kernel_rfl) (by kernel_rfl) (by kernel_rfl) (fun _ _ _ h => h) (Or.inl ⟨by rfl, fun wq hSw => by go_simp⟩) (by assumption) ?_
      simp only [Act.put, List.setIfInBounds_toArray, List.set_cons_zero, List.set_cons_succ]
      refine wpAnyH_takeD 25 (i := 5) (v := .bool false) rfl rfl (by kernel_rfl) (by kernel_rfl) (by kernel_rfl) (fun _ _ _ h => h) (Or.inl ⟨by rfl, fun wq hSw => by go_simp⟩) (by assumption) ?_
      simp only [Act.put, List.setIfInBounds_toArray, List.set_cons_zero, List.set_cons_succ]
      refine wpAnyH_takeD 26 (i := 6) (v := .bool false) rfl rfl (by kernel_rfl) (by kernel_rfl) (by kernel_rfl) (fun _ _ _ h => h) (Or.inl ⟨by rfl, fun wq hSw => by go_simp⟩) (by assumption) ?_
      simp only [Act.put, List.setIfInBounds_toArray, List.set_cons_zero, List.set_cons_succ]
      refine wpAnyH_takeD 27 (i := 7) (v := undef) rfl rfl (by kernel_rfl) (by kernel_rfl) (by kernel_rfl) (fun _ _ _ h => h) (Or.inr ⟨by rfl, rfl⟩) (by assumption) ?_
      simp only [Act.put, List.setIfInBounds_toArray, List.set_cons_zero, List.set_cons_succ]
      refine wpAnyH_takeD 28 (i := 8) (v := undef) rfl rfl (by kernel_rfl) (by kernel_rfl) (by kernel_rfl) (fun _ _ _ h => h) (Or.inr ⟨by rfl, rfl⟩) (by assumption) ?_
      simp only [Act.put, List.setIfInBounds_toArray, List.set_cons_zero, List.set_cons_succ]
      refine wpAnyH_takeD 29 (i := 9) (v := undef) rfl rfl (by kernel_rfl) (by kernel_rfl) (by kernel_rfl) (fun _ _ _ h => h) (Or.inr ⟨by rfl, rfl⟩) (by assumption) ?_
      simp only [Act.put, List.setIfInBounds_toArray, List.set_cons_zero, List.set_cons_succ]
      refine wpAnyH_takeD 30 (i := 10) (v := undef) rfl rfl (by kernel_rfl) (by kernel_rfl) (by kernel_rfl) (fun _ _ _ h => h) (Or.inr ⟨by rfl, rfl⟩) (by assumption) ?_
      simp only [Act.put, List.setIfInBounds_toArray, List.set_cons_zero, List.set_cons_succ]
      refine wpAnyH_takeD 31 (i := 11) (v := undef) rfl rfl (by kernel_rfl) (by kernel_rfl) (by kernel_rfl) (fun _ _ _ h => h) (Or.inr ⟨by rfl, rfl⟩) (by assumption) ?_
      simp only [Act.put, List.setIfInBounds_toArray, List.set_cons_zero, List.set_cons_succ]
      refine wpAnyH_takeD 32 (i := 12) (v := undef) rfl rfl (by kernel_rfl) (by kernel_rfl) (by kernel_rfl) (fun _ _ _ h => h) (Or.inr ⟨by rfl, rfl⟩) (by assumption) ?_
      simp only [Act.put, List.setIfInBounds_toArray, List.set_cons_zero, List.set_cons_succ]
      refine wpAnyH_takeD 33 (i := 13) (v := undef) rfl rfl (by kernel_rfl) (by kernel_rfl) (by kernel_rfl) (fun _ _ _ h => h) (Or.inr ⟨by rfl, rfl⟩) (by assumption) ?_
      simp only [Act.put, List.setIfInBounds_toArray, List.set_cons_zero, List.set_cons_succ]
      refine wpAnyH_takeD 34 (i := 14) (v := undef) rfl rfl (by kernel_rfl) (by kernel_rfl) (by kernel_rfl) (fun _ _ _ h => h) (Or.inr ⟨by rfl, rfl⟩) (by assumption) ?_
      simp only [Act.put, List.setIfInBounds_toArray, List.set_cons_zero, List.set_cons_succ]
      refine wpAnyH_takeD 35 (i := 15) (v := undef) rfl rfl (by kernel_rfl) (by kernel_rfl) (by kernel_rfl) (fun _ _ _ h => h) (Or.inr ⟨by rfl, rfl⟩) (by assumption) ?_
      simp only [Act.put, List.setIfInBounds_toArray, List.set_cons_zero, List.set_cons_succ]
      refine wpAnyH_takeD 36 (i := 16) (v := .bool false) rfl rfl (by kernel_rfl) (by kernel_rfl) (by kernel_rfl) (fun _ _ _ h => h) (Or.inl ⟨by rfl, fun wq hSw => by go_simp⟩) (by assumption) ?_
      simp only [Act.put, List.setIfInBounds_toArray, List.set_cons_zero, List.set_cons_succ]
      refine wpAnyH_takeD 12 (i := 17) (v := .bool false) rfl rfl (by kernel_rfl) (by kernel_rfl) (by kernel_rfl) (fun _ _ _ h => h) (Or.inl ⟨by rfl, fun wq hSw => by go_simp⟩) (by assumption) ?_
      simp only [Act.put, List.setIfInBounds_toArray, List.set_cons_zero, List.set_cons_succ]
      refine wpAnyH_done (by kernel_rfl) ?_ _
      go_wp2_with fail
      go_ret
      exact ⟨by rw [HCS.out]; rfl, hHeld.low⟩
end Go.Proofs.YtlenlldiimohjaaGreatDoor
