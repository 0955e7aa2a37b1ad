/-
  ADo6 AConfO ADo7: what AuthDoes needs of them.
-/
import Derived.Test.YtlenlldiimohjaaGreatDoorQ12
import Derived.Test.YtlenlldiimohjaaGreatDoorQ08
namespace Go.Proofs.YtlenlldiimohjaaGreatDoor
open Go.RowKit

/-- A digit that the document takes. -/
def lowV (x : Nat) : Option Nat := if 48 ≤ x ∧ x ≤ 57 then some (x - 48) else if 97 ≤ x ∧ x ≤ 102 then some (x - 87) else none
def lowP (l : List UInt8) : Option Nat := l.foldl (fun o c => o.bind fun n => (lowV c.toNat).map fun d => n * 16 + d) (some 0)
theorem lowP_snoc (l : List UInt8) (c : UInt8) : lowP (l ++ [c]) = (lowP l).bind fun n => (lowV c.toNat).map fun d => n * 16 + d := by
  unfold lowP
  rw [List.foldl_append]
  rfl
theorem lowP_none : ∀ l2 : List UInt8, l2.foldl (fun o c => o.bind fun n => (lowV c.toNat).map fun d => n * 16 + d) none = none
  | [] => rfl
  | _ :: l => lowP_none l
theorem lowP_stop (s : ByteArray) (k m : Nat) (hk : k < s.size) (h : lowP (s.data.toList.take k) = some m) (hv : lowV s[k].toNat = none) : lowP s.data.toList = none := by
  have h1 : lowP (s.data.toList.take (k + 1)) = none := by
    rw [take_snoc s k hk, lowP_snoc, h, hv]
    rfl
  have h2 : s.data.toList = s.data.toList.take (k + 1) ++ s.data.toList.drop (k + 1) := (List.take_append_drop _ _).symm
  rw [h2]
  unfold lowP at h1 ⊢
  rw [List.foldl_append, h1]
  exact lowP_none _
theorem lowV_hex {c : UInt8} {d : Nat} (h : lowV c.toNat = some d) : hexV c.toNat = some d ∧ hexC d = c ∧ d < 16 := by
  have key : ∀ c : UInt8, ∀ d : Fin 16, lowV c.toNat = some d.val → hexV c.toNat = some d.val ∧ hexC d.val = c := by
    intro c
    have k2 : ∀ x : Fin 256, ∀ d : Fin 16, lowV x.val = some d.val → hexV x.val = some d.val ∧ hexC d.val = UInt8.ofNat x.val := by decide +kernel
    intro d hd
    have := k2 ⟨c.toNat, c.toNat_lt⟩ d hd
    exact ⟨this.1, this.2.trans (by simp)⟩
  have hd : d < 16 := by
    unfold lowV at h
    split at h
    · injection h with h; omega
    · split at h
      · injection h with h; omega
      · cases h
  have := key c ⟨d, hd⟩ h
  exact ⟨this.1, this.2, hd⟩
theorem hexC_low (d : Nat) (hd : d < 16) : lowV (hexC d).toNat = some d := by
  have key : ∀ d : Fin 16, lowV (hexC d.val).toNat = some d.val := by decide
  exact key ⟨d, hd⟩
theorem lowP_hexN : ∀ k n : Nat, ∃ m, lowP (hexN k n) = some m
  | 0, n => ⟨0, rfl⟩
  | k + 1, n => by
    obtain ⟨m, hm⟩ := lowP_hexN k (n / 16)
    exact ⟨m * 16 + n % 16, by rw [hexN, lowP_snoc, hm, hexC_low _ (Nat.mod_lt n (by omega))]; rfl⟩
theorem lowP_some : ∀ (k : Nat) (l : List UInt8) (n : Nat), l.length = k → lowP l = some n → hexP l = some n ∧ hexN k n = l ∧ n < 16 ^ k
  | 0, l, n, hl, h => by
    obtain rfl := List.eq_nil_of_length_eq_zero hl
    injection h with h
    subst h
    exact ⟨rfl, rfl, by decide⟩
  | k + 1, l, n, hl, h => by
    obtain ⟨l2, c, rfl⟩ : ∃ l2 c, l = l2 ++ [c] := ⟨l.dropLast, l.getLast (fun h0 => by rw [h0] at hl; cases hl), (List.dropLast_concat_getLast _).symm⟩
    rw [lowP_snoc] at h
    cases hm : lowP l2 with
    | none => rw [hm] at h; cases h
    | some m =>
      rw [hm] at h
      cases hd : lowV c.toNat with
      | none => rw [hd] at h; cases h
      | some d =>
        rw [hd] at h
        injection h with h
        obtain ⟨h1, h2, h3⟩ := lowP_some k l2 m (by rw [List.length_append, List.length_singleton] at hl; omega) hm
        obtain ⟨h4, h5, h6⟩ := lowV_hex hd
        subst h
        refine ⟨by rw [hexP_snoc, h1, h4]; rfl, ?_, by show m * 16 + d < 16 ^ (k + 1); rw [Nat.pow_succ]; omega⟩
        show hexN (k + 1) (m * 16 + d) = _
        rw [hexN, show (m * 16 + d) / 16 = m from by omega, show (m * 16 + d) % 16 = d from by omega, h2, h5]
/-- What the document's number answers. -/
def rnumS (s : ByteArray) : Nat × Bool := match lowP s.data.toList with
  | some n => (n, decide (s.size = 16))
  | none => (0, false)
theorem rnum_num {s : ByteArray} (h : s.size = 16) : (rnumS s).2 = (numS s).2 ∧ ((numS s).2 = true → (rnumS s).1 = (numS s).1) := by
  have hl : s.data.toList.length = 16 := by rw [Array.length_toList]; exact h
  unfold rnumS numS
  cases hp : lowP s.data.toList with
  | some n =>
    obtain ⟨h1, h2, -⟩ := lowP_some 16 _ n hl hp
    rw [h1]
    have h3 : hex16 n = s := by
      unfold hex16
      rw [h2, ofL_toList]
    dsimp only
    rw [decide_eq_true h, decide_eq_true h3]
    exact ⟨rfl, fun _ => rfl⟩
  | none =>
    cases hq : hexP s.data.toList with
    | none => exact ⟨rfl, fun hh => by cases hh⟩
    | some m =>
      dsimp only
      have h3 : ¬ hex16 m = s := fun hh => by
        have h4 : s.data.toList = hexN 16 m := by rw [← hh]; rfl
        obtain ⟨z, hz⟩ := lowP_hexN 16 m
        rw [h4, hz] at hp
        cases hp
      rw [decide_eq_false h3]
      exact ⟨rfl, fun hh => by cases hh⟩
theorem rnum_lt (s : ByteArray) (h : s.size ≤ 16) : (rnumS s).1 < 18446744073709551616 := by
  unfold rnumS
  cases hp : lowP s.data.toList with
  | none => exact Nat.zero_lt_succ _
  | some n =>
    have := (lowP_some s.size _ n (by rw [Array.length_toList]; rfl) hp).2.2
    have h3 : 16 ^ s.size ≤ 16 ^ 16 := Nat.pow_le_pow_right (by omega) h
    show n < _
    omega
set_option maxRecDepth 100000 in
set_option maxHeartbeats 3200000 in
theorem refNumber_calls (s : ByteArray) (hs : s.size ≤ 16) (w : World) :
    Calls Tryz.prog 153 #[.string s] w fun e w' => e = .returned (.tuple #[.int .u64 ((rnumS s).1 : Int), .bool (rnumS s).2]) ∧ w = w' := by
  obtain ⟨R, B, hR⟩ : ∃ r b, rnumS s = (r, b) := ⟨_, _, rfl⟩
  have HRS := Lib.hid hR
  rw [hR]
  clear hR
  go_enter Tryz.func153, Tryz.ntmps153
  go_wp2_with fail
  go_loop [4, 5] (fun n i => ∃ k m : Nat, k ≤ s.size ∧ n = .int .u64 (m : Int) ∧ i = .int .i64 (k : Int) ∧ lowP (s.data.toList.take k) = some m ∧ m < 16 ^ k) (fun _ i => s.size - (intOf i).toNat)
  case atStart => exact ⟨0, 0, Nat.zero_le _, rfl, rfl, rfl, by decide⟩
  case round =>
    obtain ⟨k, m, hk, rfl, rfl, hp, hm⟩ := hrel
    have HP := Lib.hid hp
    clear hp
    by_cases hlt : k < s.size
    · obtain ⟨x, hx⟩ : ∃ x, s[k].toNat = x := ⟨_, rfl⟩
      have hx256 : x < 256 := by rw [← hx]; exact s[k].toNat_lt
      have HPN := Lib.hid (show ∀ d, lowV x = some d → lowP (s.data.toList.take (k + 1)) = some (m * 16 + d) from fun d hd => by
        rw [take_snoc s k hlt, lowP_snoc, HP.out, hx, hd]
        rfl)
      have HPE := Lib.hid (show lowV x = none → lowP s.data.toList = none from fun h => lowP_stop s k m hlt HP.out (by rw [hx]; exact h))
      have hcut : (m : Int) < 1152921504606846976 := by
        have h3 : 16 ^ k ≤ 16 ^ 15 := Nat.pow_le_pow_right (by omega) (by omega)
        omega
      have HMN := Lib.hid (show ∀ d, d < 16 → m * 16 + d < 16 ^ (k + 1) from fun d hd => by rw [Nat.pow_succ]; omega)
      clear hm
      by_cases hA : 48 ≤ x ∧ x ≤ 57
      · have a1 : (48 : Int) ≤ x := by omega
        have a2 : (x : Int) ≤ 57 := by omega
        have HD := Lib.hid (show lowV x = some (x - 48) from by unfold lowV; rw [if_pos hA])
        have HQ := Lib.hid (HPN.out _ HD.out)
        have HR := Lib.hid (HMN.out (x - 48) (by omega))
        have HV := Lib.hid (show (m : Int) * 16 + ((x : Int) - 48) = ((m * 16 + (x - 48) : Nat) : Int) from by omega)
        clear hA
        go_wp2_with fail
        go_round
        case rel => exact ⟨k + 1, m * 16 + (x - 48), by omega, by rw [← HV.out], by go_num, HQ.out, HR.out⟩
        case measure => simp [intOf]; omega
      · have hA' : x < 48 ∨ 57 < x := by omega
        by_cases hB : 97 ≤ x ∧ x ≤ 102
        · have a0 : (48 : Int) ≤ x := by omega
          have a1 : ¬ (x : Int) ≤ 57 := by omega
          have a2 : (97 : Int) ≤ x := by omega
          have a3 : (x : Int) ≤ 102 := by omega
          have HD := Lib.hid (show lowV x = some (x - 87) from by unfold lowV; rw [if_neg hA, if_pos hB])
          have HQ := Lib.hid (HPN.out _ HD.out)
          have HR := Lib.hid (HMN.out (x - 87) (by omega))
          have HV := Lib.hid (show (m : Int) * 16 + ((x : Int) - 97) + 10 = ((m * 16 + (x - 87) : Nat) : Int) from by omega)
          clear hA hA' hB
          go_wp2_with fail
          go_round
          case rel => exact ⟨k + 1, m * 16 + (x - 87), by omega, by rw [← HV.out], by go_num, HQ.out, HR.out⟩
          case measure => simp [intOf]; omega
        · have HE := Lib.hid (HPE.out (by unfold lowV; rw [if_neg hA, if_neg hB]))
          have HRE := Lib.hid (show R = 0 ∧ B = false from by
            have h := HRS.out
            unfold rnumS at h
            rw [HE.out] at h
            injection h with h1 h2
            exact ⟨h1.symm, h2.symm⟩)
          have hB' : x < 97 ∨ 102 < x := by omega
          clear hA hB
          rcases hA' with hA' | hA'
          · have a0 : ¬ (48 : Int) ≤ x := by omega
            have a2 : ¬ (97 : Int) ≤ x := by omega
            clear hA' hB'
            go_wp2_with fail
            go_ret2
            exact ⟨by rw [HRE.out.1, HRE.out.2]; rfl, rfl⟩
          · have a0 : (48 : Int) ≤ x := by omega
            have a1 : ¬ (x : Int) ≤ 57 := by omega
            rcases hB' with hB' | hB'
            · have a2 : ¬ (97 : Int) ≤ x := by omega
              clear hA' hB'
              go_wp2_with fail
              go_ret2
              exact ⟨by rw [HRE.out.1, HRE.out.2]; rfl, rfl⟩
            · have a2 : (97 : Int) ≤ x := by omega
              have a3 : ¬ (x : Int) ≤ 102 := by omega
              clear hA' hB'
              go_wp2_with fail
              go_ret2
              exact ⟨by rw [HRE.out.1, HRE.out.2]; rfl, rfl⟩
    · have hend : s.data.toList.take k = s.data.toList := List.take_of_length_le (by rw [Array.length_toList]; exact Nat.le_of_not_lt hlt)
      have HRE := Lib.hid (show R = m ∧ B = decide (s.size = 16) from by
        have h := HRS.out
        unfold rnumS at h
        rw [← hend, HP.out] at h
        injection h with h1 h2
        exact ⟨h1.symm, h2.symm⟩)
      have hq : ((s.size : Int) == 16) = decide (s.size = 16) := by
        rw [Bool.eq_iff_iff, beq_iff_eq, decide_eq_true_iff]
        omega
      have HQ := Lib.hid hq
      clear hend hq
      go_wp2_with fail
      go_ret2
      exact ⟨by rw [HRE.out.1, HRE.out.2, ← HQ.out]; rfl, rfl⟩
end Go.Proofs.YtlenlldiimohjaaGreatDoor
namespace Go.Proofs.YtlenlldiimohjaaGreatDoor
open Go.RowKit

set_option maxRecDepth 100000 in
set_option maxHeartbeats 3200000 in
theorem answerO_calls (key user tree : ByteArray) (v : Value) (b : List UInt8) (theirs B : Nat) (w : World) (h : Bys w B v b) (hB : B ≤ w.heap.size) (htz : TZ w) (hsv : SV w) (h64 : theirs < 18446744073709551616)
    (hk : key.size ≤ maxLen) (hu : user.size ≤ maxLen) (ht : tree.size ≤ maxLen) :
    Calls Tryz.prog 21 #[.string key, .string user, .string tree, v, .int .u64 (theirs : Int)] w fun e w' =>
      (if (heard25 b).2 = true then ∃ r, e = .returned (.tuple #[r, .int .i64 0]) ∧ OwnB w' w.heap.size r (lineS key user tree ((heard25 b).1 : Int) theirs).data.toList else e = .returned (.tuple #[.slice none 0 0, .int .i64 70])) ∧ Below w.heap.size w w' := by
  have HH := Lib.hid h
  have HTZ := Lib.hid htz
  have HSV := Lib.hid hsv
  have HK := Lib.hid hk
  have HU := Lib.hid hu
  have HTR := Lib.hid ht
  obtain ⟨nn, ok, hn⟩ : ∃ a c, heard25 b = (a, c) := ⟨_, _, rfl⟩
  have HNS := Lib.hid hn
  have HBB := Lib.hid hB
  rw [hn]
  clear h htz hsv hk hu ht hn hB
  cases ok with
  | false =>
    refine Calls.mono ?_ (R := fun e w' => e = .returned (.tuple #[.slice none 0 0, .int .i64 70]) ∧ Below w.heap.size w w') (hr := fun e w' hq => ⟨by rw [if_neg (fun hh => Bool.noConfusion hh)]; exact hq.1, hq.2⟩)
    go_enter Tryz.func21, Tryz.ntmps21
    go_wp2_with (go_at_call 63; refine (heard_calls v b B _ HH.out HBB.out HTZ.out HSV.out).mono ?_; rw [HNS.out]; rintro e w2 ⟨⟨rfl, hlt⟩, hb2⟩; have HB2 := Lib.hid hb2; clear hlt hb2)
    go_ret2
    exact ⟨rfl, HB2.out⟩
  | true =>
    obtain ⟨X, hX⟩ : ∃ z, lineS key user tree (nn : Int) theirs = z := ⟨_, rfl⟩
    rw [hX]
    have hxs : X.size = 33 := by rw [← hX]; exact lineS_size _ _ _ _ _
    have HXX := Lib.hid hX
    clear hX
    refine Calls.mono ?_ (R := fun e w' => (∃ r, e = .returned (.tuple #[r, .int .i64 0]) ∧ OwnB w' w.heap.size r X.data.toList) ∧ Below w.heap.size w w') (hr := fun e w' hq => ⟨by rw [if_pos rfl]; exact hq.1, hq.2⟩)
    go_enter Tryz.func21, Tryz.ntmps21
    go_wp2_with (first
      | (go_at_call 63; refine (heard_calls v b B _ HH.out HBB.out HTZ.out HSV.out).mono ?_; rw [HNS.out]; rintro e w2 ⟨⟨rfl, hlt⟩, hb2⟩; have HB2 := Lib.hid hb2; have HTZ2 := Lib.hid (HTZ.out.below hb2 (Nat.le_refl _)); clear hlt hb2)
      | (go_at_call 61; (with_reducible refine (answer_calls key ⟨user, tree, (nn : Int), 0, 0, 0⟩ (.slice none 0 0) theirs h64 _ HTZ2.out HK.out HU.out HTR.out).mono ?_); rw [show lineS key (Tk.mk user tree (nn : Int) 0 0 0).user (Tk.mk user tree (nn : Int) 0 0 0).tree (Tk.mk user tree (nn : Int) 0 0 0).ours theirs = X from HXX.out]; rintro e w3 ⟨rfl, hb3⟩; have HB3 := Lib.hid (HB2.out.trans (hb3.mono HB2.out.size)); obtain ⟨cap, w4, hconv, hcb, hb4, hgt⟩ := bytes_own X w3 (by unfold maxLen; omega); have HB4 := Lib.hid (HB3.out.trans (hb4.mono HB3.out.size)); have HBY := Lib.hid (show OwnB w4 w.heap.size (.slice (some ⟨w3.heap.size, 0, none⟩) 33 cap) X.data.toList from (by have h := hcb.more HB3.out.size; rw [hxs] at h; exact h)); clear hb3 hcb hb4 hgt))
    go_ret2
    exact ⟨⟨_, rfl, HBY.out⟩, HB4.out⟩
end Go.Proofs.YtlenlldiimohjaaGreatDoor
namespace Go.Proofs.YtlenlldiimohjaaGreatDoor
open Go.RowKit

/-- Where these stand. -/
def RB (w0 : World) (B : Nat) (v : Value) (b : List UInt8) (w : World) : Prop := Bys w B v b ∧ Below w0.heap.size w0 w ∧ B ≤ w0.heap.size
theorem RB.next {w0 w w' : World} {B : Nat} {v : Value} {b : List UInt8} (h : RB w0 B v b w) (hb : Below w.heap.size w w') : RB w0 B v b w' :=
  ⟨h.1.below (hb.mono (Nat.le_trans h.2.2 h.2.1.size)), h.2.1.trans (hb.mono h.2.1.size), h.2.2⟩
theorem RB.by_ {w0 w : World} {B : Nat} {v : Value} {b : List UInt8} (h : RB w0 B v b w) : Bys w B v b := h.1
theorem RB.low {w0 w : World} {B : Nat} {v : Value} {b : List UInt8} (h : RB w0 B v b w) : Below w0.heap.size w0 w := h.2.1
/-- What the document's heard answers. -/
def RHeard (b : List UInt8) (n : Nat) (ok : Bool) : Prop := n < 18446744073709551616 ∧ ok = (heard25 b).2 ∧ (ok = true → n = (heard25 b).1)
set_option maxRecDepth 100000 in
set_option maxHeartbeats 3200000 in
theorem refHeard_calls (v : Value) (b : List UInt8) (B : Nat) (w : World) (h : Bys w B v b) (hB : B ≤ w.heap.size) :
    Calls Tryz.prog 154 #[v] w fun e w' => (∃ (n : Nat) (ok : Bool), e = .returned (.tuple #[.int .u64 (n : Int), .bool ok]) ∧ RHeard b n ok) ∧ Below w.heap.size w w' := by
  have HH := Lib.hid h
  obtain ⟨A, cap, rfl, hcap, hm, hr⟩ := h
  have HBB := Lib.hid hB
  by_cases h25 : b.length = 25
  · have HS0 := Lib.hid (show heard25 b = _ from if_pos h25)
    obtain ⟨ad, rfl, hb, hcell⟩ := hr.2 (by omega)
    have hc8 : ¬ cap = 8 := by omega
    have hc24 : (24 : Int) ≤ (cap : Int) := by omega
    have HCUT := Lib.hid (Bys.cut (lo := 8) (hi := 24) HH.out (by omega) (by omega) (by omega))
    have hsz : (ofL ((b.take 24).drop 8)).size = 16 := by
      show ((b.take 24).drop 8).toArray.size = 16
      rw [List.size_toArray, List.length_drop, List.length_take, h25]
      rfl
    have hconv : (convert 47 9 (.slice (some ⟨ad.block, ad.off + 8, none⟩) 16 (cap - 8))).run Tryz.prog w = .ok (.string (ofL ((b.take 24).drop 8))) w := conv_any HCUT.out
    generalize (b.take 24).drop 8 = m at hconv HS0 hsz
    obtain ⟨nn, ok, hns⟩ : ∃ a c, rnumS (ofL m) = (a, c) := ⟨_, _, rfl⟩
    have hrn := rnum_num hsz
    have hlt := rnum_lt (ofL m) (Nat.le_of_eq hsz)
    rw [hns] at hrn hlt
    have HSZ := Lib.hid (Nat.le_of_eq hsz)
    have HRN := Lib.hid hrn
    have HLT := Lib.hid (show nn < 18446744073709551616 from hlt)
    have HNS := Lib.hid hns
    have HHW := Lib.hid (show RB w B (.slice (some ad) b.length cap) b w from ⟨HH.out, Below.refl _ _, HBB.out⟩)
    rw [h25] at HHW ⊢
    clear hcell hr hns HCUT hrn hsz hlt HH
    go_enter Tryz.func154, Tryz.ntmps154
    go_upto_region 4 with (go_at_call 153; (with_reducible refine (refNumber_calls (ofL m) HSZ.out _).mono ?_); rw [HNS.out]; rintro e w2 ⟨rfl, rfl⟩)
    clear hconv
    try dsimp only
    refine wp_region_held_drew (S := RB w B (.slice (some ad) 25 cap) b) (by kernel_rfl) (HHW.out.next (below_drew _)) (fun hHeld => ?_)
    generalize w.drew = wd at hHeld ⊢
    cases ok with
    | false =>
      have HS := Lib.hid (show RHeard b nn false from ⟨HLT.out, by rw [HS0.out]; show false = ((numS (ofL m)).2 && _); rw [← HRN.out.1]; rfl, fun hh => by cases hh⟩)
      refine wpAnyH_takeD 16 (i := 0) (v := .int .u64 (nn : Int)) rfl rfl (by kernel_rfl) (by kernel_rfl) (by kernel_rfl) (fun _ _ _ h => h) (Or.inl ⟨by rfl, fun wq hSw => by go_simp⟩) (by assumption) ?_
      simp only [Act.put, List.setIfInBounds_toArray, List.set_cons_zero, List.set_cons_succ]
      refine wpAnyH_takeD 17 (i := 1) (v := .bool false) rfl rfl (by kernel_rfl) (by kernel_rfl) (by kernel_rfl) (fun _ _ _ h => h) (Or.inl ⟨by rfl, fun wq hSw => by go_simp⟩) (by assumption) ?_
      simp only [Act.put, List.setIfInBounds_toArray, List.set_cons_zero, List.set_cons_succ]
      refine wpAnyH_takeD 18 (i := 2) (v := .bool false) rfl rfl (by kernel_rfl) (by kernel_rfl) (by kernel_rfl) (fun _ _ _ h => h) (Or.inl ⟨by rfl, fun wq hSw => by go_simp⟩) (by assumption) ?_
      simp only [Act.put, List.setIfInBounds_toArray, List.set_cons_zero, List.set_cons_succ]
      refine wpAnyH_takeD 19 (i := 3) (v := undef) rfl rfl (by kernel_rfl) (by kernel_rfl) (by kernel_rfl) (fun _ _ _ h => h) (Or.inr ⟨by rfl, rfl⟩) (by assumption) ?_
      simp only [Act.put, List.setIfInBounds_toArray, List.set_cons_zero, List.set_cons_succ]
      refine wpAnyH_takeD 20 (i := 4) (v := undef) rfl rfl (by kernel_rfl) (by kernel_rfl) (by kernel_rfl) (fun _ _ _ h => h) (Or.inr ⟨by rfl, rfl⟩) (by assumption) ?_
      simp only [Act.put, List.setIfInBounds_toArray, List.set_cons_zero, List.set_cons_succ]
      refine wpAnyH_takeD 21 (i := 5) (v := undef) rfl rfl (by kernel_rfl) (by kernel_rfl) (by kernel_rfl) (fun _ _ _ h => h) (Or.inr ⟨by rfl, rfl⟩) (by assumption) ?_
      simp only [Act.put, List.setIfInBounds_toArray, List.set_cons_zero, List.set_cons_succ]
      refine wpAnyH_takeD 22 (i := 6) (v := undef) rfl rfl (by kernel_rfl) (by kernel_rfl) (by kernel_rfl) (fun _ _ _ h => h) (Or.inr ⟨by rfl, rfl⟩) (by assumption) ?_
      simp only [Act.put, List.setIfInBounds_toArray, List.set_cons_zero, List.set_cons_succ]
      refine wpAnyH_takeD 23 (i := 7) (v := undef) rfl rfl (by kernel_rfl) (by kernel_rfl) (by kernel_rfl) (fun _ _ _ h => h) (Or.inr ⟨by rfl, rfl⟩) (by assumption) ?_
      simp only [Act.put, List.setIfInBounds_toArray, List.set_cons_zero, List.set_cons_succ]
      refine wpAnyH_takeD 24 (i := 8) (v := .bool false) rfl rfl (by kernel_rfl) (by kernel_rfl) (by kernel_rfl) (fun _ _ _ h => h) (Or.inl ⟨by rfl, fun wq hSw => by go_simp⟩) (by assumption) ?_
      simp only [Act.put, List.setIfInBounds_toArray, List.set_cons_zero, List.set_cons_succ]
      refine wpAnyH_takeD 2 (i := 9) (v := .int .u64 (nn : Int)) rfl rfl (by kernel_rfl) (by kernel_rfl) (by kernel_rfl) (fun _ _ _ h => h) (Or.inl ⟨by rfl, fun wq hSw => by go_simp⟩) (by assumption) ?_
      simp only [Act.put, List.setIfInBounds_toArray, List.set_cons_zero, List.set_cons_succ]
      refine wpAnyH_takeD 3 (i := 10) (v := .bool false) rfl rfl (by kernel_rfl) (by kernel_rfl) (by kernel_rfl) (fun _ _ _ h => h) (Or.inl ⟨by rfl, fun wq hSw => by go_simp⟩) (by assumption) ?_
      simp only [Act.put, List.setIfInBounds_toArray, List.set_cons_zero, List.set_cons_succ]
      refine wpAnyH_done (by kernel_rfl) ?_ _
      go_wp2_with fail
      go_ret2
      exact ⟨⟨_, _, rfl, HS.out⟩, hHeld.low⟩
    | true =>
      have HN1 := Lib.hid (show nn = (numS (ofL m)).1 from HRN.out.2 HRN.out.1.symm)
      have hbq := beq_str (ofL b) (helloS nn)
      obtain ⟨hh, hhh⟩ : ∃ z, helloS nn = z := ⟨_, rfl⟩
      rw [hhh] at hbq
      obtain ⟨d, hd⟩ : ∃ d, decide (ofL b = hh) = d := ⟨_, rfl⟩
      have HS := Lib.hid (show RHeard b nn d from ⟨HLT.out, by
        rw [HS0.out]
        show d = ((numS (ofL m)).2 && decide (helloS (numS (ofL m)).1 = ofL b))
        rw [← HRN.out.1, ← HN1.out, hhh, ← hd, Bool.true_and]
        exact decide_eq_decide.2 ⟨Eq.symm, Eq.symm⟩, fun _ => by rw [HS0.out]; exact HN1.out⟩)
      rw [hd] at hbq
      have HBQ := Lib.hid hbq
      have HHH := Lib.hid hhh
      clear hhh hd hbq
      refine wpAnyH_takeD 16 (i := 0) (v := .int .u64 (nn : Int)) rfl rfl (by kernel_rfl) (by kernel_rfl) (by kernel_rfl) (fun _ _ _ h => h) (Or.inl ⟨by rfl, fun wq hSw => by go_simp⟩) (by assumption) ?_
      simp only [Act.put, List.setIfInBounds_toArray, List.set_cons_zero, List.set_cons_succ]
      refine wpAnyH_takeD 17 (i := 1) (v := .bool true) rfl rfl (by kernel_rfl) (by kernel_rfl) (by kernel_rfl) (fun _ _ _ h => h) (Or.inl ⟨by rfl, fun wq hSw => by go_simp⟩) (by assumption) ?_
      simp only [Act.put, List.setIfInBounds_toArray, List.set_cons_zero, List.set_cons_succ]
      refine wpAnyH_takeD 18 (i := 2) (v := .bool true) rfl rfl (by kernel_rfl) (by kernel_rfl) (by kernel_rfl) (fun _ _ _ h => h) (Or.inl ⟨by rfl, fun wq hSw => by go_simp⟩) (by assumption) ?_
      simp only [Act.put, List.setIfInBounds_toArray, List.set_cons_zero, List.set_cons_succ]
      refine wpAnyH_takeD 19 (i := 3) (v := .slice (some ad) 25 cap) rfl rfl (by kernel_rfl) (by kernel_rfl) (by kernel_rfl) (fun _ _ _ h => h) (Or.inl ⟨by rfl, fun wq hSw => by go_simp⟩) (by assumption) ?_
      simp only [Act.put, List.setIfInBounds_toArray, List.set_cons_zero, List.set_cons_succ]
      refine wpAnyH_takeD 20 (i := 4) (v := .string (ofL b)) rfl rfl (by kernel_rfl) (by kernel_rfl) (by kernel_rfl) (fun _ _ _ h => h) (Or.inl ⟨by rfl, fun wq hSw => by have k := conv_any hSw.by_; go_simp⟩) (by assumption) ?_
      simp only [Act.put, List.setIfInBounds_toArray, List.set_cons_zero, List.set_cons_succ]
      refine wpAnyH_takeD 21 (i := 5) (v := .int .u64 (nn : Int)) rfl rfl (by kernel_rfl) (by kernel_rfl) (by kernel_rfl) (fun _ _ _ h => h) (Or.inl ⟨by rfl, fun wq hSw => by go_simp⟩) (by assumption) ?_
      simp only [Act.put, List.setIfInBounds_toArray, List.set_cons_zero, List.set_cons_succ]
      refine wpAnyH_ready (rs := [6]) (by kernel_rfl) (by simp) ?_
      refine AllReadyH.cons rfl (fun K hK => ?_) AllReadyH.nil
      rw [if_pos (by rfl)]
      go_simp
      (with_reducible refine (refHello_calls nn HLT.out _).mono ?_)
      rw [HHH.out]
      rintro e w5 ⟨rfl, hb⟩
      dsimp only
      have hS2 := hHeld.next hb
      clear hHeld hb
      refine hK.out _ _ hS2 (fun hHeld => ?_)
      clear hK hS2
      refine wpAnyH_takeD 23 (i := 7) (v := .bool d) rfl rfl (by kernel_rfl) (by kernel_rfl) (by kernel_rfl) (fun _ _ _ h => h) (Or.inl ⟨by rfl, fun wq hSw => by have hbq := HBQ.out; go_simp⟩) (by assumption) ?_
      simp only [Act.put, List.setIfInBounds_toArray, List.set_cons_zero, List.set_cons_succ]
      refine wpAnyH_takeD 24 (i := 8) (v := .bool d) rfl rfl (by kernel_rfl) (by kernel_rfl) (by kernel_rfl) (fun _ _ _ h => h) (Or.inl ⟨by rfl, fun wq hSw => by go_simp⟩) (by assumption) ?_
      simp only [Act.put, List.setIfInBounds_toArray, List.set_cons_zero, List.set_cons_succ]
      refine wpAnyH_takeD 2 (i := 9) (v := .int .u64 (nn : Int)) rfl rfl (by kernel_rfl) (by kernel_rfl) (by kernel_rfl) (fun _ _ _ h => h) (Or.inl ⟨by rfl, fun wq hSw => by go_simp⟩) (by assumption) ?_
      simp only [Act.put, List.setIfInBounds_toArray, List.set_cons_zero, List.set_cons_succ]
      refine wpAnyH_takeD 3 (i := 10) (v := .bool d) rfl rfl (by kernel_rfl) (by kernel_rfl) (by kernel_rfl) (fun _ _ _ h => h) (Or.inl ⟨by rfl, fun wq hSw => by go_simp⟩) (by assumption) ?_
      simp only [Act.put, List.setIfInBounds_toArray, List.set_cons_zero, List.set_cons_succ]
      refine wpAnyH_done (by kernel_rfl) ?_ _
      go_wp2_with fail
      go_ret2
      exact ⟨⟨_, _, rfl, HS.out⟩, hHeld.low⟩
  · have HS := Lib.hid (show RHeard b 0 false from ⟨Nat.zero_lt_succ _, by unfold heard25; rw [if_neg h25], fun hh => by cases hh⟩)
    have hq : ((b.length : Int) != 25) = true := by
      rw [bne_iff_ne]
      omega
    clear hr hcap h25
    go_enter Tryz.func154, Tryz.ntmps154
    go_wp2_with fail
    go_ret2
    exact ⟨⟨0, false, rfl, HS.out⟩, Below.refl _ _⟩
set_option maxRecDepth 100000 in
set_option maxHeartbeats 3200000 in
theorem refAnswer_calls (key user tree : ByteArray) (v : Value) (b : List UInt8) (theirs B : Nat) (w : World) (h : Bys w B v b) (hB : B ≤ w.heap.size) (h64 : theirs < 18446744073709551616)
    (hk : key.size ≤ maxLen) (hu : user.size ≤ maxLen) (ht : tree.size ≤ maxLen) :
    Calls Tryz.prog 130 #[.string key, .string user, .string tree, v, .int .u64 (theirs : Int)] w fun e w' =>
      (if (heard25 b).2 = true then ∃ r, e = .returned (.tuple #[r, .int .i64 0]) ∧ OwnB w' w.heap.size r (lineS key user tree ((heard25 b).1 : Int) theirs).data.toList else e = .returned (.tuple #[.slice none 0 0, .int .i64 70])) ∧ Below w.heap.size w w' := by
  have HH := Lib.hid h
  have HK := Lib.hid hk
  have HU := Lib.hid hu
  have HTR := Lib.hid ht
  have H64 := Lib.hid h64
  obtain ⟨nn, ok, hn⟩ : ∃ a c, heard25 b = (a, c) := ⟨_, _, rfl⟩
  have HNS := Lib.hid hn
  have HBB := Lib.hid hB
  rw [hn]
  clear h hk hu ht hn hB h64
  cases ok with
  | false =>
    refine Calls.mono ?_ (R := fun e w' => e = .returned (.tuple #[.slice none 0 0, .int .i64 70]) ∧ Below w.heap.size w w') (hr := fun e w' hq => ⟨by rw [if_neg (fun hh => Bool.noConfusion hh)]; exact hq.1, hq.2⟩)
    go_enter Tryz.func130, Tryz.ntmps130
    go_wp2_with (go_at_call 154; refine (refHeard_calls v b B _ HH.out HBB.out).mono ?_; rintro e w2 ⟨⟨n2, ok2, rfl, h1, h2, h3⟩, hb2⟩; obtain rfl : ok2 = false := h2.trans (by rw [HNS.out]); have HB2 := Lib.hid hb2; clear h1 h2 h3 hb2)
    go_ret2
    exact ⟨rfl, HB2.out⟩
  | true =>
    obtain ⟨X, hX⟩ : ∃ z, lineS key user tree (nn : Int) theirs = z := ⟨_, rfl⟩
    rw [hX]
    have hxs : X.size = 33 := by rw [← hX]; exact lineS_size _ _ _ _ _
    have HXX := Lib.hid hX
    clear hX
    refine Calls.mono ?_ (R := fun e w' => (∃ r, e = .returned (.tuple #[r, .int .i64 0]) ∧ OwnB w' w.heap.size r X.data.toList) ∧ Below w.heap.size w w') (hr := fun e w' hq => ⟨by rw [if_pos rfl]; exact hq.1, hq.2⟩)
    go_enter Tryz.func130, Tryz.ntmps130
    go_wp2_with (first
      | (go_at_call 154; refine (refHeard_calls v b B _ HH.out HBB.out).mono ?_; rintro e w2 ⟨⟨n2, ok2, rfl, h1, h2, h3⟩, hb2⟩; obtain rfl : ok2 = true := h2.trans (by rw [HNS.out]); obtain rfl : nn = n2 := ((h3 rfl).trans (by rw [HNS.out])).symm; have HB2 := Lib.hid hb2; clear h1 h2 h3 hb2)
      | (go_at_call 15; (with_reducible refine (authLine_calls key user tree (nn : Int) theirs H64.out _ HK.out HU.out HTR.out).mono ?_); rw [HXX.out]; rintro e w3 ⟨rfl, hb3⟩; have HB3 := Lib.hid (HB2.out.trans (hb3.mono HB2.out.size)); obtain ⟨cap, w4, hconv, hcb, hb4, hgt⟩ := bytes_own X w3 (by unfold maxLen; omega); have HB4 := Lib.hid (HB3.out.trans (hb4.mono HB3.out.size)); have HBY := Lib.hid (show OwnB w4 w.heap.size (.slice (some ⟨w3.heap.size, 0, none⟩) 33 cap) X.data.toList from (by have h := hcb.more HB3.out.size; rw [hxs] at h; exact h)); clear hb3 hcb hb4 hgt))
    go_ret2
    exact ⟨⟨_, rfl, HBY.out⟩, HB4.out⟩
set_option maxRecDepth 100000 in
set_option maxHeartbeats 3200000 in
theorem refConfirms_calls (key user tree : ByteArray) (v pv : Value) (b p : List UInt8) (theirs : Int) (B : Nat) (w : World) (h : Bys w B v b) (hp : Bys w B pv p) (hB : B ≤ w.heap.size)
    (hk : key.size ≤ maxLen) (hu : user.size ≤ maxLen) (ht : tree.size ≤ maxLen) :
    Calls Tryz.prog 131 #[.string key, .string user, .string tree, v, .int .u64 theirs, pv] w fun e w' => e = .returned (.bool (confS key user tree b theirs p)) ∧ Below w.heap.size w w' := by
  have HH := Lib.hid h
  have HPB := Lib.hid hp
  have HK := Lib.hid hk
  have HU := Lib.hid hu
  have HTR := Lib.hid ht
  have HBB := Lib.hid hB
  obtain ⟨nn, ok, hn⟩ : ∃ a c, heard25 b = (a, c) := ⟨_, _, rfl⟩
  have HNS := Lib.hid hn
  have HCS := Lib.hid (show confS key user tree b theirs p = (ok && decide (ofL p = shownS (shN key user tree 2 (nn : Int) theirs))) from by
    unfold confS
    rw [hn]
    dsimp only
    by_cases hc : ofL p = shownS (shN key user tree 2 (nn : Int) theirs)
    · have h17 : p.length = 17 := by
        have h1 := congrArg ByteArray.size hc
        rw [shownS_size] at h1
        rw [← h1]
        show p.length = p.toArray.size
        rw [List.size_toArray]
      rw [decide_eq_true hc, decide_eq_true h17, Bool.and_true]
    · rw [decide_eq_false hc, Bool.and_false])
  clear h hk hu ht hn hB hp
  go_enter Tryz.func131, Tryz.ntmps131
  go_upto_region 2 with (go_at_call 154; refine (refHeard_calls v b B _ HH.out HBB.out).mono ?_; rintro e w2 ⟨⟨n2, ok2, rfl, h1, h2, h3⟩, hb2⟩; have HA := Lib.hid (show RB w B pv p w2 from ⟨HPB.out.below (hb2.mono HBB.out), hb2, HBB.out⟩); have H3 := Lib.hid (show ok = true → n2 = nn from fun hh => (h3 (h2.trans (by rw [HNS.out]; exact hh))).trans (by rw [HNS.out])); obtain rfl : ok = ok2 := (h2.trans (by rw [HNS.out])).symm; clear h1 h2 h3 hb2)
  refine wp_region_held_drew (S := RB w B pv p) (by kernel_rfl) (HA.out.next (below_drew _)) (fun hHeld => ?_)
  generalize w2.drew = wd at hHeld ⊢
  cases ok with
  | false =>
    refine wpAnyH_takeD 20 (i := 0) (v := .bool false) rfl rfl (by kernel_rfl) (by kernel_rfl) (by kernel_rfl) (fun _ _ _ h => h) (Or.inl ⟨by rfl, fun wq hSw => by go_simp⟩) (by assumption) ?_
    simp only [Act.put, List.setIfInBounds_toArray, List.set_cons_zero, List.set_cons_succ]
    refine wpAnyH_takeD 21 (i := 1) (v := .bool false) rfl rfl (by kernel_rfl) (by kernel_rfl) (by kernel_rfl) (fun _ _ _ h => h) (Or.inl ⟨by rfl, fun wq hSw => by go_simp⟩) (by assumption) ?_
    simp only [Act.put, List.setIfInBounds_toArray, List.set_cons_zero, List.set_cons_succ]
    refine wpAnyH_takeD 22 (i := 2) (v := undef) rfl rfl (by kernel_rfl) (by kernel_rfl) (by kernel_rfl) (fun _ _ _ h => h) (Or.inr ⟨by rfl, rfl⟩) (by assumption) ?_
    simp only [Act.put, List.setIfInBounds_toArray, List.set_cons_zero, List.set_cons_succ]
    refine wpAnyH_takeD 23 (i := 3) (v := undef) rfl rfl (by kernel_rfl) (by kernel_rfl) (by kernel_rfl) (fun _ _ _ h => h) (Or.inr ⟨by rfl, rfl⟩) (by assumption) ?_
    simp only [Act.put, List.setIfInBounds_toArray, List.set_cons_zero, List.set_cons_succ]
    refine wpAnyH_takeD 24 (i := 4) (v := undef) rfl rfl (by kernel_rfl) (by kernel_rfl) (by kernel_rfl) (fun _ _ _ h => h) (Or.inr ⟨by rfl, rfl⟩) (by assumption) ?_
    simp only [Act.put, List.setIfInBounds_toArray, List.set_cons_zero, List.set_cons_succ]
    refine wpAnyH_takeD 25 (i := 5) (v := undef) rfl rfl (by kernel_rfl) (by kernel_rfl) (by kernel_rfl) (fun _ _ _ h => h) (Or.inr ⟨by rfl, rfl⟩) (by assumption) ?_
    simp only [Act.put, List.setIfInBounds_toArray, List.set_cons_zero, List.set_cons_succ]
    refine wpAnyH_takeD 26 (i := 6) (v := undef) rfl rfl (by kernel_rfl) (by kernel_rfl) (by kernel_rfl) (fun _ _ _ h => h) (Or.inr ⟨by rfl, rfl⟩) (by assumption) ?_
    simp only [Act.put, List.setIfInBounds_toArray, List.set_cons_zero, List.set_cons_succ]
    refine wpAnyH_takeD 27 (i := 7) (v := undef) rfl rfl (by kernel_rfl) (by kernel_rfl) (by kernel_rfl) (fun _ _ _ h => h) (Or.inr ⟨by rfl, rfl⟩) (by assumption) ?_
    simp only [Act.put, List.setIfInBounds_toArray, List.set_cons_zero, List.set_cons_succ]
    refine wpAnyH_takeD 28 (i := 8) (v := undef) rfl rfl (by kernel_rfl) (by kernel_rfl) (by kernel_rfl) (fun _ _ _ h => h) (Or.inr ⟨by rfl, rfl⟩) (by assumption) ?_
    simp only [Act.put, List.setIfInBounds_toArray, List.set_cons_zero, List.set_cons_succ]
    refine wpAnyH_takeD 29 (i := 9) (v := undef) rfl rfl (by kernel_rfl) (by kernel_rfl) (by kernel_rfl) (fun _ _ _ h => h) (Or.inr ⟨by rfl, rfl⟩) (by assumption) ?_
    simp only [Act.put, List.setIfInBounds_toArray, List.set_cons_zero, List.set_cons_succ]
    refine wpAnyH_takeD 30 (i := 10) (v := undef) rfl rfl (by kernel_rfl) (by kernel_rfl) (by kernel_rfl) (fun _ _ _ h => h) (Or.inr ⟨by rfl, rfl⟩) (by assumption) ?_
    simp only [Act.put, List.setIfInBounds_toArray, List.set_cons_zero, List.set_cons_succ]
    refine wpAnyH_takeD 31 (i := 11) (v := .bool false) rfl rfl (by kernel_rfl) (by kernel_rfl) (by kernel_rfl) (fun _ _ _ h => h) (Or.inl ⟨by rfl, fun wq hSw => by go_simp⟩) (by assumption) ?_
    simp only [Act.put, List.setIfInBounds_toArray, List.set_cons_zero, List.set_cons_succ]
    refine wpAnyH_takeD 12 (i := 12) (v := .bool false) rfl rfl (by kernel_rfl) (by kernel_rfl) (by kernel_rfl) (fun _ _ _ h => h) (Or.inl ⟨by rfl, fun wq hSw => by go_simp⟩) (by assumption) ?_
    simp only [Act.put, List.setIfInBounds_toArray, List.set_cons_zero, List.set_cons_succ]
    refine wpAnyH_done (by kernel_rfl) ?_ _
    go_wp2_with fail
    go_ret
    exact ⟨by rw [HCS.out]; rfl, hHeld.low⟩
  | true =>
    obtain rfl : n2 = nn := H3.out rfl
    obtain ⟨S, hS⟩ : ∃ z, shownS (shN key user tree 2 (n2 : Int) theirs) = z := ⟨_, rfl⟩
    have hbq := beq_str (ofL p) S
    rw [hS] at HCS
    have HSS := Lib.hid hS
    generalize decide (ofL p = S) = d at hbq HCS
    have HBQ := Lib.hid hbq
    clear hS hbq
    refine wpAnyH_takeD 20 (i := 0) (v := .bool true) rfl rfl (by kernel_rfl) (by kernel_rfl) (by kernel_rfl) (fun _ _ _ h => h) (Or.inl ⟨by rfl, fun wq hSw => by go_simp⟩) (by assumption) ?_
    simp only [Act.put, List.setIfInBounds_toArray, List.set_cons_zero, List.set_cons_succ]
    refine wpAnyH_takeD 21 (i := 1) (v := .bool true) rfl rfl (by kernel_rfl) (by kernel_rfl) (by kernel_rfl) (fun _ _ _ h => h) (Or.inl ⟨by rfl, fun wq hSw => by go_simp⟩) (by assumption) ?_
    simp only [Act.put, List.setIfInBounds_toArray, List.set_cons_zero, List.set_cons_succ]
    refine wpAnyH_takeD 22 (i := 2) (v := pv) rfl rfl (by kernel_rfl) (by kernel_rfl) (by kernel_rfl) (fun _ _ _ h => h) (Or.inl ⟨by rfl, fun wq hSw => by go_simp⟩) (by assumption) ?_
    simp only [Act.put, List.setIfInBounds_toArray, List.set_cons_zero, List.set_cons_succ]
    refine wpAnyH_takeD 23 (i := 3) (v := .string (ofL p)) rfl rfl (by kernel_rfl) (by kernel_rfl) (by kernel_rfl) (fun _ _ _ h => h) (Or.inl ⟨by rfl, fun wq hSw => by have k := conv_any hSw.by_; go_simp⟩) (by assumption) ?_
    simp only [Act.put, List.setIfInBounds_toArray, List.set_cons_zero, List.set_cons_succ]
    refine wpAnyH_takeD 24 (i := 4) (v := .string key) rfl rfl (by kernel_rfl) (by kernel_rfl) (by kernel_rfl) (fun _ _ _ h => h) (Or.inl ⟨by rfl, fun wq hSw => by go_simp⟩) (by assumption) ?_
    simp only [Act.put, List.setIfInBounds_toArray, List.set_cons_zero, List.set_cons_succ]
    refine wpAnyH_takeD 25 (i := 5) (v := .string user) rfl rfl (by kernel_rfl) (by kernel_rfl) (by kernel_rfl) (fun _ _ _ h => h) (Or.inl ⟨by rfl, fun wq hSw => by go_simp⟩) (by assumption) ?_
    simp only [Act.put, List.setIfInBounds_toArray, List.set_cons_zero, List.set_cons_succ]
    refine wpAnyH_takeD 26 (i := 6) (v := .string tree) rfl rfl (by kernel_rfl) (by kernel_rfl) (by kernel_rfl) (fun _ _ _ h => h) (Or.inl ⟨by rfl, fun wq hSw => by go_simp⟩) (by assumption) ?_
    simp only [Act.put, List.setIfInBounds_toArray, List.set_cons_zero, List.set_cons_succ]
    refine wpAnyH_takeD 27 (i := 7) (v := .int .u64 (n2 : Int)) rfl rfl (by kernel_rfl) (by kernel_rfl) (by kernel_rfl) (fun _ _ _ h => h) (Or.inl ⟨by rfl, fun wq hSw => by go_simp⟩) (by assumption) ?_
    simp only [Act.put, List.setIfInBounds_toArray, List.set_cons_zero, List.set_cons_succ]
    refine wpAnyH_takeD 28 (i := 8) (v := .int .u64 theirs) rfl rfl (by kernel_rfl) (by kernel_rfl) (by kernel_rfl) (fun _ _ _ h => h) (Or.inl ⟨by rfl, fun wq hSw => by go_simp⟩) (by assumption) ?_
    simp only [Act.put, List.setIfInBounds_toArray, List.set_cons_zero, List.set_cons_succ]
    refine wpAnyH_ready (rs := [9]) (by kernel_rfl) (by simp) ?_
    refine AllReadyH.cons rfl (fun K hK => ?_) AllReadyH.nil
    rw [if_pos (by rfl)]
    go_simp
    (with_reducible refine (refProof_calls key user tree (n2 : Int) theirs _ HK.out HU.out HTR.out).mono ?_)
    rw [HSS.out]
    rintro e w5 ⟨rfl, hb⟩
    dsimp only
    have hS2 := hHeld.next hb
    clear hHeld hb
    refine hK.out _ _ hS2 (fun hHeld => ?_)
    clear hK hS2
    refine wpAnyH_takeD 30 (i := 10) (v := .bool d) rfl rfl (by kernel_rfl) (by kernel_rfl) (by kernel_rfl) (fun _ _ _ h => h) (Or.inl ⟨by rfl, fun wq hSw => by have hbq := HBQ.out; go_simp⟩) (by assumption) ?_
    simp only [Act.put, List.setIfInBounds_toArray, List.set_cons_zero, List.set_cons_succ]
    refine wpAnyH_takeD 31 (i := 11) (v := .bool d) rfl rfl (by kernel_rfl) (by kernel_rfl) (by kernel_rfl) (fun _ _ _ h => h) (Or.inl ⟨by rfl, fun wq hSw => by go_simp⟩) (by assumption) ?_
    simp only [Act.put, List.setIfInBounds_toArray, List.set_cons_zero, List.set_cons_succ]
    refine wpAnyH_takeD 12 (i := 12) (v := .bool d) rfl rfl (by kernel_rfl) (by kernel_rfl) (by kernel_rfl) (fun _ _ _ h => h) (Or.inl ⟨by rfl, fun wq hSw => by go_simp⟩) (by assumption) ?_
    simp only [Act.put, List.setIfInBounds_toArray, List.set_cons_zero, List.set_cons_succ]
    refine wpAnyH_done (by kernel_rfl) ?_ _
    go_wp2_with fail
    go_ret
    exact ⟨by rw [HCS.out]; rfl, hHeld.low⟩
end Go.Proofs.YtlenlldiimohjaaGreatDoor
