
/-
  The program's number: strconv.ParseUint at base 16 of at most sixteen bytes. Conditions: math/bits' table (TZ), strconv.ErrSyntax is an error or nil (SV).
-/
import Derived.Test.YtlenlldiimohjaaGreatDoorAFmt
import Derived.Test.YtlenlldiimohjaaGreatDoorASum
namespace Go.Proofs.YtlenlldiimohjaaGreatDoor
open Go.RowKit

/-- A digit that strconv takes. -/
def hexV (x : Nat) : Option Nat := if 48 ≤ x ∧ x ≤ 57 then some (x - 48) else if 97 ≤ (x ||| 32) ∧ (x ||| 32) ≤ 102 then some ((x ||| 32) - 87) else none
def hexP (l : List UInt8) : Option Nat := l.foldl (fun o c => o.bind fun n => (hexV c.toNat).map fun d => n * 16 + d) (some 0)
theorem hexV_lt {x d : Nat} (h : hexV x = some d) : d < 16 := by
  unfold hexV at h
  split at h
  · injection h with h; omega
  · split at h
    · injection h with h; omega
    · cases h
theorem hexP_snoc (l : List UInt8) (c : UInt8) : hexP (l ++ [c]) = (hexP l).bind fun n => (hexV c.toNat).map fun d => n * 16 + d := by
  unfold hexP
  rw [List.foldl_append]
  rfl
theorem hexP_none : ∀ l2 : List UInt8, l2.foldl (fun o c => o.bind fun n => (hexV c.toNat).map fun d => n * 16 + d) none = none
  | [] => rfl
  | _ :: l => hexP_none l
theorem hexP_stop (s : ByteArray) (k m : Nat) (hk : k < s.size) (h : hexP (s.data.toList.take k) = some m) (hv : hexV s[k].toNat = none) : hexP s.data.toList = none := by
  have h1 : hexP (s.data.toList.take (k + 1)) = none := by
    rw [take_snoc s k hk, hexP_snoc, h, hv]
    rfl
  have h2 : s.data.toList = s.data.toList.take (k + 1) ++ s.data.toList.drop (k + 1) := (List.take_append_drop _ _).symm
  rw [h2]
  unfold hexP at h1 ⊢
  rw [List.foldl_append, h1]
  exact hexP_none _
def SV (w : World) : Prop := ∃ ev, w.cell? ⟨0, 0, none⟩ = some ev ∧ (ev = .nilIface ∨ ∃ te pe, ev = .iface te pe)
theorem SV.below {w w' : World} {B : Nat} (h : SV w) (hb : Below B w w') (hB : w.heap.size ≤ B) : SV w' := by
  obtain ⟨ev, h1, h2⟩ := h
  exact ⟨ev, (hb.cell (Nat.lt_of_lt_of_le (World.block_lt_of_cell? w _ h1) hB)).trans h1, h2⟩
/-- What ParseUint gives. -/
def numE (s : ByteArray) (e : Ending) : Prop := match hexP s.data.toList with
  | some n => n < 18446744073709551616 ∧ e = .returned (.tuple #[.int .u64 (n : Int), .nilIface])
  | none => e = .returned (.tuple #[.int .u64 0, .iface 208 (.int .i64 2)])
theorem numE_no {s : ByteArray} (h : hexP s.data.toList = none) : numE s (.returned (.tuple #[.int .u64 0, .iface 208 (.int .i64 2)])) := by
  unfold numE
  rw [h]
theorem numE_yes {s : ByteArray} {n : Nat} (h : hexP s.data.toList = some n) (hn : n < 18446744073709551616) : numE s (.returned (.tuple #[.int .u64 (n : Int), .nilIface])) := by
  unfold numE
  rw [h]
  exact ⟨hn, rfl⟩
/-- '[]byte(s)': a new row of its bytes. -/
theorem bytes_of (s : ByteArray) (w : World) : ∃ (cap : Nat) (w1 : World), (convert 9 47 (.string s)).run Tryz.prog w = .ok (.slice (some ⟨w.heap.size, 0, none⟩) s.size cap) w1 ∧ (∀ j (hj : j < s.size), w1.cell? ⟨w.heap.size, j, none⟩ = some (.int .u8 (s[j].toNat : Int))) ∧ (∀ j, j < s.size → w1.frozen? ⟨w.heap.size, j, none⟩ = false) ∧ Below w.heap.size w w1 ∧ w.heap.size < w1.heap.size ∧ s.size ≤ cap ∧ (s.size ≤ maxLen → cap ≤ maxLen) := by
  have h := run_bytes_of_string (P := Tryz.prog) w 9 47 5 s Tryz.underlying9 Tryz.underlying47 Tryz.underlying5
  refine ⟨_, _, h, fun j hj => (World.cell?_alloc_mark w.drew _ 5 _ j).trans (bytesRow_at _ _ j hj), fun j hj => ?_, (Below.refl w.heap.size w).drew.alloc (Nat.le_refl _) _, by rw [World.size_alloc]; exact Nat.lt_succ_self _, grownCap_ge _ _ _ _, grownCap_le_maxLen _ _ _ _⟩
  · refine (World.frozen?_alloc_mark w.drew _ 5 _ _ j).trans ?_
    have h1 : s.size ≤ (bytesRow s (grownCap w s.size 0 5)).size := by show s.data.size ≤ _; simp [bytesRow]
    have h2 : decide ((bytesRow s (grownCap w s.size 0 5)).size ≤ j) = false := by
      rw [decide_eq_false_iff_not]
      omega
    rw [h2]
    rfl
theorem low_big : ∀ x : Nat, x < 256 → 97 ≤ x ||| 32 → 58 ≤ x := by
  have key : ∀ x : Fin 256, 97 ≤ x.1 ||| 32 → 58 ≤ x.1 := by decide +kernel
  exact fun x h => key ⟨x, h⟩
theorem low_256 : ∀ x : Nat, x < 256 → x ||| 32 < 256 := by
  have key : ∀ x : Fin 256, x.1 ||| 32 < 256 := by decide +kernel
  exact fun x h => key ⟨x, h⟩
set_option maxRecDepth 100000 in
set_option maxHeartbeats 6400000 in
theorem parse16_calls (s : ByteArray) (h1 : 0 < s.size) (h2 : s.size ≤ 16) (w : World) :
    Calls Tryz.prog 140 #[.string s, .int .i64 16, .int .i64 64] w fun e w' => numE s e ∧ Below w.heap.size w w' := by
  have he : s.toList.isEmpty = false := by
    rw [← Bool.not_eq_true, ByteArray.toList_eq, List.isEmpty_iff, ← List.length_eq_zero_iff]
    show ¬ s.data.toList.length = 0
    rw [Array.length_toList]
    exact Nat.ne_of_gt h1
  go_enter Tryz.func140, Tryz.ntmps140
  have hmv : IntKind.u64.wrap (IntKind.u64.wrap 18446744073709551616 - 1) = 18446744073709551615 := by decide
  go_upto_region 35 with (fail)
  clear hmv he
  obtain ⟨cap, w1, hconv, hc, -, hb, -⟩ := bytes_of s w
  have HC := Lib.hid hc
  have HB := Lib.hid hb
  clear hc hb
  go_wp2_with fail
  go_loop [12, 13, 101] (fun u n i => ∃ k m : Nat, k ≤ s.size ∧ u = .bool false ∧ n = .int .u64 (m : Int) ∧ i = .int .i64 (k : Int) ∧ hexP (s.data.toList.take k) = some m ∧ m < 16 ^ k) (fun _ _ i => s.size - (intOf i).toNat)
  case atStart => exact ⟨0, 0, Nat.zero_le _, rfl, rfl, rfl, rfl, by decide⟩
  case round =>
    obtain ⟨k, m, hk, rfl, rfl, rfl, hp, hm⟩ := hrel
    have HP := Lib.hid hp
    clear hp
    by_cases hlt : k < s.size
    · obtain ⟨x, hx⟩ : ∃ x, s[k].toNat = x := ⟨_, rfl⟩
      have hx256 : x < 256 := by rw [← hx]; exact s[k].toNat_lt
      have hcell := HC.out k hlt
      rw [hx] at hcell
      have HPN := Lib.hid (show ∀ d, hexV x = some d → hexP (s.data.toList.take (k + 1)) = some (m * 16 + d) from fun d hd => by
        rw [take_snoc s k hlt, hexP_snoc, HP.out, hx, hd]
        rfl)
      have HPE := Lib.hid (show hexV x = none → hexP s.data.toList = none from fun h => hexP_stop s k m hlt HP.out (by rw [hx]; exact h))
      clear hx
      have hcut : (m : Int) < 1152921504606846976 := by
        have h3 : 16 ^ k ≤ 16 ^ 15 := Nat.pow_le_pow_right (by omega) (by omega)
        omega
      have HMN := Lib.hid (show ∀ d, d < 16 → m * 16 + d < 16 ^ (k + 1) from fun d hd => by rw [Nat.pow_succ]; omega)
      clear hm
      by_cases hA : 48 ≤ x ∧ x ≤ 57
      · have a1 : (48 : Int) ≤ x := by omega
        have a2 : (x : Int) ≤ 57 := by omega
        have a3 : ((x : Int) == 95) = false := by rw [beq_eq_false_iff_ne]; omega
        have HD := Lib.hid (show hexV x = some (x - 48) from by unfold hexV; rw [if_pos hA])
        go_upto_region 46 with (fail)
        clear a1 a2 a3
        obtain ⟨d, hd⟩ : ∃ d, x - 48 = d := ⟨_, rfl⟩
        have hdx : (x : Int) - 48 = (d : Int) := by omega
        have hd16 : d < 16 := by omega
        have HQ := Lib.hid (HPN.out d (by rw [HD.out, hd]))
        have HR := Lib.hid (HMN.out d hd16)
        rw [hdx]
        have hd16' : ¬ (16 : Int) ≤ d := by omega
        have hn1 : IntKind.u64.wrap ((m : Int) * 16) = ((m * 16 : Nat) : Int) := by rw [IntKind.wrap_u64]; omega
        have hn2 : IntKind.u64.wrap (((m * 16 : Nat) : Int) + (d : Int)) = ((m * 16 + d : Nat) : Int) := by rw [IntKind.wrap_u64]; omega
        have hcut' : ¬ (1152921504606846976 : Int) ≤ (m : Int) := by omega
        clear hdx hd hA
        go_upto_region 52 with (fail)
        clear hn1 hn2 hcut' hd16'
        obtain ⟨q, hq⟩ : ∃ q, m * 16 + d = q := ⟨_, rfl⟩
        obtain ⟨p, hp⟩ : ∃ p, m * 16 = p := ⟨_, rfl⟩
        rw [show (m : Int) * 16 + (d : Int) = (q : Int) from by omega, show (m : Int) * 16 = (p : Int) from by omega]
        have hn3 : ¬ (q : Int) < (p : Int) := by omega
        have hn4 : ¬ (18446744073709551615 : Int) < (q : Int) := by omega
        rw [hq] at HQ HR
        clear hq hp hcut hd16
        go_wp2_with fail
        go_round
        case rel => exact ⟨k + 1, q, by omega, rfl, rfl, by go_num, HQ.out, HR.out⟩
        case measure => simp [intOf]; omega
      · obtain ⟨y, hy⟩ : ∃ y, x ||| 32 = y := ⟨_, rfl⟩
        have hy256 : y < 256 := by rw [← hy]; exact low_256 x hx256
        have hyb : 97 ≤ y → 58 ≤ x := by rw [← hy]; exact low_big x hx256
        have hor : bits .or .u8 (x : Int) 32 = (y : Int) := by
          rw [show (32 : Int) = ((32 : Nat) : Int) from rfl, u8_or_nat x 32 hx256 (by omega), hy]
        have HV := Lib.hid (show hexV x = if 97 ≤ y ∧ y ≤ 102 then some (y - 87) else none from by unfold hexV; rw [if_neg hA, hy])
        by_cases hB : 97 ≤ y ∧ y ≤ 102
        · have a1 : (48 : Int) ≤ x := by omega
          have a2 : ¬ (x : Int) ≤ 57 := by omega
          have b2 : (97 : Int) ≤ y := by omega
          have b3 : (y : Int) ≤ 122 := by omega
          have a3 : ((x : Int) == 95) = false := by
            rw [beq_eq_false_iff_ne]
            intro h
            have h95 : x = 95 := by omega
            rw [h95] at hy
            have : y = 127 := by rw [← hy]; rfl
            omega
          have HD := Lib.hid (show hexV x = some (y - 87) from by rw [HV.out, if_pos hB])
          clear hy hyb hA
          go_upto_region 46 with (go_at_call 162; refine (Tryz.internal_strconv_lower (x : Int) _).mono ?_; rw [hor]; rintro e w' ⟨rfl, rfl⟩)
          clear a1 a2 a3 b2 b3 hor
          obtain ⟨d, hd⟩ : ∃ d, y - 87 = d := ⟨_, rfl⟩
          have hdx : (y : Int) - 97 + 10 = (d : Int) := by omega
          have hd16 : d < 16 := by omega
          have HQ := Lib.hid (HPN.out d (by rw [HD.out, hd]))
          have HR := Lib.hid (HMN.out d hd16)
          rw [hdx]
          have hd16' : ¬ (16 : Int) ≤ d := by omega
          have hn1 : IntKind.u64.wrap ((m : Int) * 16) = ((m * 16 : Nat) : Int) := by rw [IntKind.wrap_u64]; omega
          have hn2 : IntKind.u64.wrap (((m * 16 : Nat) : Int) + (d : Int)) = ((m * 16 + d : Nat) : Int) := by rw [IntKind.wrap_u64]; omega
          have hcut' : ¬ (1152921504606846976 : Int) ≤ (m : Int) := by omega
          clear hdx hd hB
          go_upto_region 52 with (fail)
          clear hn1 hn2 hcut' hd16'
          obtain ⟨q, hq⟩ : ∃ q, m * 16 + d = q := ⟨_, rfl⟩
          obtain ⟨p, hp⟩ : ∃ p, m * 16 = p := ⟨_, rfl⟩
          rw [show (m : Int) * 16 + (d : Int) = (q : Int) from by omega, show (m : Int) * 16 = (p : Int) from by omega]
          have hn3 : ¬ (q : Int) < (p : Int) := by omega
          have hn4 : ¬ (18446744073709551615 : Int) < (q : Int) := by omega
          rw [hq] at HQ HR
          clear hq hp hcut hd16
          go_wp2_with fail
          go_round
          case rel => exact ⟨k + 1, q, by omega, rfl, rfl, by go_num, HQ.out, HR.out⟩
          case measure => simp [intOf]; omega
        · have HX := Lib.hid (show hexV x = none from by rw [HV.out, if_neg hB])
          clear HV HPN HMN hcut
          by_cases h95 : x = 95
          · subst h95
            obtain rfl : y = 127 := by rw [← hy]; rfl
            clear hyb hA hB hy hy256 hor
            go_wp2_with (go_at_call 162; refine (Tryz.internal_strconv_lower 95 _).mono ?_; rw [show bits .or .u8 95 32 = 127 from by decide]; rintro e w' ⟨rfl, rfl⟩)
            go_ret2
            exact ⟨numE_no (HPE.out HX.out), HB.out⟩
          · have a3 : ((x : Int) == 95) = false := by rw [beq_eq_false_iff_ne]; omega
            by_cases hC : 97 ≤ y ∧ y ≤ 122
            · have a1 : (48 : Int) ≤ x := by omega
              have a2 : ¬ (x : Int) ≤ 57 := by omega
              have b2 : (97 : Int) ≤ y := by omega
              have b3 : (y : Int) ≤ 122 := by omega
              go_upto_region 46 with (go_at_call 162; refine (Tryz.internal_strconv_lower (x : Int) _).mono ?_; rw [hor]; rintro e w' ⟨rfl, rfl⟩)
              clear a1 a2 a3 b2 b3 hor
              obtain ⟨d, hd⟩ : ∃ d, y - 87 = d := ⟨_, rfl⟩
              rw [show (y : Int) - 97 + 10 = (d : Int) from by omega]
              have hd16 : (16 : Int) ≤ d := by omega
              clear hy hyb hA hB hC hd h95
              go_wp2_with fail
              go_ret2
              exact ⟨numE_no (HPE.out HX.out), HB.out⟩
            · by_cases h58 : 58 ≤ x
              · have a1 : (48 : Int) ≤ x := by omega
                have a2 : ¬ (x : Int) ≤ 57 := by omega
                by_cases h97 : 97 ≤ y
                · have b2 : (97 : Int) ≤ y := by omega
                  have b3 : ¬ (y : Int) ≤ 122 := by omega
                  clear hy hyb hA hB hC h95 h58 h97
                  go_wp2_with (go_at_call 162; refine (Tryz.internal_strconv_lower (x : Int) _).mono ?_; rw [hor]; rintro e w' ⟨rfl, rfl⟩)
                  go_ret2
                  exact ⟨numE_no (HPE.out HX.out), HB.out⟩
                · have b2 : ¬ (97 : Int) ≤ y := by omega
                  clear hy hyb hA hB hC h95 h58 h97
                  go_wp2_with (go_at_call 162; refine (Tryz.internal_strconv_lower (x : Int) _).mono ?_; rw [hor]; rintro e w' ⟨rfl, rfl⟩)
                  go_ret2
                  exact ⟨numE_no (HPE.out HX.out), HB.out⟩
              · have a1 : ¬ (48 : Int) ≤ x := by omega
                have b2 : ¬ (97 : Int) ≤ y := by
                  have : ¬ 97 ≤ y := fun h => h58 (hyb h)
                  omega
                clear hy hyb hA hB hC h95 h58
                go_wp2_with (go_at_call 162; refine (Tryz.internal_strconv_lower (x : Int) _).mono ?_; rw [hor]; rintro e w' ⟨rfl, rfl⟩)
                go_ret2
                exact ⟨numE_no (HPE.out HX.out), HB.out⟩
    · have hkk : k = s.size := by omega
      have HE := Lib.hid (show hexP s.data.toList = some m from by
        have h := HP.out
        rw [List.take_of_length_le (by rw [Array.length_toList]; exact Nat.le_of_eq hkk.symm)] at h
        exact h)
      have HM := Lib.hid (show m < 18446744073709551616 from by
        have h3 : 16 ^ k ≤ 16 ^ 16 := Nat.pow_le_pow_right (by omega) (by omega)
        omega)
      clear hkk
      go_wp2_with fail
      go_ret2
      exact ⟨numE_yes HE.out HM.out, HB.out⟩
set_option maxHeartbeats 1600000 in
theorem parseU_yes (s : ByteArray) (h1 : 0 < s.size) (h2 : s.size ≤ 16) (n : Nat) (hn : hexP s.data.toList = some n) (w : World) :
    Calls Tryz.prog 116 #[.string s, .int .i64 16, .int .i64 64] w fun e w' => (n < 18446744073709551616 ∧ e = .returned (.tuple #[.int .u64 (n : Int), .nilIface])) ∧ Below w.heap.size w w' := by
  have HN := Lib.hid hn
  clear hn
  go_enter Tryz.func116, Tryz.ntmps116
  go_wp2_with (go_at_call 140; refine (parse16_calls s h1 h2 _).mono ?_; unfold numE; rw [HN.out]; rintro e w' ⟨⟨hlt, rfl⟩, hb⟩; have HB := Lib.hid hb; have HL := Lib.hid hlt; clear hb hlt)
  go_ret2
  exact ⟨⟨HL.out, rfl⟩, HB.out⟩
set_option maxHeartbeats 1600000 in
theorem parseU_no (s : ByteArray) (h1 : 0 < s.size) (h2 : s.size ≤ 16) (hn : hexP s.data.toList = none) (w : World) (hs : SV w) :
    Calls Tryz.prog 116 #[.string s, .int .i64 16, .int .i64 64] w fun e w' => (∃ t p, e = .returned (.tuple #[.int .u64 0, .iface t p])) ∧ Below w.heap.size w w' := by
  have HN := Lib.hid hn
  have HS := Lib.hid hs
  clear hn hs
  go_enter Tryz.func116, Tryz.ntmps116
  go_wp2_with (first
    | (go_at_call 140; refine (parse16_calls s h1 h2 _).mono ?_; unfold numE; rw [HN.out]; rintro e w1 ⟨rfl, hb⟩; have HB := Lib.hid hb; obtain ⟨ev, hev1, hev2⟩ := HS.out.below hb (Nat.le_refl _); have HE1 := Lib.hid hev1; have HE2 := Lib.hid hev2; clear hb hev1 hev2)
    | (go_at_call 141; refine (Tryz.strconv_toError_syntax ⟨#[80, 97, 114, 115, 101, 85, 105, 110, 116]⟩ s 16 64 ev _ (by omega) HE1.out HE2.out).mono ?_; rintro e w2 ⟨N, rfl, -, -, hb⟩; replace HB := Lib.hid (HB.out.trans (hb.mono HB.out.size)); clear hb))
  go_ret2
  exact ⟨⟨_, _, rfl⟩, HB.out⟩
/-- What the program's number answers. -/
def numS (s : ByteArray) : Nat × Bool := match hexP s.data.toList with
  | some n => (n, decide (hex16 n = s))
  | none => (0, false)
set_option maxHeartbeats 1600000 in
theorem number_calls (s : ByteArray) (h1 : 0 < s.size) (h2 : s.size ≤ 16) (w : World) (hs : SV w) (ht : TZ w) :
    Calls Tryz.prog 60 #[.string s] w fun e w' => e = .returned (.tuple #[.int .u64 ((numS s).1 : Int), .bool (numS s).2]) ∧ (numS s).1 < 18446744073709551616 ∧ Below w.heap.size w w' := by
  have HS := Lib.hid hs
  have HT := Lib.hid ht
  clear hs ht
  cases hp : hexP s.data.toList with
  | some n =>
    have HP := Lib.hid hp
    have HQ := Lib.hid (show numS s = (n, decide (hex16 n = s)) from by unfold numS; rw [hp])
    clear hp
    have hbeq := beq_str (hex16 n) s
    obtain ⟨t, htt⟩ : ∃ t, hex16 n = t := ⟨_, rfl⟩
    rw [htt] at hbeq
    have HTT := Lib.hid htt
    clear htt
    go_enter Tryz.func60, Tryz.ntmps60
    go_wp2_with (first
      | (go_at_call 116; refine (parseU_yes s h1 h2 n HP.out _).mono ?_; rintro e w' ⟨⟨hlt, rfl⟩, hb⟩; have HB := Lib.hid hb; have HL := Lib.hid hlt; have HT2 := Lib.hid (HT.out.below hb (Nat.le_refl _)); clear hb hlt)
      | (go_at_call 114; refine (digits_calls n HL.out _ HT2.out).mono ?_; rw [HTT.out]; rintro e w2 ⟨rfl, hb⟩; replace HB := Lib.hid (HB.out.trans (hb.mono HB.out.size)); clear hb))
    go_ret2
    exact ⟨by rw [HQ.out, HTT.out]; rfl, by rw [HQ.out]; exact HL.out, HB.out⟩
  | none =>
    have HP := Lib.hid hp
    have HQ := Lib.hid (show numS s = (0, false) from by unfold numS; rw [hp])
    clear hp
    go_enter Tryz.func60, Tryz.ntmps60
    go_wp2_with (go_at_call 116; refine (parseU_no s h1 h2 HP.out _ HS.out).mono ?_; rintro e w' ⟨⟨t, p, rfl⟩, hb⟩; have HB := Lib.hid hb; clear hb)
    go_ret2
    exact ⟨by rw [HQ.out]; rfl, by rw [HQ.out]; decide, HB.out⟩
end Go.Proofs.YtlenlldiimohjaaGreatDoor
