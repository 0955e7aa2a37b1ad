
/-
  vergerlaw07.number: the number that the first sixteen digits write, or 0.
-/
import Derived.Test.YtlenlldiimohjaaGreatDoorAFreshM
namespace Go.Proofs.YtlenlldiimohjaaGreatDoor
open Go.RowKit SumLaw

theorem hexQ_le {l : List UInt8} {k m : Nat} (hk : k ≤ 15) (h : hexQ (l.take k) = some m) : m < 1152921504606846976 := by
  have h1 := hexQ_lt _ h
  have h2 : (l.take k).length ≤ 15 := by rw [List.length_take]; omega
  have h3 : (16 : Nat) ^ (l.take k).length ≤ 16 ^ 15 := Nat.pow_le_pow_right (by decide) h2
  omega
theorem hexQ_next {l : List UInt8} {k m d : Nat} {c : UInt8} (hc : l[k]? = some c) (h : hexQ (l.take k) = some m) (hv : hexW c.toNat = some d) : hexQ (l.take (k + 1)) = some (m * 16 + d) := by
  have hk := (List.getElem?_eq_some_iff.1 hc).1
  have hg : l[k] = c := (List.getElem?_eq_some_iff.1 hc).2
  rw [List.take_succ_eq_append_getElem hk, hexQ_snoc, h, hg, Option.bind_some, hv]
  rfl
set_option maxHeartbeats 1600000 in
theorem lnum_calls (v : Value) (l : List UInt8) (B : Nat) (w : World) (h : Bys w B v l) :
    Calls Tryz.prog 18 #[v] w fun e w' => e = .returned (.int .u64 ((lnum l : Nat) : Int)) ∧ w = w' := by
  obtain ⟨A, cap, rfl, hcap, hm, hr⟩ := h
  have HR := Lib.hid hr
  have hlm : l.length ≤ 9223372036854775807 := by unfold maxLen at hm; omega
  clear hr
  go_enter Tryz.func18, Tryz.ntmps18
  go_wp2_with fail
  go_loop [3, 4] (fun n i => ∃ k m : Nat, k ≤ 16 ∧ k ≤ l.length ∧ i = .int .i64 (k : Int) ∧ n = .int .u64 (m : Int) ∧ hexQ (l.take k) = some m) (fun _ i => 16 - (intOf i).toNat)
  case atStart => exact ⟨0, 0, by omega, by omega, rfl, rfl, rfl⟩
  case round =>
    obtain ⟨k, m, hk, hkl, rfl, rfl, hq⟩ := hrel
    have HQ := Lib.hid hq
    clear hq
    by_cases h16 : k < 16
    · have h16' : (k : Int) < 16 := by omega
      by_cases hlt : k < l.length
      · have hlt' : (k : Int) < (l.length : Int) := by omega
        have hml := hexQ_le (show k ≤ 15 by omega) HQ.out
        obtain ⟨ad, hA, hb, hcell⟩ := HR.out.2 (by omega)
        subst hA
        obtain ⟨c, hc⟩ : ∃ c, l[k]? = some c := ⟨l[k], List.getElem?_eq_getElem hlt⟩
        have hx := hcell k (.int .u8 (c.toNat : Int)) (by rw [List.getElem?_map, hc]; rfl)
        have HN := Lib.hid (fun d (hd : hexW c.toNat = some d) => hexQ_next hc HQ.out hd)
        have HE := Lib.hid (fun (hd : hexW c.toNat = none) => hexQ_stop (l := l.take 16) (k := k) (by rw [List.getElem?_take_of_lt h16]; exact hc) (by rw [List.take_take, Nat.min_eq_left (by omega)]; exact HQ.out) hd)
        clear hcell hc hb
        have hcl : c.toNat < 256 := c.toNat_lt
        generalize c.toNat = x at *
        by_cases h1 : 48 ≤ x ∧ x ≤ 57
        · obtain ⟨d, hd⟩ : ∃ d, x - 48 = d := ⟨_, rfl⟩
          have HD := Lib.hid (HN.out d (by unfold hexW; rw [if_pos h1, hd]))
          have a1 : (48 : Int) ≤ (x : Int) := by omega
          have a2 : (x : Int) ≤ 57 := by omega
          have e1 : IntKind.u8.wrap ((x : Int) - 48) = (d : Int) := by rw [IntKind.wrap_u8]; omega
          have e2 : IntKind.u64.wrap ((m : Int) * 16) = ((m * 16 : Nat) : Int) := by rw [IntKind.wrap_u64]; omega
          have e3 : IntKind.u64.wrap (((m * 16 : Nat) : Int) + (d : Int)) = ((m * 16 + d : Nat) : Int) := by rw [IntKind.wrap_u64]; omega
          have hd16 : d < 16 := by omega
          clear HN HE HR hcl hd hcap hm
          go_wp2_with fail
          go_round
          case rel => exact ⟨k + 1, m * 16 + d, by omega, by omega, by go_num, by go_num, HD.out⟩
          case measure => simp [intOf]; omega
        · by_cases h2 : 97 ≤ x ∧ x ≤ 102
          · obtain ⟨d, hd⟩ : ∃ d, x - 97 = d := ⟨_, rfl⟩
            have HD := Lib.hid (HN.out (d + 10) (by unfold hexW; rw [if_neg h1, if_pos h2]; congr 1; omega))
            have a1 : (48 : Int) ≤ (x : Int) := by omega
            have a2 : ¬ (x : Int) ≤ 57 := by omega
            have a3 : (97 : Int) ≤ (x : Int) := by omega
            have a4 : (x : Int) ≤ 102 := by omega
            have e1 : IntKind.u8.wrap ((x : Int) - 97) = (d : Int) := by rw [IntKind.wrap_u8]; omega
            have e2 : IntKind.u64.wrap ((m : Int) * 16) = ((m * 16 : Nat) : Int) := by rw [IntKind.wrap_u64]; omega
            have e3 : IntKind.u64.wrap (((m * 16 : Nat) : Int) + (d : Int)) = ((m * 16 + d : Nat) : Int) := by rw [IntKind.wrap_u64]; omega
            have e4 : IntKind.u64.wrap (((m * 16 + d : Nat) : Int) + 10) = ((m * 16 + d + 10 : Nat) : Int) := by rw [IntKind.wrap_u64]; omega
            have hd16 : d < 6 := by omega
            clear HN HE HR hcl hd hcap hm
            go_wp2_with fail
            go_round
            case rel => exact ⟨k + 1, m * 16 + (d + 10), by omega, by omega, by go_num, by go_num, HD.out⟩
            case measure => simp [intOf]; omega
          · have HZ := Lib.hid (show lnum l = 0 from by unfold lnum; rw [HE.out (by unfold hexW; rw [if_neg h1, if_neg h2])]; rfl)
            clear HN HE HR
            by_cases h3 : 97 ≤ x
            · have a1 : (48 : Int) ≤ (x : Int) := by omega
              have a2 : ¬ (x : Int) ≤ 57 := by omega
              have a3 : (97 : Int) ≤ (x : Int) := by omega
              have a4 : ¬ (x : Int) ≤ 102 := by omega
              clear h1 h2 h3 hcl
              go_wp2_with fail
              go_ret
              exact ⟨by rw [HZ.out]; rfl, rfl⟩
            · have a3 : ¬ (97 : Int) ≤ (x : Int) := by omega
              by_cases h4 : 48 ≤ x
              · have a1 : (48 : Int) ≤ (x : Int) := by omega
                have a2 : ¬ (x : Int) ≤ 57 := by omega
                clear h1 h2 h3 h4 hcl
                go_wp2_with fail
                go_ret
                exact ⟨by rw [HZ.out]; rfl, rfl⟩
              · have a1 : ¬ (48 : Int) ≤ (x : Int) := by omega
                clear h1 h2 h3 h4 hcl
                go_wp2_with fail
                go_ret
                exact ⟨by rw [HZ.out]; rfl, rfl⟩
      · have hlt' : ¬ (k : Int) < (l.length : Int) := by omega
        have HZ := Lib.hid (show lnum l = m from by
          have h := HQ.out
          rw [List.take_of_length_le (by omega)] at h
          unfold lnum
          rw [List.take_of_length_le (by omega), h]
          rfl)
        clear HR hlt
        go_wp2_with fail
        go_ret
        exact ⟨by rw [HZ.out]; rfl, rfl⟩
    · have h16' : ¬ (k : Int) < 16 := by omega
      have HZ := Lib.hid (show lnum l = m from by
        have h := HQ.out
        rw [show k = 16 by omega] at h
        unfold lnum
        rw [h]
        rfl)
      clear HR h16
      go_wp2_with fail
      go_ret
      exact ⟨by rw [HZ.out]; rfl, rfl⟩
end Go.Proofs.YtlenlldiimohjaaGreatDoor
