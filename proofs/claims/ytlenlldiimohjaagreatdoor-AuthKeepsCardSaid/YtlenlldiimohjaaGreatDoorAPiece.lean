
/-
  vergerlaw07's piece; the program's heard, Answer, Confirms. Conditions: TZ, SV.
-/
import Derived.Test.YtlenlldiimohjaaGreatDoorARead
namespace Go.Proofs.YtlenlldiimohjaaGreatDoor
open Go.RowKit

/-- The cuts. -/
def Cuts (w : World) (B : Nat) (v : Value) (l : List Int) : Prop := (∃ A cap, v = .slice A l.length cap ∧ l.length ≤ cap ∧ Reads w B 1 A l.length (l.map fun c => .int .i64 c)) ∧ l.length ≤ 9223372036854775807 ∧ ∀ c ∈ l, -9223372036854775808 ≤ c ∧ c ≤ 9223372036854775807
theorem Cuts.below {w w' : World} {B : Nat} {v : Value} {l : List Int} (h : Cuts w B v l) (hb : Below B w w') : Cuts w' B v l := by
  obtain ⟨⟨A, cap, e, h1, h2⟩, h3⟩ := h
  exact ⟨⟨A, cap, e, h1, h2.below hb⟩, h3⟩
theorem Cuts.nil_ (w : World) (B : Nat) : Cuts w B (.slice none 0 0) [] := ⟨⟨none, 0, rfl, Nat.le_refl _, Reads.none_⟩, by simp, by simp⟩
def cutC (c : Int) : Int := if c < 0 then -(c + 1) else c
def pieceS (l : List Int) (n : Nat) : Nat := if l.length = 0 then 1 else 1 + (cutC (l.getD (n % l.length) 0) % 40).toNat
theorem pieceS_pos (l : List Int) (n : Nat) : 1 ≤ pieceS l n ∧ pieceS l n ≤ 40 := by
  unfold pieceS
  split
  · omega
  · have : 0 ≤ cutC (l.getD (n % l.length) 0) % 40 := Int.emod_nonneg _ (by decide)
    have : cutC (l.getD (n % l.length) 0) % 40 < 40 := Int.emod_lt_of_pos _ (by decide)
    omega
set_option maxHeartbeats 1600000 in
theorem piece_calls (v : Value) (l : List Int) (n B : Nat) (hn : n ≤ 1073741824) (w : World) (h : Cuts w B v l) :
    Calls Tryz.prog 62 #[v, .int .i64 (n : Int)] w fun e w' => e = .returned (.int .i64 ((pieceS l n : Nat) : Int)) ∧ w = w' := by
  obtain ⟨⟨A, cap, rfl, hcap, hr⟩, hl, hc⟩ := h
  by_cases h0 : l.length = 0
  · have HS := Lib.hid (show pieceS l n = 1 from by unfold pieceS; rw [if_pos h0])
    rw [h0]
    clear hr hc hcap
    go_enter Tryz.func62, Tryz.ntmps62
    go_wp2_with fail
    go_ret
    exact ⟨by rw [HS.out]; rfl, rfl⟩
  · have hlt : n % l.length < l.length := Nat.mod_lt _ (by omega)
    obtain ⟨ad, hA, hb, hcell⟩ := hr.2 (by omega)
    subst hA
    have hk := hcell (n % l.length) (.int .i64 (l.getD (n % l.length) 0)) (by
      rw [List.getElem?_map, List.getElem?_eq_getElem hlt, List.getD_eq_getElem?_getD, List.getElem?_eq_getElem hlt]
      rfl)
    have hrg := hc (l.getD (n % l.length) 0) (by
      rw [List.getD_eq_getElem?_getD, List.getElem?_eq_getElem hlt]
      exact List.getElem_mem hlt)
    have HS := Lib.hid (show pieceS l n = 1 + (cutC (l.getD (n % l.length) 0) % 40).toNat from by unfold pieceS; rw [if_neg h0])
    generalize hcd : l.getD (n % l.length) 0 = c at hk hrg HS
    have htm : (n : Int).tmod (l.length : Int) = ((n % l.length : Nat) : Int) := by
      rw [Int.tmod_eq_emod_of_nonneg (by omega)]
      omega
    clear hcd hcell hr hc
    have hq : ((l.length : Int) == 0) = false := by rw [beq_eq_false_iff_ne]; omega
    generalize n % l.length = m at hk htm hlt
    obtain ⟨k, hkl⟩ : ∃ k, l.length = k := ⟨_, rfl⟩
    rw [hkl] at htm hq hlt hl h0 hcap ⊢
    clear hkl
    have hml : (m : Int) < (k : Int) := by omega
    by_cases hc0 : c < 0
    · have HD := Lib.hid (show cutC c = -(c + 1) from if_pos hc0)
      obtain ⟨d, hd⟩ : ∃ d, -(c + 1) = d := ⟨_, rfl⟩
      have hd0 : 0 ≤ d := by omega
      have hw1 : wrap64 (c + 1) = c + 1 := by unfold wrap64; omega
      have hw2 : wrap64 (-(c + 1)) = d := by unfold wrap64; omega
      have ht2 : d.tmod 40 = ((d % 40).toNat : Int) := by
        rw [Int.tmod_eq_emod_of_nonneg hd0, Int.toNat_of_nonneg (Int.emod_nonneg _ (by decide))]
      have hr40 : ((d % 40).toNat : Int) < 40 := by
        have := Int.emod_lt_of_pos d (show (0 : Int) < 40 by decide)
        have := Int.emod_nonneg d (show (40 : Int) ≠ 0 by decide)
        omega
      rw [HD.out, hd] at HS
      generalize (d % 40).toNat = x at ht2 hr40 HS
      go_enter Tryz.func62, Tryz.ntmps62
      go_wp2_with fail
      go_ret
      exact ⟨by rw [HS.out]; simp, rfl⟩
    · have HD := Lib.hid (show cutC c = c from if_neg hc0)
      have hd0 : 0 ≤ c := by omega
      have ht2 : c.tmod 40 = ((c % 40).toNat : Int) := by
        rw [Int.tmod_eq_emod_of_nonneg hd0, Int.toNat_of_nonneg (Int.emod_nonneg _ (by decide))]
      have hr40 : ((c % 40).toNat : Int) < 40 := by
        have := Int.emod_lt_of_pos c (show (0 : Int) < 40 by decide)
        have := Int.emod_nonneg c (show (40 : Int) ≠ 0 by decide)
        omega
      rw [HD.out] at HS
      generalize (c % 40).toNat = x at ht2 hr40 HS
      go_enter Tryz.func62, Tryz.ntmps62
      go_wp2_with fail
      go_ret
      exact ⟨by rw [HS.out]; simp, rfl⟩
end Go.Proofs.YtlenlldiimohjaaGreatDoor
