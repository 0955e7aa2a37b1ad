
/-
  Sixteen hexadecimal digits, in plain words. No program in sight.
-/
import Derived.Test.YtlenlldiimohjaaGreatDoorB0
namespace Go.Proofs.YtlenlldiimohjaaGreatDoor

/-- The digit d. -/
def hexC (d : Nat) : UInt8 := if d < 10 then UInt8.ofNat (48 + d) else UInt8.ofNat (87 + d)
/-- A number's digits, without zeros ahead. -/
def hexM : Nat → Nat → List UInt8
  | 0, _ => []
  | f + 1, n => if n < 16 then [hexC n] else hexM f (n / 16) ++ [hexC (n % 16)]
/-- A number's last k digits. -/
def hexN : Nat → Nat → List UInt8
  | 0, _ => []
  | k + 1, n => hexN k (n / 16) ++ [hexC (n % 16)]
theorem hexN_len : ∀ k n, (hexN k n).length = k
  | 0, _ => rfl
  | k + 1, n => by rw [hexN, List.length_append, hexN_len k]; rfl
theorem hexN_zero : ∀ k, hexN k 0 = List.replicate k 48
  | 0 => rfl
  | k + 1 => by rw [hexN, Nat.zero_div, hexN_zero k, List.replicate_succ']; rfl
theorem hexM_pad : ∀ (k n : Nat), 0 < k → n < 16 ^ k → (hexM k n).length ≤ k ∧ 0 < (hexM k n).length ∧ List.replicate (k - (hexM k n).length) 48 ++ hexM k n = hexN k n
  | 0, _, h, _ => absurd h (by omega)
  | k + 1, n, _, hn => by
    by_cases h : n < 16
    · rw [hexM, if_pos h, hexN, show n / 16 = 0 by omega, show n % 16 = n by omega, hexN_zero]
      exact ⟨by simp, by simp, by simp⟩
    · have hk : 0 < k := by
        rcases Nat.eq_zero_or_pos k with rfl | hk
        · omega
        · exact hk
      have hq : n / 16 < 16 ^ k := by
        rw [Nat.div_lt_iff_lt_mul (by omega)]
        rw [Nat.pow_succ] at hn
        exact hn
      obtain ⟨h1, h2, h3⟩ := hexM_pad k (n / 16) hk hq
      rw [hexM, if_neg h, hexN, ← h3]
      refine ⟨by simp; exact h1, by simp, ?_⟩
      rw [List.length_append, show [hexC (n % 16)].length = 1 from rfl, show k + 1 - ((hexM k (n / 16)).length + 1) = k - (hexM k (n / 16)).length by omega, List.append_assoc]
theorem hexC_inj {a b : Nat} (ha : a < 16) (hb : b < 16) (h : hexC a = hexC b) : a = b := by
  have key : ∀ x y : Fin 16, hexC x = hexC y → x = y := by decide
  exact Fin.mk.inj (key ⟨a, ha⟩ ⟨b, hb⟩ h)
theorem hexN_inj : ∀ (k : Nat) {a b : Nat}, a < 16 ^ k → b < 16 ^ k → hexN k a = hexN k b → a = b
  | 0, a, b, ha, hb, _ => by simp at ha hb; omega
  | k + 1, a, b, ha, hb, h => by
    rw [hexN, hexN] at h
    obtain ⟨h1, h2⟩ := List.append_inj' h rfl
    have h3 := hexC_inj (Nat.mod_lt a (by omega)) (Nat.mod_lt b (by omega)) (List.cons.inj h2).1
    rw [Nat.pow_succ] at ha hb
    have h4 := hexN_inj k (a := a / 16) (b := b / 16) (by rw [Nat.div_lt_iff_lt_mul (by omega)]; exact ha) (by rw [Nat.div_lt_iff_lt_mul (by omega)]; exact hb) h1
    omega
/-- As a string. -/
def hex16 (n : Nat) : ByteArray := ofL (hexN 16 n)
theorem hex16_size (n : Nat) : (hex16 n).size = 16 := by
  show (hexN 16 n).toArray.size = 16
  rw [List.size_toArray, hexN_len]
theorem hex16_inj {a b : Nat} (ha : a < 18446744073709551616) (hb : b < 18446744073709551616) (h : hex16 a = hex16 b) : a = b := by
  refine hexN_inj 16 (by omega) (by omega) ?_
  have h2 := congrArg (fun s : ByteArray => s.data.toList) h
  exact h2
end Go.Proofs.YtlenlldiimohjaaGreatDoor
