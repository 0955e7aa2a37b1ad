/-
  Characters by the chapter's table are Go's own. No program in sight.
-/
import Derived.Lib.DecodeN
import Derived.Lib.TrimU
import Derived.Test.YtlenlldiimohjaaDoorULaw
namespace Go.Proofs.YtlenlldiimohjaaDoor

def withinB (s : ByteArray) (i : Nat) (lo hi : Nat) : Bool := decide (i < s.size) && (decide (lo ≤ (s.get! i).toNat) && decide ((s.get! i).toNat ≤ hi))

/-- The width of the character at place i; 0: none begins there. -/
def charW (s : ByteArray) (i : Nat) : Nat :=
  if withinB s i 0 127 then 1
  else if withinB s i 194 223 && withinB s (i + 1) 128 191 then 2
  else
    let lo := if withinB s i 224 224 then 160 else 128
    let hi := if withinB s i 237 237 then 159 else 191
    if withinB s i 224 239 && withinB s (i + 1) lo hi && withinB s (i + 2) 128 191 then 3
    else
      let lo := if withinB s i 240 240 then 144 else lo
      let hi := if withinB s i 244 244 then 143 else hi
      if withinB s i 240 244 && withinB s (i + 1) lo hi && withinB s (i + 2) 128 191 && withinB s (i + 3) 128 191 then 4 else 0

def charN (n b0 b1 b2 b3 : Nat) : Nat :=
  if b0 ≤ 127 then 1
  else if (194 ≤ b0 ∧ b0 ≤ 223) ∧ (1 < n ∧ 128 ≤ b1 ∧ b1 ≤ 191) then 2
  else if (224 ≤ b0 ∧ b0 ≤ 239) ∧ (1 < n ∧ (if b0 = 224 then 160 else 128) ≤ b1 ∧ b1 ≤ (if b0 = 237 then 159 else 191)) ∧ (2 < n ∧ 128 ≤ b2 ∧ b2 ≤ 191) then 3
  else if (240 ≤ b0 ∧ b0 ≤ 244) ∧ (1 < n ∧ (if b0 = 240 then 144 else if b0 = 224 then 160 else 128) ≤ b1 ∧ b1 ≤ (if b0 = 244 then 143 else if b0 = 237 then 159 else 191)) ∧ (2 < n ∧ 128 ≤ b2 ∧ b2 ≤ 191) ∧ (3 < n ∧ 128 ≤ b3 ∧ b3 ≤ 191) then 4 else 0

set_option maxHeartbeats 4000000 in
theorem charN_decode (n b0 b1 b2 b3 : Nat) (h0 : b0 < 256) (h1 : b1 < 256) (h2 : b2 < 256) (h3 : b3 < 256) (r k : Nat) (hd : Lib.decodeN n b0 b1 b2 b3 = (r, k)) :
    charN n b0 b1 b2 b3 = if r = 65533 ∧ k = 1 then 0 else k := by
  unfold Lib.decodeN at hd
  repeat' split at hd
  all_goals
    simp only [Prod.mk.injEq] at hd
    obtain ⟨rfl, rfl⟩ := hd
  · rw [if_neg (by omega)]; unfold charN; rw [if_pos (by omega)]
  · rw [if_neg (by omega)]; unfold charN; rw [if_neg (by omega), if_pos (by omega)]
  · rw [if_pos ⟨rfl, rfl⟩]; unfold charN; rw [if_neg (by omega), if_neg (by omega), if_neg (by omega), if_neg (by omega)]
  · rw [if_neg (by omega)]; unfold charN; rw [if_neg (by omega), if_neg (by omega)]
    rw [if_pos (by (repeat' split) <;> omega)]
  · rw [if_pos ⟨rfl, rfl⟩]; unfold charN; rw [if_neg (by omega), if_neg (by omega)]
    rw [if_neg (by (repeat' split) <;> omega), if_neg (by omega)]
  · rw [if_neg (by omega)]; unfold charN; rw [if_neg (by omega), if_neg (by omega), if_neg (by omega)]
    rw [if_pos (by (repeat' split) <;> omega)]
  · rw [if_pos ⟨rfl, rfl⟩]; unfold charN; rw [if_neg (by omega), if_neg (by omega), if_neg (by omega)]
    rw [if_neg (by (repeat' split) <;> omega)]
  · rw [if_pos ⟨rfl, rfl⟩]; unfold charN
    rw [if_neg (by omega), if_neg (by omega), if_neg (by (repeat' split) <;> omega), if_neg (by (repeat' split) <;> omega)]

theorem charW_N (s : ByteArray) (i : Nat) (hi : i < s.size) : charW s i = charN (s.size - i) (s.get! i).toNat (s.get! (i + 1)).toNat (s.get! (i + 2)).toNat (s.get! (i + 3)).toNat := by
  have e1 : decide (i + 1 < s.size) = decide (1 < s.size - i) := by rw [Bool.eq_iff_iff]; simp; omega
  have e2 : decide (i + 2 < s.size) = decide (2 < s.size - i) := by rw [Bool.eq_iff_iff]; simp; omega
  have e3 : decide (i + 3 < s.size) = decide (3 < s.size - i) := by rw [Bool.eq_iff_iff]; simp; omega
  have e0 : decide (i < s.size) = true := decide_eq_true hi
  unfold charW withinB charN
  rw [e0, e1, e2, e3]
  generalize (s.get! i).toNat = b0
  generalize (s.get! (i + 1)).toNat = b1
  generalize (s.get! (i + 2)).toNat = b2
  generalize (s.get! (i + 3)).toNat = b3
  generalize s.size - i = n
  simp only [Bool.true_and, Nat.zero_le, decide_true, Bool.and_eq_true, decide_eq_true_eq]
  have p1 : (224 ≤ b0 ∧ b0 ≤ 224) = (b0 = 224) := propext (by omega)
  have p2 : (237 ≤ b0 ∧ b0 ≤ 237) = (b0 = 237) := propext (by omega)
  have p3 : (240 ≤ b0 ∧ b0 ≤ 240) = (b0 = 240) := propext (by omega)
  have p4 : (244 ≤ b0 ∧ b0 ≤ 244) = (b0 = 244) := propext (by omega)
  simp only [p1, p2, p3, p4, and_assoc]

theorem charW_decode (s : ByteArray) (i : Nat) (hi : i < s.size) : charW s i = if (Utf8.decode s i).1 = 65533 ∧ (Utf8.decode s i).2 = 1 then 0 else (Utf8.decode s i).2 := by
  rw [charW_N s i hi, Lib.decode_at]
  exact charN_decode _ _ _ _ _ (UInt8.toNat_lt _) (UInt8.toNat_lt _) (UInt8.toNat_lt _) (UInt8.toNat_lt _) _ _ rfl

theorem withinB_lt {s : ByteArray} {i lo hi : Nat} (h : withinB s i lo hi = true) : i < s.size := by
  unfold withinB at h
  simp only [Bool.and_eq_true, decide_eq_true_eq] at h
  exact h.1

/-- The bytes of a piece: of a low character its own; of a high one all high; and it ends within the text. -/
theorem piece (s : ByteArray) (i : Nat) (hi : i < s.size) (hg : ¬ ((Utf8.decode s i).1 = 65533 ∧ (Utf8.decode s i).2 = 1)) :
    i + (Utf8.decode s i).2 ≤ s.size ∧ ((Utf8.decode s i).1 < 128 → (Utf8.decode s i).2 = 1 ∧ (s.get! i).toNat = (Utf8.decode s i).1) ∧ (128 ≤ (Utf8.decode s i).1 → ∀ j, j < (Utf8.decode s i).2 → 128 ≤ (s.get! (i + j)).toNat) := by
  rw [Lib.decode_at] at hg ⊢
  have h0 := UInt8.toNat_lt (s.get! i)
  have h1 := UInt8.toNat_lt (s.get! (i + 1))
  have h2 := UInt8.toNat_lt (s.get! (i + 2))
  have h3 := UInt8.toNat_lt (s.get! (i + 3))
  generalize hb1 : (s.get! (i + 1)).toNat = b1 at *
  generalize hb2 : (s.get! (i + 2)).toNat = b2 at *
  generalize hb3 : (s.get! (i + 3)).toNat = b3 at *
  generalize hb0 : (s.get! i).toNat = b0 at *
  generalize hd : Lib.decodeN (s.size - i) b0 b1 b2 b3 = d at *
  obtain ⟨r, k⟩ := d
  unfold Lib.decodeN at hd
  repeat' split at hd
  all_goals
    simp only [Prod.mk.injEq] at hd
    obtain ⟨rfl, rfl⟩ := hd
  · exact ⟨by omega, fun _ => ⟨rfl, rfl⟩, fun h => by omega⟩
  · refine ⟨by omega, fun h => by omega, fun _ j hj => ?_⟩
    match j, hj with
    | 0, _ => rw [Nat.add_zero]; omega
    | 1, _ => omega
  · exact absurd ⟨rfl, rfl⟩ hg
  · refine ⟨by omega, fun h => by omega, fun _ j hj => ?_⟩
    match j, hj with
    | 0, _ => rw [Nat.add_zero]; omega
    | 1, _ => omega
    | 2, _ => omega
  · exact absurd ⟨rfl, rfl⟩ hg
  · refine ⟨by omega, fun h => by omega, fun _ j hj => ?_⟩
    match j, hj with
    | 0, _ => rw [Nat.add_zero]; omega
    | 1, _ => omega
    | 2, _ => omega
    | 3, _ => omega
  · exact absurd ⟨rfl, rfl⟩ hg
  · exact absurd ⟨rfl, rfl⟩ hg

theorem zero_decode (s : ByteArray) (i : Nat) (hi : i < s.size) : ((s.get! i).toNat = 0) ↔ (Utf8.decode s i).1 = 0 := by
  by_cases hg : (Utf8.decode s i).1 = 65533 ∧ (Utf8.decode s i).2 = 1
  · rw [hg.1]
    constructor
    · intro h
      have : Utf8.decode s i = (0, 1) := by
        rw [Lib.decode_at, h]
        rfl
      rw [this] at hg
      simp at hg
    · intro h; cases h
  · obtain ⟨_, h1, h2⟩ := piece s i hi hg
    have hw := Lib.width_pos s i
    by_cases hlow : (Utf8.decode s i).1 < 128
    · rw [(h1 hlow).2]
    · have := h2 (by omega) 0 (by omega)
      rw [Nat.add_zero] at this
      constructor <;> omega

/-- The place of the first bad piece; the length: there is none. -/
def badR (s : ByteArray) : Nat → Nat → Nat
  | 0, _ => s.size
  | f + 1, i => if i < s.size then (if charW s i = 0 ∨ (s.get! i).toNat = 0 then i else badR s f (i + charW s i)) else s.size

theorem badR_good (s : ByteArray) : ∀ (f i : Nat), badR s f i = s.size ↔ goodFrom s f i = true
  | 0, i => by simp [badR, goodFrom]
  | f + 1, i => by
    unfold badR goodFrom
    by_cases hi : i < s.size
    · rw [if_pos hi, if_pos hi, charW_decode s i hi]
      simp only [zero_decode s i hi]
      have hw := Lib.width_pos s i
      by_cases hb : (Utf8.decode s i).1 = 65533 ∧ (Utf8.decode s i).2 = 1
      · rw [if_pos hb, if_pos (.inl rfl), if_pos (.inr hb)]
        constructor
        · intro h; omega
        · intro h; cases h
      · rw [if_neg hb]
        by_cases hz : (Utf8.decode s i).1 = 0
        · rw [if_pos (.inr hz), if_pos (.inl hz)]
          constructor
          · intro h; omega
          · intro h; cases h
        · rw [if_neg (by rintro (h | h); omega; exact hz h), if_neg (by rintro (h | h); exact hz h; exact hb h)]
          exact badR_good s f _
    · rw [if_neg hi, if_neg hi]; simp
end Go.Proofs.YtlenlldiimohjaaDoor
