
/-
  The table of the laws of layer 7, in plain words: two accounts, one with a key. No program in sight.
-/
import Derived.Test.YtlenlldiimohjaaGreatDoorG1
namespace Go.Proofs.YtlenlldiimohjaaGreatDoor

def vA : Acct := { name := ⟨#[118]⟩, leader := ⟨#[]⟩, members := [], key := ⟨#[]⟩ }
def uA (k : ByteArray) : Acct := { name := ⟨#[117]⟩, leader := ⟨#[]⟩, members := [], key := k }
theorem key_no {k : ByteArray} (h : isKey k = true) : k.size ≤ 32 ∧ (∀ x ∈ k.data.toList, x ≠ 10) ∧ (∀ x ∈ k.data.toList, x ≠ 58) := by
  unfold isKey at h
  rw [Bool.and_eq_true, decide_eq_true_iff, List.all_eq_true] at h
  refine ⟨h.1, fun x hx hc => ?_, fun x hx hc => ?_⟩
  · have := h.2 x hx
    rw [hc] at this
    exact absurd this (by decide)
  · have := h.2 x hx
    rw [hc] at this
    exact absurd this (by decide)
theorem acct_v : account (ofL [118, 58, 58, 58]) = some vA := by kernel_rfl
theorem acct_u {k : ByteArray} (h : isKey k = true) : account (ofL ([117, 58, 58, 58] ++ k.data.toList)) = some (uA k) := by
  have hc : cut 58 (ofL ([117, 58, 58, 58] ++ k.data.toList)) = [⟨#[117]⟩, ⟨#[]⟩, ⟨#[]⟩, k] := by
    unfold cut
    rw [show (ofL ([117, 58, 58, 58] ++ k.data.toList)).data.toList = [117] ++ 58 :: ([] ++ 58 :: ([] ++ 58 :: k.data.toList)) from by simp [ofL]]
    rw [cutL_hit 58 _ [117] (by decide), cutL_hit 58 _ [] (by simp), cutL_hit 58 _ [] (by simp), cutL_none 58 _ (key_no h).2.2]
    simp only [List.map_cons, List.map_nil, ofL_toList]
    rfl
  unfold account
  rw [hc]
  have hf : formed (uA k) = true := by
    unfold formed uA
    have h1 : isName ⟨#[117]⟩ = true := by kernel_rfl
    show (isName ⟨#[117]⟩ && (decide ((⟨#[]⟩ : ByteArray).size = 0) || isName ⟨#[]⟩) && [].all isName && isKey k) = true
    rw [h1, h]
    rfl
  show (if formed (uA k) = true then some (uA k) else none) = _
  rw [if_pos hf]
/-- The law's table. -/
def tabL (k : ByteArray) : List Acct := [vA, uA k]
def tabT (k : ByteArray) : ByteArray := ofL ([118, 58, 58, 58, 10, 117, 58, 58, 58] ++ k.data.toList ++ [10])
theorem parse_tab {k : ByteArray} (h : isKey k = true) : parse (tabT k) = .ok (tabL k) := by
  obtain ⟨hs, h10, -⟩ := key_no h
  have hsz : k.data.toList.length ≤ 32 := by rw [Array.length_toList]; exact hs
  have hc : cut 10 (tabT k) = [ofL [118, 58, 58, 58], ofL ([117, 58, 58, 58] ++ k.data.toList), ofL []] := by
    unfold cut tabT
    rw [show (ofL ([118, 58, 58, 58, 10, 117, 58, 58, 58] ++ k.data.toList ++ [10])).data.toList = [118, 58, 58, 58] ++ 10 :: (([117, 58, 58, 58] ++ k.data.toList) ++ 10 :: []) from by simp [ofL]]
    rw [cutL_hit 10 _ [118, 58, 58, 58] (by decide), cutL_hit 10 _ ([117, 58, 58, 58] ++ k.data.toList) (by
      intro x hx
      rcases List.mem_append.1 hx with hx | hx
      · have key : ∀ x ∈ ([117, 58, 58, 58] : List UInt8), x ≠ 10 := by decide
        exact key x hx
      · exact h10 x hx)]
    rfl
  have hz : ¬ 65536 < (tabT k).size := by
    show ¬ 65536 < (([118, 58, 58, 58, 10, 117, 58, 58, 58] ++ k.data.toList ++ [10] : List UInt8).toArray).size
    simp
    omega
  have e1 : ¬ ((ofL [118, 58, 58, 58]).size = 0 ∨ (ofL [118, 58, 58, 58]).data.toList.head? = some 35) := by decide
  have e2 : ¬ ((ofL ([117, 58, 58, 58] ++ k.data.toList)).size = 0 ∨ (ofL ([117, 58, 58, 58] ++ k.data.toList)).data.toList.head? = some 35) := by
    intro hh
    rcases hh with hh | hh
    · have : (([117, 58, 58, 58] ++ k.data.toList : List UInt8).toArray).size = 0 := hh
      simp at this
    · simp [ofL] at hh
  have e3 : (ofL []).size = 0 ∨ (ofL []).data.toList.head? = some 35 := .inl rfl
  have hr : readLines [ofL [118, 58, 58, 58], ofL ([117, 58, 58, 58] ++ k.data.toList), ofL []] 0 [] [] = .ok (tabL k, [1, 2]) := by
    rw [readLines, if_neg e1, acct_v]
    dsimp only
    rw [if_neg (by decide), readLines, if_neg e2, acct_u h]
    dsimp only
    have hk : ¬ (known ([] ++ [vA]) (uA k).name = true ∨ twice (uA k).members = true) := by
      show ¬ (known [vA] ⟨#[117]⟩ = true ∨ twice [] = true)
      decide
    rw [if_neg hk, readLines, if_pos e3, readLines]
    rfl
  have hn : checkNames (tabL k) (tabL k) [1, 2] = none := by
    unfold tabL
    rw [checkNames, if_pos (by rfl), checkNames, if_pos (by rfl), checkNames]
    intro a L p P h
    cases h
  have ht : ¬ 65536 < (textL (tabL k)).length := by
    unfold tabL textL
    simp [lineL, vA, uA, joinL]
    omega
  unfold parse
  rw [if_neg hz, hc, hr]
  dsimp only
  rw [hn]
  dsimp only
  rw [if_neg ht]
theorem key_tab (k : ByteArray) : keyOfUser (tabL k) ⟨#[117]⟩ = k := by
  unfold keyOfUser tabL
  rw [List.find?_cons_of_neg (by decide), List.find?_cons_of_pos (by rfl)]
  rfl
theorem key_tab_v (k : ByteArray) : keyOfUser (tabL k) ⟨#[118]⟩ = ⟨#[]⟩ := by
  unfold keyOfUser tabL
  rw [List.find?_cons_of_pos (by decide)]
  rfl
theorem known_u (k : ByteArray) : known (tabL k) ⟨#[117]⟩ = true := by rfl
theorem known_v (k : ByteArray) : known (tabL k) ⟨#[118]⟩ = true := by rfl
theorem known_w (k : ByteArray) : known (tabL k) ⟨#[119]⟩ = false := by rfl
theorem account_key {x : ByteArray} {a : Acct} (h : account x = some a) : isKey a.key = true := by
  unfold account at h
  split at h
  · rename_i x1 x2 x3 x4 hcut
    by_cases hf : formed { name := x1, leader := x2, members := if x3.size = 0 then [] else cut 44 x3, key := x4 } = true
    · rw [if_pos hf] at h
      injection h with h
      subst h
      unfold formed at hf
      rw [Bool.and_eq_true] at hf
      exact hf.2
    · rw [if_neg hf] at h
      cases h
  · cases h
/-- All accounts that are read are formed. -/
theorem readLines_formed : ∀ (l : List ByteArray) (i : Nat) (L : List Acct) (P : List Nat) {L2 : List Acct} {P2 : List Nat}, readLines l i L P = .ok (L2, P2) → (∀ a ∈ L, isKey a.key = true) → ∀ a ∈ L2, isKey a.key = true
  | [], i, L, P, L2, P2, h, ha => by
    rw [readLines] at h
    injection h with h
    injection h with h1 h2
    subst h1
    exact ha
  | x :: l, i, L, P, L2, P2, h, ha => by
    rw [readLines] at h
    split at h
    · exact readLines_formed l _ _ _ h ha
    · split at h
      · cases h
      · rename_i a hacc
        split at h
        · cases h
        · refine readLines_formed l _ _ _ h (fun b hb => ?_)
          rcases List.mem_append.1 hb with hb | hb
          · exact ha b hb
          · rw [List.mem_singleton] at hb
            subst hb
            exact account_key hacc
theorem parse_keys {s : ByteArray} {L : List Acct} (h : parse s = .ok L) (u : ByteArray) : (keyOfUser L u).size = 0 ∨ isKey (keyOfUser L u) = true := by
  unfold parse at h
  split at h
  · cases h
  · split at h
    · cases h
    · rename_i L2 P2 hr
      split at h
      · cases h
      · split at h
        · cases h
        · injection h with h
          subst h
          have hf := readLines_formed _ _ _ _ hr (by intro a ha; cases ha)
          unfold keyOfUser
          cases hfd : List.find? (fun a => decide (a.name = u)) L2 with
          | none => exact .inl rfl
          | some a => exact .inr (hf a (List.mem_of_find?_eq_some hfd))
/-- The key that the law takes. -/
def keyOk (k : ByteArray) : Prop := isKey k = true ∧ k.size ≠ 0
theorem k1_ok : keyOk ⟨#[107, 49]⟩ := ⟨by kernel_rfl, by decide⟩
theorem taken_ok {s : ByteArray} {L : List Acct} {key : ByteArray} (h : parse s = .ok L) (hk : keyOfUser L ⟨#[117]⟩ = key) (hz : key.size ≠ 0) : keyOk key := by
  rcases parse_keys h ⟨#[117]⟩ with h1 | h1
  · rw [hk] at h1; exact absurd h1 hz
  · rw [hk] at h1; exact ⟨h1, hz⟩
end Go.Proofs.YtlenlldiimohjaaGreatDoor
