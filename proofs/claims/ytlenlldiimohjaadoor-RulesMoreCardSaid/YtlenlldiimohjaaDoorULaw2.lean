/-
  Layer 6 in plain words, more: what is cut is joined again; how long a line is. No program in sight.
-/
import Derived.Test.YtlenlldiimohjaaDoorULaw
namespace Go.Proofs.YtlenlldiimohjaaDoor

theorem joinL_snoc (sep : List UInt8) : ∀ (l : List ByteArray) (x : ByteArray), joinL sep (l ++ [x]) = (if l.length = 0 then x.data.toList else joinL sep l ++ sep ++ x.data.toList)
  | [], x => rfl
  | [y], x => rfl
  | y :: z :: l, x => by
    rw [List.cons_append, List.cons_append, joinL, ← List.cons_append, joinL_snoc sep (z :: l) x]
    simp [joinL, List.append_assoc]
theorem app_ofL (a b : List UInt8) : ofL a ++ ofL b = ofL (a ++ b) := by
  apply ByteArray.ext
  simp [ofL, ByteArray.data_append]
theorem joinL_take (sep : List UInt8) : ∀ (l : List ByteArray) (k : Nat), (joinL sep (l.take k)).length ≤ (joinL sep l).length
  | [], k => by simp
  | [y], k => by cases k <;> simp [joinL]
  | y :: z :: l, 0 => by simp [joinL]
  | y :: z :: l, 1 => by simp [joinL]
  | y :: z :: l, k + 2 => by
    have := joinL_take sep (z :: l) (k + 1)
    simp only [List.take_succ_cons, joinL, List.length_append] at this ⊢
    omega
theorem lineL_len (a : Acct) : (lineL a).length = a.name.size + a.leader.size + (joinL [44] a.members).length + a.key.size + 4 := by
  unfold lineL
  simp
  omega
theorem joinL_get (sep : List UInt8) (l : List ByteArray) (k : Nat) (x : ByteArray) (h : l[k]? = some x) : (joinL sep (l.take k)).length + x.size ≤ (joinL sep l).length := by
  have h1 := joinL_take sep l (k + 1)
  obtain ⟨hl, rfl⟩ := List.getElem?_eq_some_iff.1 h
  rw [List.take_succ_eq_append_getElem hl, joinL_snoc] at h1
  split at h1
  · rename_i h0
    rw [List.length_eq_zero_iff.1 h0]
    simpa [joinL] using h1
  · simp at h1 ⊢
    omega
theorem ofL_size (l : List UInt8) : (ofL l).size = l.length := by simp [ofL, ByteArray.size]

theorem cutL_ne (c : UInt8) : ∀ l, cutL c l ≠ []
  | [] => by simp [cutL]
  | b :: l => by
    unfold cutL
    split
    · simp
    · split <;> simp
theorem joinL_cons (sep : List UInt8) (x : ByteArray) (l : List ByteArray) (h : l ≠ []) : joinL sep (x :: l) = x.data.toList ++ sep ++ joinL sep l := by
  cases l with
  | nil => exact absurd rfl h
  | cons y l => rfl
theorem joinL_cutL (c : UInt8) : ∀ l, joinL [c] ((cutL c l).map ofL) = l
  | [] => by simp [cutL, joinL, ofL]
  | b :: l => by
    have ih := joinL_cutL c l
    have hne := cutL_ne c l
    unfold cutL
    split
    · rename_i hb
      rw [List.map_cons, joinL_cons _ _ _ (by simpa using hne), ih, hb]
      simp [ofL]
    · split
      · rename_i h0
        exact absurd h0 hne
      · rename_i h t he
        rw [he] at ih
        rw [List.map_cons] at ih ⊢
        cases t with
        | nil => simp [joinL, ofL] at ih ⊢; exact ih
        | cons z t =>
          rw [List.map_cons, joinL, ← List.map_cons] at ih ⊢
          simp [ofL] at ih ⊢
          exact ih
theorem joinL_cut (c : UInt8) (s : ByteArray) : joinL [c] (cut c s) = s.data.toList := joinL_cutL c _

/-- A line that is an account is that account's line. -/
theorem lineL_account {line : ByteArray} {a : Acct} (h : account line = some a) : lineL a = line.data.toList ++ [10] := by
  unfold account at h
  split at h
  · rename_i x y z k he
    dsimp only at h
    generalize hA : ({ name := x, leader := y, members := if z.size = 0 then [] else cut 44 z, key := k } : Acct) = A at h
    by_cases hF : formed A = true
    · rw [if_pos hF] at h
      injection h with h
      subst h
      subst hA
      have hj := joinL_cut 58 line
      rw [he] at hj
      have hm : joinL [44] (if z.size = 0 then [] else cut 44 z) = z.data.toList := by
        split
        · rename_i h0
          have h0' : z.data.toList = [] := by rw [← List.length_eq_zero_iff]; simpa using h0
          rw [h0']
          rfl
        · exact joinL_cut 44 z
      unfold lineL
      rw [hm, ← hj]
      simp [joinL, List.append_assoc]
    · rw [if_neg hF] at h
      cases h
  · cases h
theorem lineL_account_len {line : ByteArray} {a : Acct} (h : account line = some a) : (lineL a).length = line.size + 1 := by
  rw [lineL_account h]; simp
theorem textL_take_succ {L : List Acct} {k : Nat} {a : Acct} (h : L[k]? = some a) : textL (L.take (k + 1)) = textL (L.take k) ++ lineL a := by
  obtain ⟨hl, rfl⟩ := List.getElem?_eq_some_iff.1 h
  unfold textL
  rw [List.take_succ_eq_append_getElem hl, List.flatMap_append]
  simp
theorem textL_take_le (L : List Acct) (k : Nat) : (textL (L.take k)).length ≤ (textL L).length := by
  conv => rhs; rw [← List.take_append_drop k L]
  simp only [textL, List.flatMap_append, List.length_append]
  omega
/-- The lines' bytes, and one for each, are the text's and one. -/
theorem cutL_sum (c : UInt8) : ∀ l : List UInt8, ((cutL c l).map (fun x => x.length + 1)).sum = l.length + 1
  | [] => rfl
  | b :: l => by
    have ih := cutL_sum c l
    unfold cutL
    split
    · simp [ih]; omega
    · split
      · rename_i h0; exact absurd h0 (cutL_ne c l)
      · rename_i h t he
        rw [he] at ih
        simp at ih ⊢
        omega
end Go.Proofs.YtlenlldiimohjaaDoor
