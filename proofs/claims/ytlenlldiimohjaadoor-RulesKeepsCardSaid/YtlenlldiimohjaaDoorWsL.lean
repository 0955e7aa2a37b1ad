/-
  What Wstat answers, in plain words.
-/
import Derived.Test.YtlenlldiimohjaaDoorTch
import Derived.Test.YtlenlldiimohjaaDoorChg
import Derived.Laws.EntriesVeiled
namespace Go.Proofs.YtlenlldiimohjaaDoor
open Go.ChangeShapes Go.WideShapes Go.ChangeAt Go.RowKit

/-- The first error of those that are asked for. -/
def firstE (b : Nat → Bool) (e : Nat → Int) : Nat → Int
  | 0 => 0
  | k + 1 => if (firstE b e k != 0) = true then firstE b e k else if b k = true then e k else 0
theorem first_no {b : Nat → Bool} {e : Nat → Int} {k : Nat} (h : firstE b e k = 0) (hb : b k = false) : firstE b e (k + 1) = 0 := by rw [firstE, h, if_neg (by decide), hb, if_neg (by decide)]
theorem first_yes {b : Nat → Bool} {e : Nat → Int} {k : Nat} (h : firstE b e k = 0) (hb : b k = true) : firstE b e (k + 1) = e k := by rw [firstE, h, if_neg (by decide), hb, if_pos rfl]
theorem first_stays {b : Nat → Bool} {e : Nat → Int} {k : Nat} (h : (firstE b e k != 0) = true) : ∀ m, firstE b e (k + m) = firstE b e k
  | 0 => rfl
  | m + 1 => by
    have ih := first_stays h m
    rw [← Nat.add_assoc, firstE, ih, if_pos h]
/-- What refuses the wish to change field j. -/
def eAt (L : List Acct) (user : ByteArray) (n p : Nd) (taken : Bool) (s : St) : Nat → Int
  | 5 => eMode (mineB L user n) n s
  | 7 => eMtime (mineB L user n)
  | 8 => eLen n s (rights (decide (user = n.uid)) (isMember L user n.gid) n.mode)
  | 9 => eName n s (rights (decide (user = p.uid)) (isMember L user p.gid) p.mode) taken
  | 11 => eGid L user n s
  | _ => 97
/-- The node behind the change. -/
def chN (n : Nd) (s : St) (b : Nat → Bool) : Nd :=
  { n with mode := if b 5 = true then s.mode else n.mode, mtime := if b 7 = true then s.mtime else n.mtime, length := if b 8 = true then s.length else n.length, name := if b 9 = true then s.name else n.name, gid := if b 11 = true then s.gid else n.gid }
def wstatS (L : List Acct) (user : ByteArray) (n p : Nd) (taken : Bool) (s : St) : Nd × Int :=
  if (firstE (touchB s (recS n)) (eAt L user n p taken s) 13 != 0) = true then (Nd.none, firstE (touchB s (recS n)) (eAt L user n p taken s) 13) else (chN n s (touchB s (recS n)), 0)
theorem askI_same (a k : Int) : askI a k a = false := by simp [askI]
theorem askI_keep (k h : Int) : askI k k h = false := by simp [askI]
theorem askT_same (a k : ByteArray) : askT a k a = false := by simp [askT]
theorem askT_keep (k h : ByteArray) : askT k k h = false := by simp [askT]
theorem touch_same (s : St) : ∀ i, touchB s s i = false
  | 0 => askI_same _ _ | 1 => askI_same _ _ | 2 => askI_same _ _ | 3 => askI_same _ _ | 4 => askI_same _ _ | 5 => askI_same _ _ | 6 => askI_same _ _ | 7 => askI_same _ _ | 8 => askI_same _ _
  | 9 => askT_same _ _ | 10 => askT_same _ _ | 11 => askT_same _ _ | 12 => askT_same _ _
  | _ + 13 => rfl
theorem touch_keep (h : St) : ∀ i, touchB keepS h i = false
  | 0 => askI_keep _ _ | 1 => askI_keep _ _ | 2 => askI_keep _ _ | 3 => askI_keep _ _ | 4 => askI_keep _ _ | 5 => askI_keep _ _ | 6 => askI_keep _ _ | 7 => askI_keep _ _ | 8 => askI_keep _ _
  | 9 => askT_keep _ _ | 10 => askT_keep _ _ | 11 => askT_keep _ _ | 12 => askT_keep _ _
  | _ + 13 => rfl
theorem first_none {b : Nat → Bool} {e : Nat → Int} (h : ∀ i, b i = false) : ∀ k, firstE b e k = 0
  | 0 => rfl
  | k + 1 => first_no (first_none h k) (h k)
theorem chN_none {n : Nd} {s : St} {b : Nat → Bool} (h : ∀ i, b i = false) : chN n s b = n := by
  unfold chN
  simp [h]
theorem wstat_none {L : List Acct} {user : ByteArray} {n p : Nd} {taken : Bool} {s : St} (h : ∀ i, touchB s (recS n) i = false) : wstatS L user n p taken s = (n, 0) := by
  unfold wstatS
  rw [first_none h, if_neg (by decide), chN_none h]
theorem wstat_two {L : List Acct} {user : ByteArray} {n p : Nd} {taken : Bool} {s : St} : ((wstatS L user n p taken s).2 == 0) = false ∧ (wstatS L user n p taken s).1 = Nd.none ∨ ((wstatS L user n p taken s).2 == 0) = true ∧ (wstatS L user n p taken s).1 = chN n s (touchB s (recS n)) := by
  unfold wstatS
  cases hq : (firstE (touchB s (recS n)) (eAt L user n p taken s) 13 != 0) with
  | true =>
    rw [if_pos rfl]
    refine .inl ⟨?_, rfl⟩
    simpa using hq
  | false =>
    rw [if_neg (by decide)]
    exact .inr ⟨rfl, rfl⟩
/-- Only one field, i, is touched. -/
theorem first_one {b : Nat → Bool} {e : Nat → Int} {i : Nat} (h : ∀ j, j ≠ i → b j = false) : ∀ k, firstE b e k = if i < k ∧ b i = true then e i else 0
  | 0 => by simp [firstE]
  | k + 1 => by
    rw [firstE, first_one h k]
    by_cases hi : i < k ∧ b i = true
    · rw [if_pos hi, if_pos (show i < k + 1 ∧ b i = true from ⟨by omega, hi.2⟩)]
      by_cases he : e i = 0
      · rw [he]
        have : b k = false := h k (by omega)
        simp [this]
      · rw [if_pos (by rw [bne_iff_ne]; exact he)]
    · rw [if_neg hi, if_neg (by decide)]
      by_cases hk : k = i
      · subst hk
        by_cases hb : b k = true
        · rw [if_pos hb, if_pos ⟨by omega, hb⟩]
        · rw [if_neg hb, if_neg (by intro hh; exact hb hh.2)]
      · have : b k = false := h k hk
        rw [this, if_neg (by decide), if_neg (by intro hh; exact hi ⟨by omega, hh.2⟩)]
theorem wstat_one {L : List Acct} {user : ByteArray} {n p : Nd} {taken : Bool} {s : St} (i : Nat) (hi : i < 13) (h : ∀ j, j ≠ i → touchB s (recS n) j = false) (he : (eAt L user n p taken s i == 0) = false) : ((wstatS L user n p taken s).2 == 0) = !touchB s (recS n) i := by
  unfold wstatS
  rw [first_one h]
  cases hb : touchB s (recS n) i with
  | false => simp
  | true =>
    have h3 : (if i < 13 ∧ true = true then eAt L user n p taken s i else 0) = eAt L user n p taken s i := if_pos ⟨hi, rfl⟩
    rw [h3]
    have h2 : (eAt L user n p taken s i != 0) = true := by
      show (!(eAt L user n p taken s i == 0)) = true
      rw [he]
      rfl
    rw [if_pos h2]
    exact he
/-- A wish for the length alone; for the name alone. -/
def lenS (l : Int) : St := { keepS with length := l }
def nameS (nm : ByteArray) : St := { keepS with name := nm }
theorem touch_len (l : Int) (h : St) : ∀ j, j ≠ 8 → touchB (lenS l) h j = false
  | 0, _ => askI_keep _ _ | 1, _ => askI_keep _ _ | 2, _ => askI_keep _ _ | 3, _ => askI_keep _ _ | 4, _ => askI_keep _ _ | 5, _ => askI_keep _ _ | 6, _ => askI_keep _ _ | 7, _ => askI_keep _ _ | 8, hh => absurd rfl hh
  | 9, _ => askT_keep _ _ | 10, _ => askT_keep _ _ | 11, _ => askT_keep _ _ | 12, _ => askT_keep _ _
  | _ + 13, _ => rfl
theorem touch_name (nm : ByteArray) (h : St) : ∀ j, j ≠ 9 → touchB (nameS nm) h j = false
  | 0, _ => askI_keep _ _ | 1, _ => askI_keep _ _ | 2, _ => askI_keep _ _ | 3, _ => askI_keep _ _ | 4, _ => askI_keep _ _ | 5, _ => askI_keep _ _ | 6, _ => askI_keep _ _ | 7, _ => askI_keep _ _ | 8, _ => askI_keep _ _
  | 9, hh => absurd rfl hh | 10, _ => askT_keep _ _ | 11, _ => askT_keep _ _ | 12, _ => askT_keep _ _
  | _ + 13, _ => rfl
end Go.Proofs.YtlenlldiimohjaaDoor
