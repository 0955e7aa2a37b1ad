
/-
  Plain laws for AuthKeeps: where a Talk stands by what it has heard. No program in sight.
-/
import Derived.Test.YtlenlldiimohjaaGreatDoorAFreshL
namespace Go.Proofs.YtlenlldiimohjaaGreatDoor
open Go.RowKit SumLaw

/-- A digit, of small letters alone. -/
def hexW (x : Nat) : Option Nat := if 48 ≤ x ∧ x ≤ 57 then some (x - 48) else if 97 ≤ x ∧ x ≤ 102 then some (x - 87) else none
def hexQ (l : List UInt8) : Option Nat := l.foldl (fun o c => o.bind fun n => (hexW c.toNat).map fun d => n * 16 + d) (some 0)
theorem hexQ_snoc (l : List UInt8) (c : UInt8) : hexQ (l ++ [c]) = (hexQ l).bind fun n => (hexW c.toNat).map fun d => n * 16 + d := by
  unfold hexQ
  rw [List.foldl_append]
  rfl
theorem hexW_hexC : ∀ d, d < 16 → hexW (hexC d).toNat = some d := by
  have key : ∀ d : Fin 16, hexW (hexC d.1).toNat = some d.1 := by decide +kernel
  exact fun d h => key ⟨d, h⟩
theorem hexQ_hexN : ∀ (k n : Nat), n < 16 ^ k → hexQ (hexN k n) = some n
  | 0, n, h => by
    have : n = 0 := by simpa using h
    subst this
    rfl
  | k + 1, n, h => by
    rw [hexN, hexQ_snoc, hexQ_hexN k (n / 16) (by rw [Nat.div_lt_iff_lt_mul (by omega)]; rw [Nat.pow_succ] at h; exact h), Option.bind_some, hexW_hexC _ (Nat.mod_lt _ (by omega)), Option.map_some]
    congr 1
    omega
theorem hexQ_none : ∀ l2 : List UInt8, l2.foldl (fun o c => o.bind fun n => (hexW c.toNat).map fun d => n * 16 + d) none = none
  | [] => rfl
  | _ :: l => hexQ_none l
theorem hexQ_stop {l : List UInt8} {k m : Nat} {c : UInt8} (hc : l[k]? = some c) (h : hexQ (l.take k) = some m) (hv : hexW c.toNat = none) : hexQ l = none := by
  have hk : k < l.length := (List.getElem?_eq_some_iff.1 hc).1
  have h1 : l = l.take k ++ c :: l.drop (k + 1) := by
    have hg : l[k] = c := (List.getElem?_eq_some_iff.1 hc).2
    rw [← hg, List.getElem_cons_drop hk, List.take_append_drop]
  unfold hexQ at h ⊢
  rw [h1, List.foldl_append, h, List.foldl_cons, Option.bind_some, hv, Option.map_none]
  exact hexQ_none _
theorem hexW_lt {x d : Nat} (h : hexW x = some d) : d < 16 := by
  unfold hexW at h
  split at h
  · injection h with h; omega
  · split at h
    · injection h with h; omega
    · cases h
/-- The number that the first sixteen digits write, or 0. -/
def lnum (l : List UInt8) : Nat := (hexQ (l.take 16)).getD 0
theorem lnum_hex (n : Nat) (h : n < 18446744073709551616) (r : List UInt8) : lnum (hexN 16 n ++ r) = n := by
  unfold lnum
  rw [List.take_append_of_le_length (by rw [hexN_len]; exact Nat.le_refl _), List.take_of_length_le (by rw [hexN_len]; exact Nat.le_refl _), hexQ_hexN 16 n (by omega)]
  rfl
theorem hexP_lt : ∀ (l : List UInt8) {n : Nat}, hexP l = some n → n < 16 ^ l.length := by
  have key : ∀ (k : Nat) (l : List UInt8), l.length = k → ∀ {n : Nat}, hexP l = some n → n < 16 ^ k := by
    intro k
    induction k with
    | zero =>
      intro l hl n h
      have : l = [] := List.eq_nil_of_length_eq_zero hl
      subst this
      injection h with h
      subst h
      decide
    | succ k ih =>
      intro l hl n h
      have hne : l ≠ [] := fun h0 => by rw [h0] at hl; cases hl
      have hs := List.dropLast_concat_getLast hne
      rw [← hs, hexP_snoc] at h
      cases hq : hexP l.dropLast with
      | none => rw [hq] at h; cases h
      | some m =>
        rw [hq, Option.bind_some] at h
        have hm := ih l.dropLast (by rw [List.length_dropLast]; omega) hq
        cases hw : hexV (l.getLast hne).toNat with
        | none => rw [hw] at h; cases h
        | some d =>
          rw [hw, Option.map_some] at h
          injection h with h
          have := hexV_lt hw
          rw [Nat.pow_succ]
          omega
  exact fun l n h => key l.length l rfl h
theorem numS_lt (s : ByteArray) (hs : s.size = 16) : (numS s).1 < 18446744073709551616 := by
  unfold numS
  cases hp : hexP s.data.toList with
  | none => exact (show (0 : Nat) < _ by decide)
  | some n =>
    have := hexP_lt s.data.toList hp
    rw [show s.data.toList.length = 16 from by rw [Array.length_toList]; exact hs] at this
    show n < _
    omega
theorem numS_eq {s : ByteArray} (h : (numS s).2 = true) : hex16 (numS s).1 = s := by
  unfold numS at h ⊢
  cases hp : hexP s.data.toList with
  | none => rw [hp] at h; cases h
  | some n =>
    rw [hp] at h
    dsimp only at h ⊢
    exact of_decide_eq_true h
/-- It is the right answer. -/
def rightS (k : ByteArray) (ours : Int) (hd : List UInt8) : Prop := ofL hd = lineS k ⟨#[117]⟩ ⟨#[]⟩ ours (lnum hd)
theorem ofL_inj {a b : List UInt8} (h : ofL a = ofL b) : a = b := by
  have h1 := congrArg (fun s : ByteArray => s.data.toList) h
  simpa [ofL] using h1
theorem right_iff (k : ByteArray) (ours : Int) (hd : List UInt8) (h33 : hd.length = 33) (hlt : lnum hd < 18446744073709551616) :
    ((numS (ofL (hd.take 16))).2 = true ∧ ofL hd = lineS k ⟨#[117]⟩ ⟨#[]⟩ ours (numS (ofL (hd.take 16))).1) ↔ rightS k ours hd := by
  have hsz : (ofL (hd.take 16)).size = 16 := by
    show (hd.take 16).toArray.size = 16
    rw [List.size_toArray, List.length_take]
    omega
  constructor
  · rintro ⟨h1, h2⟩
    have h3 := numS_eq h1
    have h4 := numS_lt _ hsz
    have h5 : hexN 16 (numS (ofL (hd.take 16))).1 = hd.take 16 := ofL_inj h3
    have h6 : lnum hd = (numS (ofL (hd.take 16))).1 := by
      have := lnum_hex _ h4 (hd.drop 16)
      rw [h5, List.take_append_drop] at this
      exact this
    unfold rightS
    rw [h6]
    exact h2
  · intro h
    unfold rightS at h
    have h1 : hd = (lineS k ⟨#[117]⟩ ⟨#[]⟩ ours (lnum hd)).data.toList := by
      have := congrArg (fun s : ByteArray => s.data.toList) h
      simpa [ofL] using this
    have h2 : ofL (hd.take 16) = hex16 (lnum hd) := by
      have := lineS_take k ⟨#[117]⟩ ⟨#[]⟩ ours (lnum hd)
      rw [← h1] at this
      exact this
    rw [h2, numS_hex _ hlt]
    exact ⟨rfl, h⟩
theorem hexQ_lt : ∀ (l : List UInt8) {n : Nat}, hexQ l = some n → n < 16 ^ l.length := by
  have key : ∀ (k : Nat) (l : List UInt8), l.length = k → ∀ {n : Nat}, hexQ l = some n → n < 16 ^ k := by
    intro k
    induction k with
    | zero =>
      intro l hl n h
      have : l = [] := List.eq_nil_of_length_eq_zero hl
      subst this
      injection h with h
      subst h
      decide
    | succ k ih =>
      intro l hl n h
      have hne : l ≠ [] := fun h0 => by rw [h0] at hl; cases hl
      have hs := List.dropLast_concat_getLast hne
      rw [← hs, hexQ_snoc] at h
      cases hq : hexQ l.dropLast with
      | none => rw [hq] at h; cases h
      | some m =>
        rw [hq, Option.bind_some] at h
        have hm := ih l.dropLast (by rw [List.length_dropLast]; omega) hq
        cases hw : hexW (l.getLast hne).toNat with
        | none => rw [hw] at h; cases h
        | some d =>
          rw [hw, Option.map_some] at h
          injection h with h
          have := hexW_lt hw
          rw [Nat.pow_succ]
          omega
  exact fun l n h => key l.length l rfl h
theorem lnum_lt (l : List UInt8) : lnum l < 18446744073709551616 := by
  unfold lnum
  cases h : hexQ (l.take 16) with
  | none => exact (show (0 : Nat) < _ by decide)
  | some n =>
    have h1 := hexQ_lt _ h
    have h2 : (l.take 16).length ≤ 16 := by rw [List.length_take]; omega
    have h3 : (16 : Nat) ^ (l.take 16).length ≤ 16 ^ 16 := Nat.pow_le_pow_right (by decide) h2
    show n < _
    omega
/-- Where the Talk of AuthKeeps stands: hd is all that has been said to it. -/
def KI (k : ByteArray) (ours : Nat) (t : Tk) (l hd : List UInt8) : Prop := t.user = ⟨#[117]⟩ ∧ t.tree = ⟨#[]⟩ ∧ t.ours = (ours : Int) ∧
  ((t.step = 1 ∧ hd = [] ∧ l = [] ∧ ∃ j : Nat, t.said = (j : Int) ∧ j < 25) ∨ (t.step = 2 ∧ l = hd ∧ hd.length < 33 ∧ t.said = 0) ∨ (t.step = 3 ∧ l = [] ∧ hd.length = 33 ∧ rightS k (ours : Int) hd ∧ ∃ j : Nat, t.said = (j : Int) ∧ j < 17) ∨ (t.step = 4 ∧ l = [] ∧ hd.length = 33 ∧ rightS k (ours : Int) hd) ∨ (t.step = 5 ∧ l = [] ∧ hd.length = 33 ∧ ¬ rightS k (ours : Int) hd))
theorem ki_first (k : ByteArray) (ours : Nat) : KI k ours ⟨⟨#[117]⟩, ⟨#[]⟩, (ours : Int), 0, 1, 0⟩ [] [] := ⟨rfl, rfl, rfl, .inl ⟨rfl, rfl, rfl, 0, rfl, by decide⟩⟩
/-- A piece of a line. -/
theorem lineRd_ki (t : Tk) (S : List UInt8) (next c : Int) (j : Nat) (hj : t.said = (j : Int)) (hjl : j < S.length) :
    (lineRd t [] S next c).e = 0 ∧ (lineRd t [] S next c).h = [] ∧ ((lineRd t [] S next c).out.length : Int) ≤ max c 0 ∧ ((lineRd t [] S next c).t = { t with step := next, said := 0 } ∨ ∃ e : Nat, e < S.length ∧ (lineRd t [] S next c).t = { t with said := (e : Int) }) := by
  have hfrom : fromN t.said S.length = j := by unfold fromN; rw [hj]; omega
  obtain ⟨e, he⟩ : ∃ e, toN t.said c S.length = e := ⟨_, rfl⟩
  have he1 : j ≤ e ∧ e ≤ S.length ∧ ((e - j : Nat) : Int) ≤ max c 0 := by
    rw [← he]
    unfold toN
    rw [hfrom]
    omega
  have hout : ((S.take e).drop j).length = e - j := by
    rw [List.length_drop, List.length_take]
    omega
  unfold lineRd
  rw [he, hfrom]
  by_cases hend : e = S.length
  · rw [if_pos hend]
    exact ⟨rfl, rfl, by rw [hout]; exact he1.2.2, .inl rfl⟩
  · rw [if_neg hend]
    exact ⟨rfl, rfl, by rw [hout]; exact he1.2.2, .inr ⟨e, by omega, rfl⟩⟩
theorem hello25 (n : Nat) : (helloS n).data.toList.length = 25 := by
  rw [helloS_list, List.length_append, List.length_append, hexN_len]
  rfl
theorem shown17 (n : Nat) : (shownS n).data.toList.length = 17 := by
  rw [shownS_list, List.length_append, hexN_len]
  rfl
theorem ki_read {k : ByteArray} {ours : Nat} {t : Tk} {l hd : List UInt8} (L : List Acct) (h : KI k ours t l hd) (c : Int) :
    ((readS L t l c).e ≠ 0 ↔ t.step = 5) ∧ ((readS L t l c).out.length : Int) ≤ max c 0 ∧ ((readS L t l c).e = 0 → KI k ours (readS L t l c).t (readS L t l c).h hd) := by
  obtain ⟨h1, h2, h3, h4⟩ := h
  rcases h4 with ⟨hs, rfl, rfl, j, hj, hjl⟩ | ⟨hs, rfl, hl, h0⟩ | ⟨hs, rfl, hl, hr, j, hj, hjl⟩ | ⟨hs, rfl, hl, hr⟩ | ⟨hs, rfl, hl, hr⟩
  · have hq : readS L t [] c = lineRd t [] (helloS t.ours.toNat).data.toList 2 c := by
      unfold readS
      rw [if_neg (by rw [hs]; decide), if_pos hs]
    obtain ⟨q1, q2, q3, q4⟩ := lineRd_ki t (helloS t.ours.toNat).data.toList 2 c j hj (by rw [hello25]; exact hjl)
    rw [hq]
    refine ⟨⟨fun h => absurd q1 h, fun h => by rw [hs] at h; cases h⟩, q3, fun _ => ?_⟩
    rw [q2]
    rcases q4 with q4 | ⟨e, he, q4⟩
    · rw [q4]
      exact ⟨h1, h2, h3, .inr (.inl ⟨rfl, rfl, by decide, rfl⟩)⟩
    · rw [q4]
      rw [hello25] at he
      exact ⟨h1, h2, h3, .inl ⟨hs, rfl, rfl, e, rfl, he⟩⟩
  · have hq : readS L t l c = ⟨t, l, [], 0⟩ := by
      unfold readS
      rw [if_neg (by rw [hs]; decide), if_neg (by rw [hs]; decide), if_neg (by rw [hs]; decide)]
    rw [hq]
    exact ⟨⟨fun h => absurd rfl h, fun h => by rw [hs] at h; cases h⟩, by show ((0 : Nat) : Int) ≤ _; omega, fun _ => ⟨h1, h2, h3, .inr (.inl ⟨hs, rfl, hl, h0⟩)⟩⟩
  · have hq : readS L t [] c = lineRd t [] (shownS (shN (keyOfUser L t.user) t.user t.tree 2 t.ours t.theirs)).data.toList 4 c := by
      unfold readS
      rw [if_neg (by rw [hs]; decide), if_neg (by rw [hs]; decide), if_pos hs]
    obtain ⟨q1, q2, q3, q4⟩ := lineRd_ki t (shownS (shN (keyOfUser L t.user) t.user t.tree 2 t.ours t.theirs)).data.toList 4 c j hj (by rw [shown17]; exact hjl)
    rw [hq]
    refine ⟨⟨fun h => absurd q1 h, fun h => by rw [hs] at h; cases h⟩, q3, fun _ => ?_⟩
    rw [q2]
    rcases q4 with q4 | ⟨e, he, q4⟩
    · rw [q4]
      exact ⟨h1, h2, h3, .inr (.inr (.inr (.inl ⟨rfl, rfl, hl, hr⟩)))⟩
    · rw [q4]
      rw [shown17] at he
      exact ⟨h1, h2, h3, .inr (.inr (.inl ⟨hs, rfl, hl, hr, e, rfl, he⟩))⟩
  · have hq : readS L t [] c = ⟨t, [], [], 0⟩ := by
      unfold readS
      rw [if_neg (by rw [hs]; decide), if_neg (by rw [hs]; decide), if_neg (by rw [hs]; decide)]
    rw [hq]
    exact ⟨⟨fun h => absurd rfl h, fun h => by rw [hs] at h; cases h⟩, by show ((0 : Nat) : Int) ≤ _; omega, fun _ => ⟨h1, h2, h3, .inr (.inr (.inr (.inl ⟨hs, rfl, hl, hr⟩)))⟩⟩
  · have hq : readS L t [] c = ⟨Tk.none, [], [], 72⟩ := by
      unfold readS
      rw [if_pos hs]
    rw [hq]
    exact ⟨⟨fun _ => hs, fun _ h => by cases h⟩, by show ((0 : Nat) : Int) ≤ _; omega, fun h => by cases h⟩
theorem ki_write {k : ByteArray} {ours : Nat} {t : Tk} {l hd : List UInt8} (L : List Acct) (hk : keyOfUser L ⟨#[117]⟩ = k) (h : KI k ours t l hd) (b : List UInt8) (he : (writeS L t l b).e = 0) :
    (writeS L t l b).n = (b.length : Int) ∧ t.step = 2 ∧ KI k ours (writeS L t l b).t (writeS L t l b).h (hd ++ b) := by
  obtain ⟨h1, h2, h3, h4⟩ := h
  have hs : t.step = 2 := by
    rcases Classical.em (t.step = 2) with h | h
    · exact h
    · exfalso
      unfold writeS at he
      by_cases hs1 : t.step = 1
      · rw [if_pos hs1] at he; cases he
      · rw [if_neg hs1, if_pos h] at he; cases he
  rcases h4 with ⟨hs2, _⟩ | ⟨-, rfl, hl, h0⟩ | ⟨hs2, _⟩ | ⟨hs2, _⟩ | ⟨hs2, _⟩
  · rw [hs] at hs2; cases hs2
  · have h33 : ¬ 33 < l.length + b.length := fun h => by
      unfold writeS at he
      rw [if_neg (by rw [hs]; decide), if_neg (by rw [hs]; decide), if_pos h] at he
      cases he
    by_cases hend : l.length + b.length = 33
    · have hq : writeS L t l b = heardS L t (l ++ b) b.length := by
        unfold writeS
        rw [if_neg (by rw [hs]; decide), if_neg (by rw [hs]; decide), if_neg h33, if_pos hend]
      rw [hq]
      have hlen : (l ++ b).length = 33 := by rw [List.length_append]; exact hend
      have hri := right_iff k (ours : Int) (l ++ b) hlen (lnum_lt _)
      unfold heardS
      rw [h1, h2, h3, hk]
      by_cases hr : rightS k (ours : Int) (l ++ b)
      · rw [if_pos (hri.2 hr)]
        exact ⟨rfl, hs, rfl, rfl, rfl, .inr (.inr (.inl ⟨rfl, rfl, hlen, hr, 0, h0, by decide⟩))⟩
      · rw [if_neg (fun hh => hr (hri.1 hh))]
        exact ⟨rfl, hs, rfl, rfl, rfl, .inr (.inr (.inr (.inr ⟨rfl, rfl, hlen, hr⟩)))⟩
    · have hq : writeS L t l b = ⟨t, l ++ b, b.length, 0⟩ := by
        unfold writeS
        rw [if_neg (by rw [hs]; decide), if_neg (by rw [hs]; decide), if_neg h33, if_neg hend]
      rw [hq]
      exact ⟨rfl, hs, h1, h2, h3, .inr (.inl ⟨hs, rfl, by rw [List.length_append]; omega, h0⟩)⟩
  · rw [hs] at hs2; cases hs2
  · rw [hs] at hs2; cases hs2
  · rw [hs] at hs2; cases hs2
/-- Who is in has said the answer. -/
theorem ki_end {k : ByteArray} {ours : Nat} {t : Tk} {l hd : List UInt8} (h : KI k ours t l hd) :
    (t.step = 3 ∨ t.step = 4 ↔ hd.length = 33 ∧ rightS k (ours : Int) hd) ∧ (t.step = 5 ↔ hd.length = 33 ∧ ¬ rightS k (ours : Int) hd) ∧ hd.length ≤ 33 ∧ (allowsS t ⟨#[117]⟩ ⟨#[]⟩ = 0 ↔ t.step = 4) ∧ 1 ≤ t.step ∧ t.step ≤ 5 := by
  obtain ⟨h1, h2, h3, h4⟩ := h
  have ha : allowsS t ⟨#[117]⟩ ⟨#[]⟩ = 0 ↔ t.step = 4 := by
    unfold allowsS
    rw [h1, h2]
    by_cases h : t.step = 4
    · rw [h, if_neg (by simp)]
      simp
    · rw [if_pos (.inl (by simpa using h))]
      simp [h]
  rcases h4 with ⟨hs, rfl, -, -⟩ | ⟨hs, -, hl, -⟩ | ⟨hs, -, hl, hr, -⟩ | ⟨hs, -, hl, hr⟩ | ⟨hs, -, hl, hr⟩
  · rw [hs] at ha ⊢
    exact ⟨by simp, by simp, by simp, ha, by decide, by decide⟩
  · rw [hs] at ha ⊢
    exact ⟨⟨fun h => (by rcases h with h | h <;> cases h), fun h => (by omega)⟩, ⟨fun h => (by cases h), fun h => (by omega)⟩, by omega, ha, by decide, by decide⟩
  · rw [hs] at ha ⊢
    exact ⟨⟨fun _ => ⟨hl, hr⟩, fun _ => .inl rfl⟩, ⟨fun h => (by cases h), fun h => absurd hr h.2⟩, by omega, ha, by decide, by decide⟩
  · rw [hs] at ha ⊢
    exact ⟨⟨fun _ => ⟨hl, hr⟩, fun _ => .inr rfl⟩, ⟨fun h => (by cases h), fun h => absurd hr h.2⟩, by omega, ha, by decide, by decide⟩
  · rw [hs] at ha ⊢
    exact ⟨⟨fun h => (by rcases h with h | h <;> cases h), fun h => absurd h.2 hr⟩, ⟨fun _ => ⟨hl, hr⟩, fun _ => rfl⟩, by omega, ha, by decide, by decide⟩
end Go.Proofs.YtlenlldiimohjaaGreatDoor
