/-
  M3: what the laws of package msg need of them.
-/
import Derived.Test.YtkblmloobkiloaaGreatDoorQ05
namespace Go.Proofs.YtkblmloobkiloaaGreatDoor
open Go.Lib (decDigits)

theorem decV_snoc (l : List UInt8) (c : UInt8) : decV (l ++ [c]) = decV l * 10 + (c.toNat - 48) := by
  unfold decV; rw [List.foldl_append]; rfl
theorem decDigits_all (u : Nat) : ∀ c ∈ decDigits u, isDig c = true := by
  induction u using Nat.strongRecOn with
  | ind u ih =>
    rw [decDigits]
    split
    · rename_i h
      intro c hc
      rw [List.mem_singleton] at hc
      subst hc
      unfold isDig
      rw [u8_ofNat _ (by omega), Bool.and_eq_true, decide_eq_true_iff, decide_eq_true_iff]
      omega
    · rename_i h
      intro c hc
      rcases List.mem_append.1 hc with hc | hc
      · exact ih (u / 10) (by omega) c hc
      · rw [List.mem_singleton] at hc
        subst hc
        unfold isDig
        rw [u8_ofNat _ (by omega), Bool.and_eq_true, decide_eq_true_iff, decide_eq_true_iff]
        omega
theorem decDigits_ne (u : Nat) : decDigits u ≠ [] := by
  rw [decDigits]
  split <;> simp
theorem decV_decDigits (u : Nat) : decV (decDigits u) = u := by
  induction u using Nat.strongRecOn with
  | ind u ih =>
    rw [decDigits]
    split
    · rename_i h
      show 0 * 10 + ((UInt8.ofNat (48 + u)).toNat - 48) = u
      rw [u8_ofNat _ (by omega)]
      omega
    · rename_i h
      rw [decV_snoc, ih (u / 10) (by omega), u8_ofNat _ (by omega)]
      omega
theorem decDigits_head (u : Nat) (h : 1 ≤ u) : (decDigits u).head? ≠ some 48 := by
  induction u using Nat.strongRecOn with
  | ind u ih =>
    rw [decDigits]
    split
    · rename_i h'
      intro he
      have he' : UInt8.ofNat (48 + u) = 48 := by simpa using he
      have := congrArg UInt8.toNat he'
      rw [u8_ofNat _ (by omega)] at this
      have h48 : (48 : UInt8).toNat = 48 := rfl
      omega
    · rename_i h'
      have hi := ih (u / 10) (by omega) (by omega)
      cases hd : decDigits (u / 10) with
      | nil => exact absurd hd (decDigits_ne _)
      | cons c d => rw [hd] at hi; exact hi
theorem isDig_nat {c : UInt8} (h : isDig c = true) : 48 ≤ c.toNat ∧ c.toNat ≤ 57 := by
  unfold isDig at h
  rwa [Bool.and_eq_true, decide_eq_true_iff, decide_eq_true_iff] at h
/-- A row of digits that begins with no 0 is its number's. -/
theorem decDigits_decV : ∀ (n : Nat) (d : List UInt8), d.length = n → (∀ c ∈ d, isDig c = true) → d ≠ [] → ¬ (2 ≤ d.length ∧ d.head? = some 48) → decDigits (decV d) = d := by
  intro n
  induction n with
  | zero => intro d hl _ hne; exact absurd (List.length_eq_zero_iff.1 hl) hne
  | succ n ih =>
    intro d hl ha hne hz
    obtain ⟨e, c, rfl⟩ : ∃ e c, d = e ++ [c] := ⟨d.dropLast, d.getLast hne, (List.dropLast_concat_getLast hne).symm⟩
    have hc := isDig_nat (ha c (List.mem_append_right _ List.mem_cons_self))
    have hcc : UInt8.ofNat c.toNat = c := UInt8.ofNat_toNat
    rw [List.length_append, List.length_singleton] at hl
    cases e with
    | nil =>
      show decDigits (0 * 10 + (c.toNat - 48)) = [c]
      rw [decDigits, dif_pos (by omega), show 48 + (0 * 10 + (c.toNat - 48)) = c.toNat by omega, hcc]
    | cons x e =>
      have h1 : x ≠ 48 := by
        intro hx
        exact hz ⟨by rw [List.length_append]; simp only [List.length_cons, List.length_nil]; omega, by rw [hx]; rfl⟩
      have he := ih (x :: e) (by omega) (fun y hy => ha y (List.mem_append_left _ hy)) (by simp) (by rintro ⟨_, h⟩; exact h1 (by simpa using h))
      have hv : 1 ≤ decV (x :: e) := by
        rcases Nat.eq_zero_or_pos (decV (x :: e)) with h0 | h0
        · rw [h0, decDigits, dif_pos (by omega)] at he
          injection he with he _
          exact absurd he.symm h1
        · exact h0
      rw [decV_snoc, decDigits, dif_neg (by omega), show (decV (x :: e) * 10 + (c.toNat - 48)) / 10 = decV (x :: e) by omega, he, show 48 + (decV (x :: e) * 10 + (c.toNat - 48)) % 10 = c.toNat by omega, hcc]
/-- No more of that kind stands ahead. -/
def Stops (p : UInt8 → Bool) (r : List UInt8) : Prop := ∀ c, r.head? = some c → p c = false
theorem takeWhile_app {p : UInt8 → Bool} : ∀ (a r : List UInt8), (∀ c ∈ a, p c = true) → Stops p r → (a ++ r).takeWhile p = a
  | [], [], _, _ => rfl
  | [], c :: r, _, h => by
    rw [List.nil_append, List.takeWhile_cons, h c rfl]
    rfl
  | x :: a, r, ha, h => by
    rw [List.cons_append, List.takeWhile_cons, ha x List.mem_cons_self]
    simp only [if_true]
    rw [takeWhile_app a r (fun c hc => ha c (List.mem_cons_of_mem _ hc)) h]
theorem takeWhile_parts {p : UInt8 → Bool} : ∀ l : List UInt8, l = l.takeWhile p ++ l.drop (l.takeWhile p).length ∧ (∀ c ∈ l.takeWhile p, p c = true) ∧ Stops p (l.drop (l.takeWhile p).length)
  | [] => ⟨rfl, by simp, fun c h => by simp at h⟩
  | x :: l => by
    rw [List.takeWhile_cons]
    cases hx : p x with
    | false => exact ⟨rfl, by simp, fun c h => by simp at h; rw [← h, hx]⟩
    | true =>
      obtain ⟨h1, h2, h3⟩ := takeWhile_parts (p := p) l
      simp only [if_true, List.length_cons, List.drop_succ_cons, List.cons_append]
      refine ⟨by rw [← h1], ?_, h3⟩
      intro c hc
      rcases List.mem_cons.1 hc with rfl | hc
      · exact hx
      · exact h2 c hc
theorem pNum_app (most n : Nat) (r : List UInt8) (h : n ≤ most) (hr : Stops isDig r) : pNum most (decDigits n ++ r) = .ok (n, r) := by
  unfold pNum
  rw [takeWhile_app _ _ (decDigits_all n) hr]
  dsimp only
  rw [decV_decDigits, if_neg, List.drop_left]
  rintro (h1 | ⟨h1, h2⟩ | h1)
  · exact decDigits_ne n h1
  · rcases Nat.eq_zero_or_pos n with h0 | h0
    · subst h0
      rw [decDigits, dif_pos (by decide)] at h1
      exact absurd h1 (by decide)
    · exact decDigits_head n h0 h2
  · omega
theorem pNum_ok {most n : Nat} {l r : List UInt8} (h : pNum most l = .ok (n, r)) : l = decDigits n ++ r ∧ n ≤ most ∧ Stops isDig r := by
  unfold pNum at h
  dsimp only at h
  split at h
  · cases h
  · rename_i hn
    injection h with h
    injection h with h1 h2
    obtain ⟨p1, p2, p3⟩ := takeWhile_parts (p := isDig) l
    subst h1; subst h2
    have hd := decDigits_decV _ (l.takeWhile isDig) rfl p2 (fun h => hn (.inl h)) (fun h => hn (.inr (.inl h)))
    refine ⟨by rw [hd]; exact p1, ?_, p3⟩
    have : ¬ most < decV (l.takeWhile isDig) := fun h => hn (.inr (.inr h))
    omega
theorem pWord_app (w r : List UInt8) : pWord w (w ++ r) = .ok r := by
  unfold pWord
  rw [if_pos (by rw [List.isPrefixOf_iff_prefix]; exact List.prefix_append _ _), List.drop_left]
theorem pWord_app1 (c : UInt8) (r : List UInt8) : pWord [c] (c :: r) = .ok r := pWord_app [c] r
theorem pWord_ok {w l r : List UInt8} (h : pWord w l = .ok r) : l = w ++ r := by
  unfold pWord at h
  split at h
  · rename_i hp
    rw [List.isPrefixOf_iff_prefix] at hp
    obtain ⟨t, rfl⟩ := hp
    injection h with h
    rw [← h, List.drop_left]
  · cases h
theorem hexD_dig (n : Nat) (h : n < 16) : isHexC (hexD n) = true ∧ hexV (hexD n) = n := by
  have : n = 0 ∨ n = 1 ∨ n = 2 ∨ n = 3 ∨ n = 4 ∨ n = 5 ∨ n = 6 ∨ n = 7 ∨ n = 8 ∨ n = 9 ∨ n = 10 ∨ n = 11 ∨ n = 12 ∨ n = 13 ∨ n = 14 ∨ n = 15 := by omega
  rcases this with rfl | rfl | rfl | rfl | rfl | rfl | rfl | rfl | rfl | rfl | rfl | rfl | rfl | rfl | rfl | rfl <;> exact ⟨rfl, rfl⟩
theorem isHexC_nat {c : UInt8} (h : isHexC c = true) : (48 ≤ c.toNat ∧ c.toNat ≤ 57) ∨ (97 ≤ c.toNat ∧ c.toNat ≤ 102) := by
  unfold isHexC isDig at h
  simp only [Bool.or_eq_true, Bool.and_eq_true, decide_eq_true_iff] at h
  exact h
theorem hexV_dig {c : UInt8} (h : isHexC c = true) : hexV c < 16 ∧ hexD (hexV c) = c := by
  have hc : UInt8.ofNat c.toNat = c := UInt8.ofNat_toNat
  rcases isHexC_nat h with h | h
  · unfold hexV
    rw [if_pos (by omega)]
    refine ⟨by omega, ?_⟩
    unfold hexD
    rw [if_pos (by omega), show 48 + (c.toNat - 48) = c.toNat by omega, hc]
  · unfold hexV
    rw [if_neg (by omega)]
    refine ⟨by omega, ?_⟩
    unfold hexD
    rw [if_neg (by omega), show 87 + (c.toNat - 87) = c.toNat by omega, hc]
theorem hexB_back (c : UInt8) : UInt8.ofNat (hexV (hexD (c.toNat / 16)) * 16 + hexV (hexD (c.toNat % 16))) = c := by
  have hc := c.toNat_lt
  rw [(hexD_dig (c.toNat / 16) (by omega)).2, (hexD_dig (c.toNat % 16) (by omega)).2, show c.toNat / 16 * 16 + c.toNat % 16 = c.toNat by omega, UInt8.ofNat_toNat]
theorem hexB_of {h k : UInt8} (hh : isHexC h = true) (hk : isHexC k = true) : hexB (UInt8.ofNat (hexV h * 16 + hexV k)) = [h, k] := by
  have h1 := hexV_dig hh
  have h2 := hexV_dig hk
  unfold hexB
  rw [u8_ofNat _ (by omega), show (hexV h * 16 + hexV k) / 16 = hexV h by omega, show (hexV h * 16 + hexV k) % 16 = hexV k by omega, h1.2, h2.2]
theorem pairs_hexB : ∀ l : List UInt8, pairs (l.flatMap hexB) = l
  | [] => rfl
  | c :: l => by
    rw [List.flatMap_cons]
    show UInt8.ofNat _ :: pairs (l.flatMap hexB) = _
    rw [pairs_hexB l, hexB_back]
theorem hexB_pairs : ∀ (n : Nat) (d : List UInt8), d.length = 2 * n → (∀ c ∈ d, isHexC c = true) → (pairs d).flatMap hexB = d
  | 0, d, hl, _ => by rw [List.length_eq_zero_iff.1 (by omega : d.length = 0)]; rfl
  | n + 1, [], hl, _ => by simp at hl
  | n + 1, [_], hl, _ => by simp at hl; omega
  | n + 1, h :: k :: d, hl, ha => by
    rw [pairs, List.flatMap_cons, hexB_of (ha h (by simp)) (ha k (by simp)), hexB_pairs n d (by simp at hl; omega) (fun c hc => ha c (by simp [hc]))]
    rfl
theorem hexB_all (l : List UInt8) : ∀ c ∈ l.flatMap hexB, isHexC c = true := by
  intro c hc
  rw [List.mem_flatMap] at hc
  obtain ⟨x, -, hx⟩ := hc
  have := x.toNat_lt
  unfold hexB at hx
  rcases List.mem_cons.1 hx with rfl | hx
  · exact (hexD_dig _ (by omega)).1
  · rw [List.mem_singleton] at hx
    subst hx
    exact (hexD_dig _ (by omega)).1
theorem hexB_len (l : List UInt8) : (l.flatMap hexB).length = 2 * l.length := by
  induction l with
  | nil => rfl
  | cons c l ih => rw [List.flatMap_cons, List.length_append, ih, List.length_cons]; show 2 + _ = _; omega
theorem pData_app (d r : List UInt8) (hr : Stops isHexC r) : pData (d.flatMap hexB ++ r) = .ok (d, r) := by
  unfold pData
  rw [takeWhile_app _ _ (hexB_all d) hr]
  dsimp only
  rw [if_neg (by rw [hexB_len]; omega), pairs_hexB, List.drop_left]
theorem pData_ok {d l r : List UInt8} (h : pData l = .ok (d, r)) : l = d.flatMap hexB ++ r := by
  unfold pData at h
  dsimp only at h
  split at h
  · cases h
  · injection h with h
    injection h with h1 h2
    obtain ⟨p1, p2, -⟩ := takeWhile_parts (p := isHexC) l
    subst h1; subst h2
    rw [hexB_pairs ((l.takeWhile isHexC).length / 2) _ (by omega) p2]
    exact p1
theorem unq_app : ∀ (t r : List UInt8), unq (t.flatMap quoteC ++ 34 :: r) = some (t, r)
  | [], r => by
    rw [List.flatMap_nil, List.nil_append, unq.eq_def]
    rfl
  | c :: t, r => by
    rw [List.flatMap_cons, List.append_assoc]
    have ih := unq_app t r
    unfold quoteC
    cases he : esc c with
    | true =>
      rw [if_pos rfl]
      show unq (92 :: c :: (t.flatMap quoteC ++ 34 :: r)) = _
      rw [unq.eq_def]
      dsimp only
      rw [if_neg (by decide), if_neg (by decide), if_neg (by decide), if_pos he, ih]
      rfl
    | false =>
      rw [if_neg (by decide)]
      have he' : ¬ c.toNat = 34 ∧ ¬ c.toNat = 92 := by
        unfold esc at he
        simpa using he
      cases hc : ctl c with
      | true =>
        rw [if_pos rfl]
        show unq (92 :: 120 :: hexD (c.toNat / 16) :: hexD (c.toNat % 16) :: (t.flatMap quoteC ++ 34 :: r)) = _
        have hl := c.toNat_lt
        rw [unq.eq_def]
        dsimp only
        rw [if_neg (by decide), if_neg (by decide), if_neg (by decide), if_neg (by decide), if_neg (by decide), hexB_back, (hexD_dig _ (by omega)).1, (hexD_dig _ (by omega)).1, hc]
        simp only [Bool.and_self, if_true]
        rw [ih]
        rfl
      | false =>
        rw [if_neg (by decide)]
        show unq (c :: (t.flatMap quoteC ++ 34 :: r)) = _
        rw [unq.eq_def]
        dsimp only
        rw [if_neg he'.1, if_neg (by rw [hc]; decide), if_pos he'.2, ih]
        rfl
theorem unq_some : ∀ (n : Nat) (l t r : List UInt8), l.length ≤ n → unq l = some (t, r) → l = t.flatMap quoteC ++ 34 :: r
  | n, [], t, r, _, h => by rw [unq.eq_def] at h; cases h
  | 0, c :: l, t, r, hl, _ => by simp at hl
  | n + 1, c :: l, t, r, hl, h => by
    have hcc : UInt8.ofNat c.toNat = c := UInt8.ofNat_toNat
    rw [List.length_cons] at hl
    rw [unq.eq_def] at h
    dsimp only at h
    split at h
    · rename_i h34
      injection h with h
      injection h with h1 h2
      subst h1; subst h2
      rw [← hcc, h34]
      rfl
    rename_i h34
    split at h
    · cases h
    rename_i hc
    split at h
    · rename_i h92
      obtain ⟨⟨t', r'⟩, hu, he⟩ := Option.map_eq_some_iff.1 h
      injection he with e1 e2
      dsimp only at e1 e2
      subst e1; subst e2
      rw [List.flatMap_cons]
      have : quoteC c = [c] := by
        unfold quoteC
        rw [if_neg (by unfold esc; simp [h34, h92]), if_neg hc]
      rw [this, unq_some n l t' r' (by omega) hu]
      rfl
    rename_i h92
    have hc92 : c = 92 := by rw [← hcc, Decidable.not_not.1 h92]; rfl
    split at h
    · cases h
    rename_i d r1
    rw [List.length_cons] at hl
    have hdd : UInt8.ofNat d.toNat = d := UInt8.ofNat_toNat
    split at h
    · rename_i hd
      obtain ⟨⟨t', r'⟩, hu, he⟩ := Option.map_eq_some_iff.1 h
      injection he with e1 e2
      dsimp only at e1 e2
      subst e1; subst e2
      rw [List.flatMap_cons]
      have : quoteC d = [92, d] := by
        unfold quoteC
        rw [if_pos hd]
      rw [this, unq_some n r1 t' r' (by omega) hu, hc92]
      rfl
    rename_i hd
    split at h
    · cases h
    rename_i h120
    have hd120 : d = 120 := by rw [← hdd, Decidable.not_not.1 h120]; rfl
    split at h
    · rename_i x k r2
      simp only [List.length_cons] at hl
      split at h
      · rename_i hh
        simp only [Bool.and_eq_true] at hh
        obtain ⟨⟨h1, h2⟩, h3⟩ := hh
        obtain ⟨⟨t', r'⟩, hu, he⟩ := Option.map_eq_some_iff.1 h
        injection he with e1 e2
        dsimp only at e1 e2
        subst e1; subst e2
        rw [List.flatMap_cons]
        have : quoteC (UInt8.ofNat (hexV x * 16 + hexV k)) = [92, 120, x, k] := by
          unfold quoteC
          have hx := hexV_dig h1
          have hk := hexV_dig h2
          rw [if_neg (by
            unfold ctl at h3
            unfold esc
            rw [u8_ofNat _ (by omega)] at h3 ⊢
            simp only [Bool.or_eq_true, decide_eq_true_iff] at h3 ⊢
            omega), if_pos h3, hexB_of h1 h2]
        rw [this, unq_some n r2 t' r' (by omega) hu, hc92, hd120]
        rfl
      · cases h
    · cases h
theorem pText_app (s : ByteArray) (r : List UInt8) (hg : good s = true) : pText (quoteS s ++ r) = .ok (s, r) := by
  unfold quoteS quoteL pText
  rw [List.cons_append, List.append_assoc]
  dsimp only
  rw [if_neg (by decide)]
  show (match unq (s.data.toList.flatMap quoteC ++ 34 :: r) with
    | none => _
    | some (t, r) => _) = _
  rw [unq_app]
  dsimp only
  rw [ofL_toList, if_pos hg]
theorem pText_ok {s : ByteArray} {l r : List UInt8} (h : pText l = .ok (s, r)) : l = quoteS s ++ r ∧ good s = true := by
  unfold pText at h
  split at h
  · cases h
  rename_i c r0
  split at h
  · cases h
  rename_i hc
  split at h
  · cases h
  rename_i t r1 hu
  split at h
  · rename_i hg
    injection h with h
    injection h with h1 h2
    subst h1; subst h2
    have hcc : UInt8.ofNat c.toNat = c := UInt8.ofNat_toNat
    have : c = 34 := by rw [← hcc, Decidable.not_not.1 hc]; rfl
    refine ⟨?_, hg⟩
    rw [this, unq_some _ r0 t r1 (Nat.le_refl _) hu]
    unfold quoteS quoteL ofL
    rw [List.cons_append, List.append_assoc]
    rfl
  · cases h
theorem bind_ok {ε α β : Type} {x : Except ε α} {f : α → Except ε β} {b : β} (h : (x >>= f) = .ok b) : ∃ a, x = .ok a ∧ f a = .ok b := by
  cases x with
  | error e => cases h
  | ok a => exact ⟨a, rfl, h⟩
theorem ok_bind {ε α β : Type} (a : α) (f : α → Except ε β) : ((.ok a : Except ε α) >>= f) = f a := rfl
theorem stops_dot (r : List UInt8) : Stops isDig (46 :: r) := fun c h => by simp at h; subst h; rfl
theorem stops_32 (r : List UInt8) : Stops isHexC (32 :: r) := fun c h => by simp at h; subst h; rfl
theorem stops_sp (w r : List UInt8) : Stops isHexC ((32 :: w) ++ r) := stops_32 _
theorem stops_93 (r : List UInt8) : Stops isHexC (93 :: r) := fun c h => by simp at h; subst h; rfl
theorem stops_nil (p : UInt8 → Bool) : Stops p [] := fun c h => by simp at h
theorem Stops.dig {r : List UInt8} (h : Stops isHexC r) : Stops isDig r := fun c hc => by
  have := h c hc
  unfold isHexC at this
  rw [Bool.or_eq_false_iff] at this
  exact this.1
theorem pQid_app (q : Qd) (r : List UInt8) (hq : q.ok) (hr : Stops isHexC r) : pQid (dotL q ++ r) = .ok (q, r) := by
  obtain ⟨h1, h2, h3⟩ := hq
  unfold pQid dotL
  rw [List.append_assoc, List.cons_append, List.append_assoc, List.cons_append, pNum_app 255 _ _ (by omega) (stops_dot _), ok_bind]
  dsimp only
  rw [pWord_app1, ok_bind, pNum_app 4294967295 _ _ (by omega) (stops_dot _), ok_bind]
  dsimp only
  rw [pWord_app1, ok_bind, pNum_app 18446744073709551615 _ _ (by omega) hr.dig, ok_bind]
  rfl
theorem pQid_ok {q : Qd} {l r : List UInt8} (h : pQid l = .ok (q, r)) : l = dotL q ++ r ∧ q.ok := by
  unfold pQid at h
  obtain ⟨⟨k, l1⟩, e1, h⟩ := bind_ok h
  obtain ⟨l2, e2, h⟩ := bind_ok h
  obtain ⟨⟨v, l3⟩, e3, h⟩ := bind_ok h
  obtain ⟨l4, e4, h⟩ := bind_ok h
  obtain ⟨⟨p, l5⟩, e5, h⟩ := bind_ok h
  dsimp only at e2 e4 h
  injection h with h
  injection h with h1 h2
  subst h1; subst h2
  obtain ⟨rfl, b1, -⟩ := pNum_ok e1
  obtain rfl := pWord_ok e2
  obtain ⟨rfl, b2, -⟩ := pNum_ok e3
  obtain rfl := pWord_ok e4
  obtain ⟨rfl, b3, -⟩ := pNum_ok e5
  refine ⟨?_, ?_, ?_, ?_⟩
  · simp only [dotL, List.append_assoc, List.cons_append, List.nil_append]
  · dsimp only; omega
  · dsimp only; omega
  · dsimp only; omega
/-- The things of a list, from its beginning on or not. -/
def more (first : Bool) (l : List (List UInt8)) : List UInt8 := if first then joinS l else l.flatMap fun y => 32 :: y
section
variable {α : Type} {one : List UInt8 → Except Nat (α × List UInt8)} {put : α → List UInt8} {ok : α → Prop}
theorem pMany_app (h93 : ∀ x r, (put x ++ r).head? ≠ some 93) : ∀ (n : Nat) (xs : List α) (first : Bool) (r : List UInt8), xs.length ≤ n → (∀ x ∈ xs, ∀ r, Stops isHexC r → one (put x ++ r) = .ok (x, r)) → pMany one n first (more first (xs.map put) ++ 93 :: r) = .ok (xs, r)
  | n, [], first, r, _, _ => by
    have : more first (([] : List α).map put) = [] := by cases first <;> rfl
    rw [this, List.nil_append]
    cases n <;> (rw [pMany.eq_def]; rfl)
  | 0, x :: xs, first, r, hl, _ => by simp at hl
  | n + 1, x :: xs, first, r, hl, h => by
    have hs : ∀ ys : List α, Stops isHexC (more false (ys.map put) ++ 93 :: r) := by
      intro ys
      cases ys with
      | nil => exact stops_93 r
      | cons y ys => exact stops_32 _
    have ih := pMany_app h93 n xs false r (by simp at hl; omega) (fun y hy => h y (List.mem_cons_of_mem _ hy))
    have hx := h x List.mem_cons_self _ (hs xs)
    have h93' := h93 x (more false (xs.map put) ++ 93 :: r)
    have hp : ∀ f : Bool, more f ((x :: xs).map put) ++ 93 :: r = (if f then [] else [32]) ++ (put x ++ (more false (xs.map put) ++ 93 :: r)) := by
      intro f
      cases f with
      | false =>
        show (32 :: put x ++ more false (xs.map put)) ++ _ = _
        rw [List.append_assoc]
        rfl
      | true =>
        show (put x ++ more false (xs.map put)) ++ _ = _
        rw [List.append_assoc]
        rfl
    rw [hp first]
    generalize put x ++ (more false (xs.map put) ++ 93 :: r) = Z at hx h93'
    cases first with
    | true =>
      show pMany one (n + 1) true Z = _
      rw [pMany.eq_def]
      dsimp only
      rw [if_neg h93']
      show (one Z >>= _) = _
      rw [hx, ok_bind]
      dsimp only
      rw [ih]
      rfl
    | false =>
      show pMany one (n + 1) false (32 :: Z) = _
      rw [pMany.eq_def]
      dsimp only
      rw [if_neg (by simp)]
      show (pWord [32] (32 :: Z) >>= _) = _
      rw [pWord_app1, ok_bind, hx, ok_bind]
      dsimp only
      rw [ih]
      rfl
theorem pMany_ok (hone : ∀ {l r x}, one l = .ok (x, r) → l = put x ++ r ∧ ok x) : ∀ (n : Nat) (first : Bool) (l r : List UInt8) (xs : List α), pMany one n first l = .ok (xs, r) → l = more first (xs.map put) ++ 93 :: r ∧ xs.length ≤ n ∧ ∀ x ∈ xs, ok x := by
  intro n
  induction n with
  | zero =>
    intro first l r xs h
    rw [pMany.eq_def] at h
    dsimp only at h
    split at h
    · rename_i hh
      injection h with h
      injection h with h1 h2
      subst h1; subst h2
      refine ⟨?_, Nat.le_refl _, by simp⟩
      have : more first (([] : List α).map put) = [] := by cases first <;> rfl
      rw [this, List.nil_append]
      cases l with
      | nil => simp at hh
      | cons c l => simp at hh; subst hh; rfl
    · cases h
  | succ n ih =>
    intro first l r xs h
    rw [pMany.eq_def] at h
    dsimp only at h
    split at h
    · rename_i hh
      injection h with h
      injection h with h1 h2
      subst h1; subst h2
      refine ⟨?_, by simp, by simp⟩
      have : more first (([] : List α).map put) = [] := by cases first <;> rfl
      rw [this, List.nil_append]
      cases l with
      | nil => simp at hh
      | cons c l => simp at hh; subst hh; rfl
    · obtain ⟨l1, e1, h⟩ : ∃ l1, (if first then (.ok l : Except Nat (List UInt8)) else pWord [32] l) = .ok l1 ∧ (one l1 >>= fun x => pMany one n false x.2 >>= fun y => pure (x.1 :: y.1, y.2)) = .ok (xs, r) := by
        cases first with
        | true => exact ⟨l, rfl, h⟩
        | false => exact bind_ok h
      obtain ⟨⟨x, l2⟩, e2, h⟩ := bind_ok h
      dsimp only at h
      obtain ⟨⟨ys, l3⟩, e3, h⟩ := bind_ok h
      injection h with h
      injection h with h1 h2
      subst h1; subst h2
      obtain ⟨rfl, ox⟩ := hone e2
      obtain ⟨rfl, hl, oys⟩ := ih false l2 l3 ys e3
      refine ⟨?_, show ys.length + 1 ≤ n + 1 by omega, ?_⟩
      · cases first with
        | true =>
          injection e1 with e1
          rw [e1, List.map_cons]
          show _ = (put x ++ more false (ys.map put)) ++ 93 :: l3
          rw [List.append_assoc]
        | false =>
          rw [pWord_ok e1, List.map_cons]
          show _ = (32 :: put x ++ more false (ys.map put)) ++ 93 :: l3
          rw [List.append_assoc]
          rfl
      · intro y hy
        rcases List.mem_cons.1 hy with rfl | hy
        · exact ox
        · exact oys y hy
theorem pList_app (h93 : ∀ x r, (put x ++ r).head? ≠ some 93) (xs : List α) (r : List UInt8) (hl : xs.length ≤ 16) (h : ∀ x ∈ xs, ∀ r, Stops isHexC r → one (put x ++ r) = .ok (x, r)) : pList one (91 :: (joinS (xs.map put) ++ [93]) ++ r) = .ok (xs, r) := by
  unfold pList
  rw [List.cons_append, pWord_app1, ok_bind, List.append_assoc]
  exact pMany_app h93 16 xs true r hl h
theorem pList_ok (hone : ∀ {l r x}, one l = .ok (x, r) → l = put x ++ r ∧ ok x) {l r : List UInt8} {xs : List α} (h : pList one l = .ok (xs, r)) : l = 91 :: (joinS (xs.map put) ++ [93]) ++ r ∧ xs.length ≤ 16 ∧ ∀ x ∈ xs, ok x := by
  unfold pList at h
  obtain ⟨l1, e1, h⟩ := bind_ok h
  obtain ⟨rfl, hl, ha⟩ := pMany_ok hone 16 true l1 r xs h
  refine ⟨?_, hl, ha⟩
  rw [pWord_ok e1]
  show 91 :: (joinS (xs.map put) ++ 93 :: r) = 91 :: ((joinS (xs.map put) ++ [93]) ++ r)
  rw [List.append_assoc]
  rfl
end
theorem quoteS_head (s : ByteArray) (r : List UInt8) : (quoteS s ++ r).head? ≠ some 93 := by
  unfold quoteS quoteL
  simp
theorem dotL_head (q : Qd) (r : List UInt8) : (dotL q ++ r).head? ≠ some 93 := by
  unfold dotL
  rw [List.append_assoc]
  cases hd : decDigits q.kind with
  | nil => exact absurd hd (decDigits_ne _)
  | cons c d =>
    have := decDigits_all q.kind c (by rw [hd]; exact List.mem_cons_self)
    rintro h
    simp at h
    subst h
    exact absurd this (by decide)

theorem pRec_app (s : Sta) (r : List UInt8) (hs : s.ok) (hg : s.good = true) : pRec (recL s ++ r) = .ok (s, r) := by
  obtain ⟨n1, n2, hq, n4, n5, n6, n7⟩ := hs
  simp only [Sta.good, Bool.and_eq_true] at hg
  obtain ⟨⟨⟨g1, g2⟩, g3⟩, g4⟩ := hg
  unfold pRec recL
  simp only [List.append_assoc]

  rw [pWord_app, ok_bind, pNum_app 65535 _ _ (by omega) (stops_sp _ _).dig, ok_bind]
  dsimp only
  rw [pWord_app, ok_bind, pNum_app 4294967295 _ _ (by omega) (stops_sp _ _).dig, ok_bind]
  dsimp only
  rw [pWord_app, ok_bind, pQid_app _ _ hq (stops_sp _ _), ok_bind]
  dsimp only
  rw [pWord_app, ok_bind, pNum_app 4294967295 _ _ (by omega) (stops_sp _ _).dig, ok_bind]
  dsimp only
  rw [pWord_app, ok_bind, pNum_app 4294967295 _ _ (by omega) (stops_sp _ _).dig, ok_bind]
  dsimp only
  rw [pWord_app, ok_bind, pNum_app 4294967295 _ _ (by omega) (stops_sp _ _).dig, ok_bind]
  dsimp only
  rw [pWord_app, ok_bind, pNum_app 18446744073709551615 _ _ (by omega) (stops_sp _ _).dig, ok_bind]
  dsimp only
  rw [pWord_app, ok_bind, pText_app _ _ g1, ok_bind]
  dsimp only
  rw [pWord_app, ok_bind, pText_app _ _ g2, ok_bind]
  dsimp only
  rw [pWord_app, ok_bind, pText_app _ _ g3, ok_bind]
  dsimp only
  rw [pWord_app, ok_bind, pText_app _ _ g4, ok_bind]
  dsimp only
  rw [pWord_app, ok_bind]
  rfl
theorem pRec_ok {s : Sta} {l r : List UInt8} (h : pRec l = .ok (s, r)) : l = recL s ++ r ∧ s.good = true ∧ s.ok := by
  unfold pRec at h
  obtain ⟨l1, e1, h⟩ := bind_ok h
  obtain ⟨⟨vtype, l2⟩, e2, h⟩ := bind_ok h
  obtain ⟨l3, e3, h⟩ := bind_ok h
  obtain ⟨⟨vdev, l4⟩, e4, h⟩ := bind_ok h
  obtain ⟨l5, e5, h⟩ := bind_ok h
  obtain ⟨⟨vqid, l6⟩, e6, h⟩ := bind_ok h
  obtain ⟨l7, e7, h⟩ := bind_ok h
  obtain ⟨⟨vmode, l8⟩, e8, h⟩ := bind_ok h
  obtain ⟨l9, e9, h⟩ := bind_ok h
  obtain ⟨⟨vatime, l10⟩, e10, h⟩ := bind_ok h
  obtain ⟨l11, e11, h⟩ := bind_ok h
  obtain ⟨⟨vmtime, l12⟩, e12, h⟩ := bind_ok h
  obtain ⟨l13, e13, h⟩ := bind_ok h
  obtain ⟨⟨vlength, l14⟩, e14, h⟩ := bind_ok h
  obtain ⟨l15, e15, h⟩ := bind_ok h
  obtain ⟨⟨vname, l16⟩, e16, h⟩ := bind_ok h
  obtain ⟨l17, e17, h⟩ := bind_ok h
  obtain ⟨⟨vuid, l18⟩, e18, h⟩ := bind_ok h
  obtain ⟨l19, e19, h⟩ := bind_ok h
  obtain ⟨⟨vgid, l20⟩, e20, h⟩ := bind_ok h
  obtain ⟨l21, e21, h⟩ := bind_ok h
  obtain ⟨⟨vmuid, l22⟩, e22, h⟩ := bind_ok h
  obtain ⟨l23, e23, h⟩ := bind_ok h
  injection h with h
  injection h with h1 h2
  subst h1; subst h2

  obtain rfl := pWord_ok e1
  obtain ⟨rfl, btype, -⟩ := pNum_ok e2
  obtain rfl := pWord_ok e3
  obtain ⟨rfl, bdev, -⟩ := pNum_ok e4
  obtain rfl := pWord_ok e5
  obtain ⟨rfl, bqid⟩ := pQid_ok e6
  obtain rfl := pWord_ok e7
  obtain ⟨rfl, bmode, -⟩ := pNum_ok e8
  obtain rfl := pWord_ok e9
  obtain ⟨rfl, batime, -⟩ := pNum_ok e10
  obtain rfl := pWord_ok e11
  obtain ⟨rfl, bmtime, -⟩ := pNum_ok e12
  obtain rfl := pWord_ok e13
  obtain ⟨rfl, blength, -⟩ := pNum_ok e14
  obtain rfl := pWord_ok e15
  obtain ⟨rfl, bname⟩ := pText_ok e16
  obtain rfl := pWord_ok e17
  obtain ⟨rfl, buid⟩ := pText_ok e18
  obtain rfl := pWord_ok e19
  obtain ⟨rfl, bgid⟩ := pText_ok e20
  obtain rfl := pWord_ok e21
  obtain ⟨rfl, bmuid⟩ := pText_ok e22
  obtain rfl := pWord_ok e23
  refine ⟨?_, by simp [Sta.good, bname, buid, bgid, bmuid], ⟨by dsimp only; omega, by dsimp only; omega, bqid, by dsimp only; omega, by dsimp only; omega, by dsimp only; omega, by dsimp only; omega⟩⟩
  unfold recL
  simp only [List.append_assoc]

theorem pF_stat (c : Mg) (l : List UInt8) : pF c l .stat = (pRec l).map fun p => ({ c with stat := p.1 }, p.2) := rfl
theorem pF_app (c m : Mg) (f : Fld) (r : List UInt8) (ho : m.ok) (hg : m.good f = true) (hr : Stops isHexC r) : pF c (m.val f ++ r) f = .ok (c.move m f, r) := by
  cases f
  case msize =>
    have hb : m.msize ≤ 4294967295 := by have := ho.msize; omega
    show (pNum 4294967295 (decDigits m.msize ++ r)).map (fun p : Nat × List UInt8 => (c.setNum p.1 .msize, p.2)) = _
    rw [pNum_app _ _ _ hb hr.dig]
    rfl
  case version =>
    show (pText (quoteS m.version ++ r)).map (fun p : ByteArray × List UInt8 => (c.setTxt p.1 .version, p.2)) = _
    rw [pText_app m.version _ hg]
    rfl
  case afid =>
    have hb : m.afid ≤ 4294967295 := by have := ho.afid; omega
    show (pNum 4294967295 (decDigits m.afid ++ r)).map (fun p : Nat × List UInt8 => (c.setNum p.1 .afid, p.2)) = _
    rw [pNum_app _ _ _ hb hr.dig]
    rfl
  case uname =>
    show (pText (quoteS m.uname ++ r)).map (fun p : ByteArray × List UInt8 => (c.setTxt p.1 .uname, p.2)) = _
    rw [pText_app m.uname _ hg]
    rfl
  case aname =>
    show (pText (quoteS m.aname ++ r)).map (fun p : ByteArray × List UInt8 => (c.setTxt p.1 .aname, p.2)) = _
    rw [pText_app m.aname _ hg]
    rfl
  case ename =>
    show (pText (quoteS m.ename ++ r)).map (fun p : ByteArray × List UInt8 => (c.setTxt p.1 .ename, p.2)) = _
    rw [pText_app m.ename _ hg]
    rfl
  case oldtag =>
    have hb : m.oldtag ≤ 65535 := by have := ho.oldtag; omega
    show (pNum 65535 (decDigits m.oldtag ++ r)).map (fun p : Nat × List UInt8 => (c.setNum p.1 .oldtag, p.2)) = _
    rw [pNum_app _ _ _ hb hr.dig]
    rfl
  case fid =>
    have hb : m.fid ≤ 4294967295 := by have := ho.fid; omega
    show (pNum 4294967295 (decDigits m.fid ++ r)).map (fun p : Nat × List UInt8 => (c.setNum p.1 .fid, p.2)) = _
    rw [pNum_app _ _ _ hb hr.dig]
    rfl
  case newfid =>
    have hb : m.newfid ≤ 4294967295 := by have := ho.newfid; omega
    show (pNum 4294967295 (decDigits m.newfid ++ r)).map (fun p : Nat × List UInt8 => (c.setNum p.1 .newfid, p.2)) = _
    rw [pNum_app _ _ _ hb hr.dig]
    rfl
  case names =>
    have hg' : (decide (m.names.length ≤ 16) && m.names.all good) = true := hg
    rw [Bool.and_eq_true, decide_eq_true_iff, List.all_eq_true] at hg'
    show (pList pText (91 :: (joinS (m.names.map quoteS) ++ [93]) ++ r)).map (fun p => ({ c with names := p.1 }, p.2)) = _
    rw [pList_app quoteS_head m.names r hg'.1 (fun x hx r _ => pText_app x r (hg'.2 x hx))]
    rfl
  case qids =>
    have hg' : decide (m.qids.length ≤ 16) = true := hg
    rw [decide_eq_true_iff] at hg'
    show (pList pQid (91 :: (joinS (m.qids.map dotL) ++ [93]) ++ r)).map (fun p => ({ c with qids := p.1 }, p.2)) = _
    rw [pList_app dotL_head m.qids r hg' (fun x hx r hr => pQid_app x r (ho.qids x hx) hr)]
    rfl
  case qid =>
    show (pQid (dotL m.qid ++ r)).map (fun p => ({ c with qid := p.1 }, p.2)) = _
    rw [pQid_app _ _ ho.qid hr]
    rfl
  case mode =>
    have hb : m.mode ≤ 255 := by have := ho.mode; omega
    show (pNum 255 (decDigits m.mode ++ r)).map (fun p : Nat × List UInt8 => (c.setNum p.1 .mode, p.2)) = _
    rw [pNum_app _ _ _ hb hr.dig]
    rfl
  case iounit =>
    have hb : m.iounit ≤ 4294967295 := by have := ho.iounit; omega
    show (pNum 4294967295 (decDigits m.iounit ++ r)).map (fun p : Nat × List UInt8 => (c.setNum p.1 .iounit, p.2)) = _
    rw [pNum_app _ _ _ hb hr.dig]
    rfl
  case name =>
    show (pText (quoteS m.name ++ r)).map (fun p : ByteArray × List UInt8 => (c.setTxt p.1 .name, p.2)) = _
    rw [pText_app m.name _ hg]
    rfl
  case perm =>
    have hb : m.perm ≤ 4294967295 := by have := ho.perm; omega
    show (pNum 4294967295 (decDigits m.perm ++ r)).map (fun p : Nat × List UInt8 => (c.setNum p.1 .perm, p.2)) = _
    rw [pNum_app _ _ _ hb hr.dig]
    rfl
  case offset =>
    have hb : m.offset ≤ 18446744073709551615 := by have := ho.offset; omega
    show (pNum 18446744073709551615 (decDigits m.offset ++ r)).map (fun p : Nat × List UInt8 => (c.setNum p.1 .offset, p.2)) = _
    rw [pNum_app _ _ _ hb hr.dig]
    rfl
  case count =>
    have hb : m.count ≤ 4294967295 := by have := ho.count; omega
    show (pNum 4294967295 (decDigits m.count ++ r)).map (fun p : Nat × List UInt8 => (c.setNum p.1 .count, p.2)) = _
    rw [pNum_app _ _ _ hb hr.dig]
    rfl
  case data =>
    show (pData (m.data.flatMap hexB ++ r)).map (fun p => ({ c with data := p.1 }, p.2)) = _
    rw [pData_app _ _ hr]
    rfl
  case stat =>
    rw [show m.val .stat = recL m.stat from rfl, pF_stat, pRec_app _ _ ho.stat hg]
    rfl
theorem map_ok {ε α β : Type} {x : Except ε α} {f : α → β} {b : β} (h : x.map f = .ok b) : ∃ a, x = .ok a ∧ f a = b := by
  cases x with
  | error e => cases h
  | ok a => injection h with h; exact ⟨a, rfl, h⟩
theorem pF_ok {c c' : Mg} {f : Fld} {l r : List UInt8} (h : pF c l f = .ok (c', r)) : l = c'.val f ++ r ∧ c'.good f = true ∧ c' = c.move c' f ∧ (c.ok → c'.ok) := by
  cases f
  case msize =>
    have h' : (pNum 4294967295 l).map (fun p : Nat × List UInt8 => (c.setNum p.1 .msize, p.2)) = .ok (c', r) := h
    obtain ⟨⟨n, r'⟩, hn, he⟩ := map_ok h'
    injection he with h1 h2
    dsimp only at h1 h2
    subst h1; subst h2
    obtain ⟨rfl, hlt, -⟩ := pNum_ok hn
    have hb : n < 4294967296 := by omega
    exact ⟨rfl, rfl, rfl, fun ho => { ho with msize := hb }⟩
  case version =>
    have h' : (pText l).map (fun p : ByteArray × List UInt8 => (c.setTxt p.1 .version, p.2)) = .ok (c', r) := h
    obtain ⟨⟨s, r'⟩, hn, he⟩ := map_ok h'
    injection he with h1 h2
    dsimp only at h1 h2
    subst h1; subst h2
    obtain ⟨rfl, hg⟩ := pText_ok hn
    exact ⟨rfl, hg, rfl, fun ho => { ho with }⟩
  case afid =>
    have h' : (pNum 4294967295 l).map (fun p : Nat × List UInt8 => (c.setNum p.1 .afid, p.2)) = .ok (c', r) := h
    obtain ⟨⟨n, r'⟩, hn, he⟩ := map_ok h'
    injection he with h1 h2
    dsimp only at h1 h2
    subst h1; subst h2
    obtain ⟨rfl, hlt, -⟩ := pNum_ok hn
    have hb : n < 4294967296 := by omega
    exact ⟨rfl, rfl, rfl, fun ho => { ho with afid := hb }⟩
  case uname =>
    have h' : (pText l).map (fun p : ByteArray × List UInt8 => (c.setTxt p.1 .uname, p.2)) = .ok (c', r) := h
    obtain ⟨⟨s, r'⟩, hn, he⟩ := map_ok h'
    injection he with h1 h2
    dsimp only at h1 h2
    subst h1; subst h2
    obtain ⟨rfl, hg⟩ := pText_ok hn
    exact ⟨rfl, hg, rfl, fun ho => { ho with }⟩
  case aname =>
    have h' : (pText l).map (fun p : ByteArray × List UInt8 => (c.setTxt p.1 .aname, p.2)) = .ok (c', r) := h
    obtain ⟨⟨s, r'⟩, hn, he⟩ := map_ok h'
    injection he with h1 h2
    dsimp only at h1 h2
    subst h1; subst h2
    obtain ⟨rfl, hg⟩ := pText_ok hn
    exact ⟨rfl, hg, rfl, fun ho => { ho with }⟩
  case ename =>
    have h' : (pText l).map (fun p : ByteArray × List UInt8 => (c.setTxt p.1 .ename, p.2)) = .ok (c', r) := h
    obtain ⟨⟨s, r'⟩, hn, he⟩ := map_ok h'
    injection he with h1 h2
    dsimp only at h1 h2
    subst h1; subst h2
    obtain ⟨rfl, hg⟩ := pText_ok hn
    exact ⟨rfl, hg, rfl, fun ho => { ho with }⟩
  case oldtag =>
    have h' : (pNum 65535 l).map (fun p : Nat × List UInt8 => (c.setNum p.1 .oldtag, p.2)) = .ok (c', r) := h
    obtain ⟨⟨n, r'⟩, hn, he⟩ := map_ok h'
    injection he with h1 h2
    dsimp only at h1 h2
    subst h1; subst h2
    obtain ⟨rfl, hlt, -⟩ := pNum_ok hn
    have hb : n < 65536 := by omega
    exact ⟨rfl, rfl, rfl, fun ho => { ho with oldtag := hb }⟩
  case fid =>
    have h' : (pNum 4294967295 l).map (fun p : Nat × List UInt8 => (c.setNum p.1 .fid, p.2)) = .ok (c', r) := h
    obtain ⟨⟨n, r'⟩, hn, he⟩ := map_ok h'
    injection he with h1 h2
    dsimp only at h1 h2
    subst h1; subst h2
    obtain ⟨rfl, hlt, -⟩ := pNum_ok hn
    have hb : n < 4294967296 := by omega
    exact ⟨rfl, rfl, rfl, fun ho => { ho with fid := hb }⟩
  case newfid =>
    have h' : (pNum 4294967295 l).map (fun p : Nat × List UInt8 => (c.setNum p.1 .newfid, p.2)) = .ok (c', r) := h
    obtain ⟨⟨n, r'⟩, hn, he⟩ := map_ok h'
    injection he with h1 h2
    dsimp only at h1 h2
    subst h1; subst h2
    obtain ⟨rfl, hlt, -⟩ := pNum_ok hn
    have hb : n < 4294967296 := by omega
    exact ⟨rfl, rfl, rfl, fun ho => { ho with newfid := hb }⟩
  case names =>
    have h' : (pList pText l).map (fun p : List ByteArray × List UInt8 => ({ c with names := p.1 }, p.2)) = .ok (c', r) := h
    obtain ⟨⟨s, r'⟩, hn, he⟩ := map_ok h'
    injection he with h1 h2
    dsimp only at h1 h2
    subst h1; subst h2
    obtain ⟨rfl, h16, hg⟩ := pList_ok (put := quoteS) (ok := fun s => good s = true) pText_ok hn
    refine ⟨rfl, ?_, rfl, fun ho => { ho with }⟩
    show (decide (s.length ≤ 16) && s.all good) = true
    rw [Bool.and_eq_true, decide_eq_true_iff, List.all_eq_true]
    exact ⟨h16, hg⟩
  case qids =>
    have h' : (pList pQid l).map (fun p : List Qd × List UInt8 => ({ c with qids := p.1 }, p.2)) = .ok (c', r) := h
    obtain ⟨⟨s, r'⟩, hn, he⟩ := map_ok h'
    injection he with h1 h2
    dsimp only at h1 h2
    subst h1; subst h2
    obtain ⟨rfl, h16, hg⟩ := pList_ok (put := dotL) (ok := Qd.ok) pQid_ok hn
    exact ⟨rfl, decide_eq_true h16, rfl, fun ho => { ho with qids := hg }⟩
  case qid =>
    have h' : (pQid l).map (fun p : Qd × List UInt8 => ({ c with qid := p.1 }, p.2)) = .ok (c', r) := h
    obtain ⟨⟨s, r'⟩, hn, he⟩ := map_ok h'
    injection he with h1 h2
    dsimp only at h1 h2
    subst h1; subst h2
    obtain ⟨rfl, hg⟩ := pQid_ok hn
    exact ⟨rfl, rfl, rfl, fun ho => { ho with qid := hg }⟩
  case mode =>
    have h' : (pNum 255 l).map (fun p : Nat × List UInt8 => (c.setNum p.1 .mode, p.2)) = .ok (c', r) := h
    obtain ⟨⟨n, r'⟩, hn, he⟩ := map_ok h'
    injection he with h1 h2
    dsimp only at h1 h2
    subst h1; subst h2
    obtain ⟨rfl, hlt, -⟩ := pNum_ok hn
    have hb : n < 256 := by omega
    exact ⟨rfl, rfl, rfl, fun ho => { ho with mode := hb }⟩
  case iounit =>
    have h' : (pNum 4294967295 l).map (fun p : Nat × List UInt8 => (c.setNum p.1 .iounit, p.2)) = .ok (c', r) := h
    obtain ⟨⟨n, r'⟩, hn, he⟩ := map_ok h'
    injection he with h1 h2
    dsimp only at h1 h2
    subst h1; subst h2
    obtain ⟨rfl, hlt, -⟩ := pNum_ok hn
    have hb : n < 4294967296 := by omega
    exact ⟨rfl, rfl, rfl, fun ho => { ho with iounit := hb }⟩
  case name =>
    have h' : (pText l).map (fun p : ByteArray × List UInt8 => (c.setTxt p.1 .name, p.2)) = .ok (c', r) := h
    obtain ⟨⟨s, r'⟩, hn, he⟩ := map_ok h'
    injection he with h1 h2
    dsimp only at h1 h2
    subst h1; subst h2
    obtain ⟨rfl, hg⟩ := pText_ok hn
    exact ⟨rfl, hg, rfl, fun ho => { ho with }⟩
  case perm =>
    have h' : (pNum 4294967295 l).map (fun p : Nat × List UInt8 => (c.setNum p.1 .perm, p.2)) = .ok (c', r) := h
    obtain ⟨⟨n, r'⟩, hn, he⟩ := map_ok h'
    injection he with h1 h2
    dsimp only at h1 h2
    subst h1; subst h2
    obtain ⟨rfl, hlt, -⟩ := pNum_ok hn
    have hb : n < 4294967296 := by omega
    exact ⟨rfl, rfl, rfl, fun ho => { ho with perm := hb }⟩
  case offset =>
    have h' : (pNum 18446744073709551615 l).map (fun p : Nat × List UInt8 => (c.setNum p.1 .offset, p.2)) = .ok (c', r) := h
    obtain ⟨⟨n, r'⟩, hn, he⟩ := map_ok h'
    injection he with h1 h2
    dsimp only at h1 h2
    subst h1; subst h2
    obtain ⟨rfl, hlt, -⟩ := pNum_ok hn
    have hb : n < 18446744073709551616 := by omega
    exact ⟨rfl, rfl, rfl, fun ho => { ho with offset := hb }⟩
  case count =>
    have h' : (pNum 4294967295 l).map (fun p : Nat × List UInt8 => (c.setNum p.1 .count, p.2)) = .ok (c', r) := h
    obtain ⟨⟨n, r'⟩, hn, he⟩ := map_ok h'
    injection he with h1 h2
    dsimp only at h1 h2
    subst h1; subst h2
    obtain ⟨rfl, hlt, -⟩ := pNum_ok hn
    have hb : n < 4294967296 := by omega
    exact ⟨rfl, rfl, rfl, fun ho => { ho with count := hb }⟩
  case data =>
    have h' : (pData l).map (fun p : List UInt8 × List UInt8 => ({ c with data := p.1 }, p.2)) = .ok (c', r) := h
    obtain ⟨⟨s, r'⟩, hn, he⟩ := map_ok h'
    injection he with h1 h2
    dsimp only at h1 h2
    subst h1; subst h2
    obtain rfl := pData_ok hn
    exact ⟨rfl, rfl, rfl, fun ho => { ho with }⟩
  case stat =>
    rw [pF_stat] at h
    obtain ⟨⟨s, r'⟩, hn, he⟩ := map_ok h
    injection he with h1 h2
    dsimp only at h1 h2
    subst h1; subst h2
    obtain ⟨hl, hg, hok⟩ := pRec_ok hn
    refine ⟨?_, hg, rfl, fun ho => { ho with stat := hok }⟩
    rw [hl, show ({ c with stat := s } : Mg).val .stat = recL s from rfl]
theorem val_move (c m : Mg) (f : Fld) : (c.move m f).val f = m.val f := by
  cases f <;> rfl
theorem Alike.val {a b : Mg} {f : Fld} (h : Alike a b f) : a.val f = b.val f := by rw [← val_move a a f, ← val_move a b f, h]
theorem Alike.part {a b : Mg} {f : Fld} (h : Alike a b f) : a.part f = b.part f := by unfold Mg.part; rw [h.val]
theorem part_stops (m : Mg) (fs : List Fld) : Stops isHexC (fs.flatMap m.part) := by
  cases fs with
  | nil => exact stops_nil _
  | cons f fs => exact stops_32 _
theorem part_eq (m : Mg) (f : Fld) (r : List UInt8) : m.part f ++ r = (32 :: (f.word ++ [61])) ++ (m.val f ++ r) := by
  unfold Mg.part
  simp only [List.cons_append, List.append_assoc, List.nil_append]
theorem pAll_app (m : Mg) (ho : m.ok) : ∀ (fs : List Fld) (c : Mg), (∀ f ∈ fs, m.good f = true) → pAll fs c (fs.flatMap m.part) = .ok (fs.foldl (fun c f => c.move m f) c, [])
  | [], c, _ => rfl
  | f :: fs, c, h => by
    rw [List.flatMap_cons, part_eq, pAll, pWord_app, ok_bind, pF_app c m f _ ho (h f List.mem_cons_self) (part_stops m fs), ok_bind]
    exact pAll_app m ho fs _ (fun g hg => h g (List.mem_cons_of_mem _ hg))
theorem pAll_ok : ∀ (fs : List Fld) (c m : Mg) (l r : List UInt8), fs.Nodup → pAll fs c l = .ok (m, r) → l = fs.flatMap m.part ++ r ∧ (∀ f ∈ fs, m.good f = true) ∧ m = fs.foldl (fun c f => c.move m f) c ∧ (c.ok → m.ok)
  | [], c, m, l, r, _, h => by
    injection h with h
    injection h with h1 h2
    subst h1; subst h2
    exact ⟨rfl, by simp, rfl, id⟩
  | f :: fs, c, m, l, r, hn, h => by
    rw [List.nodup_cons] at hn
    rw [pAll] at h
    obtain ⟨l1, e1, k2⟩ := bind_ok h
    obtain ⟨⟨c', r'⟩, e2, k3⟩ := bind_ok k2
    dsimp only at k3
    obtain ⟨rfl, hg, hc, hok⟩ := pF_ok e2
    obtain ⟨rfl, hgs, hm, hoks⟩ := pAll_ok fs c' m r' r hn.2 k3
    have ha : Alike m c' f := by
      intro d
      have := foldl_out m f fs c' hn.1 d
      rwa [← hm] at this
    refine ⟨?_, ?_, ?_, fun ho => hoks (hok ho)⟩
    · rw [List.flatMap_cons, ha.part, List.append_assoc, part_eq, pWord_ok e1]
    · intro g hgm
      rcases List.mem_cons.1 hgm with rfl | hgm
      · rw [ha.good]; exact hg
      · exact hgs g hgm
    · rw [List.foldl_cons, ha c, ← hc]
      exact hm
theorem kindN_facts : ∀ k, k < 28 → kindF (100 + k) ≠ none → kindOf (kindN (100 + k)) = some (100 + k) ∧ (kindN (100 + k)).all isLet = true := by decide
theorem kindN_of {k : Nat} {fs : List Fld} (h : kindF k = some fs) : kindOf (kindN k) = some k ∧ (∀ c ∈ kindN k, isLet c = true) := by
  obtain ⟨-, -, h1, h2⟩ := kindF_well h
  have := kindN_facts (k - 100) (by omega)
  rw [show 100 + (k - 100) = k by omega, List.all_eq_true] at this
  exact this (by rw [h]; simp)
theorem kindN_none : ∀ k, k < 28 → kindN (100 + k) ≠ [] → kindF (100 + k) ≠ none := by decide
theorem kindOf_some {s : List UInt8} {k : Nat} (h : kindOf s = some k) : kindN k = s ∧ s ≠ [] ∧ ∃ fs, kindF k = some fs := by
  unfold kindOf at h
  split at h
  · cases h
  · rename_i hs
    obtain ⟨i, hi, rfl⟩ := Option.map_eq_some_iff.1 h
    have h1 := List.find?_some hi
    have h2 := List.mem_of_find?_eq_some hi
    rw [List.mem_range] at h2
    rw [decide_eq_true_iff] at h1
    refine ⟨h1, hs, ?_⟩
    have := kindN_none i h2 (by rw [h1]; exact hs)
    cases hk : kindF (100 + i) with
    | none => exact absurd hk this
    | some fs => exact ⟨fs, rfl⟩
theorem text_ok {m : Mg} {fs : List Fld} (hk : kindF m.kind = some fs) (h : (refused m).1 = 0) : textM m = kindN m.kind ++ 32 :: (decDigits m.tag ++ fs.flatMap m.part) := by
  unfold textM
  rw [hk]
  dsimp only
  rw [if_pos h]
theorem stops_let (r : List UInt8) : Stops isLet (32 :: r) := fun c h => by simp at h; subst h; rfl
/-- THERE AND BACK: the line of a message that can be written is read as that message, clean. -/
theorem parse_text {m : Mg} (ho : m.ok) (h : (refused m).1 = 0) : parseM (textM m) = (clean m, 0, 0) := by
  obtain ⟨fs, hk, hg, -, -, -⟩ := refused_ok h
  have hkn := kindN_of hk
  have hline : pLine (textM m) = .ok (clean m) := by
    rw [text_ok hk h]
    unfold pLine
    dsimp only
    rw [takeWhile_app _ _ hkn.2 (stops_let _), hkn.1]
    dsimp only
    rw [List.drop_left, pWord_app1, ok_bind, pNum_app 65535 _ _ (by have := ho.tag; omega) (part_stops m fs).dig, ok_bind]
    dsimp only
    rw [hk]
    dsimp only [Option.getD]
    rw [pAll_app m ho fs _ hg, ok_bind]
    dsimp only
    rw [if_pos rfl]
    unfold clean
    rw [hk]
    rfl
  unfold parseM
  rw [hline]
  dsimp only
  rw [if_pos (by rw [clean_refused h]; exact h)]
/-- ONE FORM: a line that is taken is written just so again. -/
theorem parse_some {l : List UInt8} {m : Mg} {p : Nat} (h : parseM l = (m, p, 0)) : p = 0 ∧ textM m = l ∧ (refused m).1 = 0 ∧ clean m = m ∧ m.ok := by
  unfold parseM at h
  split at h
  · injection h with _ h; injection h with _ h; cases h
  rename_i m' hl
  split at h
  · rename_i hr
    injection h with h1 h2
    injection h2 with h2 _
    subst h1; subst h2
    unfold pLine at hl
    dsimp only at hl
    split at hl
    · cases hl
    rename_i k hk
    obtain ⟨hkn, -, fs, hkf⟩ := kindOf_some hk
    obtain ⟨l1, e1, hl⟩ := bind_ok hl
    obtain ⟨⟨t, l2⟩, e2, hl⟩ := bind_ok hl
    obtain ⟨⟨m2, l3⟩, e3, hl⟩ := bind_ok hl
    dsimp only at e3 hl
    split at hl
    · rename_i hz
      injection hl with hl
      subst hl
      subst hz
      rw [hkf] at e3
      dsimp only [Option.getD] at e3
      obtain ⟨rfl, ht, -⟩ := pNum_ok e2
      obtain ⟨rfl, hg, hf, hok⟩ := pAll_ok fs _ _ _ _ (kindF_well hkf).2.1 e3
      have hkd : m2.kind = k := by rw [hf, (foldl_kind m2 fs _).1]; rfl
      have htg : m2.tag = t := by rw [hf, (foldl_kind m2 fs _).2]; rfl
      have hwell := kindF_well hkf
      refine ⟨rfl, ?_, hr, ?_, hok (head_ok (by omega) (by omega))⟩
      · rw [text_ok (by rw [hkd]; exact hkf) hr, hkd, htg, hkn]
        rw [List.append_nil] at e1
        have := pWord_ok e1
        obtain ⟨p1, -, -⟩ := takeWhile_parts (p := isLet) l
        rw [this] at p1
        exact p1.symm
      · unfold clean
        rw [hkd, htg, hkf]
        exact hf.symm
    · cases hl
  · rename_i hr
    injection h with _ h
    injection h with _ h
    exact absurd h hr
theorem text_clean {m : Mg} (h : (refused m).1 = 0) : textM (clean m) = textM m := by
  obtain ⟨fs, hk, -, -, -, -⟩ := refused_ok h
  rw [text_ok hk h, text_ok (m := clean m) (by rw [(clean_kind m).1]; exact hk) (by rw [clean_refused h]; exact h), (clean_kind m).1, (clean_kind m).2]
  congr 3
  exact flatMap_congr_left fun f hf => (clean_alike hk hf).part
theorem text_inj {a b : Mg} (ha : a.ok) (hb : b.ok) (h1 : (refused a).1 = 0) (h2 : (refused b).1 = 0) : textM a = textM b ↔ clean a = clean b := by
  constructor
  · intro h
    have e1 := parse_text ha h1
    have e2 := parse_text hb h2
    rw [h, e2] at e1
    injection e1 with e1 _
    exact e1.symm
  · intro h
    rw [← text_clean h1, ← text_clean h2, h]
theorem parse_bad {l : List UInt8} {m : Mg} {p e : Nat} (h : parseM l = (m, p, e)) (he : e ≠ 0) : m = head 0 0 ∧ p ≤ l.length ∧ (e = 34 ∨ p = l.length) := by
  unfold parseM at h
  split at h
  · injection h with h1 h2
    injection h2 with h2 h3
    exact ⟨h1.symm, by omega, .inl h3.symm⟩
  · split at h
    · injection h with h1 h2
      injection h2 with h2 h3
      exact absurd h3.symm he
    · injection h with h1 h2
      injection h2 with h2 h3
      exact ⟨h1.symm, by omega, .inr h2.symm⟩
end Go.Proofs.YtkblmloobkiloaaGreatDoor
