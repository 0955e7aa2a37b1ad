/-
  M1: what the laws of package msg need of them.
-/
import Derived.Test.YtkblmloobkiloaaGreatDoorQ02
namespace Go.Proofs.YtkblmloobkiloaaGreatDoor
open Go.Lib (decDigits)

theorem le_len : ∀ (k n : Nat), (le k n).length = k
  | 0, _ => rfl
  | k + 1, n => by rw [le, List.length_cons, le_len k]
theorem u8_ofNat (n : Nat) (h : n < 256) : (UInt8.ofNat n).toNat = n := by
  rw [UInt8.toNat_ofNat']; omega
theorem numL_le : ∀ (k n : Nat), n < 256 ^ k → numL (le k n) = n
  | 0, n, h => by simp at h; subst h; rfl
  | k + 1, n, h => by
    rw [le, numL, u8_ofNat _ (Nat.mod_lt _ (by decide)), numL_le k (n / 256) (by rw [Nat.pow_succ] at h; omega)]
    omega
theorem le_numL : ∀ l : List UInt8, le l.length (numL l) = l
  | [] => rfl
  | b :: t => by
    have hb := b.toNat_lt
    rw [List.length_cons, le, numL]
    have h1 : (b.toNat + 256 * numL t) % 256 = b.toNat := by omega
    have h2 : (b.toNat + 256 * numL t) / 256 = numL t := by omega
    rw [h1, h2, le_numL t, UInt8.ofNat_toNat]
theorem numL_lt : ∀ l : List UInt8, numL l < 256 ^ l.length
  | [] => by decide
  | b :: t => by
    have hb := b.toNat_lt
    have := numL_lt t
    rw [List.length_cons, numL, Nat.pow_succ]
    omega
theorem getN_app {n : Nat} (a b : List UInt8) (h : a.length = n) : getN n (a ++ b) = some (a, b) := by
  unfold getN
  rw [if_pos (by rw [List.length_append]; omega), ← h, List.take_left, List.drop_left]
theorem getN_some {n : Nat} {l a b : List UInt8} (h : getN n l = some (a, b)) : l = a ++ b ∧ a.length = n := by
  unfold getN at h
  split at h
  · injection h with h; injection h with h1 h2; subst h1; subst h2
    exact ⟨(List.take_append_drop n l).symm, by rw [List.length_take]; omega⟩
  · cases h
theorem getNum_app (k n : Nat) (r : List UInt8) (h : n < 256 ^ k) : getNum k (le k n ++ r) = some (n, r) := by
  unfold getNum
  rw [getN_app _ _ (le_len k n)]
  simp [numL_le k n h]
theorem getNum_some {k n : Nat} {l r : List UInt8} (h : getNum k l = some (n, r)) : l = le k n ++ r ∧ n < 256 ^ k := by
  unfold getNum at h
  cases hg : getN k l with
  | none => rw [hg] at h; cases h
  | some p =>
    obtain ⟨a, b⟩ := p
    rw [hg] at h
    simp only [Option.map_some, Option.some.injEq, Prod.mk.injEq] at h
    obtain ⟨rfl, rfl⟩ := h
    obtain ⟨rfl, hl⟩ := getN_some hg
    subst hl
    exact ⟨by rw [le_numL], numL_lt a⟩
theorem getStr_app (s : ByteArray) (r : List UInt8) (hs : s.size < 65536) (hg : good s = true) : getStr (strB s ++ r) = some (s, r) := by
  unfold getStr strB
  rw [List.append_assoc, getNum_app 2 _ _ (by simpa using hs)]
  dsimp only
  rw [getN_app _ _ (by rw [Array.length_toList]; rfl)]
  dsimp only
  rw [ofL_toList, if_pos hg]
theorem getStr_some {s : ByteArray} {l r : List UInt8} (h : getStr l = some (s, r)) : l = strB s ++ r ∧ good s = true ∧ s.size < 65536 := by
  unfold getStr at h
  cases h1 : getNum 2 l with
  | none => rw [h1] at h; cases h
  | some p =>
    obtain ⟨n, r1⟩ := p
    rw [h1] at h
    dsimp only at h
    cases h2 : getN n r1 with
    | none => rw [h2] at h; cases h
    | some p =>
      obtain ⟨a, b⟩ := p
      rw [h2] at h
      dsimp only at h
      split at h
      · rename_i hg
        injection h with h; injection h with h3 h4; subst h3; subst h4
        obtain ⟨rfl, hn⟩ := getNum_some h1
        obtain ⟨rfl, hl⟩ := getN_some h2
        refine ⟨?_, hg, by rw [ofL_size, hl]; exact hn⟩
        unfold strB
        rw [ofL_size, hl, List.append_assoc]
        simp [ofL]
      · cases h
theorem qidB_len (q : Qd) : (qidB q).length = 13 := by simp [qidB, le_len]
theorem take_app {n : Nat} (a b : List UInt8) (h : a.length = n) : (a ++ b).take n = a := by rw [← h, List.take_left]
theorem drop_app {n : Nat} (a b : List UInt8) (h : a.length = n) : (a ++ b).drop n = b := by rw [← h, List.drop_left]
theorem getQid_app (q : Qd) (r : List UInt8) (h : q.ok) : getQid (qidB q ++ r) = some (q, r) := by
  obtain ⟨h1, h2, h3⟩ := h
  unfold getQid
  rw [if_pos (by rw [List.length_append, qidB_len]; omega), drop_app _ _ (qidB_len q)]
  have e1 : (qidB q ++ r).take 1 = le 1 q.kind := by unfold qidB; rw [List.append_assoc, List.append_assoc, take_app _ _ (le_len _ _)]
  have e2 : ((qidB q ++ r).drop 1).take 4 = le 4 q.vers := by unfold qidB; rw [List.append_assoc, List.append_assoc, drop_app _ _ (le_len _ _), take_app _ _ (le_len _ _)]
  have e3 : ((qidB q ++ r).drop 5).take 8 = le 8 q.path := by
    unfold qidB
    rw [List.append_assoc, drop_app (le 1 q.kind ++ le 4 q.vers) _ (by simp [le_len]), take_app _ _ (le_len _ _)]
  rw [e1, e2, e3, numL_le 1 _ (by simpa using h1), numL_le 4 _ (by simpa using h2), numL_le 8 _ (by simpa using h3)]
theorem getQid_some {q : Qd} {l r : List UInt8} (h : getQid l = some (q, r)) : l = qidB q ++ r ∧ q.ok := by
  unfold getQid at h
  split at h
  · rename_i hl
    injection h with h; injection h with h1 h2; subst h1; subst h2
    have l1 : (l.take 1).length = 1 := by rw [List.length_take]; omega
    have l2 : ((l.drop 1).take 4).length = 4 := by rw [List.length_take, List.length_drop]; omega
    have l3 : ((l.drop 5).take 8).length = 8 := by rw [List.length_take, List.length_drop]; omega
    have k1 := le_numL (l.take 1); rw [l1] at k1
    have k2 := le_numL ((l.drop 1).take 4); rw [l2] at k2
    have k3 := le_numL ((l.drop 5).take 8); rw [l3] at k3
    refine ⟨?_, ?_, ?_, ?_⟩
    · unfold qidB
      dsimp only
      rw [k1, k2, k3]
      have a1 : l = l.take 1 ++ l.drop 1 := (List.take_append_drop 1 l).symm
      have a2 : l.drop 1 = (l.drop 1).take 4 ++ (l.drop 1).drop 4 := (List.take_append_drop 4 _).symm
      have a3 : l.drop 5 = (l.drop 5).take 8 ++ (l.drop 5).drop 8 := (List.take_append_drop 8 _).symm
      rw [List.drop_drop] at a2 a3
      rw [List.append_assoc, List.append_assoc, ← a3, ← a2, ← a1]
    · have := numL_lt (l.take 1); rw [l1] at this; exact this
    · have := numL_lt ((l.drop 1).take 4); rw [l2] at this; exact this
    · have := numL_lt ((l.drop 5).take 8); rw [l3] at this; exact this
  · cases h
section
variable {α : Type} {one : List UInt8 → Option (α × List UInt8)} {put : α → List UInt8} {ok : α → Prop}
theorem getMany_app : ∀ (xs : List α) (r : List UInt8), (∀ x ∈ xs, ∀ r, one (put x ++ r) = some (x, r)) → getMany one xs.length (xs.flatMap put ++ r) = some (xs, r)
  | [], r, _ => rfl
  | x :: xs, r, h => by
    rw [List.length_cons, getMany, List.flatMap_cons, List.append_assoc, h x List.mem_cons_self]
    dsimp only
    rw [getMany_app xs r (fun y hy => h y (List.mem_cons_of_mem _ hy))]
theorem getMany_some (hone : ∀ {l r x}, one l = some (x, r) → l = put x ++ r ∧ ok x) : ∀ (n : Nat) (l r : List UInt8) (xs : List α), getMany one n l = some (xs, r) → l = xs.flatMap put ++ r ∧ xs.length = n ∧ ∀ x ∈ xs, ok x
  | 0, l, r, xs, h => by
    simp only [getMany, Option.some.injEq, Prod.mk.injEq] at h
    obtain ⟨rfl, rfl⟩ := h
    exact ⟨rfl, rfl, by simp⟩
  | n + 1, l, r, xs, h => by
    rw [getMany] at h
    cases h1 : one l with
    | none => rw [h1] at h; cases h
    | some p =>
      obtain ⟨x, r1⟩ := p
      rw [h1] at h
      dsimp only at h
      cases h2 : getMany one n r1 with
      | none => rw [h2] at h; cases h
      | some p =>
        obtain ⟨ys, r2⟩ := p
        rw [h2] at h
        simp only [Option.some.injEq, Prod.mk.injEq] at h
        obtain ⟨rfl, rfl⟩ := h
        obtain ⟨rfl, ho⟩ := hone h1
        obtain ⟨rfl, hl, ha⟩ := getMany_some hone n r1 r2 ys h2
        refine ⟨by rw [List.flatMap_cons, List.append_assoc], by rw [List.length_cons, hl], ?_⟩
        intro y hy
        rcases List.mem_cons.1 hy with rfl | hy
        · exact ho
        · exact ha y hy
theorem getList_app (xs : List α) (r : List UInt8) (hl : xs.length ≤ 16) (h : ∀ x ∈ xs, ∀ r, one (put x ++ r) = some (x, r)) : getList one (le 2 xs.length ++ xs.flatMap put ++ r) = some (xs, r) := by
  unfold getList
  rw [List.append_assoc, getNum_app 2 _ _ (by omega)]
  dsimp only
  rw [if_neg (by omega), getMany_app xs r h]
theorem getList_some (hone : ∀ {l r x}, one l = some (x, r) → l = put x ++ r ∧ ok x) {l r : List UInt8} {xs : List α} (h : getList one l = some (xs, r)) : l = le 2 xs.length ++ xs.flatMap put ++ r ∧ xs.length ≤ 16 ∧ ∀ x ∈ xs, ok x := by
  unfold getList at h
  cases h1 : getNum 2 l with
  | none => rw [h1] at h; cases h
  | some p =>
    obtain ⟨n, r1⟩ := p
    rw [h1] at h
    dsimp only at h
    split at h
    · cases h
    · obtain ⟨rfl, hn⟩ := getNum_some h1
      obtain ⟨rfl, hl, ha⟩ := getMany_some hone n r1 r xs h
      exact ⟨by rw [hl, List.append_assoc], by omega, ha⟩
end
theorem strB_len (s : ByteArray) : (strB s).length = 2 + s.size := by unfold strB; rw [List.length_append, le_len, Array.length_toList]; rfl
theorem statB_len (s : Sta) : (statB s).length = stSize s := by
  simp only [statB, List.length_append, le_len, qidB_len, strB_len, stSize]; omega
theorem getTexts_app (a b c d : ByteArray) (r : List UInt8) (ha : a.size < 65536 ∧ good a = true) (hb : b.size < 65536 ∧ good b = true) (hc : c.size < 65536 ∧ good c = true) (hd : d.size < 65536 ∧ good d = true) :
    getTexts (strB a ++ (strB b ++ (strB c ++ (strB d ++ r)))) = some ((a, b, c, d), r) := by
  unfold getTexts
  rw [getStr_app _ _ ha.1 ha.2]; dsimp only
  rw [getStr_app _ _ hb.1 hb.2]; dsimp only
  rw [getStr_app _ _ hc.1 hc.2]; dsimp only
  rw [getStr_app _ _ hd.1 hd.2]
theorem getTexts_some {a b c d : ByteArray} {l r : List UInt8} (h : getTexts l = some ((a, b, c, d), r)) : l = strB a ++ (strB b ++ (strB c ++ (strB d ++ r))) ∧ good a = true ∧ good b = true ∧ good c = true ∧ good d = true := by
  unfold getTexts at h
  cases h1 : getStr l with
  | none => rw [h1] at h; cases h
  | some p =>
    obtain ⟨a', r1⟩ := p
    rw [h1] at h; dsimp only at h
    cases h2 : getStr r1 with
    | none => rw [h2] at h; cases h
    | some p =>
      obtain ⟨b', r2⟩ := p
      rw [h2] at h; dsimp only at h
      cases h3 : getStr r2 with
      | none => rw [h3] at h; cases h
      | some p =>
        obtain ⟨c', r3⟩ := p
        rw [h3] at h; dsimp only at h
        cases h4 : getStr r3 with
        | none => rw [h4] at h; cases h
        | some p =>
          obtain ⟨d', r4⟩ := p
          rw [h4] at h
          simp only [Option.some.injEq, Prod.mk.injEq] at h
          obtain ⟨⟨rfl, rfl, rfl, rfl⟩, rfl⟩ := h
          obtain ⟨rfl, ga, -⟩ := getStr_some h1
          obtain ⟨rfl, gb, -⟩ := getStr_some h2
          obtain ⟨rfl, gc, -⟩ := getStr_some h3
          obtain ⟨rfl, gd, -⟩ := getStr_some h4
          exact ⟨rfl, ga, gb, gc, gd⟩
/-- A record's numbers, as bytes. -/
def recN (s : Sta) : List UInt8 := le 2 (stSize s - 2) ++ (le 2 s.type ++ (le 4 s.dev ++ (le 1 s.qid.kind ++ (le 4 s.qid.vers ++ (le 8 s.qid.path ++ (le 4 s.mode ++ (le 4 s.atime ++ (le 4 s.mtime ++ le 8 s.length))))))))
theorem recN_len (s : Sta) : (recN s).length = 41 := by simp [recN, le_len]
theorem statB_eq (s : Sta) : statB s = recN s ++ (strB s.name ++ (strB s.uid ++ (strB s.gid ++ strB s.muid))) := by
  simp only [statB, recN, qidB, List.append_assoc]
theorem split_at (l : List UInt8) (n k : Nat) : l.drop n = (l.drop n).take k ++ l.drop (n + k) := by
  rw [← List.drop_drop, List.take_append_drop]
theorem getRec_app (s : Sta) (hs : s.ok) (hl : stSize s ≤ 65537) (hg : s.good = true) : getRec (statB s) = some s := by
  obtain ⟨n1, n2, ⟨q1, q2, q3⟩, n4, n5, n6, n7⟩ := hs
  simp only [Sta.good, Bool.and_eq_true] at hg
  obtain ⟨⟨⟨g1, g2⟩, g3⟩, g4⟩ := hg
  have hz : 49 + s.name.size + s.uid.size + s.gid.size + s.muid.size = stSize s := rfl
  have hlen := statB_len s
  have ht : getTexts ((statB s).drop 41) = some ((s.name, s.uid, s.gid, s.muid), []) := by
    rw [statB_eq, drop_app _ _ (recN_len s)]
    have := getTexts_app s.name s.uid s.gid s.muid [] ⟨by omega, g1⟩ ⟨by omega, g2⟩ ⟨by omega, g3⟩ ⟨by omega, g4⟩
    rwa [List.append_nil] at this
  have hp : statB s = recN s ++ (strB s.name ++ (strB s.uid ++ (strB s.gid ++ strB s.muid))) := statB_eq s
  generalize strB s.name ++ (strB s.uid ++ (strB s.gid ++ strB s.muid)) = T at hp
  have e0 : (statB s).take 2 = le 2 (stSize s - 2) := by
    rw [hp]; simp only [recN, List.append_assoc]; rw [take_app _ _ (le_len _ _)]
  have key : ∀ (n k v : Nat) (a b : List UInt8), recN s = a ++ (le k v ++ b) → a.length = n → ((statB s).drop n).take k = le k v := by
    intro n k v a b h1 h2
    rw [hp, h1, List.append_assoc, drop_app _ _ h2, List.append_assoc, take_app _ _ (le_len _ _)]
  have e1 := key 2 2 s.type (le 2 (stSize s - 2)) (le 4 s.dev ++ (le 1 s.qid.kind ++ (le 4 s.qid.vers ++ (le 8 s.qid.path ++ (le 4 s.mode ++ (le 4 s.atime ++ (le 4 s.mtime ++ le 8 s.length))))))) rfl (le_len _ _)
  have e2 := key 4 4 s.dev (le 2 (stSize s - 2) ++ le 2 s.type) (le 1 s.qid.kind ++ (le 4 s.qid.vers ++ (le 8 s.qid.path ++ (le 4 s.mode ++ (le 4 s.atime ++ (le 4 s.mtime ++ le 8 s.length)))))) (by simp only [recN, List.append_assoc]) (by simp [le_len])
  have e3 := key 8 1 s.qid.kind (le 2 (stSize s - 2) ++ (le 2 s.type ++ le 4 s.dev)) (le 4 s.qid.vers ++ (le 8 s.qid.path ++ (le 4 s.mode ++ (le 4 s.atime ++ (le 4 s.mtime ++ le 8 s.length))))) (by simp only [recN, List.append_assoc]) (by simp [le_len])
  have e4 := key 9 4 s.qid.vers (le 2 (stSize s - 2) ++ (le 2 s.type ++ (le 4 s.dev ++ le 1 s.qid.kind))) (le 8 s.qid.path ++ (le 4 s.mode ++ (le 4 s.atime ++ (le 4 s.mtime ++ le 8 s.length)))) (by simp only [recN, List.append_assoc]) (by simp [le_len])
  have e5 := key 13 8 s.qid.path (le 2 (stSize s - 2) ++ (le 2 s.type ++ (le 4 s.dev ++ (le 1 s.qid.kind ++ le 4 s.qid.vers)))) (le 4 s.mode ++ (le 4 s.atime ++ (le 4 s.mtime ++ le 8 s.length))) (by simp only [recN, List.append_assoc]) (by simp [le_len])
  have e6 := key 21 4 s.mode (le 2 (stSize s - 2) ++ (le 2 s.type ++ (le 4 s.dev ++ (le 1 s.qid.kind ++ (le 4 s.qid.vers ++ le 8 s.qid.path))))) (le 4 s.atime ++ (le 4 s.mtime ++ le 8 s.length)) (by simp only [recN, List.append_assoc]) (by simp [le_len])
  have e7 := key 25 4 s.atime (le 2 (stSize s - 2) ++ (le 2 s.type ++ (le 4 s.dev ++ (le 1 s.qid.kind ++ (le 4 s.qid.vers ++ (le 8 s.qid.path ++ le 4 s.mode)))))) (le 4 s.mtime ++ le 8 s.length) (by simp only [recN, List.append_assoc]) (by simp [le_len])
  have e8 := key 29 4 s.mtime (le 2 (stSize s - 2) ++ (le 2 s.type ++ (le 4 s.dev ++ (le 1 s.qid.kind ++ (le 4 s.qid.vers ++ (le 8 s.qid.path ++ (le 4 s.mode ++ le 4 s.atime))))))) (le 8 s.length) (by simp only [recN, List.append_assoc]) (by simp [le_len])
  have e9 := key 33 8 s.length (le 2 (stSize s - 2) ++ (le 2 s.type ++ (le 4 s.dev ++ (le 1 s.qid.kind ++ (le 4 s.qid.vers ++ (le 8 s.qid.path ++ (le 4 s.mode ++ (le 4 s.atime ++ le 4 s.mtime)))))))) [] (by simp only [recN, List.append_assoc, List.append_nil]) (by simp [le_len])
  unfold getRec
  rw [if_neg (by omega), e0, e1, e2, e3, e4, e5, e6, e7, e8, e9, ht, hlen, numL_le 2 _ (by omega), if_neg (by omega), numL_le 2 _ (by omega), numL_le 4 _ (by omega), numL_le 1 _ (by omega), numL_le 4 _ (by omega), numL_le 8 _ (by omega), numL_le 4 _ (by omega), numL_le 4 _ (by omega), numL_le 4 _ (by omega), numL_le 8 _ (by omega)]
theorem num_at (l : List UInt8) (n k : Nat) (h : n + k ≤ l.length) : le k (numL ((l.drop n).take k)) = (l.drop n).take k := by
  have hk : ((l.drop n).take k).length = k := by rw [List.length_take, List.length_drop]; omega
  have := le_numL ((l.drop n).take k)
  rwa [hk] at this
theorem num_at_lt (l : List UInt8) (n k : Nat) : numL ((l.drop n).take k) < 256 ^ k :=
  Nat.lt_of_lt_of_le (numL_lt _) (Nat.pow_le_pow_right (by decide) (by rw [List.length_take]; omega))
theorem getRec_some {s : Sta} {l : List UInt8} (h : getRec l = some s) : l = statB s ∧ s.good = true ∧ s.ok ∧ stSize s ≤ 65537 := by
  unfold getRec at h
  split at h
  · cases h
  rename_i h49
  split at h
  · cases h
  rename_i hn
  split at h
  · rename_i a b c d ht
    injection h with h
    subst h
    obtain ⟨hd, ga, gb, gc, gd⟩ := getTexts_some ht
    rw [List.append_nil] at hd
    have hlen : l.length = 49 + a.size + b.size + c.size + d.size := by
      have := congrArg List.length hd
      rw [List.length_drop] at this
      simp only [List.length_append, strB_len] at this
      omega
    have h2 := numL_lt (l.take 2)
    have l2 : (l.take 2).length = 2 := by rw [List.length_take]; omega
    rw [l2] at h2
    refine ⟨?_, by simp [Sta.good, ga, gb, gc, gd], ⟨num_at_lt l 2 2, num_at_lt l 4 4, ⟨num_at_lt l 8 1, num_at_lt l 9 4, num_at_lt l 13 8⟩, num_at_lt l 21 4, num_at_lt l 25 4, num_at_lt l 29 4, num_at_lt l 33 8⟩, by unfold stSize; dsimp only; omega⟩
    rw [statB_eq]
    unfold recN stSize
    dsimp only
    have k0 := le_numL (l.take 2); rw [l2] at k0
    rw [← hd, num_at l 2 2 (by omega), num_at l 4 4 (by omega), num_at l 8 1 (by omega), num_at l 9 4 (by omega), num_at l 13 8 (by omega), num_at l 21 4 (by omega), num_at l 25 4 (by omega), num_at l 29 4 (by omega), num_at l 33 8 (by omega),
      show 49 + a.size + b.size + c.size + d.size - 2 = numL (l.take 2) by omega, k0]
    simp only [List.append_assoc]
    rw [← split_at l 33 8, ← split_at l 29 4, ← split_at l 25 4, ← split_at l 21 4, ← split_at l 13 8, ← split_at l 9 4, ← split_at l 8 1, ← split_at l 4 4, ← split_at l 2 2, List.take_append_drop]
  · cases h
theorem getStat_app (s : Sta) (hs : s.ok) (hl : stSize s ≤ 65535) (hg : s.good = true) : getStat (le 2 (stSize s) ++ statB s) = some (s, []) := by
  unfold getStat
  rw [getNum_app 2 _ _ (by omega)]
  dsimp only
  rw [if_pos (statB_len s).symm, getRec_app s hs (by omega) hg]
  rfl
theorem getStat_some {s : Sta} {l r : List UInt8} (h : getStat l = some (s, r)) : l = le 2 (stSize s) ++ statB s ++ r ∧ s.good = true ∧ s.ok ∧ stSize s ≤ 65535 := by
  unfold getStat at h
  cases h1 : getNum 2 l with
  | none => rw [h1] at h; cases h
  | some p =>
    obtain ⟨n, r1⟩ := p
    rw [h1] at h; dsimp only at h
    split at h
    · rename_i hn
      cases h2 : getRec r1 with
      | none => rw [h2] at h; cases h
      | some s' =>
        rw [h2] at h
        simp only [Option.map_some, Option.some.injEq, Prod.mk.injEq] at h
        obtain ⟨rfl, rfl⟩ := h
        obtain ⟨rfl, hlt⟩ := getNum_some h1
        obtain ⟨rfl, hg, hok, -⟩ := getRec_some h2
        rw [statB_len] at hn
        subst hn
        exact ⟨by simp, hg, hok, by omega⟩
    · cases h
end Go.Proofs.YtkblmloobkiloaaGreatDoor
