
/-
  Plain laws of layer 7's lines: a line is read to its end, whatever the pieces; so it is told; numbers are read back.
-/
import Derived.Test.YtlenlldiimohjaaGreatDoorAWrites
namespace Go.Proofs.YtlenlldiimohjaaGreatDoor
open Go.RowKit SumLaw

theorem hexV_hexC : ∀ d, d < 16 → hexV (hexC d).toNat = some d := by
  have key : ∀ d : Fin 16, hexV (hexC d.1).toNat = some d.1 := by decide +kernel
  exact fun d h => key ⟨d, h⟩
theorem hexP_hexN : ∀ (k n : Nat), n < 16 ^ k → hexP (hexN k n) = some n
  | 0, n, h => by
    have : n = 0 := by simpa using h
    subst this
    rfl
  | k + 1, n, h => by
    rw [hexN, hexP_snoc, hexP_hexN k (n / 16) (by rw [Nat.div_lt_iff_lt_mul (by omega)]; rw [Nat.pow_succ] at h; exact h), Option.bind_some, hexV_hexC _ (Nat.mod_lt _ (by omega)), Option.map_some]
    congr 1
    omega
theorem numS_hex (n : Nat) (h : n < 18446744073709551616) : numS (hex16 n) = (n, true) := by
  unfold numS
  have h2 : (hex16 n).data.toList = hexN 16 n := by simp [hex16, ofL]
  rw [h2, hexP_hexN 16 n (by omega)]
  simp
/-- A line is read to its end. -/
theorem read_line (L : List Acct) (cuts : List Int) (S : List UInt8) (step next : Int) (hnx : next ≠ 5 ∧ next ≠ 1 ∧ next ≠ 3) :
    ∀ (f n : Nat) (t : Tk) (all : List UInt8) (j : Nat), (∀ (u : Tk) (c : Int), u.step = step → u.user = t.user → u.tree = t.tree → u.ours = t.ours → u.theirs = t.theirs → readS L u [] c = lineRd u [] S next c) →
      t.step = step → t.said = (j : Int) → j < S.length → S.length - j < f → readsF L cuts f n t all = ⟨{ t with step := next, said := 0 }, all ++ S.drop j, true⟩
  | 0, _, _, _, _, _, _, _, _, h => absurd h (by omega)
  | f + 1, n, t, all, j, hrd, hst, hsd, hj, hf => by
    have hpc := pieceS_pos cuts n
    have hr := hrd t (pieceS cuts n) hst rfl rfl rfl rfl
    have hfrom : fromN t.said S.length = j := by unfold fromN; rw [hsd]; omega
    obtain ⟨e, he⟩ : ∃ e, toN t.said (pieceS cuts n) S.length = e := ⟨_, rfl⟩
    have he1 : j < e ∧ e ≤ S.length ∧ e - j ≤ pieceS cuts n := by
      rw [← he]
      unfold toN
      rw [hfrom]
      omega
    have hout : ((S.take e).drop j).length = e - j := by
      rw [List.length_drop, List.length_take]
      omega
    have hne : (S.take e).drop j ≠ [] := fun h0 => by
      rw [h0] at hout
      simp at hout
      omega
    by_cases hend : e = S.length
    · have hr2 : readS L t [] (pieceS cuts n) = ⟨{ t with step := next, said := 0 }, [], (S.take e).drop j, 0⟩ := by
        rw [hr]
        unfold lineRd
        rw [he, hfrom, if_pos hend]
      rw [readsF, hr2]
      rw [if_neg (by
        intro h
        rcases h with h | h
        · exact h rfl
        · have : pieceS cuts n < ((S.take e).drop j).length := h
          omega), if_neg hne]
      obtain ⟨f, rfl⟩ : ∃ q, f = q + 1 := ⟨f - 1, by omega⟩
      have hr3 : ∀ c, readS L { t with step := next, said := 0 } [] c = ⟨{ t with step := next, said := 0 }, [], [], 0⟩ := fun c => by
        unfold readS
        rw [if_neg hnx.1, if_neg hnx.2.1, if_neg hnx.2.2]
      rw [readsF, hr3, if_neg (by
        intro h
        rcases h with h | h
        · exact h rfl
        · have : pieceS cuts (n + 1) < 0 := h
          omega), if_pos rfl, hend, List.take_length]
    · have hr2 : readS L t [] (pieceS cuts n) = ⟨{ t with said := (e : Int) }, [], (S.take e).drop j, 0⟩ := by
        rw [hr]
        unfold lineRd
        rw [he, hfrom, if_neg hend]
      rw [readsF, hr2]
      rw [if_neg (by
        intro h
        rcases h with h | h
        · exact h rfl
        · have : pieceS cuts n < ((S.take e).drop j).length := h
          omega), if_neg hne]
      have ih := read_line L cuts S step next hnx f (n + 1) { t with said := (e : Int) } (all ++ (S.take e).drop j) e (fun u c h1 h2 h3 h4 h5 => hrd u c h1 h2 h3 h4 h5) hst rfl (by omega) (by omega)
      show readsF L cuts f (n + 1) { t with said := (e : Int) } (all ++ (S.take e).drop j) = _
      rw [ih, List.append_assoc]
      congr 2
      have h1 : S.drop j = (S.take e ++ S.drop e).drop j := by rw [List.take_append_drop]
      rw [h1, List.drop_append_of_le_length (by rw [List.length_take]; omega)]
/-- A line of thirty-three bytes is told to its end. -/
theorem write_line (L : List Acct) (cuts : List Int) (t : Tk) (hst : t.step = 2) :
    ∀ (f n : Nat) (l b : List UInt8), l.length + b.length = 33 → b ≠ [] → b.length ≤ f → writesF L cuts f n t l b = ⟨(heardS L t (l ++ b) 0).t, [], true⟩
  | 0, _, _, b, _, hne, hf => absurd (List.eq_nil_of_length_eq_zero (by omega)) hne
  | f + 1, n, l, b, h33, hne, hf => by
    have hpc := pieceS_pos cuts n
    have hbp : 0 < b.length := List.length_pos_iff.2 hne
    obtain ⟨k, hk⟩ : ∃ k, min (pieceS cuts n) b.length = k := ⟨_, rfl⟩
    have hk1 : 1 ≤ k ∧ k ≤ b.length := by omega
    have htl : (b.take k).length = k := by rw [List.length_take]; omega
    have hcommon : writeS L t l (b.take k) = if l.length + k = 33 then heardS L t (l ++ b.take k) k else ⟨t, l ++ b.take k, k, 0⟩ := by
      unfold writeS
      rw [if_neg (by rw [hst]; decide), if_neg (by rw [hst]; decide), htl, if_neg (by omega)]
    rw [writesF, if_neg hne, hk, hcommon]
    by_cases hend : l.length + k = 33
    · rw [if_pos hend]
      have hkb : k = b.length := by omega
      have hb : b.take k = b := List.take_of_length_le (by omega)
      have hd : b.drop k = [] := List.drop_of_length_le (by omega)
      rw [hb, hd]
      have h0 : (heardS L t (l ++ b) (k : Int)).e = 0 ∧ (heardS L t (l ++ b) (k : Int)).n = (k : Int) ∧ (heardS L t (l ++ b) (k : Int)).h = [] ∧ (heardS L t (l ++ b) (k : Int)).t = (heardS L t (l ++ b) 0).t := by
        unfold heardS
        split <;> exact ⟨rfl, rfl, rfl, rfl⟩
      rw [if_neg (by
        intro h
        rcases h with h | h
        · exact h h0.1
        · exact h h0.2.1), h0.2.2.1, h0.2.2.2]
      cases f <;> rfl
    · rw [if_neg hend, if_neg (by
        intro h
        rcases h with h | h
        · exact h rfl
        · exact h rfl)]
      have hdl : (b.drop k).length = b.length - k := List.length_drop
      have ih := write_line L cuts t hst f (n + 1) (l ++ b.take k) (b.drop k) (by rw [List.length_append, htl, hdl]; omega) (fun h0 => by rw [h0] at hdl; simp at hdl; omega) (by rw [hdl]; omega)
      show writesF L cuts f (n + 1) t (l ++ b.take k) (b.drop k) = _
      rw [ih, List.append_assoc, List.take_append_drop]
theorem lineS_list (key user tree : ByteArray) (ours : Int) (theirs : Nat) : (lineS key user tree ours theirs).data.toList = hexN 16 theirs ++ hexN 16 (shN key user tree 1 ours theirs) ++ [10] := by
  unfold lineS
  simp [ofL]
theorem lineS_take (key user tree : ByteArray) (ours : Int) (theirs : Nat) : ofL ((lineS key user tree ours theirs).data.toList.take 16) = hex16 theirs := by
  rw [lineS_list, List.append_assoc, List.take_append_of_le_length (by rw [hexN_len]; exact Nat.le_refl _), List.take_of_length_le (by rw [hexN_len]; exact Nat.le_refl _)]
  rfl
/-- Sums of two servers' numbers. -/
theorem shN_ours {key user tree : ByteArray} {side theirs a b : Int} (hs : U side) (ht : U theirs) (ha : U a) (hb : U b) (h : shN key user tree side a theirs = shN key user tree side b theirs) : a = b := by
  rcases Classical.em (a = b) with he | hne
  · exact he
  · exfalso
    have h2 := sumZ_two key.data.toList [side, 0, theirs, sumZ user.data.toList [], sumZ tree.data.toList []] 1 a b (by
      intro x hx
      simp only [List.mem_cons, List.not_mem_nil, or_false] at hx
      rcases hx with rfl | rfl | rfl | rfl | rfl
      · exact hs
      · exact ⟨by decide, by decide⟩
      · exact ht
      · exact sumZ_U _ _
      · exact sumZ_U _ _) ha hb (by simp) hne
    have e1 := shN_eq key user tree side a theirs
    have e2 := shN_eq key user tree side b theirs
    exact h2 (show sumZ key.data.toList [side, a, theirs, sumZ user.data.toList [], sumZ tree.data.toList []] = sumZ key.data.toList [side, b, theirs, sumZ user.data.toList [], sumZ tree.data.toList []] from by rw [e1, e2, h])
/-- The two sides' sums. -/
theorem shN_side {key user tree : ByteArray} {theirs a : Int} (ht : U theirs) (ha : U a) : shN key user tree 1 a theirs ≠ shN key user tree 2 a theirs := by
  intro h
  have h2 := sumZ_two key.data.toList [0, a, theirs, sumZ user.data.toList [], sumZ tree.data.toList []] 0 1 2 (by
    intro x hx
    simp only [List.mem_cons, List.not_mem_nil, or_false] at hx
    rcases hx with rfl | rfl | rfl | rfl | rfl
    · exact ⟨by decide, by decide⟩
    · exact ha
    · exact ht
    · exact sumZ_U _ _
    · exact sumZ_U _ _) ⟨by decide, by decide⟩ ⟨by decide, by decide⟩ (by simp) (by decide)
  have e1 := shN_eq key user tree 1 a theirs
  have e2 := shN_eq key user tree 2 a theirs
  exact h2 (show sumZ key.data.toList [1, a, theirs, sumZ user.data.toList [], sumZ tree.data.toList []] = sumZ key.data.toList [2, a, theirs, sumZ user.data.toList [], sumZ tree.data.toList []] from by rw [e1, e2, h])
/-- Two lines for two servers. -/
theorem lineS_ours {key user tree : ByteArray} {a b : Int} {theirs : Nat} (ht : theirs < 18446744073709551616) (ha : U a) (hb : U b) : lineS key user tree a theirs = lineS key user tree b theirs ↔ a = b := by
  constructor
  · intro h
    have h1 := congrArg (fun s : ByteArray => s.data.toList) h
    simp only [lineS_list] at h1
    rw [List.append_assoc, List.append_assoc] at h1
    have h2 := List.append_cancel_left h1
    have h3 := (List.append_inj h2 (by rw [hexN_len, hexN_len])).1
    have h4 := hexN_inj 16 (by have := shN_lt key user tree 1 a theirs; omega) (by have := shN_lt key user tree 1 b theirs; omega) h3
    exact shN_ours ⟨by decide, by decide⟩ ⟨by omega, by omega⟩ ha hb h4
  · rintro rfl
    rfl
/-- What is heard of a line for a server whose number is o. -/
theorem heard_line {L : List Acct} {t : Tk} {key : ByteArray} {a : Int} {theirs : Nat} (n : Int) (hk : keyOfUser L t.user = key) (ht : theirs < 18446744073709551616) (ha : U a) (ho : U t.ours) :
    (heardS L t (lineS key t.user t.tree a theirs).data.toList n).t = if t.ours = a then { t with theirs := (theirs : Int), step := 3 } else { t with step := 5 } := by
  unfold heardS
  rw [lineS_take, numS_hex theirs ht, ofL_toList, hk]
  by_cases h : t.ours = a
  · rw [if_pos h, if_pos ⟨rfl, by rw [h]⟩]
  · rw [if_neg h, if_neg (fun hh => h ((lineS_ours ht ha ho).1 hh.2).symm)]
theorem helloS_list (n : Nat) : (helloS n).data.toList = [118, 101, 114, 103, 101, 114, 49, 32] ++ hexN 16 n ++ [10] := by
  unfold helloS
  simp [ofL]
theorem heard25_hello (n : Nat) (h : n < 18446744073709551616) : heard25 (helloS n).data.toList = (n, true) := by
  have hl : (helloS n).data.toList.length = 25 := by
    rw [helloS_list, List.length_append, List.length_append, hexN_len]
    rfl
  have hm : ofL (((helloS n).data.toList.take 24).drop 8) = hex16 n := by
    rw [helloS_list, List.take_append_of_le_length (by rw [List.length_append, hexN_len]; decide), List.take_of_length_le (by rw [List.length_append, hexN_len]; decide), List.drop_append_of_le_length (by decide)]
    rfl
  unfold heard25
  rw [if_pos hl, hm, numS_hex n h, ofL_toList]
  simp
theorem shownS_list (n : Nat) : (shownS n).data.toList = hexN 16 n ++ [10] := by
  unfold shownS
  simp [ofL]
theorem shownS_inj {a b : Nat} (ha : a < 18446744073709551616) (hb : b < 18446744073709551616) (h : shownS a = shownS b) : a = b := by
  have h1 := congrArg (fun s : ByteArray => s.data.toList) h
  simp only [shownS_list] at h1
  exact hexN_inj 16 (by omega) (by omega) (List.append_cancel_right h1)
/-- The proof for b, against the hello of a. -/
theorem confS_two {key user tree : ByteArray} {a b : Nat} {theirs : Int} (ha : a < 18446744073709551616) (hb : b < 18446744073709551616) (ht : U theirs) :
    confS key user tree (helloS a).data.toList theirs (shownS (shN key user tree 2 (b : Int) theirs)).data.toList = decide (a = b) := by
  unfold confS
  rw [heard25_hello a ha, ofL_toList]
  have hl : (shownS (shN key user tree 2 (b : Int) theirs)).data.toList.length = 17 := by
    rw [shownS_list, List.length_append, hexN_len]
    rfl
  rw [hl]
  by_cases h : a = b
  · subst h
    simp
  · have hne : ¬ shownS (shN key user tree 2 (b : Int) theirs) = shownS (shN key user tree 2 (a : Int) theirs) := fun hh => by
      have h1 := shownS_inj (shN_lt _ _ _ _ _ _) (shN_lt _ _ _ _ _ _) hh
      have h2 := shN_ours (side := 2) ⟨by decide, by decide⟩ ht ⟨by omega, by omega⟩ ⟨by omega, by omega⟩ h1
      omega
    simp [h, hne]
/-- What a client says is no proof. -/
theorem line_no_proof {key user tree : ByteArray} {a theirs : Nat} (ha : a < 18446744073709551616) (ht : theirs < 18446744073709551616) : ofL ((lineS key user tree (a : Int) theirs).data.toList.drop 16) ≠ shownS (shN key user tree 2 (a : Int) (theirs : Int)) := by
  intro h
  have h0 : ofL ((lineS key user tree (a : Int) theirs).data.toList.drop 16) = shownS (shN key user tree 1 (a : Int) (theirs : Int)) := by
    rw [lineS_list, List.append_assoc, List.drop_append_of_le_length (by rw [hexN_len]; exact Nat.le_refl _), List.drop_of_length_le (by rw [hexN_len]; exact Nat.le_refl _), List.nil_append, shownS]
  rw [h0] at h
  exact shN_side ⟨by omega, by omega⟩ ⟨by omega, by omega⟩ (shownS_inj (shN_lt _ _ _ _ _ _) (shN_lt _ _ _ _ _ _) h)
/-- From a fresh Talk its hello is read. -/
theorem reads_hello (L : List Acct) (cuts : List Int) (user tree : ByteArray) (n : Nat) : readsF L cuts 60 0 ⟨user, tree, (n : Int), 0, 1, 0⟩ [] = ⟨⟨user, tree, (n : Int), 0, 2, 0⟩, (helloS n).data.toList, true⟩ := by
  have hl : (helloS n).data.toList.length = 25 := by
    rw [helloS_list, List.length_append, List.length_append, hexN_len]
    rfl
  have h := read_line L cuts (helloS n).data.toList 1 2 ⟨by decide, by decide, by decide⟩ 60 0 ⟨user, tree, (n : Int), 0, 1, 0⟩ [] 0 (fun u c h1 h2 h3 h4 h5 => by
    unfold readS
    rw [if_neg (by rw [h1]; decide), if_pos h1, h4]
    rfl) rfl rfl (by omega) (by omega)
  rw [h, List.drop_zero, List.nil_append]
/-- Behind the answer the proof is read. -/
theorem reads_proof (L : List Acct) (cuts : List Int) (user tree : ByteArray) (ours theirs : Int) : readsF L cuts 60 0 ⟨user, tree, ours, theirs, 3, 0⟩ [] = ⟨⟨user, tree, ours, theirs, 4, 0⟩, (shownS (shN (keyOfUser L user) user tree 2 ours theirs)).data.toList, true⟩ := by
  have hl : (shownS (shN (keyOfUser L user) user tree 2 ours theirs)).data.toList.length = 17 := by
    rw [shownS_list, List.length_append, hexN_len]
    rfl
  have h := read_line L cuts (shownS (shN (keyOfUser L user) user tree 2 ours theirs)).data.toList 3 4 ⟨by decide, by decide, by decide⟩ 60 0 ⟨user, tree, ours, theirs, 3, 0⟩ [] 0 (fun u c h1 h2 h3 h4 h5 => by
    unfold readS
    rw [if_neg (by rw [h1]; decide), if_neg (by rw [h1]; decide), if_pos h1, h2, h3, h4, h5]) rfl rfl (by omega) (by omega)
  rw [h, List.drop_zero, List.nil_append]
end Go.Proofs.YtlenlldiimohjaaGreatDoor
