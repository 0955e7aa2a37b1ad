/-
  What strings.Split at one byte hands back is the text cut at that byte. No walk in this text but the call's own contract turned.
-/
import Derived.Test.YtlenlldiimohjaaDoorULaw2
import Derived.Lib.SplitLaws
namespace Go.Proofs.YtlenlldiimohjaaDoor

theorem index_parts (c : UInt8) : ∀ l : List UInt8, (Lib.index l [c] = -1 ∧ ∀ x ∈ l, x ≠ c) ∨ (∃ (i : Nat) (p r : List UInt8), Lib.index l [c] = i ∧ l = p ++ c :: r ∧ p.length = i ∧ ∀ x ∈ p, x ≠ c)
  | [] => .inl ⟨rfl, by simp⟩
  | b :: l => by
    by_cases h : b = c
    · subst h
      refine .inr ⟨0, [], l, ?_, rfl, rfl, by simp⟩
      unfold Lib.index
      rw [if_pos (by simp)]
      rfl
    · have hp : ([c] : List UInt8).isPrefixOf (b :: l) = false := by
        show (c == b && List.isPrefixOf [] l) = false
        rw [beq_eq_false_iff_ne.2 (fun he => h he.symm)]
        rfl
      rcases index_parts c l with ⟨h1, h2⟩ | ⟨i, p, r, h1, h2, h3, h4⟩
      · refine .inl ⟨?_, ?_⟩
        · unfold Lib.index
          rw [hp, h1]
          rfl
        · intro x hx
          rcases List.mem_cons.1 hx with rfl | hx
          · exact h
          · exact h2 x hx
      · refine .inr ⟨i + 1, b :: p, r, ?_, by rw [h2]; rfl, by simp [h3], ?_⟩
        · unfold Lib.index
          rw [hp, h1]
          have : ((i : Int) == -1) = false := by rw [beq_eq_false_iff_ne]; omega
          simp [this]
        · intro x hx
          rcases List.mem_cons.1 hx with rfl | hx
          · exact h
          · exact h4 x hx

theorem splitK_cut (c : UInt8) : ∀ (n : Nat) (l : List UInt8), l.length ≤ n → Lib.splitK [c] 0 (Lib.count l [c]) l = cutL c l
  | n, l, hn => by
    rcases index_parts c l with ⟨h1, h2⟩ | ⟨i, p, r, h1, h2, h3, h4⟩
    · rw [Lib.count_miss h1, cutL_none c l h2]
      rfl
    · have hd : l.drop (i + 1) = r := by rw [h2, List.drop_append, ← h3]; simp
      have ht : l.take i = p := by rw [h2, ← h3]; simp
      rw [Lib.count_hit (by simp) h1, Nat.add_comm, Lib.splitK, if_neg (by rw [h1]; simp), h1, h2, cutL_hit c r p h4, ← h2]
      have e1 : ((i : Int).toNat + [c].length) = i + 1 := by simp
      have e2 : ((i : Int).toNat + 0) = i := by simp
      rw [e1, e2, ht]
      have e3 : i + [c].length = i + 1 := rfl
      rw [e3, hd]
      cases n with
      | zero => rw [h2] at hn; simp at hn
      | succ n => rw [splitK_cut c n r (by rw [h2] at hn; simp at hn; omega)]

theorem splitB_cut (c : UInt8) (s : ByteArray) : Lib.splitB ⟨#[c]⟩ 0 (Lib.countB s ⟨#[c]⟩) s = cut c s := by
  have h := Lib.splitB_data ⟨#[c]⟩ 0 (Lib.countB s ⟨#[c]⟩) s
  have h2 := splitK_cut c _ s.data.toList (Nat.le_refl _)
  have h3 : (Lib.splitB ⟨#[c]⟩ 0 (Lib.countB s ⟨#[c]⟩) s).map (·.data.toList) = cutL c s.data.toList := h.trans h2
  unfold cut
  rw [← h3, List.map_map]
  conv => lhs; rw [← List.map_id (Lib.splitB ⟨#[c]⟩ 0 (Lib.countB s ⟨#[c]⟩) s)]
  exact List.map_congr_left fun x _ => (ofL_toList x).symm
end Go.Proofs.YtlenlldiimohjaaDoor
