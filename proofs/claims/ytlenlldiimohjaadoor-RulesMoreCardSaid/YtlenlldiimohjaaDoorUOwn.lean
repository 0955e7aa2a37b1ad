/-
  Lists of accounts that are one's own: grown by append. No walk in this text.
-/
import Derived.Test.YtlenlldiimohjaaDoorUData
import Derived.Test.YtlenlldiimohjaaDoorULaw2
import Derived.Lib.OwnKind
namespace Go.Proofs.YtlenlldiimohjaaDoor
open Go.RowKit

section
variable {w w' : World} {base e size n : Nat} {v : Value} {xs : List Value}
theorem own_below (h : w.ownsRow base e size v n xs) (hb : Below w.heap.size w w') : w'.ownsRow base e size v n xs := by
  refine ⟨h.1, ?_⟩
  rcases h.2 with h0 | ⟨g, cap, cur, hv, hbg, hg, hr⟩
  · exact .inl h0
  · exact .inr ⟨g, cap, cur, hv, hbg, (hb.block g (heap_lt hg)).trans hg, hr⟩
/-- Cells of another type lie in no block of that row. -/
theorem own_apart (h : w.ownsRow base e size v n xs) {g : Nat} {cur : Array Value} {t : TypeId} {fr : Nat × Nat} (hg : w.heap[g]? = some (.cells cur t fr)) (hne : t ≠ e) : some g ≠ v.ownBlock := by
  intro he
  obtain ⟨c, fz, hk⟩ := Go.Lib.ownsRow_kind h g he.symm
  rw [hg] at hk
  injection hk with hk
  injection hk with _ ht
  exact hne ht
theorem own_grown {w : World} {base' e' size' m : Nat} {u : Value} {ys : List Value} (h : w.ownsRow base e size v n xs) (ho : w.ownsRow base' e' size' u m ys) (hg : w.grownBy w' u.ownBlock) (hne : e ≠ e') : w'.ownsRow base e size v n xs := by
  refine ⟨h.1, ?_⟩
  rcases h.2 with h0 | ⟨g, cap, cur, hv, hbg, hgc, hr⟩
  · exact .inl h0
  · exact .inr ⟨g, cap, cur, hv, hbg, (hg.block g (heap_lt hgc) (own_apart ho hgc hne)).trans hgc, hr⟩
theorem Strs.grown {u : Value} {l : List ByteArray} (hs : Strs w u l) (h : w.ownsRow base e size v n xs) (hg : w.grownBy w' v.ownBlock) (hne : 9 ≠ e) : Strs w' u l :=
  hs.keep fun g _ _ hc => hg.block g (heap_lt hc) (own_apart h hc hne)
end

/-- The accounts L in a row of one's own. -/
def OwnAccts (w : World) (base : Nat) (v : Value) (L : List Acct) : Prop :=
  ∃ xs, w.ownsRow base 104 4 v L.length xs ∧
    ∀ (k : Nat) a, L[k]? = some a → ∃ mv, Strs w mv a.members ∧ xs[k * 4]? = some (.string a.name) ∧ xs[k * 4 + 1]? = some (.string a.leader) ∧ xs[k * 4 + 2]? = some mv ∧ xs[k * 4 + 3]? = some (.string a.key)

section
variable {w w' : World} {base : Nat} {v : Value} {L : List Acct}
theorem OwnAccts.nil_ (w : World) (base : Nat) : OwnAccts w base (.slice none 0 0) [] := ⟨[], World.ownsRow_nil _ _ _ _, by simp⟩
theorem OwnAccts.below (h : OwnAccts w base v L) (hb : Below w.heap.size w w') : OwnAccts w' base v L := by
  obtain ⟨xs, ho, hx⟩ := h
  refine ⟨xs, own_below ho hb, fun k a ha => ?_⟩
  obtain ⟨mv, hm, r⟩ := hx k a ha
  exact ⟨mv, hm.below hb (Nat.le_refl _), r⟩
theorem OwnAccts.alloc (h : OwnAccts w base v L) (x : Obj) : OwnAccts (w.alloc x) base v L := h.below ((Below.refl _ _).alloc (Nat.le_refl _) x)
theorem OwnAccts.accts (h : OwnAccts w base v L) : Accts w v L := by
  obtain ⟨xs, ho, hx⟩ := h
  rcases id ho.2 with ⟨rfl, h0⟩ | ⟨g, cap, cur, rfl, _, _, hc, hm, _⟩
  · have : L = [] := List.eq_nil_of_length_eq_zero h0
    subst this
    exact Accts.nil_ w
  · exact ⟨_, cap, xs, rfl, hc, hm, Row.of_own ho, hx⟩
/-- Another own row of another type is grown. -/
theorem OwnAccts.grown {e size n base' : Nat} {u : Value} {ys : List Value} (h : OwnAccts w base v L) (ho : w.ownsRow base' e size u n ys) (hg : w.grownBy w' u.ownBlock) (h1 : 9 ≠ e) (h2 : 104 ≠ e) : OwnAccts w' base v L := by
  obtain ⟨xs, hox, hx⟩ := h
  refine ⟨xs, ?_, fun k a ha => ?_⟩
  · refine ⟨hox.1, ?_⟩
    rcases hox.2 with h0 | ⟨g, cap, cur, hv, hbg, hgc, hr⟩
    · exact .inl h0
    · exact .inr ⟨g, cap, cur, hv, hbg, (hg.block g (heap_lt hgc) (own_apart ho hgc h2)).trans hgc, hr⟩
  · obtain ⟨mv, hm, r⟩ := hx k a ha
    exact ⟨mv, hm.grown ho hg h1, r⟩
/-- One more is appended. -/
theorem OwnAccts.snoc {a : Acct} {mv v' : Value} {xs : List Value} (ho : w.ownsRow base 104 4 v L.length xs) (hg : w.grownBy w' v.ownBlock)
    (hx : ∀ (k : Nat) a, L[k]? = some a → ∃ mv, Strs w mv a.members ∧ xs[k * 4]? = some (.string a.name) ∧ xs[k * 4 + 1]? = some (.string a.leader) ∧ xs[k * 4 + 2]? = some mv ∧ xs[k * 4 + 3]? = some (.string a.key))
    (hm : Strs w mv a.members) (ho' : w'.ownsRow base 104 4 v' (L.length + 1) (xs ++ [.string a.name, .string a.leader, mv, .string a.key])) : OwnAccts w' base v' (L ++ [a]) := by
  have hl : xs.length = L.length * 4 := ho.1
  refine ⟨_, by rw [List.length_append]; exact ho', fun k b hb => ?_⟩
  by_cases hk : k < L.length
  · rw [List.getElem?_append_left hk] at hb
    obtain ⟨mv', hm', x0, x1, x2, x3⟩ := hx k b hb
    refine ⟨mv', hm'.grown ho hg (by decide), ?_, ?_, ?_, ?_⟩
    · rw [List.getElem?_append_left (by omega)]; exact x0
    · rw [List.getElem?_append_left (by omega)]; exact x1
    · rw [List.getElem?_append_left (by omega)]; exact x2
    · rw [List.getElem?_append_left (by omega)]; exact x3
  · rw [List.getElem?_append_right (by omega)] at hb
    have hk2 : k = L.length := by
      have := (List.getElem?_eq_some_iff.1 hb).1
      simp at this
      omega
    subst hk2
    simp at hb
    subst hb
    refine ⟨mv, hm.grown ho hg (by decide), ?_, ?_, ?_, ?_⟩
    · rw [List.getElem?_append_right (by omega), show L.length * 4 - xs.length = 0 from by omega]; rfl
    · rw [List.getElem?_append_right (by omega), show L.length * 4 + 1 - xs.length = 1 from by omega]; rfl
    · rw [List.getElem?_append_right (by omega), show L.length * 4 + 2 - xs.length = 2 from by omega]; rfl
    · rw [List.getElem?_append_right (by omega), show L.length * 4 + 3 - xs.length = 3 from by omega]; rfl
theorem reads_new4 (w : World) (t : TypeId) (a b c d : Value) : Reads (w.alloc (.cells #[a, b, c, d] t)) (w.heap.size + 1) 4 (some ⟨w.heap.size, 0, none⟩) 1 [a, b, c, d] := by
  refine ⟨rfl, fun _ => ⟨_, rfl, Nat.lt_succ_self _, fun j u hu => ?_⟩⟩
  rw [Addr.add_lit, World.cell?_alloc_new]
  simpa using hu
end
end Go.Proofs.YtlenlldiimohjaaDoor
