/-
  How lists of texts and accounts lie in memory. No walk in this text.
-/
import Derived.Test.YtlenlldiimohjaaDoorRows
import Derived.Test.YtlenlldiimohjaaDoorMem
import Derived.Test.YtlenlldiimohjaaDoorULaw
import Derived.WalkKit
import Derived.Deep.QuietTactic
import Derived.BigQuiet
namespace Go.Proofs.YtlenlldiimohjaaDoor
open Go.RowKit

theorem ret_int {k : IntKind} {a b : Int} (h : a = b) : Ending.returned (.int k a) = .returned (.int k b) := by rw [h]
theorem ret_bool {a b : Bool} (h : a = b) : Ending.returned (.bool a) = .returned (.bool b) := by rw [h]
theorem ret_str {a b : ByteArray} (h : a = b) : Ending.returned (.string a) = .returned (.string b) := by rw [h]

theorem quietly {P : Program} {f : FuncId} {args : Array Value} {w : World} {n : Nat} {v : Value}
    (h : Calls P f args (w.drewN n) fun e w' => e = .returned v ∧ w.drewN n = w') : Calls P f args (w.drewN n) fun e w'' => e = .returned v ∧ ∃ m, w'' = w.drewN m :=
  Calls.quiet_of_same (h.mono fun _ _ ⟨h1, h2⟩ => ⟨h1, h2.symm⟩)

/-- w' is w, some draws later. -/
def Drawn (w w' : World) : Prop := ∃ n, w' = w.drewN n
theorem Drawn.refl (w : World) : Drawn w w := ⟨0, rfl⟩
theorem Drawn.next {w w' : World} (h : Drawn w w') (k : Nat) : Drawn w (w'.drewN k) := by obtain ⟨n, rfl⟩ := h; exact ⟨n + k, by rw [World.drewN_drewN]⟩
theorem Drawn.heap {w w' : World} (h : Drawn w w') : w'.heap = w.heap := by obtain ⟨n, rfl⟩ := h; rfl
theorem Drawn.trans {a b c : World} (h : Drawn a b) (k : Drawn b c) : Drawn a c := by obtain ⟨n, rfl⟩ := k; exact h.next n
theorem Drawn.below {w w' : World} (h : Drawn w w') (B : Nat) : Below B w w' := by
  obtain ⟨n, rfl⟩ := h
  exact ⟨rfl, rfl, rfl, Nat.le_refl _, fun _ _ => rfl⟩

/-- The slice value v reads as the texts l. -/
def Strs (w : World) (v : Value) (l : List ByteArray) : Prop :=
  ∃ A c, v = .slice A l.length c ∧ l.length ≤ c ∧ c ≤ maxLen ∧ Row w 9 1 A l.length (l.map Value.string)

section
variable {w w' : World} {v : Value} {l : List ByteArray}
theorem Strs.nil_ (w : World) : Strs w (.slice none 0 0) [] := ⟨none, 0, rfl, Nat.le_refl _, Nat.zero_le _, Row.none_⟩
theorem Strs.below {B : Nat} (h : Strs w v l) (hb : Below B w w') (hB : w.heap.size ≤ B) : Strs w' v l := by
  obtain ⟨A, c, hv, h1, h2, hr⟩ := h; exact ⟨A, c, hv, h1, h2, hr.below hb hB⟩
theorem Strs.alloc (h : Strs w v l) (x : Obj) : Strs (w.alloc x) v l := by
  obtain ⟨A, c, hv, h1, h2, hr⟩ := h; exact ⟨A, c, hv, h1, h2, hr.alloc x⟩
theorem Strs.drawn (h : Strs w v l) (d : Drawn w w') : Strs w' v l := by obtain ⟨n, rfl⟩ := d; exact h
theorem Strs.drewN (h : Strs w v l) (k : Nat) : Strs (w.drewN k) v l := h
theorem Strs.drew (h : Strs w v l) : Strs w.drew v l := h
theorem Strs.keep (h : Strs w v l) (hk : ∀ (g : Nat) cur fr, w.heap[g]? = some (Obj.cells cur 9 fr) → w'.heap[g]? = w.heap[g]?) : Strs w' v l := by
  obtain ⟨A, c, hv, h1, h2, hr⟩ := h; exact ⟨A, c, hv, h1, h2, hr.keep hk⟩
theorem Strs.of_own {base n : Nat} (h : w.ownsRow base 9 1 v n (l.map Value.string)) (hn : n = l.length) : Strs w v l := by
  subst hn
  rcases h.2 with ⟨rfl, h0⟩ | ⟨g, cap, cur, rfl, _, hg, hc, hm, hs, ht⟩
  · have : l = [] := List.eq_nil_of_length_eq_zero h0
    subst this
    exact Strs.nil_ w
  · exact ⟨_, cap, rfl, hc, hm, Row.of_own h⟩
theorem Strs.new (w : World) (cs : Array Value) (fr : Nat × Nat) (l : List ByteArray) (c : Nat) (hc : l.length ≤ c) (hm : c ≤ maxLen) (hx : ∀ (j : Nat) u, (l.map Value.string)[j]? = some u → cs[j]? = some u) :
    Strs (w.alloc (.cells cs 9 fr)) (.slice (some ⟨w.heap.size, 0, none⟩) l.length c) l :=
  ⟨_, c, rfl, hc, hm, Row.new w _ 1 _ cs fr _ (by simp) hx⟩
/-- The cells inside a round. -/
theorem Strs.at_ (h : Strs w v l) {k : Nat} {x : ByteArray} (hk : l[k]? = some x) : ∃ g o c, v = .slice (some ⟨g, o, none⟩) l.length c ∧ l.length ≤ c ∧ w.cell? ⟨g, o + k, none⟩ = some (.string x) := by
  obtain ⟨A, c, rfl, h1, _, hr⟩ := h
  have hl : k < l.length := (List.getElem?_eq_some_iff.1 hk).1
  obtain ⟨g, o, rfl, _⟩ := hr.form (by omega)
  exact ⟨g, o, c, rfl, h1, hr.cell (by rw [List.getElem?_map, hk]; rfl)⟩
/-- The first k of them. -/
theorem Strs.front {A : Option Addr} {n c : Nat} (h : Strs w (.slice A n c) l) {k : Nat} (hk : k ≤ l.length) : Strs w (.slice A k c) (l.take k) := by
  obtain ⟨A', c', hv, h1, h2, hr⟩ := h
  injection hv with e1 e2 e3
  subst e1; subst e3
  have hl : (l.take k).length = k := by rw [List.length_take]; omega
  refine ⟨A, c, by rw [hl], by rw [hl]; omega, h2, ?_⟩
  have := hr.front hk
  rw [hl, List.map_take]
  simpa using this
end

/-- The slice value v reads as the accounts L. -/
def Accts (w : World) (v : Value) (L : List Acct) : Prop :=
  ∃ A c xs, v = .slice A L.length c ∧ L.length ≤ c ∧ c ≤ maxLen ∧ Row w 104 4 A L.length xs ∧
    ∀ (k : Nat) a, L[k]? = some a → ∃ mv, Strs w mv a.members ∧ xs[k * 4]? = some (.string a.name) ∧ xs[k * 4 + 1]? = some (.string a.leader) ∧ xs[k * 4 + 2]? = some mv ∧ xs[k * 4 + 3]? = some (.string a.key)

section
variable {w w' : World} {v : Value} {L : List Acct}
theorem Accts.nil_ (w : World) : Accts w (.slice none 0 0) [] := ⟨none, 0, [], rfl, Nat.le_refl _, Nat.zero_le _, Row.none_, by simp⟩
theorem Accts.below {B : Nat} (h : Accts w v L) (hb : Below B w w') (hB : w.heap.size ≤ B) : Accts w' v L := by
  obtain ⟨A, c, xs, hv, h1, h2, hr, hx⟩ := h
  refine ⟨A, c, xs, hv, h1, h2, hr.below hb hB, fun k a ha => ?_⟩
  obtain ⟨mv, hm, r⟩ := hx k a ha
  exact ⟨mv, hm.below hb hB, r⟩
theorem Accts.alloc (h : Accts w v L) (x : Obj) : Accts (w.alloc x) v L :=
  h.below (((Below.refl _ _).alloc (Nat.le_refl _) x)) (Nat.le_refl _)
theorem Accts.drawn (h : Accts w v L) (d : Drawn w w') : Accts w' v L := by obtain ⟨n, rfl⟩ := d; exact h
theorem Accts.drewN (h : Accts w v L) (k : Nat) : Accts (w.drewN k) v L := h
theorem Accts.drew (h : Accts w v L) : Accts w.drew v L := h
theorem Accts.keep (h : Accts w v L) (hk : ∀ (g : Nat) cur e fr, w.heap[g]? = some (Obj.cells cur e fr) → e = 9 ∨ e = 104 → w'.heap[g]? = w.heap[g]?) : Accts w' v L := by
  obtain ⟨A, c, xs, hv, h1, h2, hr, hx⟩ := h
  refine ⟨A, c, xs, hv, h1, h2, hr.keep (fun g cur fr hg => hk g cur _ fr hg (.inr rfl)), fun k a ha => ?_⟩
  obtain ⟨mv, hm, r⟩ := hx k a ha
  exact ⟨mv, hm.keep (fun g cur fr hg => hk g cur _ fr hg (.inl rfl)), r⟩
theorem Accts.len (h : Accts w v L) : ∃ A c, v = .slice A L.length c ∧ L.length ≤ c ∧ c ≤ maxLen := by
  obtain ⟨A, c, xs, hv, h1, h2, _⟩ := h
  exact ⟨A, c, hv, h1, h2⟩
theorem Accts.at_ (h : Accts w v L) {k : Nat} {a : Acct} (hk : L[k]? = some a) : ∃ g o c mv, v = .slice (some ⟨g, o, none⟩) L.length c ∧ L.length ≤ c ∧ Strs w mv a.members ∧
    w.cell? ⟨g, o + k * 4, none⟩ = some (.string a.name) ∧ w.cell? ⟨g, o + k * 4 + 1, none⟩ = some (.string a.leader) ∧ w.cell? ⟨g, o + k * 4 + 2, none⟩ = some mv ∧ w.cell? ⟨g, o + k * 4 + 3, none⟩ = some (.string a.key) ∧ g < w.heap.size := by
  obtain ⟨A, c, xs, rfl, h1, _, hr, hx⟩ := h
  have hl : k < L.length := (List.getElem?_eq_some_iff.1 hk).1
  obtain ⟨g, o, rfl, hg⟩ := hr.form (by omega)
  obtain ⟨mv, hm, x0, x1, x2, x3⟩ := hx k a hk
  exact ⟨g, o, c, mv, rfl, h1, hm, hr.cell x0, by rw [Nat.add_assoc]; exact hr.cell x1, by rw [Nat.add_assoc]; exact hr.cell x2, by rw [Nat.add_assoc]; exact hr.cell x3, hg⟩
end
end Go.Proofs.YtlenlldiimohjaaDoor
