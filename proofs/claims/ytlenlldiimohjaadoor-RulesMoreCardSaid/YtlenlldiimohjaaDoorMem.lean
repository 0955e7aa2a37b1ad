/-
  Rows of cells in memory, with their element's type: two rows of different element types never share a block. No program in sight.
-/
import Derived.Test.YtlenlldiimohjaaDoorWords
import Derived.Lib.Hide
namespace Go.Proofs.YtlenlldiimohjaaDoor
open Go.RowKit

/-- The slice address A leads to n elements of size cells of the type e, which read xs. -/
def Row (w : World) (e size : Nat) (A : Option Addr) (n : Nat) (xs : List Value) : Prop :=
  xs.length = n * size ∧ (0 < n → ∃ g o cur fr, A = some ⟨g, o, none⟩ ∧ w.heap[g]? = some (Obj.cells cur e fr) ∧ ∀ j u, xs[j]? = some u → cur[o + j]? = some u)

section
variable {w w' : World} {e size n : Nat} {A : Option Addr} {xs : List Value}

theorem Row.none_ : Row w e size A 0 [] := ⟨by simp, fun h => absurd h (by omega)⟩

theorem Row.keep (h : Row w e size A n xs) (hk : ∀ (g : Nat) cur fr, w.heap[g]? = some (Obj.cells cur e fr) → w'.heap[g]? = w.heap[g]?) : Row w' e size A n xs :=
  ⟨h.1, fun hn => by
    obtain ⟨g, o, cur, fr, hA, hg, hc⟩ := h.2 hn
    exact ⟨g, o, cur, fr, hA, (hk g cur fr hg).trans hg, hc⟩⟩

theorem heap_lt {g : Nat} {x : Obj} (h : w.heap[g]? = some x) : g < w.heap.size := by
  rcases Nat.lt_or_ge g w.heap.size with hlt | hge
  · exact hlt
  · rw [Array.getElem?_eq_none hge] at h; cases h

theorem Row.below {B : Nat} (h : Row w e size A n xs) (hb : Below B w w') (hB : w.heap.size ≤ B) : Row w' e size A n xs :=
  h.keep fun g _ _ hg => hb.block g (by have := heap_lt hg; omega)
theorem Row.drew (h : Row w e size A n xs) : Row w.drew e size A n xs := h
theorem Row.drewN (h : Row w e size A n xs) (k : Nat) : Row (w.drewN k) e size A n xs := h
theorem Row.alloc (h : Row w e size A n xs) (x : Obj) : Row (w.alloc x) e size A n xs :=
  h.keep fun g _ _ hg => Below.heap_alloc w x g (heap_lt hg)
theorem Row.setCell {t : TypeId} {p : Addr} {cs : Array Value} {fr' : Nat × Nat} (h : Row w e size A n xs) (hp : w.heap[p.block]? = some (Obj.cells cs t fr')) (hne : t ≠ e) (u : Value) : Row (w.setCell p u) e size A n xs :=
  h.keep fun g cur fr hg => Below.heap_setCell w p u g (by
    rintro rfl
    rw [hp] at hg
    injection hg with hg
    injection hg with _ ht
    exact hne ht)
theorem Row.setMap {p : Addr} {es : Array MapEntry} {ck : Nat} (h : Row w e size A n xs) (hp : w.heap[p.block]? = some (Obj.map es ck)) (hk : ∀ (g : Nat), g ≠ p.block → w'.heap[g]? = w.heap[g]?) : Row w' e size A n xs :=
  h.keep fun g cur fr hg => hk g (by
    rintro rfl
    rw [hp] at hg
    cases hg)
theorem Row.grown {row : Option Nat} (h : Row w e size A n xs) (hg : w.grownBy w' row) (hr : ∀ (g : Nat), row = some g → ∀ cur fr, w.heap[g]? ≠ some (Obj.cells cur e fr)) : Row w' e size A n xs :=
  h.keep fun g cur fr hc => hg.block g (heap_lt hc) (fun he => hr g he.symm cur fr hc)
theorem Row.cell {g o : Nat} (h : Row w e size (some ⟨g, o, none⟩) n xs) {j : Nat} {u : Value} (hj : xs[j]? = some u) : w.cell? ⟨g, o + j, none⟩ = some u := by
  have hn : 0 < n := by
    rcases Nat.eq_zero_or_pos n with h0 | h0
    · have := h.1
      rw [h0, Nat.zero_mul] at this
      rw [List.eq_nil_of_length_eq_zero this] at hj
      simp at hj
    · exact h0
  obtain ⟨g', o', cur, fr, hA, hg, hc⟩ := h.2 hn
  obtain ⟨rfl, rfl⟩ : g = g' ∧ o = o' := by
    injection hA with hA
    injection hA with h1 h2
    exact ⟨h1, h2⟩
  unfold World.cell?
  rw [hg]
  exact hc j u hj
theorem Row.form (h : Row w e size A n xs) (hn : 0 < n) : ∃ g o, A = some ⟨g, o, none⟩ ∧ g < w.heap.size := by
  obtain ⟨g, o, cur, fr, hA, hg, _⟩ := h.2 hn
  exact ⟨g, o, hA, heap_lt hg⟩
theorem Row.reads (h : Row w e size A n xs) : Reads w w.heap.size size A n xs := by
  refine ⟨h.1, fun hn => ?_⟩
  obtain ⟨g, o, rfl, hlt⟩ := h.form hn
  refine ⟨_, rfl, hlt, fun j u hu => ?_⟩
  rw [Addr.add_lit]
  exact h.cell hu
theorem Row.of_own {base c : Nat} (h : w.ownsRow base e size (.slice A n c) n xs) : Row w e size A n xs := by
  refine ⟨h.1, fun hn => ?_⟩
  rcases h.2 with ⟨_, h0⟩ | ⟨g, cap, cur, hv, _, hg, _, _, hs, ht⟩
  · omega
  · injection hv with hA
    refine ⟨g, 0, cur, (0, 0), hA, hg, fun j u hu => ?_⟩
    rw [← ht] at hu
    have hj := (List.getElem?_eq_some_iff.1 hu).1
    rw [List.getElem?_take_of_lt (by simp at hj; omega)] at hu
    rw [Nat.zero_add]
    simpa using hu
theorem Row.new (w : World) (e size n : Nat) (cs : Array Value) (fr : Nat × Nat) (xs : List Value) (hx : xs.length = n * size) (hc : ∀ (j : Nat) u, xs[j]? = some u → cs[j]? = some u) :
    Row (w.alloc (.cells cs e fr)) e size (some ⟨w.heap.size, 0, none⟩) n xs :=
  ⟨hx, fun _ => ⟨_, 0, cs, fr, rfl, heap_alloc_new w _, fun j u hu => by rw [Nat.zero_add]; exact hc j u hu⟩⟩
theorem Row.front {k : Nat} (h : Row w e size A n xs) (hk : k ≤ n) : Row w e size A k (xs.take (k * size)) := by
  refine ⟨?_, fun hk0 => ?_⟩
  · rw [List.length_take, h.1]
    exact Nat.min_eq_left (Nat.mul_le_mul_right _ hk)
  · obtain ⟨g, o, cur, fr, hA, hg, hc⟩ := h.2 (by omega)
    refine ⟨g, o, cur, fr, hA, hg, fun j u hu => hc j u ?_⟩
    have hj := (List.getElem?_eq_some_iff.1 hu).1
    rwa [List.getElem?_take_of_lt (by simp at hj; omega)] at hu
end
end Go.Proofs.YtlenlldiimohjaaDoor
