/-
  The map of pairs (user, group), as a table of users has it. No walk in this text.
-/
import Derived.Test.YtlenlldiimohjaaDoorUMap
import Derived.DeepKeys4
namespace Go.Proofs.YtlenlldiimohjaaDoor
open Go.RowKit Go.Maps Go.WideMaps

theorem plaidOut : laidOutB Tryd.prog = true := by kernel_rfl
theorem prow : (121 : TypeId) < Tryd.prog.types.size := of_decide_eq_true (by kernel_rfl)
theorem pdeep : Tryd.prog.keyTypeAt 2 121 = true := by kernel_rfl
theorem plaw : KeyLaw Tryd.prog 121 := deep_law_laid plaidOut (m := 2) (by omega) prow pdeep (by rw [Tryd.underlying121])
theorem pkeyed : Keyed Tryd.prog 121 := Keyed.of_law plaw
theorem pcells : Tryd.prog.cellsOf 121 = 2 := by kernel_rfl
theorem pcell1 : Tryd.prog.cellsOf 9 = 1 := by kernel_rfl
theorem pkeyType : Tryd.prog.keyType 121 = true := by kernel_rfl
theorem ptypes : ∃ m, Tryd.prog.types.size = m + 1 := ⟨Tryd.prog.types.size - 1, by kernel_rfl⟩

/-- The key (u, g). -/
def PK (u g : ByteArray) : Lit := .string (keyBytes [.string u.data.toList, .string g.data.toList])

theorem pkey {u g : ByteArray} (hu : u.size ≤ maxLen) (hg : g.size ≤ maxLen) : keyOf Tryd.prog 121 (.agg #[.string u, .string g]) = some (PK u g) := by
  obtain ⟨m, hm⟩ := ptypes
  unfold keyOf PK
  simp only [Tryd.underlying121]
  rw [if_pos (by simp [pkeyType, Value.formed, Tryd.underlying121, pcells]), hm]
  simp [Program.keyLits, Tryd.underlying121, Tryd.underlying9, pcells, pcell1, Value.cells, hu, hg]
theorem PK_inj {u g u' g' : ByteArray} (hu : u.size ≤ maxLen) (hg : g.size ≤ maxLen) (hu' : u'.size ≤ maxLen) (hg' : g'.size ≤ maxLen) (h : PK u g = PK u' g') : u = u' ∧ g = g' := by
  have h1 := plaw.inj (pkey hu hg) (by rw [h]; exact pkey hu' hg')
  injection h1 with h1
  injection h1 with h1
  injection h1 with h1 h2
  injection h2 with h2
  injection h1 with h1
  injection h2 with h2
  exact ⟨h1, h2⟩
theorem PK_lit (u g : ByteArray) : WideAt.IsKeyLit (PK u g) := trivial

/-- Block b is a map of at most n pairs: those of which M tells so. -/
def InMap (w : World) (b n : Nat) (M : ByteArray → ByteArray → Bool) : Prop :=
  ∃ D : DataW Unit, w.ownsMap Tryd.prog 121 (plainElem Tryd.prog 3) b n D ∧
    ∀ u g : ByteArray, u.size ≤ 1099511627776 → g.size ≤ 1099511627776 → Maps.has D (PK u g) = M u g

theorem InMap.keep {w w' : World} {b n : Nat} {M : ByteArray → ByteArray → Bool} (h : InMap w b n M) (hk : ∀ es ck, w.heap[b]? = some (.map es ck) → w'.heap[b]? = w.heap[b]?) : InMap w' b n M := by
  obtain ⟨D, ⟨es, ck, hb, r⟩, hx⟩ := h
  exact ⟨D, ⟨es, ck, (hk es ck hb).trans hb, r⟩, hx⟩
theorem InMap.lt {w : World} {b n : Nat} {M : ByteArray → ByteArray → Bool} (h : InMap w b n M) : b < w.heap.size := by
  obtain ⟨D, ⟨es, ck, hb, r⟩, hx⟩ := h
  exact heap_lt hb
theorem InMap.obj {w : World} {b n : Nat} {M : ByteArray → ByteArray → Bool} (h : InMap w b n M) : ∃ es ck, w.heap[b]? = some (.map es ck) := by
  obtain ⟨D, ⟨es, ck, hb, r⟩, hx⟩ := h
  exact ⟨es, ck, hb⟩
theorem InMap.below {w w' : World} {b n : Nat} {M : ByteArray → ByteArray → Bool} (h : InMap w b n M) (hb : Below w.heap.size w w') : InMap w' b n M :=
  h.keep fun _ _ hc => hb.block b (heap_lt hc)
theorem InMap.made (w : World) : InMap (w.alloc (.map #[] 0)) w.heap.size 0 (fun _ _ => false) :=
  ⟨.map [], World.ownsMap_made _ _ _ _, fun _ _ _ _ => rfl⟩
theorem InMap.mono {w : World} {b n m : Nat} {M : ByteArray → ByteArray → Bool} (h : InMap w b n M) (hn : n ≤ m) : InMap w b m M := by
  obtain ⟨D, h1, h2⟩ := h
  exact ⟨D, h1.mono hn, h2⟩
theorem InMap.as {w : World} {b n : Nat} {M M' : ByteArray → ByteArray → Bool} (h : InMap w b n M) (hM : ∀ u g, M u g = M' u g) : InMap w b n M' := by
  obtain ⟨D, h1, h2⟩ := h
  exact ⟨D, h1, fun u g hu hg => (h2 u g hu hg).trans (hM u g)⟩

theorem InMap.look {w : World} {b n : Nat} {M : ByteArray → ByteArray → Bool} (h : InMap w b n M) (u g : ByteArray) (hu : u.size ≤ 1099511627776) (hg : g.size ≤ 1099511627776) :
    ∃ c : Int, (Instr.lookup 97 (.map (some b)) (.agg #[.string u, .string g]) true).run Tryd.prog w = .ok (.tuple #[.int .i64 c, .bool (M u g)]) w := by
  obtain ⟨D, ho, hx⟩ := h
  have hz : (zeroValue 3).run Tryd.prog w = .ok (.int .i64 0) w := by kernel_rfl
  obtain ⟨v, ps, hrun, hv⟩ := ho.look_ok pkeyed Tryd.underlying97 hz (plainElem_int Tryd.underlying3 (by decide)) (pkey (u := u) (g := g) (by unfold maxLen; omega) (by unfold maxLen; omega))
  obtain ⟨c, rfl, hc, _⟩ := plainElem_int_inv Tryd.underlying3 hv
  exact ⟨c, by rw [hrun, hx u g hu hg]⟩

theorem InMap.add {w : World} {b n : Nat} {M : ByteArray → ByteArray → Bool} (h : InMap w b n M) (u g : ByteArray) (hu : u.size ≤ 1099511627776) (hg : g.size ≤ 1099511627776) (hn : n < maxLen) (i : Nat) (hi : i ≤ 1099511627776) :
    ∃ w', (Instr.mapUpdate 97 (.map (some b)) (.agg #[.string u, .string g]) (.int .i64 (i : Nat))).run Tryd.prog w = .ok () w' ∧ InMap w' b (n + 1) (fun x y => M x y || (decide (x = u) && decide (y = g))) ∧ w.grownBy w' (some b) := by
  obtain ⟨D, ho, hx⟩ := h
  have hwf : (Lit.int .i64 (i : Int)).wf = true := WalkArith.wf_i64 (by omega)
  have hu2 : u.size ≤ maxLen := by unfold maxLen; omega
  have hg2 : g.size ≤ maxLen := by unfold maxLen; omega
  obtain ⟨w', hrun, ho', hgr⟩ := ho.update pkeyed Tryd.underlying97 hn (pkey hu2 hg2) (plainElem_int Tryd.underlying3 hwf)
  refine ⟨w', hrun, ⟨_, ho', fun x y hxs hys => ?_⟩, hgr⟩
  have hm : IsMap D := ho.isMap
  by_cases he : x = u ∧ y = g
  · obtain ⟨rfl, rfl⟩ := he
    show _ = (M x y || (decide (x = x) && decide (y = y)))
    rw [decide_eq_true (rfl : x = x), decide_eq_true (rfl : y = y), Bool.true_and, Bool.or_true]
    exact has_put_same hm (PK_lit _ _) _
  · have hne : PK x y ≠ PK u g := fun e => he (PK_inj (by unfold maxLen; omega) (by unfold maxLen; omega) hu2 hg2 e)
    have h0 : (decide (x = u) && decide (y = g)) = false := by
      cases hd : (decide (x = u) && decide (y = g)) with
      | false => rfl
      | true =>
        rw [Bool.and_eq_true, decide_eq_true_iff, decide_eq_true_iff] at hd
        exact absurd hd he
    show _ = (M x y || (decide (x = u) && decide (y = g)))
    rw [h0, Bool.or_false, ← hx x y hxs hys]
    exact has_put_other hne _
end Go.Proofs.YtlenlldiimohjaaDoor
