/-
  The map of names to places, as a table of users has it. No walk in this text.
-/
import Derived.Test.YtlenlldiimohjaaDoorUOwn
import Derived.Maps.OwnSet
import Derived.Maps.Views
namespace Go.Proofs.YtlenlldiimohjaaDoor
open Go.RowKit Go.Maps

theorem skey : Keyed Tryd.prog 9 := string_keyed Tryd.underlying9
def KS (s : ByteArray) : Lit := .string s.data.toList
theorem KS_inj {s t : ByteArray} (h : KS s = KS t) : s = t := by
  unfold KS at h
  injection h with h
  rw [← ofL_toList s, h, ofL_toList]
theorem KS_lit (s : ByteArray) : WideAt.IsKeyLit (KS s) := trivial

/-- Where the account of that name stands (0: nowhere). -/
def ix (L : List Acct) (s : ByteArray) : Nat := (findIx L s).getD 0

theorem known_snoc (L : List Acct) (a : Acct) (s : ByteArray) : known (L ++ [a]) s = (known L s || decide (a.name = s)) := by
  unfold known; simp
theorem findIx_known {L : List Acct} {s : ByteArray} (h : known L s = false) : findIx L s = none := by
  unfold findIx
  rw [List.findIdx?_eq_none_iff]
  unfold known at h
  rw [List.any_eq_false] at h
  intro x hx
  simpa using h x hx
theorem ix_snoc_new {L : List Acct} {a : Acct} (h : known L a.name = false) : ix (L ++ [a]) a.name = L.length := by
  have := findIx_known h
  unfold ix findIx at *
  rw [List.findIdx?_append, this]
  simp
theorem ix_snoc_other {L : List Acct} {a : Acct} {s : ByteArray} (h : ¬ a.name = s) : ix (L ++ [a]) s = ix L s := by
  unfold ix findIx
  rw [List.findIdx?_append]
  cases hf : L.findIdx? (fun a => decide (a.name = s)) with
  | some i => rfl
  | none => simp [h]

/-- Block b is the map from the names of L to their places. -/
def AtMap (w : World) (b n : Nat) (L : List Acct) : Prop :=
  ∃ D : DataW Unit, w.ownsMap Tryd.prog 9 (plainElem Tryd.prog 3) b n D ∧
    ∀ s : ByteArray, Maps.has D (KS s) = known L s ∧ D.atKey (KS s) (.lit (.int .i64 0)) = .lit (.int .i64 (ix L s : Nat))

theorem AtMap.keep {w w' : World} {b n : Nat} {L : List Acct} (h : AtMap w b n L) (hk : ∀ es ck, w.heap[b]? = some (.map es ck) → w'.heap[b]? = w.heap[b]?) : AtMap w' b n L := by
  obtain ⟨D, ⟨es, ck, hb, r⟩, hx⟩ := h
  exact ⟨D, ⟨es, ck, (hk es ck hb).trans hb, r⟩, hx⟩
theorem AtMap.lt {w : World} {b n : Nat} {L : List Acct} (h : AtMap w b n L) : b < w.heap.size := by
  obtain ⟨D, ⟨es, ck, hb, r⟩, hx⟩ := h
  exact heap_lt hb
theorem AtMap.below {w w' : World} {b n : Nat} {L : List Acct} (h : AtMap w b n L) (hb : Below w.heap.size w w') : AtMap w' b n L :=
  h.keep fun _ _ hc => hb.block b (heap_lt hc)
theorem AtMap.made (w : World) : AtMap (w.alloc (.map #[] 0)) w.heap.size 0 [] :=
  ⟨.map [], World.ownsMap_made _ _ _ _, fun _ => ⟨rfl, rfl⟩⟩

theorem AtMap.look {w : World} {b n : Nat} {L : List Acct} (h : AtMap w b n L) (s : ByteArray) (hs : s.size ≤ maxLen) :
    (Instr.lookup 95 (.map (some b)) (.string s) true).run Tryd.prog w = .ok (.tuple #[.int .i64 (ix L s : Nat), .bool (known L s)]) w := by
  obtain ⟨D, ho, hx⟩ := h
  have hz : (zeroValue 3).run Tryd.prog w = .ok (.int .i64 0) w := by kernel_rfl
  obtain ⟨v, ps, hrun, hv⟩ := ho.look_ok skey Tryd.underlying95 hz (plainElem_int Tryd.underlying3 (by decide)) (Go.WideMaps.keyOf_string_mk Tryd.underlying9 hs)
  obtain ⟨c, rfl, hc, _⟩ := plainElem_int_inv Tryd.underlying3 hv
  have h1 := (hx s).1
  have h2 := (hx s).2
  unfold KS at h1 h2
  have h3 := (congrArg Prod.fst hc).symm.trans h2
  have h4 : Lit.int IntKind.i64 c = Lit.int IntKind.i64 (ix L s : Nat) := DataW.lit.inj h3
  have h5 : c = ((ix L s : Nat) : Int) := (Lit.int.inj h4).2
  rw [hrun, h1, h5]

theorem AtMap.add {w : World} {b n : Nat} {L : List Acct} (h : AtMap w b n L) (a : Acct) (hs : a.name.size ≤ maxLen) (hk : known L a.name = false) (hn : n < maxLen) (hl : L.length ≤ maxLen) :
    ∃ w', (Instr.mapUpdate 95 (.map (some b)) (.string a.name) (.int .i64 (L.length : Nat))).run Tryd.prog w = .ok () w' ∧ AtMap w' b (n + 1) (L ++ [a]) ∧ w.grownBy w' (some b) := by
  obtain ⟨D, ho, hx⟩ := h
  have hwf : (Lit.int .i64 (L.length : Int)).wf = true := by unfold maxLen at hl; exact WalkArith.wf_i64 (by omega)
  obtain ⟨w', hrun, ho', hg⟩ := ho.update skey Tryd.underlying95 hn (Go.WideMaps.keyOf_string_mk Tryd.underlying9 hs) (plainElem_int Tryd.underlying3 hwf)
  refine ⟨w', hrun, ⟨_, ho', fun s => ?_⟩, hg⟩
  have hm : IsMap D := ho.isMap
  by_cases he : a.name = s
  · subst he
    refine ⟨?_, ?_⟩
    · rw [known_snoc, decide_eq_true rfl, Bool.or_true]
      exact has_put_same hm (KS_lit _) _
    · rw [ix_snoc_new hk]
      exact atKey_put_same hm (KS_lit _) _ _
  · have hne : KS s ≠ KS a.name := fun e => he (KS_inj e).symm
    refine ⟨?_, ?_⟩
    · rw [known_snoc, decide_eq_false he, Bool.or_false, ← (hx s).1]
      exact has_put_other hne _
    · rw [ix_snoc_other he, ← (hx s).2]
      exact atKey_put_other hne _ _
end Go.Proofs.YtlenlldiimohjaaDoor
