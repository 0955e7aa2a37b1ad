
/-
  The evaluator's soundness: what an evaluator's value and block stand for. Conditions: none.
-/
import Derived.Test.YtkblmloobkiloaaGreatDoorEvB
import Derived.Below
import Derived.Deep.MidRow
import Derived.Deep.AppendSrc
import Derived.Great.BuildSlice
namespace Go.Proofs.YtkblmloobkiloaaGreatDoor.Ev
open Go.RowKit

/-- Where the blocks lie, and how many elements stand behind the known ones. -/
abbrev Env := Nat → Option (Nat × Nat)
def Env.le (ρ σ : Env) : Prop := ∀ i p, ρ i = some p → σ i = some p
theorem Env.le.trans {a b c : Env} (h : a.le b) (k : b.le c) : a.le c := fun i p e => k i p (h i p e)
theorem Env.le.refl (a : Env) : a.le a := fun _ _ e => e
mutual
inductive V (ρ : Env) : AV → Value → Prop
  | g (v : Value) : V ρ (.g v) v
  | ptr {i off b x : Nat} : ρ i = some (b, x) → V ρ (.ptr i off) (.pointer (some ⟨b, off, none⟩))
  | sl {i off len cap b x : Nat} : ρ i = some (b, x) → V ρ (.sl i off len cap) (.slice (some ⟨b, off, none⟩) len (cap + x))
  | fn {f : Fn} {a b : List AV} {x y : List Value} : Vs ρ a x → Vs ρ b y → V ρ (.fn f a b) (.func f x.toArray y.toArray)
  | ifc {t : TypeId} {v : AV} {a : Value} : V ρ v a → V ρ (.ifc t v) (.iface t a)
  | agg {cs : List AV} {l : List Value} : Vs ρ cs l → V ρ (.agg cs) (.agg l.toArray)
  | tup {cs : List AV} {l : List Value} : Vs ρ cs l → V ρ (.tup cs) (.tuple l.toArray)
inductive Vs (ρ : Env) : List AV → List Value → Prop
  | nil : Vs ρ [] []
  | cons {v : AV} {a : Value} {l : List AV} {r : List Value} : V ρ v a → Vs ρ l r → Vs ρ (v :: l) (a :: r)
end
mutual
theorem V.mono {ρ σ : Env} (h : ρ.le σ) {v : AV} {a : Value} : V ρ v a → V σ v a
  | .g v => .g v
  | .ptr e => .ptr (h _ _ e)
  | .sl e => .sl (h _ _ e)
  | .fn a b => .fn (Vs.mono h a) (Vs.mono h b)
  | .ifc a => .ifc (V.mono h a)
  | .agg a => .agg (Vs.mono h a)
  | .tup a => .tup (Vs.mono h a)
theorem Vs.mono {ρ σ : Env} (h : ρ.le σ) {l : List AV} {r : List Value} : Vs ρ l r → Vs σ l r
  | .nil => .nil
  | .cons a b => .cons (V.mono h a) (Vs.mono h b)
end
mutual
theorem V.un {ρ : Env} {v : AV} {a x : Value} (h : V ρ v a) (e : v.un = some x) : a = x := by
  cases h with
  | g v => exact Option.some.inj e
  | ptr h => simp [AV.un] at e
  | sl h => simp [AV.un] at e
  | fn ha hb =>
    simp only [AV.un, Option.bind_eq_some_iff] at e
    obtain ⟨p, hp, q, hq, e⟩ := e
    rw [Vs.un ha hp, Vs.un hb hq]
    exact Option.some.inj e
  | ifc ha =>
    simp only [AV.un, Option.bind_eq_some_iff] at e
    obtain ⟨p, hp, e⟩ := e
    rw [V.un ha hp]
    exact Option.some.inj e
  | agg ha =>
    simp only [AV.un, Option.bind_eq_some_iff] at e
    obtain ⟨p, hp, e⟩ := e
    rw [Vs.un ha hp]
    exact Option.some.inj e
  | tup ha =>
    simp only [AV.un, Option.bind_eq_some_iff] at e
    obtain ⟨p, hp, e⟩ := e
    rw [Vs.un ha hp]
    exact Option.some.inj e
theorem Vs.un {ρ : Env} {l : List AV} {r x : List Value} (h : Vs ρ l r) (e : AV.uns l = some x) : r = x := by
  cases h with
  | nil => exact Option.some.inj e
  | cons ha hb =>
    simp only [AV.uns, Option.bind_eq_some_iff] at e
    obtain ⟨p, hp, q, hq, e⟩ := e
    rw [V.un ha hp, Vs.un hb hq]
    exact Option.some.inj e
end
section
variable {ρ : Env} {a : Value}
theorem V.g' {v : Value} (h : V ρ (.g v) a) : a = v := by cases h; rfl
theorem V.ptr' {i off : Nat} (h : V ρ (.ptr i off) a) : ∃ b x, ρ i = some (b, x) ∧ a = .pointer (some ⟨b, off, none⟩) := by cases h; exact ⟨_, _, ‹_›, rfl⟩
theorem V.sl' {i off len cap : Nat} (h : V ρ (.sl i off len cap) a) : ∃ b x, ρ i = some (b, x) ∧ a = .slice (some ⟨b, off, none⟩) len (cap + x) := by cases h; exact ⟨_, _, ‹_›, rfl⟩
theorem V.fn' {f : Fn} {p q : List AV} (h : V ρ (.fn f p q) a) : ∃ x y, Vs ρ p x ∧ Vs ρ q y ∧ a = .func f x.toArray y.toArray := by cases h; exact ⟨_, _, ‹_›, ‹_›, rfl⟩
theorem V.ifc' {t : TypeId} {v : AV} (h : V ρ (.ifc t v) a) : ∃ x, V ρ v x ∧ a = .iface t x := by cases h; exact ⟨_, ‹_›, rfl⟩
theorem V.agg' {cs : List AV} (h : V ρ (.agg cs) a) : ∃ l, Vs ρ cs l ∧ a = .agg l.toArray := by cases h; exact ⟨_, ‹_›, rfl⟩
theorem V.tup' {cs : List AV} (h : V ρ (.tup cs) a) : ∃ l, Vs ρ cs l ∧ a = .tuple l.toArray := by cases h; exact ⟨_, ‹_›, rfl⟩
end
section
variable {ρ : Env} {l l' : List AV} {r r' : List Value}
theorem Vs.len (h : Vs ρ l r) : l.length = r.length := by
  induction l generalizing r with
  | nil => cases h; rfl
  | cons a l ih => cases h with | cons _ h => rw [List.length_cons, List.length_cons, ih h]
theorem Vs.get (h : Vs ρ l r) {i : Nat} {v : AV} (e : l[i]? = some v) : ∃ a, r[i]? = some a ∧ V ρ v a := by
  induction l generalizing r i with
  | nil => simp at e
  | cons a l ih =>
    cases h with
    | cons ha h =>
      cases i with
      | zero => simp at e; subst e; exact ⟨_, rfl, ha⟩
      | succ i => simpa using ih h (i := i) (by simpa using e)
theorem Vs.app (h : Vs ρ l r) (k : Vs ρ l' r') : Vs ρ (l ++ l') (r ++ r') := by
  induction l generalizing r with
  | nil => cases h; exact k
  | cons a l ih => cases h with | cons ha h => exact .cons ha (ih h)
theorem Vs.take (h : Vs ρ l r) (n : Nat) : Vs ρ (l.take n) (r.take n) := by
  induction l generalizing r n with
  | nil => cases h; simp; exact .nil
  | cons a l ih => cases h with | cons ha h => cases n with
    | zero => exact .nil
    | succ n => exact .cons ha (ih h n)
theorem Vs.drop (h : Vs ρ l r) (n : Nat) : Vs ρ (l.drop n) (r.drop n) := by
  induction l generalizing r n with
  | nil => cases h; simp; exact .nil
  | cons a l ih => cases n with
    | zero => exact h
    | succ n => cases h with | cons ha h => exact ih h n
theorem Vs.gs : ∀ r : List Value, Vs ρ (r.map .g) r
  | [] => .nil
  | v :: r => .cons (.g v) (Vs.gs r)
theorem Vs.cut (h : Vs ρ l r) {off n : Nat} (e : cutL l off n = some l') : ∃ r', Vs ρ l' r' ∧ r' = (r.drop off).take n ∧ r'.length = n := by
  unfold cutL at e
  split at e
  · rename_i hb
    obtain rfl := Option.some.inj e
    have k := (h.drop off).take n
    exact ⟨_, k, rfl, by rw [← k.len]; exact Nat.eq_of_beq_eq_true hb⟩
  · cases e
theorem Vs.set (h : Vs ρ l r) {vs : List AV} {us : List Value} (k : Vs ρ vs us) {off : Nat} (e : setL l off vs = some l') : Vs ρ l' (r.take off ++ us ++ r.drop (off + us.length)) ∧ off + us.length ≤ r.length := by
  unfold setL at e
  split at e
  · rename_i hb
    obtain rfl := Option.some.inj e
    have := Nat.le_of_ble_eq_true hb
    rw [k.len, h.len] at this
    exact ⟨((h.take off).app k).app (by rw [← k.len]; exact h.drop _), this⟩
  · cases e
end
theorem V.cells {ρ : Env} {v : AV} {a : Value} (h : V ρ v a) : Vs ρ v.cells a.cells.toList := by
  cases h with
  | g => cases a <;> first | exact Vs.gs _ | exact .cons (.g _) .nil
  | ptr h => exact .cons (.ptr h) .nil
  | sl h => exact .cons (.sl h) .nil
  | fn a b => exact .cons (.fn a b) .nil
  | ifc a => exact .cons (.ifc a) .nil
  | agg a => simpa [AV.cells, Value.cells] using a
  | tup a => exact .cons (.tup a) .nil
theorem prun_run {P : Program} {α : Type} {w : World} : ∀ {s : Sem α} {a : α}, prun P s = some a → s.run P w = .ok a w
  | .pure b, a, h => by rw [Option.some.inj h]; rfl
  | .program k, a, h => prun_run (s := k P) h
  | .mark _ k, a, h => prun_run (s := k) h
  | .load .., a, h => by cases h
  | .store .., a, h => by cases h
  | .new .., a, h => by cases h
  | .shape .., a, h => by cases h
  | .freeze .., a, h => by cases h
  | .frozen .., a, h => by cases h
  | .getObj .., a, h => by cases h
  | .setObj .., a, h => by cases h
  | .choose .., a, h => by cases h
  | .sys .., a, h => by cases h
  | .halt .., a, h => by cases h
theorem Tr.get_putF {α : Type} (x : Option α) : ∀ (d : Nat) (t : Tr α) (i j : Nat), i < d → (Tr.putF d t i x).get j = if j = i then x else t.get j
  | 0, _, _, _, h => by omega
  | d + 1, .e, i, j, h => by
    cases i with
    | zero => cases j <;> simp [Tr.putF, Tr.get] <;> (split <;> rfl)
    | succ i =>
      have ih := fun k => Tr.get_putF x d .e (i / 2) k (by omega)
      unfold Tr.putF
      cases j with
      | zero => dsimp only; split <;> simp [Tr.get]
      | succ j =>
        dsimp only
        cases hi : Nat.beq (i % 2) 0 <;> cases hj : Nat.beq (j % 2) 0 <;> simp only [Tr.get, hj, ih]
        · have h1 := Nat.ne_of_beq_eq_false hi
          have h2 := Nat.ne_of_beq_eq_false hj
          by_cases h : j / 2 = i / 2
          · rw [if_pos h, if_pos (by omega)]
          · rw [if_neg h, if_neg (by omega)]
        · have h1 := Nat.ne_of_beq_eq_false hi
          have h2 := Nat.eq_of_beq_eq_true hj
          rw [if_neg (by omega)]
        · have h1 := Nat.eq_of_beq_eq_true hi
          have h2 := Nat.ne_of_beq_eq_false hj
          rw [if_neg (by omega)]
        · have h1 := Nat.eq_of_beq_eq_true hi
          have h2 := Nat.eq_of_beq_eq_true hj
          by_cases h : j / 2 = i / 2
          · rw [if_pos h, if_pos (by omega)]
          · rw [if_neg h, if_neg (by omega)]
  | d + 1, .n l v r, i, j, h => by
    cases i with
    | zero => cases j <;> simp [Tr.putF, Tr.get]
    | succ i =>
      have ih := fun t k => Tr.get_putF x d t (i / 2) k (by omega)
      unfold Tr.putF
      cases j with
      | zero => dsimp only; split <;> simp [Tr.get]
      | succ j =>
        dsimp only
        cases hi : Nat.beq (i % 2) 0 <;> cases hj : Nat.beq (j % 2) 0 <;> simp only [Tr.get, hj, ih]
        · have h1 := Nat.ne_of_beq_eq_false hi
          have h2 := Nat.ne_of_beq_eq_false hj
          by_cases h : j / 2 = i / 2
          · rw [if_pos h, if_pos (by omega)]
          · rw [if_neg h, if_neg (by omega)]
        · have h1 := Nat.ne_of_beq_eq_false hi
          have h2 := Nat.eq_of_beq_eq_true hj
          rw [if_neg (by omega)]
        · have h1 := Nat.eq_of_beq_eq_true hi
          have h2 := Nat.ne_of_beq_eq_false hj
          rw [if_neg (by omega)]
        · have h1 := Nat.eq_of_beq_eq_true hi
          have h2 := Nat.eq_of_beq_eq_true hj
          by_cases h : j / 2 = i / 2
          · rw [if_pos h, if_pos (by omega)]
          · rw [if_neg h, if_neg (by omega)]
theorem Tr.get_put {α : Type} (t : Tr α) (i j : Nat) (x : Option α) : (t.put i x).get j = if j = i then x else t.get j := Tr.get_putF x _ t i j (Nat.lt_succ_self i)
/-- What a block of the evaluator's stands for. -/
def Ob (P : Program) (ρ : Env) (x : Nat) : AO → Obj → Prop
  | .cells cs e opn fz, o => ∃ l rest fr, o = .cells (l ++ rest).toArray e fr ∧ Vs ρ cs l ∧ (opn = false → rest = [] ∧ x = 0) ∧ (opn = true → ∃ n, szB P e = some n ∧ rest.length = x * n) ∧ (fz = false → ∀ k, k < l.length + rest.length → ¬ (fr.1 ≤ k ∧ k < fr.2))
  | .str s p, o => o = .stringIter s p
theorem Ob.mono {P : Program} {ρ σ : Env} (h : ρ.le σ) {x : Nat} {o : AO} {b : Obj} (k : Ob P ρ x o b) : Ob P σ x o b := by
  cases o with
  | cells cs e a c => obtain ⟨l, r, fr, h1, h2, h3⟩ := k; exact ⟨l, r, fr, h1, h2.mono h, h3⟩
  | str => exact k
/-- The memory: w0 is the world ahead of all. -/
structure R (P : Program) (w0 : World) (ρ : Env) (s : AS) (w : World) : Prop where
  un : ∀ i, s.next ≤ i → ρ i = none
  ob : ∀ i o, s.get i = some o → ∃ b x obj, ρ i = some (b, x) ∧ w0.heap.size ≤ b ∧ w.heap[b]? = some obj ∧ Ob P ρ x o obj
  inj : ∀ i j o p b x y, s.get i = some o → s.get j = some p → ρ i = some (b, x) → ρ j = some (b, y) → i = j
  up : Below w0.heap.size w0 w
section
variable {P : Program} {w0 w w' : World} {ρ σ : Env} {s : AS} {o : AO}
theorem R.lt (h : R P w0 ρ s w) {i : Nat} {p : Nat × Nat} (e : ρ i = some p) : i < s.next := by
  rcases Nat.lt_or_ge i s.next with k | k
  · exact k
  · rw [h.un i k] at e; cases e
def Env.add (ρ : Env) (i b x : Nat) : Env := fun j => if j = i then some (b, x) else ρ j
theorem Env.add_le {i b x : Nat} (h : ρ i = none) : ρ.le (ρ.add i b x) := fun j p e => by
  unfold Env.add
  rw [if_neg (by rintro rfl; rw [h] at e; cases e)]
  exact e
theorem Env.add_at (ρ : Env) (i b x : Nat) : ρ.add i b x i = some (b, x) := if_pos rfl
theorem AS.get_new (s : AS) (o : AO) (i : Nat) : (s.new o).get i = if i = s.next then some o else s.get i := Tr.get_put ..
theorem AS.get_set (s : AS) (o : AO) (i j : Nat) : (s.set i o).get j = if j = i then some o else s.get j := Tr.get_put ..
theorem AS.get_drop (s : AS) (i j : Nat) : (s.drop i).get j = if j = i then none else s.get j := Tr.get_put ..
/-- A new block. -/
theorem R.new {w1 : World} (h : R P w0 ρ s w) {obj : Obj} {x : Nat} (hw : w1.heap = w.heap) (hb : Below w0.heap.size w0 w1) (ho : Ob P (ρ.add s.next w.heap.size x) x o obj) : R P w0 (ρ.add s.next w.heap.size x) (s.new o) (w1.alloc obj) := by
  have hn := h.un s.next (Nat.le_refl _)
  have hle := Env.add_le (b := w.heap.size) (x := x) hn
  have hsz : (w1.alloc obj).heap = w.heap.push obj := by show w1.heap.push obj = _; rw [hw]
  refine ⟨fun i hi => ?_, fun i p e => ?_, fun i j p q b y z e1 e2 h1 h2 => ?_, hb.alloc hb.size obj⟩
  · have hi : s.next + 1 ≤ i := hi
    unfold Env.add
    rw [if_neg (by omega)]
    exact h.un i (by omega)
  · rw [AS.get_new] at e
    split at e
    · rename_i hi
      subst hi
      obtain rfl := Option.some.inj e
      refine ⟨_, _, obj, Env.add_at .., ?_, ?_, ho⟩
      · have := h.up.size; omega
      · rw [hsz, Array.getElem?_push_size]
    · obtain ⟨b, y, q, h1, h2, h3, h4⟩ := h.ob i p e
      refine ⟨b, y, q, hle _ _ h1, h2, ?_, h4.mono hle⟩
      rw [hsz, Array.getElem?_push, if_neg (by have := (Array.getElem?_eq_some_iff.1 h3).1; omega)]
      exact h3
  · rw [AS.get_new] at e1 e2
    have old : ∀ {k r}, s.get k = some r → ∀ {b y}, ρ.add s.next w.heap.size x k = some (b, y) → k ≠ s.next → b ≠ w.heap.size := fun {k r} e {b y} hk hne => by
      obtain ⟨b', y', q', k1, -, k3, -⟩ := h.ob k r e
      rw [hle _ _ k1] at hk
      have := (Array.getElem?_eq_some_iff.1 k3).1
      injection hk with hk
      injection hk with hk _
      omega
    have new : ∀ {k b y}, ρ.add s.next w.heap.size x k = some (b, y) → k = s.next → b = w.heap.size := fun {k b y} hk he => by
      subst he
      rw [Env.add_at] at hk
      injection hk with hk
      injection hk with hk _
      exact hk.symm
    split at e1 <;> split at e2 <;> rename_i hi hj
    · rw [hi, hj]
    · exact absurd (new h1 hi) (old e2 h2 hj)
    · exact absurd (new h2 hj) (old e1 h1 hi)
    · have n1 : ρ i = some (b, y) := by unfold Env.add at h1; rwa [if_neg hi] at h1
      have n2 : ρ j = some (b, z) := by unfold Env.add at h2; rwa [if_neg hj] at h2
      exact h.inj i j p q b y z e1 e2 n1 n2
/-- A block written. -/
theorem R.set {i b x : Nat} {p : AO} (h : R P w0 ρ s w) (hp : s.get i = some p) (hi : ρ i = some (b, x)) {obj : Obj} (hw : w'.heap[b]? = some obj) (ho : Ob P ρ x o obj) (hoff : ∀ k, k ≠ b → w'.heap[k]? = w.heap[k]?) (hb : Below w0.heap.size w0 w') : R P w0 ρ (s.set i o) w' := by
  refine ⟨h.un, fun j q e => ?_, fun j k q r c y z e1 e2 h1 h2 => ?_, hb⟩
  · rw [AS.get_set] at e
    split at e
    · rename_i hj
      subst hj
      obtain rfl := Option.some.inj e
      obtain ⟨c, y, q', k1, k2, -⟩ := h.ob j p hp
      rw [hi] at k1
      injection k1 with k1
      injection k1 with k1 _
      exact ⟨b, x, obj, hi, by omega, hw, ho⟩
    · rename_i hj
      obtain ⟨c, y, q', k1, k2, k3, k4⟩ := h.ob j q e
      refine ⟨c, y, q', k1, k2, ?_, k4⟩
      rw [hoff c (fun hc => hj (h.inj j i q p c y x e hp k1 (hc ▸ hi))), k3]
  · have old : ∀ {k r}, (s.set i o).get k = some r → ∃ r', s.get k = some r' := fun {k r} e => by
      rw [AS.get_set] at e
      split at e
      · rename_i hk; exact ⟨p, hk ▸ hp⟩
      · exact ⟨r, e⟩
    obtain ⟨q', e1⟩ := old e1
    obtain ⟨r', e2⟩ := old e2
    exact h.inj j k q' r' c y z e1 e2 h1 h2
theorem R.drop (h : R P w0 ρ s w) (i : Nat) : R P w0 ρ (s.drop i) w := by
  have old : ∀ {k r}, (s.drop i).get k = some r → s.get k = some r := fun {k r} e => by
    rw [AS.get_drop] at e
    split at e
    · cases e
    · exact e
  exact ⟨h.un, fun j q e => h.ob j q (old e), fun j k q r c y z e1 e2 => h.inj j k q r c y z (old e1) (old e2), h.up⟩
/-- A draw. -/
theorem R.heap (h : R P w0 ρ s w) (hw : w'.heap = w.heap) (hb : Below w0.heap.size w0 w') : R P w0 ρ s w' :=
  ⟨h.un, fun i o e => by obtain ⟨b, x, q, h1, h2, h3, h4⟩ := h.ob i o e; exact ⟨b, x, q, h1, h2, by rw [hw]; exact h3, h4⟩, h.inj, hb⟩
end
end Go.Proofs.YtkblmloobkiloaaGreatDoor.Ev
