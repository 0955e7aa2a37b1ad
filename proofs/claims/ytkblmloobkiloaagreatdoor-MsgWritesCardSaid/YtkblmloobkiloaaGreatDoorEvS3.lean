
/-
  The evaluator's soundness: what operations write and make. Conditions: none.
-/
import Derived.Test.YtkblmloobkiloaaGreatDoorEvS2
import Derived.Lib.MakeNoZero
import Derived.Room.MakeNoZero
import Derived.Lib.UnsafeStr
import Derived.Laws.IdiomStrings
import Derived.Laws.LoneSync
namespace Go.Proofs.YtkblmloobkiloaaGreatDoor.Ev
open Go.RowKit

/-- What is asked of the program's functions without a body. -/
structure ExtOk (ext : FuncId → Option Ext) (P : Program) : Prop where
  ent : ∀ f fn, ext f = none → P.funcs[f]? = some fn → fn.body.isSome = true → ∀ args w, (callFunc f args).run P w = .ok (.enter f args) w
  same : ∀ f, ext f = some .same → ∀ x w, (callFunc f #[x]).run P w = .ok (.value x) w
  zero : ∀ f, ext f = some .noZero → ∃ fn, P.funcs[f]? = some fn ∧ ∀ args w, (callFunc f args).run P w = ((Extern.BytealgMakeNoZero.makeNoZero fn.params fn.resultTypes args).run P w).andThen fun v w => .ok (.value v) w
def VD (ρ : Env) (d : AD) (dd : Deferred) : Prop := ∃ cap args, dd = { target := .fn (.func d.f) cap.toArray, args := args.toArray } ∧ Vs ρ d.cap cap ∧ Vs ρ d.args args
/-- What an operation comes to. -/
def Res (P : Program) (w0 : World) (ρ : Env) (s : AS) (w : World) (op : Sem Next) : AR → Prop
  | .bad => True
  | .v v s' => ∃ σ a w', op.run P w = .ok (.value a) w' ∧ ρ.le σ ∧ V σ v a ∧ R P w0 σ s' w'
  | .skip s' => ∃ σ w', op.run P w = .ok .skip w' ∧ ρ.le σ ∧ R P w0 σ s' w'
  | .enter f args => ∃ l, Vs ρ args l ∧ ∀ fn, P.funcs[f]? = some fn → fn.body.isSome = true → op.run P w = .ok (.enter f l.toArray) w
  | .defer d => ∃ dd, op.run P w = .ok (.defer dd) w ∧ VD ρ d dd
  | .pan v => ∃ a, op.run P w = .halt (.panic a) w ∧ V ρ v a
section
variable {P : Program} {w0 w w' : World} {ρ : Env} {s : AS} {fr : AF} {e : Operand → Value}
theorem Res.same {op : Sem Next} {v : AV} {a : Value} (hR : R P w0 ρ s w) (h : op.run P w = .ok (.value a) w) (hv : V ρ v a) : Res P w0 ρ s w op (.v v s) := ⟨ρ, a, w, h, Env.le.refl ρ, hv, hR⟩
theorem setCells_heap (b : Nat) : ∀ (us : List Value) (o : Nat) (w : World) {arr : List Value} {t : TypeId} {f : Nat × Nat}, w.heap[b]? = some (.cells arr.toArray t f) → o + us.length ≤ arr.length →
    (w.setCells b o us).heap[b]? = some (.cells (arr.take o ++ us ++ arr.drop (o + us.length)).toArray t f) ∧ (∀ k, k ≠ b → (w.setCells b o us).heap[k]? = w.heap[k]?) ∧ (w.setCells b o us).os = w.os ∧ (w.setCells b o us).tape = w.tape ∧ (w.setCells b o us).output = w.output ∧ (w.setCells b o us).heap.size = w.heap.size
  | [], o, w, arr, t, f, h, hl => ⟨by simp [World.setCells, h], fun _ _ => rfl, rfl, rfl, rfl, rfl⟩
  | u :: us, o, w, arr, t, f, h, hl => by
    rw [List.length_cons] at hl
    have h1 : (w.setCell ⟨b, o, none⟩ u).heap[b]? = some (.cells (arr.set o u).toArray t f) := by
      simp [World.setCell, Array.getElem?_modify, h]
    obtain ⟨k1, k2, k3, k4, k5, k6⟩ := setCells_heap b us (o + 1) (w.setCell ⟨b, o, none⟩ u) h1 (by rw [List.length_set]; omega)
    refine ⟨?_, fun k hk => ?_, k3, k4, k5, by rw [World.setCells, k6]; simp [World.setCell]⟩
    · rw [World.setCells, k1]
      have e1 : (arr.set o u).take (o + 1) = arr.take o ++ [u] := by
        rw [List.take_add_one, List.take_set_of_le (Nat.le_refl o), List.getElem?_set_self (by omega)]
        rfl
      have e2 : (arr.set o u).drop (o + 1 + us.length) = arr.drop (o + (us.length + 1)) := by
        rw [List.drop_set_of_lt (by omega)]
        congr 1
        omega
      rw [e1, e2, List.append_assoc, List.append_assoc, List.append_assoc, List.length_cons]
      rfl
    · rw [World.setCells, k2 k hk]
      exact Below.heap_setCell _ _ _ _ hk
/-- A block of cells. -/
structure Cl (P : Program) (w0 : World) (ρ : Env) (w : World) (i : Nat) (cs : List AV) (e : TypeId) (o z : Bool) (b x : Nat) (l rest : List Value) (f : Nat × Nat) : Prop where
  at_ : ρ i = some (b, x)
  lo : w0.heap.size ≤ b
  heap : w.heap[b]? = some (.cells (l ++ rest).toArray e f)
  vs : Vs ρ cs l
  shut : o = false → rest = [] ∧ x = 0
  opn : o = true → ∃ n, szB P e = some n ∧ rest.length = x * n
  fz : z = false → ∀ k, k < l.length + rest.length → ¬ (f.1 ≤ k ∧ k < f.2)
theorem R.cells (hR : R P w0 ρ s w) {i : Nat} {cs : List AV} {t : TypeId} {o z : Bool} (hg : s.get i = some (.cells cs t o z)) : ∃ b x l rest f, Cl P w0 ρ w i cs t o z b x l rest f := by
  obtain ⟨b, x, obj, h1, h2, h3, l, rest, f, rfl, k1, k2, k3, k4⟩ := hR.ob _ _ hg
  exact ⟨b, x, l, rest, f, h1, h2, h3, k1, k2, k3, k4⟩
theorem oneB_sound {v : AV} {a : Value} (h : V ρ v a) (k : oneB v = true) : a.oneCell' = true := by
  cases h with
  | g => cases a <;> first | rfl | cases k
  | agg => cases k
  | tup => cases k
  | _ => rfl
theorem ones_sound : ∀ {vs : List AV} {us : List Value}, Vs ρ vs us → vs.all oneB = true → ∀ u ∈ us, u.oneCell' = true
  | _, _, .nil, _, u, hu => by cases hu
  | _, _, .cons h1 h2, k, u, hu => by
    simp only [List.all_cons, Bool.and_eq_true] at k
    rcases List.mem_cons.1 hu with rfl | hu
    · exact oneB_sound h1 k.1
    · exact ones_sound h2 k.2 u hu
/-- Known cells written. -/
theorem write_sound (hR : R P w0 ρ s w) {i off b x : Nat} {cs vs r : List AV} {us l rest : List Value} {t : TypeId} {o : Bool} {f : Nat × Nat} (hg : s.get i = some (.cells cs t o false)) (hc : Cl P w0 ρ w i cs t o false b x l rest f) (hv : Vs ρ vs us) (h1 : ∀ u ∈ us, u.oneCell' = true) (hs : setL cs off vs = some r) :
    (storeCells ⟨b, off, none⟩ us).run P w = .ok () (w.setCells b off us) ∧ R P w0 ρ (s.set i (.cells r t o false)) (w.setCells b off us) ∧ (∀ j, j < us.length → (w.cell? ⟨b, off + j, none⟩).isSome = true) ∧ (∀ j, j < us.length → w.frozen? ⟨b, off + j, none⟩ = false) := by
  obtain ⟨k1, k2⟩ := hc.vs.set hv hs
  have c1 : ∀ j, j < us.length → (w.cell? ⟨b, off + j, none⟩).isSome = true := fun j hj => by
    rw [cell_of hc.heap, List.getElem?_eq_getElem (by rw [List.length_append]; omega)]
    rfl
  have c2 : ∀ j, j < us.length → w.frozen? ⟨b, off + j, none⟩ = false := fun j hj => by
    have := hc.fz rfl (off + j) (by omega)
    unfold World.frozen?
    rw [hc.heap]
    obtain ⟨f1, f2⟩ := f
    simpa using this
  obtain ⟨m1, m2, m3, m4, m5, m6⟩ := setCells_heap b us off w hc.heap (by rw [List.length_append]; omega)
  refine ⟨?_, hR.set hg hc.at_ m1 ⟨_, rest, f, ?_, k1, hc.shut, hc.opn, fun _ k hk => hc.fz rfl k ?_⟩ m2 ⟨m3.trans hR.up.os, m4.trans hR.up.tape, m5.trans hR.up.output, by rw [m6]; exact hR.up.size, fun k hk => ?_⟩, c1, c2⟩
  · have := run_storeCells_cells (P := P) b off us 0 w (by simpa using c1) (by simpa using c2) h1
    simpa using this
  · congr 1
    apply congrArg
    rw [List.take_append_of_le_length (by omega), List.drop_append_of_le_length (by omega), List.append_assoc, List.append_assoc, List.append_assoc]
  · simp only [List.length_append, List.length_take, List.length_drop] at hk
    omega
  · rw [m2 k (by have := hc.lo; omega)]
    exact hR.up.block k hk
theorem newCells (hR : R P w0 ρ s w) {cs : List AV} {l : List Value} (hv : Vs ρ cs l) (t : TypeId) : R P w0 (ρ.add s.next w.heap.size 0) (s.new (.cells cs t false false)) (w.alloc (.cells l.toArray t)) :=
  hR.new rfl hR.up ⟨l, [], (0, 0), by rw [List.append_nil], hv.mono (Env.add_le (hR.un _ (Nat.le_refl _))), fun _ => ⟨rfl, rfl⟩, (fun h => by cases h), fun _ k _ h => by have := h.2; omega⟩
theorem newOpen {w1 : World} (hR : R P w0 ρ s w) (hw : w1.heap = w.heap) (hb : Below w0.heap.size w0 w1) {cs : List AV} {l rest : List Value} (hv : Vs ρ cs l) {t n x : Nat} (hn : szB P t = some n) (hx : rest.length = x * n) (f : Nat × Nat) (hf : ∀ k, k < l.length + rest.length → ¬ (f.1 ≤ k ∧ k < f.2)) : R P w0 (ρ.add s.next w.heap.size x) (s.new (.cells cs t true false)) (w1.alloc (.cells (l ++ rest).toArray t f)) :=
  hR.new hw hb ⟨l, rest, f, rfl, hv.mono (Env.add_le (hR.un _ (Nat.le_refl _))), (fun h => by cases h), fun _ => ⟨n, hn, hx⟩, fun _ => hf⟩
theorem iter_get {b p : Nat} {c : ByteArray} (h : w.heap[b]? = some (.stringIter c p)) : (getObj b).run P w = .ok (.stringIter c p) w := by
  simp only [getObj, Sem.run, h]
theorem iter_set {b p : Nat} {c : ByteArray} (h : w.heap[b]? = some (.stringIter c p)) (o : Obj) : (setObj b o).run P w = .ok () { w with heap := w.heap.setIfInBounds b o } := by
  simp only [setObj, Sem.run, h]
theorem Vs.rep {l : List AV} {r : List Value} (h : Vs ρ l r) : ∀ n, Vs ρ (repL l n) (repL r n)
  | 0 => .nil
  | n + 1 => h.app (Vs.rep h n)
theorem repL_len {α : Type} (l : List α) : ∀ n, (repL l n).length = n * l.length
  | 0 => by simp [repL]
  | n + 1 => by rw [repL, List.length_append, repL_len l n, Nat.succ_mul]; omega
theorem repL_get {α : Type} (l : List α) (h : 0 < l.length) : ∀ n k, k < n * l.length → (repL l n)[k]? = l[k % l.length]?
  | 0, k, hk => by omega
  | n + 1, k, hk => by
    rw [Nat.succ_mul] at hk
    rw [repL]
    by_cases hl : k < l.length
    · rw [List.getElem?_append_left hl, Nat.mod_eq_of_lt hl]
    · rw [List.getElem?_append_right (by omega), repL_get l h n (k - l.length) (by omega)]
      congr 1
      exact (Nat.mod_eq_sub_mod (by omega)).symm
theorem range_rep (z : Array Value) (n : Nat) (h : 0 < z.size) : (Array.range (n * z.size)).map (fun i => z[i % z.size]!) = (repL z.toList n).toArray := by
  apply Array.ext'
  apply List.ext_getElem?
  intro k
  by_cases hk : k < n * z.size
  · have h1 : (repL z.toList n)[k]? = z.toList[k % z.size]? := repL_get z.toList (by simpa using h) n k (by simpa using hk)
    have h2 : k % z.size < z.size := Nat.mod_lt _ h
    simp [h1, hk, h2]
  · rw [List.getElem?_eq_none (by simp; omega), List.getElem?_eq_none (by simp [repL_len]; omega)]
theorem Res.or {α : Type} {op : Sem Next} {o : Option α} {k : α → AR} (h : ∀ a, o = some a → Res P w0 ρ s w op (k a)) : Res P w0 ρ s w op (orBad o k) := by
  cases o with
  | none => trivial
  | some a => exact h a rfl
/-- A block that another number takes over. -/
theorem R.moved (h : R P w0 ρ s w) {i b x x' : Nat} {p o : AO} (hp : s.get i = some p) (hi : ρ i = some (b, x)) {obj : Obj} (hw : w'.heap[b]? = some obj) (ho : Ob P (ρ.add s.next b x') x' o obj) (hoff : ∀ k, k ≠ b → w'.heap[k]? = w.heap[k]?) (hb : Below w0.heap.size w0 w') : R P w0 (ρ.add s.next b x') ((s.drop i).new o) w' := by
  have hn := h.un s.next (Nat.le_refl _)
  have hle := Env.add_le (b := b) (x := x') hn
  have nx : (s.drop i).next = s.next := rfl
  have old : ∀ {k r}, ((s.drop i).new o).get k = some r → k ≠ s.next → s.get k = some r ∧ k ≠ i := fun {k r} e hk => by
    rw [AS.get_new, nx, if_neg hk, AS.get_drop] at e
    split at e
    · cases e
    · rename_i h; exact ⟨e, h⟩
  have was : ∀ {k q}, ρ.add s.next b x' k = some q → k ≠ s.next → ρ k = some q := fun {k q} e hk => by unfold Env.add at e; rwa [if_neg hk] at e
  refine ⟨fun k hk => ?_, fun k r e => ?_, fun j k q r c y z e1 e2 h1 h2 => ?_, hb⟩
  · have hk : s.next + 1 ≤ k := hk
    unfold Env.add
    rw [if_neg (by omega)]
    exact h.un k (by omega)
  · by_cases hk : k = s.next
    · subst hk
      rw [AS.get_new, nx, if_pos rfl] at e
      obtain rfl := Option.some.inj e
      obtain ⟨c, y, q, k1, k2, -⟩ := h.ob i p hp
      obtain ⟨rfl, rfl⟩ := Prod.mk.inj (Option.some.inj (hi.symm.trans k1))
      exact ⟨b, x', obj, Env.add_at .., k2, hw, ho⟩
    · obtain ⟨e, hki⟩ := old e hk
      obtain ⟨c, y, q, k1, k2, k3, k4⟩ := h.ob k r e
      refine ⟨c, y, q, hle _ _ k1, k2, ?_, k4.mono hle⟩
      rw [hoff c (fun hc => hki (h.inj k i r p c y x e hp k1 (hc ▸ hi))), k3]
  · by_cases hj : j = s.next
    · by_cases hk : k = s.next
      · rw [hj, hk]
      · obtain ⟨e2, hki⟩ := old e2 hk
        rw [hj, Env.add_at] at h1
        obtain ⟨rfl, rfl⟩ := Prod.mk.inj (Option.some.inj h1)
        exact absurd (h.inj k i r p b z x e2 hp (was h2 hk) hi) hki
    · obtain ⟨e1, hji⟩ := old e1 hj
      by_cases hk : k = s.next
      · rw [hk, Env.add_at] at h2
        obtain ⟨rfl, rfl⟩ := Prod.mk.inj (Option.some.inj h2)
        exact absurd (h.inj j i q p b y x e1 hp (was h1 hj) hi) hji
      · obtain ⟨e2, hki⟩ := old e2 hk
        exact h.inj j k q r c y z e1 e2 (was h1 hj) (was h2 hk)
theorem appCells_sound (hR : R P w0 ρ s w) {n k : Nat} {d : TypeDesc} {u : TypeId} {v : AV} {a : Value} {cs : List AV} (hd : P.underlying u = some d) (hv : V ρ v a) (h : appCells s n d v = some (cs, k)) (h1 : cs.all oneB = true) : ∃ news, Src P n u a k news w ∧ Vs ρ cs news := by
  unfold appCells at h
  split at h
  · obtain ⟨rfl, rfl⟩ := Prod.mk.inj (Option.some.inj h)
    rw [hv.g']
    exact ⟨[], Src.ofNil w hd _, .nil⟩
  · rename_i b
    split at h
    · obtain ⟨rfl, rfl⟩ := Prod.mk.inj (Option.some.inj h)
      rw [hv.g']
      refine ⟨byteCells b, Src.ofString w hd b, ?_⟩
      have := Vs.gs (ρ := ρ) (byteCells b)
      unfold byteCells at this ⊢
      rwa [List.map_map] at this
    · cases h
  · split at h
    · rename_i hg
      obtain ⟨r, hr, h⟩ := Option.bind_eq_some_iff.1 h
      obtain ⟨rfl, rfl⟩ := Prod.mk.inj (Option.some.inj h)
      obtain ⟨b, x, hi, rfl⟩ := hv.sl'
      obtain ⟨b2, x2, l, rest, f, hc⟩ := hR.cells hg
      obtain ⟨rfl, rfl⟩ := Prod.mk.inj (Option.some.inj (hi.symm.trans hc.at_))
      obtain ⟨r', k1, rfl, k3⟩ := hc.vs.cut hr
      exact ⟨_, Src.ofSlice w hd _ _ _ _ k3 (fun j v hj => by rw [Addr.add_mid]; exact mid_of hc.heap j v hj) (ones_sound k1 h1), k1⟩
    · cases h
  · cases h
theorem grownCap_le (w : World) (n o : Nat) (t : TypeId) : n ≤ grownCap w n o t := by
  unfold grownCap Question.cut
  exact Nat.le_add_right _ _
theorem append_sound (hR : R P w0 ρ s w) {ts : Array TypeId} {xs : Array Value} {l : List AV} (hv : Vs ρ l xs.toList) (type : TypeId) : Res P w0 ρ s w (do pure (.value (← Builtin.append_ ts type xs))) (aappend P s ts.toList l) := by
  unfold aappend
  split
  · rename_i t u x y hts
    have hts : ts = #[t, u] := by apply Array.ext'; rw [hts]
    subst hts
    obtain ⟨a, b, rfl, ha, hb⟩ : ∃ a b, xs = #[a, b] ∧ V ρ x a ∧ V ρ y b := by
      obtain ⟨xs⟩ := xs
      cases hv with
      | cons h1 h2 => cases h2 with
        | cons h2 h3 => cases h3; exact ⟨_, _, rfl, h1, h2⟩
    refine Res.or fun d hd => Res.or fun du hdu => ?_
    split
    · trivial
    · rename_i el hni
      refine Res.or fun n hn => Res.or fun z hz => Res.or fun p hp => ?_
      obtain ⟨cs, k⟩ := p
      dsimp only
      split
      · rename_i hall
        simp only [Bool.and_eq_true] at hall
        obtain ⟨⟨⟨hzl, hk1⟩, hone⟩, hsm⟩ := hall
        obtain ⟨news, hs, hvs⟩ := appCells_sound hR hdu hb hp hone
        obtain ⟨ie, zv, hi, hzv, hzs, -⟩ := zero_run (ρ := ρ) hz
        obtain ⟨ie', hi', hsz⟩ := szB_info hn
        obtain rfl : ie = ie' := by rw [hi] at hi'; exact Option.some.inj hi'
        have hzn : zv.cells.size = n := by
          have := hzs.len
          rw [Nat.eq_of_beq_eq_true hzl] at this
          simpa using this.symm
        have hk2 := Nat.le_of_ble_eq_true hk1
        have hby : ie.bytes ≤ 1000000 := by
          unfold smallB at hsm
          rw [hi] at hsm
          exact Nat.le_of_ble_eq_true hsm
        rw [← hsz] at hs
        have hnl := hs.newsLen
        have grow : ∀ (base : Option Addr) (sLen sCap : Nat) (olds : List Value) (os : List AV) (σ : AS), R P w0 ρ σ w → σ.next = s.next → sLen ≤ 65536 → sCap < sLen + k → (Builtin.firstCells ie.size sLen (.slice base sLen sCap)).run P w.drew = .ok olds.toArray w.drew → Vs ρ os olds → olds.length = sLen * ie.size →
            Res P w0 ρ s w (do pure (.value (← Builtin.append_ #[t, u] type #[.slice base sLen sCap, b]))) (.v (.sl s.next 0 (sLen + k) (sLen + k)) (σ.new (.cells (os ++ cs) el true false))) := by
          intro base sLen sCap olds os σ hRσ hnx hs1 hg hold hos hlo
          have hfit := growslice_fits (need := sLen + k) (old := sCap) (bytes := ie.bytes) hg (by
            have h1 : (sLen + k) * ie.bytes ≤ 131072 * 1000000 := Nat.mul_le_mul (by omega) hby
            omega)
          have hrun := run_append_grow_src (P := P) w t u type el ie zv hd hi hzv base sLen sCap olds hold b k news hs hg (by omega) hfit
          have hge := grownCap_le w (sLen + k) sCap el
          obtain ⟨X, hX⟩ : ∃ X, X = grownCap w (sLen + k) sCap el - (sLen + k) := ⟨_, rfl⟩
          have hnew := newOpen (w1 := w.drew) hRσ rfl hRσ.up.drew (hos.app hvs) (t := el) (n := n) (x := X) (rest := (Builtin.zeroCells zv.cells X).toList) hn (by rw [Array.length_toList, size_zeroCells, hzn]) (0, 0) (fun q _ h => by have := h.2; omega)
          rw [hnx] at hnew
          refine ⟨ρ.add s.next w.heap.size X, _, _, by rw [Sem.run_bind, hrun]; rfl, Env.add_le (hR.un _ (Nat.le_refl _)), ?_, ?_⟩
          · have := V.sl (ρ := ρ.add s.next w.heap.size X) (i := s.next) (off := 0) (len := sLen + k) (cap := sLen + k) (Env.add_at ..)
            rwa [show sLen + k + X = grownCap w (sLen + k) sCap el from by omega] at this
          · rw [← hX]
            have he : ((olds ++ news) ++ (Builtin.zeroCells zv.cells X).toList).toArray = (olds ++ news).toArray ++ Builtin.zeroCells zv.cells X := by
              apply Array.ext'
              simp
            rw [he] at hnew
            exact hnew
        split
        · have hx := ha.g'
          subst hx
          cases k with
          | zero =>
            have hr : (Builtin.append_ #[t, u] type #[.slice none 0 0, b]).run P w = .ok (.slice none 0 0) w := by
              rcases hs.kind with ⟨e', hk⟩ | hk <;> simp [Builtin.append_, run_underlying hd, run_underlying hk, sizeOf, typeInfo, hi, hs.len, hs.cells]
            exact Res.same hR (a := .slice none 0 0) (by rw [Sem.run_bind, hr]; rfl) (.g _)
          | succ k' =>
            have := grow none 0 0 [] [] s hR rfl (by omega) (by omega) (by simp [Builtin.firstCells]) .nil (by simp)
            simpa using this
        · rename_i i off len cap
          obtain ⟨bb, x1, hi1, rfl⟩ := ha.sl'
          split
          · rename_i cs0 e0 o hg
            obtain ⟨b2, x2, l, rest, f, hc⟩ := hR.cells hg
            obtain ⟨rfl, rfl⟩ := Prod.mk.inj (Option.some.inj (hi1.symm.trans hc.at_))
            split
            · rename_i hfit
              refine Res.or fun r hr => ?_
              obtain ⟨-, k2, c1, c2⟩ := write_sound hR hg hc hvs hs.one hr
              have hrun := run_append_room_src (P := P) w t u type el ie hd hi bb off len (cap + x1) b k news hs (by have := Nat.le_of_ble_eq_true hfit; omega) (by rw [hsz]; exact c1) (by rw [hsz]; exact c2)
              exact ⟨ρ, _, _, by rw [Sem.run_bind, hrun]; rfl, Env.le.refl ρ, .sl hi1, by rw [hsz]; exact k2⟩
            · rename_i hnfit
              have hnfit : ¬ len + k ≤ cap := fun h => by rw [Nat.ble_eq_true_of_le h] at hnfit; cases hnfit
              split
              · trivial
              · rename_i hlen
                have hlen := Nat.le_of_ble_eq_true hlen
                refine Res.or fun old hold => ?_
                obtain ⟨r', o1, o2, o3⟩ := hc.vs.cut hold
                have hfc : (Builtin.firstCells ie.size len (.slice (some ⟨bb, off, none⟩) len (cap + x1))).run P w.drew = .ok r'.toArray w.drew :=
                  run_firstCells_some (P := P) w.drew ie.size len ⟨bb, off, none⟩ len (cap + x1) r' (by rw [o3, hsz]) (fun j v hj => by rw [Addr.add_mid, World.cell?_drew]; rw [o2] at hj; exact mid_of hc.heap j v hj)
                split
                · obtain ⟨-, rfl⟩ := hc.shut rfl
                  exact grow _ len (cap + 0) r' old s hR rfl hlen (by omega) hfc o1 (by rw [o3, hsz])
                · split
                  · rename_i hcl hee
                    by_cases hroom : len + k ≤ cap + x1
                    · obtain rfl := Nat.eq_of_beq_eq_true hee
                      obtain ⟨n', hn', hrl⟩ := hc.opn rfl
                      obtain rfl : n = n' := by rw [hn] at hn'; exact Option.some.inj hn'
                      have hll : l.length = cap * n := by rw [← hc.vs.len]; exact (Nat.eq_of_beq_eq_true hcl).symm
                      have htot : (l ++ rest).length = (cap + x1) * n := by rw [List.length_append, hll, hrl, Nat.add_mul]
                      have hle : len * n + news.length ≤ (l ++ rest).length := by
                        rw [htot, hnl, hsz, ← Nat.add_mul]
                        exact Nat.mul_le_mul_right n hroom
                      have hlo : len * n ≤ l.length := by
                        have := o3
                        rw [o2, List.length_take, List.drop_zero] at this
                        omega
                      have c1 : ∀ j, j < news.length → (w.cell? ⟨bb, 0 + len * ie.size + j, none⟩).isSome = true := fun j hj => by
                        rw [hsz, cell_of hc.heap, List.getElem?_eq_getElem (by omega)]
                        rfl
                      have c2 : ∀ j, j < news.length → w.frozen? ⟨bb, 0 + len * ie.size + j, none⟩ = false := fun j hj => by
                        rw [List.length_append] at hle
                        have := hc.fz rfl (0 + len * ie.size + j) (by rw [hsz]; omega)
                        unfold World.frozen?
                        rw [hc.heap]
                        obtain ⟨f1, f2⟩ := f
                        simpa using this
                      have hrun := run_append_room_src (P := P) w t u type el ie hd hi bb 0 len (cap + x1) b k news hs hroom c1 c2
                      rw [hsz, Nat.zero_add] at hrun
                      obtain ⟨m1, m2, m3, m4, m5, m6⟩ := setCells_heap bb news (len * n) w hc.heap hle
                      have hst : (l ++ rest).take (len * n) = r' := by rw [List.take_append_of_le_length hlo, o2, List.drop_zero]
                      rw [hst] at m1
                      have hmv := hR.moved (x' := cap + x1 - (len + k)) (o := .cells (old ++ cs) el true false) hg hc.at_ m1 ⟨r' ++ news, (l ++ rest).drop (len * n + news.length), f, rfl, (o1.app hvs).mono (Env.add_le (hR.un _ (Nat.le_refl _))), (fun h => by cases h), fun _ => ⟨n, hn, by rw [List.length_drop, htot, hnl, hsz, ← Nat.add_mul, Nat.sub_mul]⟩, fun _ q hq => hc.fz rfl q (by
                        simp only [List.length_append, List.length_drop, o3] at hq hle ⊢
                        rw [← List.length_append]
                        simp only [List.length_append]
                        omega)⟩ m2 ⟨m3.trans hR.up.os, m4.trans hR.up.tape, m5.trans hR.up.output, by rw [m6]; exact hR.up.size, fun q hq => by rw [m2 q (by have := hc.lo; omega)]; exact hR.up.block q hq⟩
                      refine ⟨_, _, _, by rw [Sem.run_bind, hrun]; rfl, Env.add_le (hR.un _ (Nat.le_refl _)), ?_, hmv⟩
                      have := V.sl (ρ := ρ.add s.next bb (cap + x1 - (len + k))) (i := s.next) (off := 0) (len := len + k) (cap := len + k) (Env.add_at ..)
                      rwa [show len + k + (cap + x1 - (len + k)) = cap + x1 from by omega] at this
                    · exact grow _ len (cap + x1) r' old (s.drop i) (hR.drop i) rfl hlen (by omega) hfc o1 (by rw [o3, hsz])
                  · trivial
                · trivial
          · trivial
        · trivial
      · trivial
    · trivial
  · trivial
theorem isU8_under {t : TypeId} (h : isU8 P t = true) : P.underlying t = some (.int .u8) := by
  unfold isU8 at h
  split at h
  · assumption
  · cases h
theorem bytesA_sound : ∀ {cs : List AV} {r : List Value} {l : List UInt8}, Vs ρ cs r → bytesA cs = some l → r = l.map (fun c => Value.int .u8 (c.toNat : Int))
  | [], r, l, hv, h => by cases hv; rw [← Option.some.inj h]; rfl
  | c :: cs, r, l, hv, h => by
    cases hv with
    | cons h1 h2 =>
      unfold bytesA at h
      split at h
      · rename_i heq; cases heq
      · rename_i n rr heq
        obtain ⟨rfl, rfl⟩ := List.cons.inj heq
        split at h
        · rename_i hn
          have hn := Nat.le_of_ble_eq_true hn
          obtain ⟨l', hl', h⟩ := Option.bind_eq_some_iff.1 h
          obtain rfl := Option.some.inj h
          rw [h1.g', bytesA_sound h2 hl', List.map_cons]
          congr 2
          show (n : Int) = ((UInt8.ofNat n).toNat : Int)
          rw [UInt8.toNat_ofNat', Nat.mod_eq_of_lt (by omega)]
        · cases h
      · cases h
theorem push_all (l : List UInt8) : ∀ s : ByteArray, (l.map (fun c => (c.toNat : Int))).foldl (fun r n => r.push (UInt8.ofNat n.toNat)) s = ⟨s.data ++ l.toArray⟩ := by
  induction l with
  | nil => intro s; simp
  | cons c l ih =>
    intro s
    rw [List.map_cons, List.foldl_cons, ih]
    congr 1
    apply Array.ext'
    simp [ByteArray.push]
theorem toFn_sound {v : AV} {a : Value} {k : FuncId × List AV × List AV} (hv : V ρ v a) (h : toFn v = some k) : ∃ x y, a = .func (.func k.1) x y ∧ Vs ρ k.2.1 x.toList ∧ Vs ρ k.2.2 y.toList := by
  unfold toFn at h
  split at h
  · obtain rfl := Option.some.inj h
    exact ⟨_, _, hv.g', Vs.gs _, Vs.gs _⟩
  · obtain rfl := Option.some.inj h
    obtain ⟨x, y, h1, h2, h3⟩ := hv.fn'
    exact ⟨_, _, h3, by simpa using h1, by simpa using h2⟩
  · cases h
theorem acall_sound {ext : FuncId → Option Ext} (hX : ExtOk ext P) (hR : R P w0 ρ s w) {f : FuncId} {args : List AV} {l : List Value} (hv : Vs ρ args l) {op : Sem Next} (ho : op.run P w = (callFunc f l.toArray).run P w) : Res P w0 ρ s w op (acall ext P s f args) := by
  unfold acall
  split
  · rename_i he
    exact ⟨l, hv, fun fn h1 h2 => by rw [ho]; exact hX.ent f fn he h1 h2 _ _⟩
  · rename_i he
    split
    · cases hv with
      | cons h1 h2 =>
        cases h2
        exact Res.same hR (by rw [ho]; exact hX.same f he _ _) h1
    · trivial
  · rename_i he
    split
    · refine Res.or fun t ht => Res.or fun d hd => ?_
      split
      · rename_i n _ el
        split
        · rename_i hn hle
          obtain ⟨fn, hfn, hrun⟩ := hX.zero f he
          obtain ⟨fn', hfn', ht⟩ := Option.bind_eq_some_iff.1 ht
          obtain rfl : fn = fn' := by rw [hfn] at hfn'; exact Option.some.inj hfn'
          cases hv with
          | cons h1 h2 =>
            cases h2
            rw [h1.g'] at ho
            have hle := Nat.le_of_ble_eq_true hle
            have hrt : fn.resultTypes = #[t] := by
              split at ht
              · rename_i t' ht'
                obtain rfl := Option.some.inj ht
                apply Array.ext'
                rw [ht']
              · cases ht
            obtain ⟨cs, hc, -, -, -⟩ := Lib.run_makeNoZero_cap (P := P) w fn.params t el hd n (by omega)
            have hnew := newOpen (w1 := w.drew.drew) hR rfl hR.up.drew.drew (Vs.nil (ρ := ρ)) (t := el) (n := 1) (x := cs.size) (rest := cs.toList) hn (by rw [Array.length_toList, Nat.mul_one]) (0, 0) (fun q _ h => by have := h.2; omega)
            refine ⟨ρ.add s.next w.heap.size cs.size, _, _, by rw [ho, hrun, hrt, show (List.toArray [Value.int .i64 (Int.ofNat n)]) = #[.int .i64 (n : Int)] from rfl, hc]; rfl, Env.add_le (hR.un _ (Nat.le_refl _)), ?_, ?_⟩
            · have := V.sl (ρ := ρ.add s.next w.heap.size cs.size) (i := s.next) (off := 0) (len := n) (cap := 0) (Env.add_at ..)
              rwa [Nat.zero_add] at this
            · simpa using hnew
        · trivial
      · trivial
    · trivial
theorem awrite_sound {ext : FuncId → Option Ext} (hX : ExtOk ext P) (hR : R P w0 ρ s w) {o : Oper} (hE : EvOk ρ fr e o.op.operands) : Res P w0 ρ s w (execOp e o) (awrite ext P fr s o.op) := by
  obtain ⟨dst, op, type, pos, after, guard⟩ := o
  dsimp only at hE ⊢
  unfold awrite
  split
  · refine Res.or fun z hz => ?_
    obtain ⟨i, v, hi, hv, hvs, hr⟩ := zero_run hz
    refine ⟨_, .pointer (some ⟨w.heap.size, 0, none⟩), w.alloc (.cells v.cells _), ?_, Env.add_le (hR.un _ (Nat.le_refl _)), .ptr (Env.add_at ..), newCells hR hvs _⟩
    simp [execOp, Instr.alloc, hr, newVar, newRow]
  · rename_i t x
    refine Res.or fun v hv => ?_
    have kx := hE x (by simp [Op.operands]) v hv
    refine ⟨_, .pointer (some ⟨w.heap.size, 0, none⟩), w.alloc (.cells (e x).cells t), ?_, Env.add_le (hR.un _ (Nat.le_refl _)), .ptr (Env.add_at ..), newCells hR kx.cells _⟩
    simp [execOp, Instr.box, newVar, newRow]
  · rename_i t len ps
    refine Res.or fun l hl => Res.or fun d hd => ?_
    split
    · refine Res.or fun n hn => Res.or fun z hz => ?_
      split
      · rename_i h1 h2
        split
        · trivial
        · rename_i h3
          refine Res.or fun r hr => ?_
          obtain ⟨ie, v, hi, hv, hvs, -⟩ := zero_run hz
          obtain ⟨ie', hi', hsz⟩ := szB_info hn
          obtain rfl : ie = ie' := by rw [hi] at hi'; exact Option.some.inj hi'
          have h1 := Nat.eq_of_beq_eq_true h1
          have h2 := Nat.le_of_ble_eq_true h2
          have h3 := Nat.ne_of_beq_eq_false h3
          have hn0 : 0 < n := by
            rcases Nat.eq_zero_or_pos n with rfl | h
            · simp at h3
            · exact h
          have hcs : v.cells.size = n := by
            have := hvs.len
            rw [h1] at this
            simpa using this.symm
          have kp := evsP_sound (ρ := ρ) (e := e) (fun p hp => hE p.2 (by simp [Op.operands]; exact ⟨p.1, by simpa using hp⟩)) hl
          obtain ⟨l', f1, f2⟩ := fill_sound (ρ := ρ) _ kp (hvs.rep len) hr
          refine ⟨_, .slice (some ⟨w.heap.size, 0, none⟩) len len, w.alloc (.cells l'.toArray _), ?_, Env.add_le (hR.un _ (Nat.le_refl _)), .sl (x := 0) (Env.add_at ..), newCells hR f2 _⟩
          simp only [execOp]
          rw [Sem.run_bind, run_buildSlice w t _ len _ l'.toArray ie v hd hi hv (by rw [hsz]; omega) (by rw [hsz]; exact h3)]
          · rfl
          · rw [hsz, ← hcs, range_rep _ _ (by omega), hcs]
            simpa using f1
      · trivial
    · trivial
  · rename_i t a x
    refine Res.or fun av hav => Res.or fun v hv => ?_
    have ka := hE a (by simp [Op.operands]) av hav
    have kx := hE x (by simp [Op.operands]) v hv
    split
    · split
      · rename_i hg
        refine Res.or fun n hn => ?_
        split
        · rename_i hl
          split
          · rename_i h1
            refine Res.or fun r hr => ?_
            obtain ⟨b, x1, hi, ha⟩ := ka.ptr'
            obtain ⟨b2, x2, l, rest, f, hc⟩ := hR.cells hg
            obtain ⟨rfl, rfl⟩ := Prod.mk.inj (Option.some.inj (hi.symm.trans hc.at_))
            obtain ⟨k1, k2, -⟩ := write_sound hR hg hc kx.cells (ones_sound kx.cells h1) hr
            refine ⟨ρ, _, ?_, Env.le.refl ρ, k2⟩
            have hsz : (e x).cells.size = n := by
              have := Nat.eq_of_beq_eq_true hl
              rw [kx.cells.len] at this
              simpa using this
            simp [execOp, ha, Instr.storeAt, Instr.sureAddr, storeVar, szB_run hn, hsz, k1]
          · trivial
        · trivial
      · trivial
    · trivial
  · rename_i t x
    refine Res.or fun v hv => Res.or fun d hd => ?_
    have kx := hE x (by simp [Op.operands]) v hv
    split
    · refine ⟨_, .pointer (some ⟨w.heap.size, 0, none⟩), w.alloc (.stringIter _ 0), ?_, Env.add_le (hR.un _ (Nat.le_refl _)), .ptr (Env.add_at ..), hR.new (x := 0) rfl hR.up rfl⟩
      simp [execOp, kx.g', Instr.range, run_underlying hd]
    · trivial
  · rename_i it
    refine Res.or fun v hv => ?_
    have kx := hE it (by simp [Op.operands]) v hv
    split
    · split
      · rename_i sb sp hg
        obtain ⟨b, x1, hi, ha⟩ := kx.ptr'
        obtain ⟨b2, x2, obj, h1, h2, h3, rfl⟩ := hR.ob _ _ hg
        obtain ⟨rfl, rfl⟩ := Prod.mk.inj (Option.some.inj (hi.symm.trans h1))
        split
        · rename_i hp
          have hp := Nat.le_of_ble_eq_true hp
          refine ⟨ρ, _, _, ?_, Env.le.refl ρ, .g _, hR.set (x := x1) hg hi (w' := { w with heap := w.heap.setIfInBounds b (.stringIter sb (sp + (Utf8.decode sb sp).2)) }) ?_ rfl ?_ ?_⟩
          · have hp : sp < sb.size := by omega
            simp [execOp, ha, Instr.next, iter_get h3, iter_set h3, hp, goInt]
          · simp [(Array.getElem?_eq_some_iff.1 h3).1]
          · intro k hk
            exact Array.getElem?_setIfInBounds_ne (Ne.symm hk)
          · exact hR.up.trans ⟨rfl, rfl, rfl, by simp, fun k hk => Array.getElem?_setIfInBounds_ne (by omega)⟩
        · rename_i hp
          refine Res.same hR (a := .tuple #[.bool false]) ?_ (.g _)
          have hp : ¬ sp < sb.size := by
            intro hlt
            rw [Nat.ble_eq_true_of_le (show sp + 1 ≤ sb.size from hlt)] at hp
            cases hp
          simp [execOp, ha, Instr.next, iter_get h3, hp]
      · trivial
    · trivial
  · rename_i t u x
    refine Res.or fun v hv => Res.or fun dt hdt => Res.or fun du hdu => ?_
    have kx := hE x (by simp [Op.operands]) v hv
    split
    · rename_i el b
      split
      · rename_i h1 h2
        have he := isU8_under h1
        have hrun := run_bytes_of_string (P := P) w t u el b hdt hdu he
        have hge := grownCap_le w b.size 0 el
        obtain ⟨X, hX⟩ : ∃ X, X = grownCap w b.size 0 el - b.size := ⟨_, rfl⟩
        have hgs : Vs ρ (b.data.toList.map fun c => AV.g (.int .u8 c.toNat)) (byteCells b) := by
          have := Vs.gs (ρ := ρ) (byteCells b)
          unfold byteCells at this ⊢
          rwa [List.map_map] at this
        have hsz : (bytesRow b (grownCap w b.size 0 el)).size = b.size + X := by
          unfold bytesRow
          rw [Array.size_append, Array.size_map, Array.size_replicate, hX]
          rfl
        have hnew := newOpen (w1 := w.drew) hR rfl hR.up.drew hgs (t := el) (n := 1) (x := X) (rest := List.replicate X (.int .u8 0)) h2 (by rw [List.length_replicate, Nat.mul_one]) (b.size + X, b.size + X + 1) (fun q h1 h2 => by
          have h3 := h2.1
          rw [byteCells_length, List.length_replicate] at h1
          have h3 : b.size + X ≤ q := h3
          omega)
        have hrow : (byteCells b ++ List.replicate X (Value.int .u8 0)).toArray = bytesRow b (grownCap w b.size 0 el) := by
          unfold bytesRow byteCells
          rw [← hX]
          apply Array.ext'
          simp
        rw [hrow, ← hsz] at hnew
        refine ⟨ρ.add s.next w.heap.size X, _, _, by simp only [execOp, kx.g']; rw [Sem.run_bind, hrun]; rfl, Env.add_le (hR.un _ (Nat.le_refl _)), ?_, hnew⟩
        have := V.sl (ρ := ρ.add s.next w.heap.size X) (i := s.next) (off := 0) (len := b.size) (cap := b.size) (Env.add_at ..)
        rwa [show b.size + X = grownCap w b.size 0 el from by omega] at this
      · trivial
    · rename_i el i off len cap
      split
      · rename_i h1 hg
        refine Res.or fun l hl => ?_
        obtain ⟨cut, hcut, hby⟩ := Option.bind_eq_some_iff.1 hl
        have he := isU8_under h1
        obtain ⟨bb, x1, hi, hx⟩ := kx.sl'
        obtain ⟨b2, x2, cl, rest, f, hc⟩ := hR.cells hg
        obtain ⟨rfl, rfl⟩ := Prod.mk.inj (Option.some.inj (hi.symm.trans hc.at_))
        obtain ⟨r', o1, o2, o3⟩ := hc.vs.cut hcut
        have hr := bytesA_sound o1 hby
        have hload : (loadCells ⟨bb, off, none⟩ len).run P w = .ok ((l.map (fun c => (c.toNat : Int))).map (Value.int .u8)).toArray w := by
          have := run_loadCells_list (P := P) w ⟨bb, off, none⟩ r' (fun j v hj => by rw [Addr.add_mid]; rw [o2] at hj; exact mid_of hc.heap j v hj)
          rw [o3] at this
          rw [this, hr, List.map_map]
          rfl
        refine Res.same hR (a := .string ⟨l.toArray⟩) ?_ (.g _)
        simp only [execOp, hx]
        rw [Sem.run_bind, run_convert_bytes_string w t u el _ _ _ hdt he hdu, run_bytesToString w _ len _ _ hload, push_all]
        simp
      · trivial
    · rename_i k i off
      split
      · rename_i hg
        split
        · rename_i c0 n0 hc0 hn0
          obtain ⟨bb, x1, hi, hx⟩ := kx.ptr'
          obtain ⟨b2, x2, cl, rest, f, hc⟩ := hR.cells hg
          obtain ⟨rfl, rfl⟩ := Prod.mk.inj (Option.some.inj (hi.symm.trans hc.at_))
          obtain ⟨a0, ha0, -⟩ := hc.vs.get hc0
          obtain ⟨ik, hik, hsz⟩ := szB_info hn0
          have hcell : w.cell? ⟨bb, off, none⟩ = some a0 := by rw [cell_of hc.heap, List.getElem?_append_left (List.getElem?_eq_some_iff.1 ha0).1]; exact ha0
          have hrun := run_convert_to_unsafe (P := P) hdt hdu (by rw [hik, Option.map_some, hsz]; simp) hcell
          exact Res.same hR (by simp only [execOp, hx]; rw [Sem.run_bind, hrun]; rfl) (.ptr hi)
        · trivial
      · trivial
    · rename_i k i off
      split
      · rename_i cs0 e0 z0 hg
        split
        · rename_i n0 hn0 hlies
          obtain ⟨bb, x1, hi, hx⟩ := kx.ptr'
          obtain ⟨b2, x2, cl, rest, f, hc⟩ := hR.cells hg
          obtain ⟨rfl, rfl⟩ := Prod.mk.inj (Option.some.inj (hi.symm.trans hc.at_))
          obtain ⟨rfl, -⟩ := hc.shut rfl
          have hsh : w.shape? bb = some (e0, cl.length) := by
            unfold World.shape?
            rw [hc.heap]
            simp
          rw [hc.vs.len] at hlies
          refine Res.same hR (a := .pointer (some ⟨bb, off, none⟩)) ?_ (.ptr hi)
          simp [execOp, hx, convert, Conv.unsafePointer, Conv.seenAt, viewAt, run_underlying hdt, run_underlying hdu, hsh, szB_run hn0, variablesAt, hlies]
        · trivial
      · trivial
    · trivial
  · rename_i f args ts
    refine Res.or fun k hk => Res.or fun l hl => ?_
    obtain ⟨v, hv, hk⟩ := Option.bind_eq_some_iff.1 hk
    obtain ⟨x, y, hf, hx, hy⟩ := toFn_sound (hE f (by simp [Op.operands, Call.operands]) v hv) hk
    have kl := evs_sound (ρ := ρ) (e := e) (fun z hz => hE z (by simp [Op.operands, Call.operands]; right; simpa using hz)) hl
    split
    · refine ⟨{ target := .fn (.func k.1) y, args := x ++ args.map e }, ?_, y.toList, x.toList ++ args.toList.map e, ?_, hy, hx.app kl⟩
      · simp [execOp, resolve, hf, Deferred.ofValue]
      · simp
    · trivial
  · rename_i x
    refine Res.or fun v hv => ?_
    have kx := hE x (by simp [Op.operands]) v hv
    split
    · obtain ⟨a, ha, hx⟩ := kx.ifc'
      exact ⟨_, by simp [execOp, hx, Instr.panic, goPanic], .ifc ha⟩
    · exact ⟨_, by simp [execOp, kx.g', Instr.panic, goPanic], .g _⟩
    · trivial
  · rename_i xs ts
    refine Res.or fun l hl => ?_
    have kl := evs_sound (ρ := ρ) (e := e) (fun z hz => hE z (by simp [Op.operands, Call.operands]; simpa using hz)) hl
    rw [call_builtin]
    exact append_sound hR (xs := xs.map e) (by simpa using kl) type
  · rename_i xs ts
    refine Res.or fun l hl => ?_
    have kl := evs_sound (ρ := ρ) (e := e) (fun z hz => hE z (by simp [Op.operands, Call.operands]; simpa using hz)) hl
    rw [call_builtin]
    unfold acopy
    split
    · rename_i t u i off len cap y hts
      have hts : ts = #[t, u] := by apply Array.ext'; rw [hts]
      subst hts
      obtain ⟨a, b, hxs, ha, hb⟩ : ∃ a b, xs.map e = #[a, b] ∧ V ρ (.sl i off len cap) a ∧ V ρ y b := by
        have kl : Vs ρ [.sl i off len cap, y] (xs.map e).toList := by simpa using kl
        generalize xs.map e = zs at kl ⊢
        obtain ⟨zs⟩ := zs
        cases kl with
        | cons h1 h2 => cases h2 with
          | cons h2 h3 => cases h3; exact ⟨_, _, rfl, h1, h2⟩
      rw [hxs]
      obtain ⟨bb, x1, hi, rfl⟩ := ha.sl'
      refine Res.or fun d hd => ?_
      split
      · refine Res.or fun n hn => ?_
        split
        · rw [hb.g']
          exact Res.same hR (a := .int .i64 0) (by simp [builtin, Builtin.copy_, run_underlying hd, szB_run hn, Builtin.lenOf, Builtin.firstCells, storeCells, goInt]) (.g _)
        · obtain ⟨b2, x2, -, rfl⟩ := hb.sl'
          exact Res.same hR (a := .int .i64 0) (by simp [builtin, Builtin.copy_, run_underlying hd, szB_run hn, Builtin.lenOf, Builtin.firstCells, loadCells, loadCellsFrom, storeCells, goInt]) (.g _)
        · trivial
      · trivial
    · trivial
  · rename_i xs ts
    refine Res.or fun l hl => ?_
    have kl := evs_sound (ρ := ρ) (e := e) (fun z hz => hE z (by simp [Op.operands, Call.operands]; simpa using hz)) hl
    rw [call_builtin]
    split
    · rename_i i off len c
      obtain ⟨a, hxs, ha⟩ : ∃ a, xs.map e = #[a] ∧ V ρ (.sl i off len (c + 1)) a := by
        have kl : Vs ρ [.sl i off len (c + 1)] (xs.map e).toList := by simpa using kl
        generalize xs.map e = zs at kl ⊢
        obtain ⟨zs⟩ := zs
        cases kl with
        | cons h1 h2 => cases h2; exact ⟨_, rfl, h1⟩
      rw [hxs]
      obtain ⟨bb, x1, hi, rfl⟩ := ha.sl'
      have hrun := Lib.run_unsafeSliceData_row (P := P) (w := w) ts type ⟨bb, off, none⟩ len (c + 1 + x1) (by omega)
      exact Res.same hR (by simp only [builtin]; rw [Sem.run_bind, hrun]; rfl) (.ptr hi)
    · trivial
  · rename_i xs ts
    refine Res.or fun l hl => ?_
    have kl := evs_sound (ρ := ρ) (e := e) (fun z hz => hE z (by simp [Op.operands, Call.operands]; simpa using hz)) hl
    rw [call_builtin]
    split
    · rename_i t it hts
      have hts : ts = #[t, it] := by apply Array.ext'; rw [hts]
      subst hts
      refine Res.or fun d hd => ?_
      split
      · rename_i i n u
        split
        · rename_i cs el o z hg
          split
          · rename_i h1 h2 h3
            refine Res.or fun bs hbs => ?_
            obtain ⟨cut, hcut, hby⟩ := Option.bind_eq_some_iff.1 hbs
            obtain ⟨a, b, hxs, ha, hb⟩ : ∃ a b, xs.map e = #[a, b] ∧ V ρ (.ptr i 0) a ∧ V ρ (.g (.int .i64 (.ofNat (n + 1)))) b := by
              have kl : Vs ρ [.ptr i 0, .g (.int .i64 (.ofNat (n + 1)))] (xs.map e).toList := by simpa using kl
              generalize xs.map e = zs at kl ⊢
              obtain ⟨zs⟩ := zs
              cases kl with
              | cons h1 h2 => cases h2 with
                | cons h2 h3 => cases h3; exact ⟨_, _, rfl, h1, h2⟩
            rw [hxs, hb.g']
            obtain ⟨bb, x1, hi, rfl⟩ := ha.ptr'
            obtain ⟨b2, x2, cl, rest, f, hc⟩ := hR.cells hg
            obtain ⟨rfl, rfl⟩ := Prod.mk.inj (Option.some.inj (hi.symm.trans hc.at_))
            obtain rfl := Nat.eq_of_beq_eq_true h1
            obtain ⟨r', o1, o2, o3⟩ := hc.vs.cut hcut
            have hr := bytesA_sound o1 hby
            have hlen : bs.length = n + 1 := by rw [← o3, hr, List.length_map]
            have hn := Nat.le_of_ble_eq_true h3
            have hcl : n + 1 ≤ cl.length := by
              have := o3
              rw [o2, List.length_take, List.drop_zero] at this
              omega
            have hsh : w.shape? bb = some (el, (cl ++ rest).length) := by
              unfold World.shape?
              rw [hc.heap]
              simp
            obtain ⟨ik, hik, hsz⟩ := szB_info h2
            have hco : P.cellsOf el = 1 := by
              unfold Program.cellsOf
              rw [hik]
              exact hsz
            have hrun := Lib.run_unsafeString_row (P := P) (w := w) t it type el hd hco bb _ hsh bs (by intro h; rw [h] at hlen; cases hlen) (by rw [hlen, List.length_append]; omega) (by omega) (fun j x hj => by
              rw [Addr.add_mid, Nat.zero_add, cell_of hc.heap]
              have : r'[j]? = some (.int .u8 (x.toNat : Int)) := by rw [hr, List.getElem?_map, hj]; rfl
              rw [o2, List.drop_zero, List.getElem?_take] at this
              split at this
              · rw [List.getElem?_append_left (List.getElem?_eq_some_iff.1 this).1]
                exact this
              · cases this)
            have hint : (Value.int .i64 (Int.ofNat (n + 1))) = .int .i64 (bs.length : Int) := by rw [hlen]; rfl
            rw [hint]
            have hblk : ∃ f', (w.freeze ⟨bb, 0, none⟩ bs.length).heap[bb]? = some (.cells (cl ++ rest).toArray el f') := by
              unfold World.freeze
              rw [if_neg (by omega)]
              simp [Array.getElem?_modify, hc.heap]
            obtain ⟨f', hf'⟩ := hblk
            refine ⟨ρ, _, _, by simp only [builtin]; rw [Sem.run_bind, hrun]; rfl, Env.le.refl ρ, .g _, hR.set hg hc.at_ hf' ⟨cl, rest, f', rfl, hc.vs, hc.shut, hc.opn, fun h => by cases h⟩ (fun k hk => ?_) (Lib.below_freeze hR.up hc.lo _)⟩
            unfold World.freeze
            rw [if_neg (by omega)]
            show (w.heap.modify bb _)[k]? = _
            rw [Array.getElem?_modify, if_neg (Ne.symm hk)]
          · trivial
        · trivial
      · trivial
    · trivial
  · rename_i f args ts
    refine Res.or fun k hk => Res.or fun l hl => ?_
    obtain ⟨v, hv, hk⟩ := Option.bind_eq_some_iff.1 hk
    obtain ⟨x, y, hf, hx, hy⟩ := toFn_sound (hE f (by simp [Op.operands, Call.operands]) v hv) hk
    have kl := evs_sound (ρ := ρ) (e := e) (fun z hz => hE z (by simp [Op.operands, Call.operands]; right; simpa using hz)) hl
    refine acall_sound hX hR ((hx.app kl).app hy) ?_
    simp [execOp, resolve, hf, Deferred.ofValue, invoke]
    congr 2
    apply Array.ext'
    simp
  · trivial
end
end Go.Proofs.YtkblmloobkiloaaGreatDoor.Ev
