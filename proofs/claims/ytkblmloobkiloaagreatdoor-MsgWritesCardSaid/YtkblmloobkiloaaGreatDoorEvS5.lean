
/-
  The evaluator's soundness: regions whose order is drawn. Conditions: none.
-/
import Derived.Test.YtkblmloobkiloaaGreatDoorEvS4
namespace Go.Proofs.YtkblmloobkiloaaGreatDoor.Ev
open Go.RowKit

/-! ### Masks -/
theorem fold_bit (A : List Nat) (j : Nat) : ∀ (es : List Edge) (m : Nat), (maskOf A es m).testBit j = true → m.testBit j = true ∨ ∃ e ∈ es, Region.binds .any e = true ∧ (e.on = j ∨ (A.getD e.on 0).testBit j = true)
  | [], m, h => .inl h
  | e :: es, m, h => by
    unfold maskOf at h
    rcases fold_bit A j es _ h with k | ⟨e', h1, h2⟩
    · split at k
      · rename_i hb
        simp only [Nat.testBit_or, Nat.testBit_two_pow, Bool.or_eq_true, decide_eq_true_eq] at k
        rcases k with (k | k) | k
        · exact .inl k
        · exact .inr ⟨e, List.mem_cons_self .., hb, .inl k⟩
        · exact .inr ⟨e, List.mem_cons_self .., hb, .inr k⟩
      · exact .inl k
    · exact .inr ⟨e', List.mem_cons_of_mem _ h1, h2⟩
theorem masks_ext : ∀ (l : List Oper) (acc : List Nat), ∃ tl, masks l acc = acc ++ tl
  | [], acc => ⟨[], by simp [masks]⟩
  | o :: l, acc => by
    obtain ⟨tl, h⟩ := masks_ext l (acc ++ [maskOf acc o.after.toList 0])
    exact ⟨_ :: tl, by rw [masks, h, List.append_assoc]; rfl⟩
theorem masks_bit : ∀ (l : List Oper) (acc : List Nat) (k : Nat) (o : Oper) (j : Nat), l[k]? = some o → ((masks l acc).getD (acc.length + k) 0).testBit j = true → ∃ e ∈ o.after, Region.binds .any e = true ∧ (e.on = j ∨ ((masks l acc).getD e.on 0).testBit j = true)
  | [], acc, k, o, j, h, _ => by simp at h
  | p :: l, acc, 0, o, j, h, hb => by
    obtain rfl : p = o := by simpa using h
    rw [masks] at hb ⊢
    obtain ⟨tl, ht⟩ := masks_ext l (acc ++ [maskOf acc p.after.toList 0])
    rw [ht] at hb ⊢
    have e1 : ((acc ++ [maskOf acc p.after.toList 0]) ++ tl).getD (acc.length + 0) 0 = maskOf acc p.after.toList 0 := by simp [List.getD]
    rw [e1] at hb
    rcases fold_bit acc j _ _ hb with k | ⟨e, h1, h2, h3⟩
    · simp at k
    · refine ⟨e, by simpa using h1, h2, ?_⟩
      rcases h3 with h3 | h3
      · exact .inl h3
      · right
        have hlt : e.on < acc.length := by
          rcases Nat.lt_or_ge e.on acc.length with hlt | hge
          · exact hlt
          · rw [List.getD_eq_getElem?_getD, List.getElem?_eq_none hge] at h3
            simp at h3
        rw [List.getD_eq_getElem?_getD] at h3 ⊢
        rw [List.append_assoc, List.getElem?_append_left hlt]
        exact h3
  | p :: l, acc, k + 1, o, j, h, hb => by
    rw [masks] at hb ⊢
    refine masks_bit l _ k o j (by simpa using h) ?_
    rw [List.length_append]
    rwa [show acc.length + [_].length + k = acc.length + (k + 1) from by simp; omega]
section
variable {P : Program} {w0 w w' : World} {ρ σ : Env} {s s' : AS} {fr fr' : AF} {a : Act}
/-! ### What was reckoned -/
def frAt (ds : List DR) (fr : AF) (m : Nat) : AF := match ds[m]? with
  | some d => d.fr
  | none => fr
def Fact (ext : FuncId → Option Ext) (P : Program) (cl : Caller) (ops : Array Oper) (o : Oper) (d : DR) (f1 : AF) (s1 : AS) : Prop :=
  f1 = d.fr.put o.dst d.v ∧ (d.k = 0 ∧ wantB ops d.fr o = some false ∧ d.v = .g undef ∧ s1 = d.s ∨ d.k = 1 ∧ wantB ops d.fr o = some true ∧ aval P d.fr d.s o = some d.v ∧ s1 = d.s ∨ d.k = 2 ∧ wantB ops d.fr o = some true ∧ ev1 ext P cl d.fr d.s o = .v d.v s1)
theorem evDraw_facts {ext : FuncId → Option Ext} {cl : Caller} {ops : Array Oper} : ∀ (l : List Oper) {fr : AF} {s : AS} {ds : List DR}, evDraw ext P cl ops l fr s = some (ds, fr', s') → ds.length = l.length ∧ frAt ds fr' 0 = fr ∧ stAt ds s' 0 = s ∧ ∀ i o d, l[i]? = some o → ds[i]? = some d → Fact ext P cl ops o d (frAt ds fr' (i + 1)) (stAt ds s' (i + 1))
  | [], fr, s, ds, h => by
    injection h with h
    injection h with h1 h2
    injection h2 with h2 h3
    subst h1 h2 h3
    exact ⟨rfl, rfl, rfl, fun i o d h => by simp at h⟩
  | o :: r, fr, s, ds, h => by
    have step : ∀ {d : DR} {f1 : AF} {s1 : AS}, d.fr = fr → d.s = s → (∀ f2 s2, f2 = f1 → s2 = s1 → Fact ext P cl ops o d f2 s2) → (evDraw ext P cl ops r f1 s1).bind (fun p => some (d :: p.1, p.2)) = some (ds, fr', s') → ds.length = (o :: r).length ∧ frAt ds fr' 0 = fr ∧ stAt ds s' 0 = s ∧ ∀ i o' d, (o :: r)[i]? = some o' → ds[i]? = some d → Fact ext P cl ops o' d (frAt ds fr' (i + 1)) (stAt ds s' (i + 1)) := by
      intro d f1 s1 e1 e2 hf h
      obtain ⟨⟨tl, q⟩, hp, h⟩ := Option.bind_eq_some_iff.1 h
      injection h with h
      injection h with h1 h2
      subst h1
      have h2 : q = (fr', s') := h2
      subst h2
      obtain ⟨k1, k2, k3, k4⟩ := evDraw_facts r hp
      refine ⟨by rw [List.length_cons, List.length_cons, k1], e1, e2, fun i o' d' ho hd => ?_⟩
      cases i with
      | zero =>
        obtain rfl : o = o' := by simpa using ho
        obtain rfl : d = d' := by simpa using hd
        exact hf _ _ k2 k3
      | succ i => exact k4 i o' d' (by simpa using ho) (by simpa using hd)
    unfold evDraw at h
    split at h
    · rename_i hw
      exact step (d := ⟨fr, s, .g undef, 0⟩) rfl rfl (fun f2 s2 e1 e2 => ⟨e1, .inl ⟨rfl, hw, rfl, e2⟩⟩) h
    · rename_i hw
      split at h
      · rename_i v hv
        exact step (d := ⟨fr, s, v, 1⟩) rfl rfl (fun f2 s2 e1 e2 => ⟨e1, .inr (.inl ⟨rfl, hw, hv, e2⟩)⟩) h
      · split at h
        · rename_i v s1 he
          exact step (d := ⟨fr, s, v, 2⟩) rfl rfl (fun f2 s2 e1 e2 => ⟨e1, .inr (.inr ⟨rfl, hw, by rw [e2]; exact he⟩)⟩) h
        · cases h
    · cases h
/-- What was reckoned of a region, and what was held against it. -/
structure Cn (ext : FuncId → Option Ext) (P : Program) (cl : Caller) (ops : Array Oper) (bm : List Nat) (fr : AF) (s : AS) (ds : List DR) (fr' : AF) (s' : AS) : Prop where
  bit : ∀ i o j, ops[i]? = some o → (bm.getD i 0).testBit j = true → ∃ e ∈ o.after, Region.binds .any e = true ∧ (e.on = j ∨ (bm.getD e.on 0).testBit j = true)
  low : ∀ i o, ops[i]? = some o → ∀ e ∈ o.after, Region.binds .any e = true → e.on < i
  gd : ∀ i o j c, ops[i]? = some o → o.guard = some (j, c) → (bm.getD i 0).testBit j = true
  two : ∀ i j o p t, ops[i]? = some o → ops[j]? = some p → i ≠ j → p.dst = some t → o.dst ≠ some t ∧ (t ∈ o.looksAt ops → (bm.getD i 0).testBit j = true ∨ (bm.getD j 0).testBit i = true)
  len : ds.length = ops.size
  f0 : frAt ds fr' 0 = fr
  s0 : stAt ds s' 0 = s
  fact : ∀ i o d, ops[i]? = some o → ds[i]? = some d → Fact ext P cl ops o d (frAt ds fr' (i + 1)) (stAt ds s' (i + 1))
  chain : ∀ i d c, ds[i]? = some d → d.k = 2 → c < i → isCh ds c = true → (bm.getD i 0).testBit c = true
  same : ∀ i o d m, ops[i]? = some o → ds[i]? = some d → d.k = 1 → isMem o.op = true → m ≤ ops.size → (m = 0 ∨ ∃ c, m = c + 1 ∧ isCh ds c = true) → (∀ c, m ≤ c → isCh ds c = true → (bm.getD i 0).testBit c = false) → aval P d.fr (stAt ds s' m) o = some d.v
theorem isCh_iff {ds : List DR} {c : Nat} : isCh ds c = true ↔ ∃ d, ds[c]? = some d ∧ d.k = 2 := by
  unfold isCh
  split
  · rename_i d hd
    constructor
    · intro h; exact ⟨d, hd, Nat.eq_of_beq_eq_true h⟩
    · rintro ⟨d', h1, h2⟩
      rw [hd] at h1
      obtain rfl := Option.some.inj h1
      rw [h2]
      rfl
  · rename_i hd
    constructor
    · intro h; cases h
    · rintro ⟨d', h1, -⟩; rw [hd] at h1; cases h1
theorem isCh_lt {ds : List DR} {c : Nat} (h : isCh ds c = true) : c < ds.length := by
  obtain ⟨d, h1, -⟩ := isCh_iff.1 h
  exact (List.getElem?_eq_some_iff.1 h1).1
theorem beqS_sound {a b : Value} (h : beqS a b = true) : a = b := by
  unfold beqS at h
  split at h <;> try simp only [Bool.and_eq_true, beq_iff_eq, decide_eq_true_eq] at h
  · rw [h]
  · rw [h.1, h.2]
  · rename_i x y
    have : x.data = y.data := Array.ext' h
    obtain ⟨x⟩ := x
    obtain ⟨y⟩ := y
    rw [show x = y from this]
  · rfl
  · rw [Nat.eq_of_beq_eq_true h.1, Nat.eq_of_beq_eq_true h.2]
  · rfl
  · rename_i f p q g r t
    obtain ⟨⟨⟨⟨h1, h2⟩, h3⟩, h4⟩, h5⟩ := h
    rw [h1, Array.isEmpty_iff.1 h2, Array.isEmpty_iff.1 h3, Array.isEmpty_iff.1 h4, Array.isEmpty_iff.1 h5]
  · rfl
  · cases h
mutual
theorem AV.beq_sound {a b : AV} (h : AV.beq a b = true) : a = b := by
  cases a <;> cases b <;> simp only [AV.beq, Bool.and_eq_true, decide_eq_true_eq, Bool.false_eq_true] at h
  · rw [beqS_sound h]
  · rw [Nat.eq_of_beq_eq_true h.1, Nat.eq_of_beq_eq_true h.2]
  · rw [Nat.eq_of_beq_eq_true h.1.1.1, Nat.eq_of_beq_eq_true h.1.1.2, Nat.eq_of_beq_eq_true h.1.2, Nat.eq_of_beq_eq_true h.2]
  · rw [h.1.1, AV.beqs_sound h.1.2, AV.beqs_sound h.2]
  · rw [Nat.eq_of_beq_eq_true h.1, AV.beq_sound h.2]
  · rw [AV.beqs_sound h]
  · rw [AV.beqs_sound h]
theorem AV.beqs_sound {a b : List AV} (h : AV.beqs a b = true) : a = b := by
  cases a <;> cases b <;> simp only [AV.beqs, Bool.and_eq_true, Bool.false_eq_true] at h
  · rfl
  · rw [AV.beq_sound h.1, AV.beqs_sound h.2]
end
theorem aval_nomem {fr : AF} {s s2 : AS} {o : Oper} (h : isMem o.op = false) : aval P fr s o = aval P fr s2 o := by
  unfold aval
  split
  · rfl
  · unfold aread
    split <;> first | rfl | (rename_i hop; rw [hop] at h; cases h)
theorem cn_of {ext : FuncId → Option Ext} {cl : Caller} {ops : Array Oper} {ds : List DR} (h1 : drawB ops (masks ops.toList []) = true) (h2 : evDraw ext P cl ops ops.toList fr s = some (ds, fr', s')) (h3 : drawSame P ops (masks ops.toList []) ds s' = true) : Cn ext P cl ops (masks ops.toList []) fr s ds fr' s' := by
  obtain ⟨f1, f2, f3, f4⟩ := evDraw_facts ops.toList h2
  have lt : ∀ {i : Nat} {o : Oper}, ops[i]? = some o → i < ops.size := fun h => (Array.getElem?_eq_some_iff.1 h).1
  have hb : ∀ {i : Nat} {o : Oper}, ops[i]? = some o → (o.after.toList.all fun e => !Region.binds .any e || Nat.ble (e.on + 1) i) = true ∧ (match o.guard with | none => true | some (j, _) => ((masks ops.toList []).getD i 0).testBit j) = true ∧ ∀ j < ops.size, (Nat.beq i j || match ops[j]? with
      | none => false
      | some p => match p.dst with
        | none => true
        | some d => o.dst != some d && (!(o.looksAt ops).contains d || ((masks ops.toList []).getD i 0).testBit j || ((masks ops.toList []).getD j 0).testBit i)) = true := fun {i o} ho => by
    have := List.all_eq_true.1 h1 i (List.mem_range.2 (lt ho))
    rw [ho] at this
    simp only [Bool.and_eq_true] at this
    obtain ⟨⟨⟨-, k2⟩, k3⟩, k4⟩ := this
    exact ⟨k2, k3, fun j hj => List.all_eq_true.1 k4 j (List.mem_range.2 hj)⟩
  have hs : ∀ {i : Nat} {o : Oper} {d : DR}, ops[i]? = some o → ds[i]? = some d → (match d.k with
      | 0 => true
      | 1 => !isMem o.op || (List.range (ops.size + 1)).all fun m => match m with
        | 0 => (List.range ops.size).any (fun c => isCh ds c && ((masks ops.toList []).getD i 0).testBit c) || (match aval P d.fr (stAt ds s' 0) o with | some v => AV.beq v d.v | none => false)
        | m + 1 => !isCh ds m || (List.range ops.size).any (fun c => Nat.ble (m + 1) c && isCh ds c && ((masks ops.toList []).getD i 0).testBit c) || (match aval P d.fr (stAt ds s' (m + 1)) o with | some v => AV.beq v d.v | none => false)
      | _ => (List.range i).all fun c => !isCh ds c || ((masks ops.toList []).getD i 0).testBit c) = true := fun {i o d} ho hd => by
    have := List.all_eq_true.1 h3 i (List.mem_range.2 (lt ho))
    rw [ho, hd] at this
    exact this
  refine ⟨fun i o j ho hj => ?_, fun i o ho e he hbd => ?_, fun i o j c ho hg => ?_, fun i j o p t ho hp hij ht => ?_, by simpa using f1, f2, f3, fun i o d ho hd => f4 i o d (by simpa using ho) hd, fun i d c hd hk hc hch => ?_, fun i o d m ho hd hk hm hml hmp hno => ?_⟩
  · have := masks_bit ops.toList [] i o j (by simpa using ho) (by simpa using hj)
    simpa using this
  · have := List.all_eq_true.1 (hb ho).1 e (by simpa using he)
    rw [hbd] at this
    have := Nat.le_of_ble_eq_true (by simpa using this)
    omega
  · have := (hb ho).2.1
    rw [hg] at this
    exact this
  · have := (hb ho).2.2 j (lt hp)
    have hne : Nat.beq i j = false := by
      cases hq : Nat.beq i j with
      | false => rfl
      | true => exact absurd (Nat.eq_of_beq_eq_true hq) hij
    rw [hne, hp] at this
    simp only [Bool.false_or, ht, Bool.and_eq_true, bne_iff_ne, ne_eq, Bool.or_eq_true, Bool.not_eq_true'] at this
    refine ⟨this.1, fun hl => ?_⟩
    rcases this.2 with (h | h) | h
    · rw [List.contains_iff_mem.2 hl] at h
      cases h
    · exact .inl h
    · exact .inr h
  · have hlen : i < ops.size := by
      have := (List.getElem?_eq_some_iff.1 hd).1
      rw [f1] at this
      simpa using this
    have := hs (Array.getElem?_eq_getElem hlen) hd
    rw [hk] at this
    have := List.all_eq_true.1 this c (List.mem_range.2 hc)
    rw [hch] at this
    simpa using this
  · have := hs ho hd
    rw [hk, hm] at this
    change (List.all _ _) = true at this
    have := List.all_eq_true.1 this m (List.mem_range.2 (by omega))
    cases m with
    | zero =>
      have hany : ((List.range ops.size).any fun c => isCh ds c && ((masks ops.toList []).getD i 0).testBit c) = false := by
        rw [List.any_eq_false]
        intro c _ hcc
        simp only [Bool.and_eq_true] at hcc
        rw [hno c (Nat.zero_le c) hcc.1] at hcc
        cases hcc.2
      dsimp only at this
      rw [hany] at this
      simp only [Bool.false_or] at this
      split at this
      · rename_i v hv
        rw [hv, AV.beq_sound this]
      · cases this
    | succ m =>
      have hchm : isCh ds m = true := by
        rcases hmp with h | ⟨c, h, hc⟩
        · cases h
        · obtain rfl : m = c := by omega
          exact hc
      have hany : ((List.range ops.size).any fun c => Nat.ble (m + 1) c && isCh ds c && ((masks ops.toList []).getD i 0).testBit c) = false := by
        rw [List.any_eq_false]
        intro c _ hcc
        simp only [Bool.and_eq_true] at hcc
        rw [hno c (Nat.le_of_ble_eq_true hcc.1.1) hcc.1.2] at hcc
        cases hcc.2
      dsimp only at this
      rw [hany, hchm] at this
      simp only [Bool.not_true, Bool.false_or] at this
      split at this
      · rename_i v hv
        rw [hv, AV.beq_sound this]
      · cases this
section
variable {ext : FuncId → Option Ext} {cl : Caller} {ops : Array Oper} {bm : List Nat} {ds : List DR}
theorem Cn.bits (hc : Cn ext P cl ops bm fr s ds fr' s') : ∀ (i j : Nat), i < ops.size → (bm.getD i 0).testBit j = true → j < i := by
  intro i
  induction i using Nat.strongRecOn with
  | _ i ih =>
    intro j hi h
    obtain ⟨e, h1, h2, h3⟩ := hc.bit i _ j (Array.getElem?_eq_getElem hi) h
    have hlt := hc.low i _ (Array.getElem?_eq_getElem hi) e h1 h2
    rcases h3 with rfl | h3
    · exact hlt
    · exact Nat.lt_trans (ih e.on hlt j (by omega) h3) hlt
theorem Cn.at (hc : Cn ext P cl ops bm fr s ds fr' s') {i : Nat} (hi : i < ops.size) : ∃ o d, ops[i]? = some o ∧ ds[i]? = some d := ⟨_, _, Array.getElem?_eq_getElem hi, List.getElem?_eq_getElem (by rw [hc.len]; exact hi)⟩
theorem Cn.const (hc : Cn ext P cl ops bm fr s ds fr' s') {m : Nat} : ∀ m', m ≤ m' → m' ≤ ops.size → (∀ c, m ≤ c → c < m' → isCh ds c = false) → stAt ds s' m' = stAt ds s' m := by
  intro m'
  induction m' with
  | zero => intro h _ _; rw [show m = 0 from by omega]
  | succ n ih =>
    intro h hn hno
    by_cases he : m = n + 1
    · rw [he]
    · obtain ⟨o, d, ho, hd⟩ := hc.at (i := n) (by omega)
      rw [← ih (by omega) (by omega) fun c h1 h2 => hno c h1 (by omega)]
      have hs : stAt ds s' n = d.s := by unfold stAt; rw [hd]
      rw [hs]
      rcases (hc.fact n o d ho hd).2 with ⟨-, -, -, h⟩ | ⟨-, -, -, h⟩ | ⟨hk, -, -⟩
      · exact h
      · exact h
      · have := hno n (by omega) (by omega)
        rw [isCh_iff.2 ⟨d, hd, hk⟩] at this
        cases this
theorem Cn.frame (hc : Cn ext P cl ops bm fr s ds fr' s') : ∀ m, m ≤ ops.size → (frAt ds fr' m).n = fr.n ∧ (frAt ds fr' m).ds = fr.ds ∧ ∀ t v, (frAt ds fr' m).t.get t = some v → (∃ i o d, i < m ∧ ops[i]? = some o ∧ ds[i]? = some d ∧ o.dst = some t ∧ t < fr.n ∧ v = d.v) ∨ (fr.t.get t = some v ∧ ∀ i o, i < m → ops[i]? = some o → o.dst = some t → fr.n ≤ t) := by
  intro m
  induction m with
  | zero => intro _; rw [hc.f0]; exact ⟨rfl, rfl, fun t v h => .inr ⟨h, fun i o hi => by omega⟩⟩
  | succ m ih =>
    intro hm
    obtain ⟨k1, k2, k3⟩ := ih (by omega)
    obtain ⟨o, d, ho, hd⟩ := hc.at (i := m) (by omega)
    have hfr : frAt ds fr' m = d.fr := by unfold frAt; rw [hd]
    rw [hfr] at k1 k2 k3
    have old : ∀ t v, d.fr.t.get t = some v → (o.dst = some t → fr.n ≤ t) → (∃ i o d, i < m + 1 ∧ ops[i]? = some o ∧ ds[i]? = some d ∧ o.dst = some t ∧ t < fr.n ∧ v = d.v) ∨ (fr.t.get t = some v ∧ ∀ i o, i < m + 1 → ops[i]? = some o → o.dst = some t → fr.n ≤ t) := fun t v h hn => by
      rcases k3 t v h with ⟨i, o', d', h1, h2⟩ | ⟨h1, h2⟩
      · exact .inl ⟨i, o', d', by omega, h2⟩
      · refine .inr ⟨h1, fun i o' hi ho' ht => ?_⟩
        by_cases him : i = m
        · subst him
          rw [ho] at ho'
          obtain rfl := Option.some.inj ho'
          exact hn ht
        · exact h2 i o' (by omega) ho' ht
    rw [(hc.fact m o d ho hd).1]
    unfold AF.put
    split
    · rename_i t hdst
      split
      · rename_i hlt
        have hlt := Nat.le_of_ble_eq_true hlt
        refine ⟨k1, k2, fun t' v h => ?_⟩
        replace h : (d.fr.t.put t (some d.v)).get t' = some v := h
        rw [Tr.get_put] at h
        split at h
        · rename_i ht
          subst ht
          exact .inl ⟨m, o, d, by omega, ho, hd, hdst, by rw [← k1]; exact hlt, (Option.some.inj h).symm⟩
        · rename_i ht
          exact old t' v h fun hq => by rw [hdst] at hq; exact absurd (Option.some.inj hq).symm ht
      · rename_i hge
        refine ⟨k1, k2, fun t' v h => old t' v h fun hq => ?_⟩
        rw [hdst] at hq
        obtain rfl := Option.some.inj hq
        rcases Nat.lt_or_ge t fr.n with hl | hl
        · rw [← k1] at hl
          rw [Nat.ble_eq_true_of_le (show t + 1 ≤ d.fr.n from hl)] at hge
          cases hge
        · exact hl
    · rename_i hdst
      exact ⟨k1, k2, fun t' v h => old t' v h fun hq => by rw [hdst] at hq; cases hq⟩
/-- How many of the first n places are still to come. -/
def unl (L : Array Bool) : Nat → Nat
  | 0 => 0
  | n + 1 => unl L n + (if L.getD n false = true then 0 else 1)
theorem unl_set {L : Array Bool} {i : Nat} (hi : i < L.size) (hu : L.getD i false = false) : ∀ n, unl (L.setIfInBounds i true) n + (if i < n then 1 else 0) = unl L n
  | 0 => by simp [unl]
  | n + 1 => by
    have ih := unl_set hi hu n
    unfold unl
    by_cases hin : i = n
    · subst hin
      rw [if_neg (by omega)] at ih
      have h1 : (L.setIfInBounds i true).getD i false = true := by simp [hi]
      rw [h1, hu, if_pos rfl, if_pos (by omega), if_neg (by decide)]
      omega
    · have h1 : (L.setIfInBounds i true).getD n false = L.getD n false := getD_set_ne false hin
      rw [h1]
      generalize (if L.getD n false = true then 0 else 1) = q
      have h2 : (if i < n + 1 then 1 else 0) = (if i < n then 1 else 0) := by
        by_cases hlt : i < n
        · rw [if_pos hlt, if_pos (by omega)]
        · rw [if_neg hlt, if_neg (by omega)]
      rw [h2]
      omega
theorem unl_pos {L : Array Bool} {i : Nat} (hu : L.getD i false = false) : ∀ n, i < n → 0 < unl L n
  | 0, h => by omega
  | n + 1, h => by
    unfold unl
    by_cases hin : i = n
    · subst hin
      rw [hu, if_neg (by decide)]
      omega
    · have := unl_pos hu n (by omega)
      omega
/-- In the midst of a region. -/
structure Inv (P : Program) (w0 : World) (ops : Array Oper) (bm : List Nat) (fr : AF) (ds : List DR) (s' : AS) (ρ0 ρ : Env) (L : Array Bool) (a : Act) (w : World) (m : Nat) : Prop where
  le : ρ0.le ρ
  r : R P w0 ρ (stAt ds s' m) w
  lsz : L.size = ops.size
  size : a.tmps.size = fr.n
  dl : Ds ρ fr.ds a.defers
  new : ∀ i o d t, L.getD i false = true → ops[i]? = some o → ds[i]? = some d → o.dst = some t → t < fr.n → ∃ b, a.tmps[t]? = some b ∧ V ρ d.v b
  old : ∀ t v, fr.t.get t = some v → (∀ i o, L.getD i false = true → ops[i]? = some o → o.dst ≠ some t) → ∃ b, a.tmps[t]? = some b ∧ V ρ v b
  shut : ∀ i j, L.getD i false = true → (bm.getD i 0).testBit j = true → L.getD j false = true
  mle : m ≤ ops.size
  mp : m = 0 ∨ ∃ c, m = c + 1 ∧ isCh ds c = true
  ch : ∀ c, isCh ds c = true → (L.getD c false = true ↔ c < m)
theorem unlisted {L : Array Bool} {i : Nat} (hi : i < L.size) : L.getD i true = L.getD i false := by
  simp [hi]
theorem Inv.slot (hc : Cn ext P cl ops bm fr s ds fr' s') (hn : ∀ t v, fr.t.get t = some v → t < fr.n) {ρ0 : Env} {L : Array Bool} {m i : Nat} {o : Oper} (h : Inv P w0 ops bm fr ds s' ρ0 ρ L a w m) (hi : ops[i]? = some o) (hu : L.getD i false = false) (hb : ∀ j, (bm.getD i 0).testBit j = true → L.getD j false = true) {t : Nat} (ht : t ∈ o.looksAt ops) {v : AV} (hv : (frAt ds fr' i).t.get t = some v) : ∃ b, a.tmps[t]? = some b ∧ V ρ v b := by
  have hil : i < ops.size := (Array.getElem?_eq_some_iff.1 hi).1
  rcases (hc.frame i (Nat.le_of_lt hil)).2.2 t v hv with ⟨j, p, d, h1, h2, h3, h4, h5, rfl⟩ | ⟨h1, h2⟩
  · have hjl : j < ops.size := by omega
    rcases (hc.two i j o p t hi h2 (by omega) h4).2 ht with k | k
    · exact h.new j p d t (hb j k) h2 h3 h4 h5
    · have := hc.bits j i hjl k
      omega
  · refine h.old t v h1 fun j p hL hp hd => ?_
    have htn := hn t v h1
    have hjl : j < ops.size := (Array.getElem?_eq_some_iff.1 hp).1
    have hji : j ≠ i := by rintro rfl; rw [hu] at hL; cases hL
    rcases Nat.lt_or_ge j i with hlt | hge
    · have := h2 j p hlt hp hd
      omega
    · rcases (hc.two i j o p t hi hp (Ne.symm hji) hd).2 ht with k | k
      · have := hc.bits i j hil k
        omega
      · have := h.shut j i hL k
        rw [hu] at this
        cases this
theorem Inv.step (hc : Cn ext P cl ops bm fr s ds fr' s') {ρ0 : Env} {L : Array Bool} {m m' i : Nat} {o : Oper} {d : DR} {b : Value} (h : Inv P w0 ops bm fr ds s' ρ0 ρ L a w m) (hi : ops[i]? = some o) (hd : ds[i]? = some d) (hu : L.getD i false = false) (hb : ∀ j, (bm.getD i 0).testBit j = true → L.getD j false = true) (hle : ρ.le σ) (hv : V σ d.v b) (hR : R P w0 σ (stAt ds s' m') w') (hm : m' ≤ ops.size) (hmp : m' = 0 ∨ ∃ c, m' = c + 1 ∧ isCh ds c = true) (hch : ∀ c, isCh ds c = true → ((L.setIfInBounds i true).getD c false = true ↔ c < m')) : Inv P w0 ops bm fr ds s' ρ0 σ (L.setIfInBounds i true) (a.put o.dst b) w' m' := by
  have hil : i < ops.size := (Array.getElem?_eq_some_iff.1 hi).1
  have hself : (L.setIfInBounds i true).getD i false = true := by simp [h.lsz, hil]
  have was : ∀ {j}, j ≠ i → (L.setIfInBounds i true).getD j false = true → L.getD j false = true := fun {j} hne hL => by rwa [getD_set_ne false (Ne.symm hne)] at hL
  have tm : ∀ t, o.dst ≠ some t → (a.put o.dst b).tmps[t]? = a.tmps[t]? := fun t hne => by
    unfold Act.put
    split
    · rename_i e he
      rw [Array.getElem?_setIfInBounds_ne]
      rintro rfl
      exact hne he
    · rfl
  refine ⟨h.le.trans hle, hR, by simp [h.lsz], by unfold Act.put; split <;> simp [h.size], by unfold Act.put; split <;> exact h.dl.mono hle, fun j p q t hL hp hq ht htn => ?_, fun t v hv' hno => ?_, fun j k hL hk => ?_, hm, hmp, hch⟩
  · by_cases hji : j = i
    · subst hji
      rw [hi] at hp
      obtain rfl := Option.some.inj hp
      rw [hd] at hq
      obtain rfl := Option.some.inj hq
      refine ⟨b, ?_, hv⟩
      unfold Act.put
      rw [ht]
      have h9 : t < a.tmps.size := by rw [h.size]; exact htn
      simp [h9]
    · obtain ⟨c, h1, h2⟩ := h.new j p q t (was hji hL) hp hq ht htn
      exact ⟨c, by rw [tm t (hc.two i j o p t hi hp (Ne.symm hji) ht).1]; exact h1, h2.mono hle⟩
  · obtain ⟨c, h1, h2⟩ := h.old t v hv' fun j p hL hp => hno j p (getD_set_true hL) hp
    exact ⟨c, by rw [tm t (hno i o hself hi)]; exact h1, h2.mono hle⟩
  · by_cases hji : j = i
    · subst hji
      exact getD_set_true (hb k hk)
    · exact getD_set_true (h.shut j k (was hji hL) hk)
theorem Inv.done (hc : Cn ext P cl ops bm fr s ds fr' s') (hn : ∀ t v, fr.t.get t = some v → t < fr.n) {ρ0 : Env} {L : Array Bool} {m : Nat} {Q : Exit → Act → World → Prop} (h : Inv P w0 ops bm fr ds s' ρ0 ρ L a w m) (hr : Region.ready .any ops L = []) (hT : Then P w0 ρ0 .nrm fr' s' Q) : Q .normal a w := by
  have all : ∀ i, i < ops.size → L.getD i false = true := by
    intro i
    induction i using Nat.strongRecOn with
    | _ i ih =>
      intro hi
      cases hL : L.getD i false with
      | true => rfl
      | false =>
        have : i ∈ Region.ready .any ops L := mem_ready.2 ⟨by rw [unlisted (by rw [h.lsz]; exact hi)]; exact hL, _, Array.getElem?_eq_getElem hi, fun e he hb => ih e.on (hc.low i _ (Array.getElem?_eq_getElem hi) e he hb) (by have := hc.low i _ (Array.getElem?_eq_getElem hi) e he hb; omega)⟩
        rw [hr] at this
        cases this
  have hlast : ds[ops.size]? = none := List.getElem?_eq_none (by rw [hc.len]; exact Nat.le_refl _)
  have hs : stAt ds s' m = s' := by
    rw [← hc.const ops.size h.mle (Nat.le_refl _) fun c h1 h2 => ?_]
    · unfold stAt; rw [hlast]
    · cases hq : isCh ds c with
      | false => rfl
      | true => have := (h.ch c hq).1 (all c h2); omega
  have hf : frAt ds fr' ops.size = fr' := by unfold frAt; rw [hlast]
  obtain ⟨f1, f2, f3⟩ := hc.frame ops.size (Nat.le_refl _)
  rw [hf] at f1 f2 f3
  refine hT ρ .normal a w h.le trivial (by have := h.r; rwa [hs] at this) ⟨by rw [h.size, f1], fun t v hv => ?_, by rw [f2]; exact h.dl⟩
  rcases f3 t v hv with ⟨j, p, d, h1, h2, h3, h4, h5, rfl⟩ | ⟨h1, h2⟩
  · exact h.new j p d t (all j h1) h2 h3 h4 h5
  · refine h.old t v h1 fun j p hL hp hd => ?_
    have := h2 j p (Array.getElem?_eq_some_iff.1 hp).1 hp hd
    have := hn t v h1
    omega
theorem draw_run (hX : ExtOk ext P) (hC : CS P w0 cl) (hc : Cn ext P cl ops bm fr s ds fr' s') (hn : ∀ t v, fr.t.get t = some v → t < fr.n) {ρ0 : Env} {Q : Exit → Act → World → Prop} (hT : Then P w0 ρ0 .nrm fr' s' Q) : ∀ (fuel : Nat) {ρ : Env} {L : Array Bool} {a : Act} {w : World} {m : Nat}, Inv P w0 ops bm fr ds s' ρ0 ρ L a w m → unl L ops.size ≤ fuel → wpAny P .any ops Q fuel L a w := by
  intro fuel
  induction fuel with
  | zero =>
    intro ρ L a w m h hu
    have hr : Region.ready .any ops L = [] := by
      cases hq : Region.ready .any ops L with
      | nil => rfl
      | cons i r =>
        obtain ⟨h1, o, ho, -⟩ := mem_ready.1 (show i ∈ Region.ready .any ops L by rw [hq]; exact List.mem_cons_self ..)
        have hil : i < ops.size := (Array.getElem?_eq_some_iff.1 ho).1
        rw [unlisted (by rw [h.lsz]; exact hil)] at h1
        have := unl_pos h1 ops.size hil
        omega
    exact ⟨hr, h.done hc hn hr hT⟩
  | succ fuel ih =>
    intro ρ L a w m h hu
    refine ⟨fun hr => h.done hc hn hr hT, fun i hi => ?_⟩
    obtain ⟨hu0, o, ho, hall⟩ := mem_ready.1 hi
    have hil : i < ops.size := (Array.getElem?_eq_some_iff.1 ho).1
    rw [unlisted (by rw [h.lsz]; exact hil)] at hu0
    have hb : ∀ j, (bm.getD i 0).testBit j = true → L.getD j false = true := fun j hj => by
      obtain ⟨e, h1, h2, h3⟩ := hc.bit i o j ho hj
      rcases h3 with rfl | h3
      · exact hall e h1 h2
      · exact h.shut _ j (hall e h1 h2) h3
    obtain ⟨o', d, ho', hd⟩ := hc.at hil
    rw [ho] at ho'
    obtain rfl := Option.some.inj ho'
    have hfr : frAt ds fr' i = d.fr := by unfold frAt; rw [hd]
    have hst : stAt ds s' i = d.s := by unfold stAt; rw [hd]
    have hslot : ∀ t, t ∈ o.looksAt ops → ∀ v, d.fr.t.get t = some v → ∃ b, a.tmps[t]? = some b ∧ V ρ v b := fun t ht v hv => h.slot hc hn ho hu0 hb ht (by rw [hfr]; exact hv)
    have hwant : ∀ {b : Bool}, wantB ops d.fr o = some b → Region.wanted o (yielded ops a.tmps) = b := fun hw => wantB_slot (fun j c p e v hg hp he hv => hslot e (by
      unfold Oper.looksAt
      rw [hg]
      refine List.mem_append_right _ ?_
      show e ∈ ((ops[j]?).bind (·.dst)).toList
      rw [hp]
      simp [he]) v hv) hw
    have hE : EvOk ρ d.fr a.eval o.op.operands := fun x hx v hv => by
      cases x with
      | tmp t =>
        obtain ⟨b, h1, h2⟩ := hslot t (by
          unfold Oper.looksAt
          refine List.mem_append_left _ (List.mem_filterMap.2 ⟨.tmp t, by simpa using hx, rfl⟩)) v hv
        have e : a.eval (.tmp t) = b := by show a.tmps.getD t undef = b; rw [Array.getD_eq_getD_getElem?, h1]; rfl
        rw [e]
        exact h2
      | const c => rw [← Option.some.inj hv]; exact .g _
      | global g => rw [← Option.some.inj hv]; exact .g _
      | func f => rw [← Option.some.inj hv]; exact .g _
    have hcount : unl (L.setIfInBounds i true) ops.size ≤ fuel := by
      have := unl_set (L := L) (by rw [h.lsz]; exact hil) hu0 ops.size
      rw [if_pos hil] at this
      omega
    have keep : d.k ≠ 2 → ∀ c, isCh ds c = true → ((L.setIfInBounds i true).getD c false = true ↔ c < m) := fun hk c hcc => by
      have hne : i ≠ c := by
        rintro rfl
        obtain ⟨d', h1, h2⟩ := isCh_iff.1 hcc
        rw [hd] at h1
        obtain rfl := Option.some.inj h1
        exact hk h2
      rw [getD_set_ne false hne]
      exact h.ch c hcc
    unfold wpOp
    rw [ho]
    dsimp only
    rcases (hc.fact i o d ho hd).2 with ⟨hk, hw, hv, -⟩ | ⟨hk, hw, hv, -⟩ | ⟨hk, hw, hv⟩
    · rw [if_neg (by rw [hwant hw]; decide)]
      exact ih (h.step hc ho hd hu0 hb (Env.le.refl ρ) (by rw [hv]; exact .g _) h.r h.mle h.mp (keep (by omega))) hcount
    · rw [if_pos (hwant hw)]
      left
      have hval : aval P d.fr (stAt ds s' m) o = some d.v := by
        cases hm : isMem o.op with
        | false => rw [aval_nomem hm]; exact hv
        | true =>
          refine hc.same i o d m ho hd hk hm h.mle h.mp fun c h1 h2 => ?_
          cases hq : (bm.getD i 0).testBit c with
          | false => rfl
          | true => have := (h.ch c h2).1 (hb c hq); omega
      obtain ⟨b, h1, h2⟩ := aval_sound h.r hE hval
      unfold Oper.wp
      rw [h1]
      exact ih (h.step hc ho hd hu0 hb (Env.le.refl ρ) h2 h.r h.mle h.mp (keep (by omega))) hcount
    · rw [if_pos (hwant hw)]
      left
      have hchi : isCh ds i = true := isCh_iff.2 ⟨d, hd, hk⟩
      have hmi : m ≤ i := by
        rcases Nat.lt_or_ge i m with hlt | hge
        · rw [(h.ch i hchi).2 hlt] at hu0
          cases hu0
        · exact hge
      have hbefore : ∀ c, c < i → isCh ds c = true → c < m := fun c h1 h2 => (h.ch c h2).1 (hb c (hc.chain i d c hd hk h1 h2))
      have hsm : stAt ds s' m = d.s := by
        rw [← hst, hc.const i hmi (Nat.le_of_lt hil) fun c h1 h2 => ?_]
        cases hq : isCh ds c with
        | false => rfl
        | true => have := hbefore c h2 hq; omega
      have hR := h.r
      rw [hsm] at hR
      have kk := ev1_sound hX hC hR hE (wpAny P .any ops Q fuel (L.setIfInBounds i true)) Q
      rw [hv] at kk
      refine kk fun σ b w1 g1 g2 g3 => ih (h.step hc ho hd hu0 hb g1 g3 g2 (by omega) (.inr ⟨i, rfl, hchi⟩) fun c hcc => ?_) hcount
      by_cases hci : i = c
      · subst hci
        constructor
        · intro _; omega
        · intro _; simp [h.lsz, hil]
      · rw [getD_set_ne false hci, h.ch c hcc]
        constructor
        · intro hlt; omega
        · intro hlt; exact hbefore c (by omega) hcc
theorem unl_le (L : Array Bool) : ∀ n, unl L n ≤ n
  | 0 => Nat.le_refl _
  | n + 1 => by
    have := unl_le L n
    unfold unl
    split <;> omega
theorem draw_ok (hX : ExtOk ext P) (hC : CS P w0 cl) : DrawOk ext P w0 cl := by
  intro id ops ρ fr s a w x fr' s' Q hR hF h hT
  unfold evRegion at h
  split at h
  · rename_i hd
    simp only [Bool.and_eq_true] at hd
    split at h
    · rename_i ds f1 s1 he
      split at h
      · rename_i hsame
        injection h with h1 h2 h3
        subst h1 h2 h3
        have hc := cn_of hd.1 he hsame
        have hlen : (Array.replicate ops.size false).size = ops.size := by simp
        have hfalse : ∀ i, (Array.replicate ops.size false).getD i false = false := fun i => by
          rw [Array.getD_eq_getD_getElem?, Array.getElem?_replicate]
          split <;> rfl
        refine wp_region_any hd.2 (draw_run hX hC hc (fun t v hv => ?_) hT ops.size (ρ := ρ) (m := 0) ⟨Env.le.refl ρ, ?_, hlen, hF.size, hF.ds, fun i o d t hL => ?_, fun t v hv _ => hF.slot t v hv, fun i j hL => ?_, Nat.zero_le _, .inl rfl, fun c _ => ?_⟩ (unl_le _ _))
        · obtain ⟨b, h1, -⟩ := hF.slot t v hv
          rw [← hF.size]
          exact (Array.getElem?_eq_some_iff.1 h1).1
        · rw [hc.s0]
          exact hR.heap rfl hR.up.drew
        · rw [hfalse] at hL; cases hL
        · rw [hfalse] at hL; cases hL
        · rw [hfalse]
          constructor
          · intro h; cases h
          · intro h; omega
      · cases h
    · cases h
  · cases h
end
end
end Go.Proofs.YtkblmloobkiloaaGreatDoor.Ev
