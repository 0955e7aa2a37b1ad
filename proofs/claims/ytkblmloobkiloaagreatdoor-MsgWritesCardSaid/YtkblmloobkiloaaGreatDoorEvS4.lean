
/-
  The evaluator's soundness: frames, single operations, plain regions, loops. Conditions: none.
-/
import Derived.Test.YtkblmloobkiloaaGreatDoorEvS3
import Derived.Tactics
namespace Go.Proofs.YtkblmloobkiloaaGreatDoor.Ev
open Go.RowKit

inductive Ds (ρ : Env) : List AD → List Deferred → Prop
  | nil : Ds ρ [] []
  | cons {d : AD} {dd : Deferred} {l : List AD} {r : List Deferred} : VD ρ d dd → Ds ρ l r → Ds ρ (d :: l) (dd :: r)
theorem VD.mono {ρ σ : Env} (h : ρ.le σ) {d : AD} {dd : Deferred} (k : VD ρ d dd) : VD σ d dd := by
  obtain ⟨c, a, e, h1, h2⟩ := k
  exact ⟨c, a, e, h1.mono h, h2.mono h⟩
theorem Ds.mono {ρ σ : Env} (h : ρ.le σ) {l : List AD} {r : List Deferred} : Ds ρ l r → Ds σ l r
  | .nil => .nil
  | .cons a b => .cons (a.mono h) (Ds.mono h b)
/-- A frame. -/
structure RF (ρ : Env) (fr : AF) (a : Act) : Prop where
  size : a.tmps.size = fr.n
  slot : ∀ t v, fr.t.get t = some v → ∃ b, a.tmps[t]? = some b ∧ V ρ v b
  ds : Ds ρ fr.ds a.defers
section
variable {P : Program} {w0 w w' : World} {ρ σ : Env} {s s' : AS} {fr fr' : AF} {a : Act}
theorem RF.mono (h : ρ.le σ) (k : RF ρ fr a) : RF σ fr a :=
  ⟨k.size, fun t v e => by obtain ⟨b, h1, h2⟩ := k.slot t v e; exact ⟨b, h1, h2.mono h⟩, k.ds.mono h⟩
theorem RF.ev (k : RF ρ fr a) {x : Operand} {v : AV} (h : fr.ev x = some v) : V ρ v (a.eval x) := by
  cases x with
  | tmp t =>
    obtain ⟨b, h1, h2⟩ := k.slot t v h
    have e : a.eval (.tmp t) = b := by show a.tmps.getD t undef = b; rw [Array.getD_eq_getD_getElem?, h1]; rfl
    rw [e]
    exact h2
  | const c => rw [← Option.some.inj h]; exact .g _
  | global g => rw [← Option.some.inj h]; exact .g _
  | func f => rw [← Option.some.inj h]; exact .g _
theorem RF.ok (k : RF ρ fr a) (xs : Array Operand) : EvOk ρ fr a.eval xs := fun _ _ _ h => k.ev h
theorem RF.put (k : RF ρ fr a) {v : AV} {b : Value} (hv : V ρ v b) (d : Option Nat) : RF ρ (fr.put d v) (a.put d b) := by
  cases d with
  | none => exact k
  | some d =>
    unfold AF.put
    dsimp only
    cases hb : Nat.ble (d + 1) fr.n with
    | true =>
      have hd := Nat.le_of_ble_eq_true hb
      refine ⟨by simp [Act.put, k.size], fun t u h => ?_, k.ds⟩
      replace h : (fr.t.put d (some v)).get t = some u := h
      rw [Tr.get_put] at h
      by_cases ht : t = d
      · rw [if_pos ht] at h
        obtain rfl := Option.some.inj h
        subst ht; exact ⟨b, by have h9 : t < a.tmps.size := (by rw [k.size]; exact hd); simp [Act.put, h9], hv⟩
      · rw [if_neg ht] at h
        obtain ⟨c, h1, h2⟩ := k.slot t u h
        exact ⟨c, by simp [Act.put, Array.getElem?_setIfInBounds_ne (Ne.symm ht), h1], h2⟩
    | false =>
      have hd : ¬ d + 1 ≤ fr.n := fun h => by rw [Nat.ble_eq_true_of_le h] at hb; cases hb
      have e : a.put (some d) b = a := by
        unfold Act.put
        dsimp only
        rw [Array.setIfInBounds_eq_of_size_le (by have := k.size; omega)]
      rw [e]
      exact k
def boolOf : Value → Option Bool
  | .bool b => some b
  | _ => none
theorem wantB_slot {ops : Array Oper} {o : Oper} {b : Bool} (k : ∀ j c p d v, o.guard = some (j, c) → ops[j]? = some p → p.dst = some d → fr.t.get d = some v → ∃ u, a.tmps[d]? = some u ∧ V ρ v u) (h : wantB ops fr o = some b) : Region.wanted o (yielded ops a.tmps) = b := by
  unfold wantB at h
  unfold Region.wanted
  split at h
  · rename_i hg
    rw [hg]
    exact Option.some.inj h
  · rename_i j c hg
    rw [hg]
    obtain ⟨v, hv, h⟩ := Option.bind_eq_some_iff.1 h
    obtain ⟨p, hp, hv⟩ := Option.bind_eq_some_iff.1 hv
    obtain ⟨d, hd, hv⟩ := Option.bind_eq_some_iff.1 hv
    obtain ⟨u, h1, h2⟩ := k j c p d v hg hp hd hv
    have hy : yielded ops a.tmps j = boolOf u := by
      unfold yielded
      rw [hp]
      simp only [Option.bind_some, hd, h1]
      cases u <;> rfl
    dsimp only
    rw [hy]
    split at h
    · rw [h2.g', ← Option.some.inj h]; rfl
    · rw [h2.g', ← Option.some.inj h]; rfl
    · rename_i b0 _ _ n1 n2
      rw [h2.g', ← Option.some.inj h]
      cases b0 <;> cases c <;> first | rfl | exact (n1 rfl rfl).elim | exact (n2 rfl rfl).elim
    · rw [h2.g', ← Option.some.inj h]; cases c <;> rfl
    · cases h
theorem wantB_sound {ops : Array Oper} {o : Oper} {b : Bool} (k : RF ρ fr a) (h : wantB ops fr o = some b) : Region.wanted o (yielded ops a.tmps) = b := wantB_slot (fun _ _ _ d v _ _ _ => k.slot d v) h
/-- A chain of panics. -/
inductive Ch (ρ : Env) : List (AV × Bool) → List PanicEntry → Prop
  | nil : Ch ρ [] []
  | cons {v : AV} {u : Value} {r : Bool} {l : List (AV × Bool)} {m : List PanicEntry} : V ρ v u → Ch ρ l m → Ch ρ ((v, r) :: l) ({ v := u, recovered := r } :: m)
def VE (ρ : Env) : AE → Ending → Prop
  | .ret v, .returned a => V ρ v a
  | .pan ch, .panicked c => Ch ρ ch c
  | _, _ => False
/-- A caller that tells the truth. -/
def CS (P : Program) (w0 : World) (cl : Caller) : Prop := ∀ f args s e s', cl f args s = some (e, s') → (∃ fn, P.funcs[f]? = some fn ∧ fn.body.isSome = true) ∧ ∀ ρ w l, R P w0 ρ s w → Vs ρ args l → Calls P f l.toArray w fun E w' => ∃ σ, ρ.le σ ∧ R P w0 σ s' w' ∧ VE σ e E
theorem ev1_sound {ext : FuncId → Option Ext} {cl : Caller} (hX : ExtOk ext P) (hC : CS P w0 cl) (hR : R P w0 ρ s w) {o : Oper} (hE : EvOk ρ fr a.eval o.op.operands) (K : Act → World → Prop) (Q : Exit → Act → World → Prop) :
    match ev1 ext P cl fr s o with
    | .bad => True
    | .v v s' => (∀ σ b w', ρ.le σ → R P w0 σ s' w' → V σ v b → K (a.put o.dst b) w') → o.wp P a w K Q
    | .defer d => (∀ dd, VD ρ d dd → K (({ a with defers := dd :: a.defers } : Act).put o.dst undef) w) → o.wp P a w K Q
    | .pan ch s' => (∀ σ c w', ρ.le σ → R P w0 σ s' w' → Ch σ ch c → Q (.panic c) a w') → o.wp P a w K Q := by
  generalize hr : ev1 ext P cl fr s o = r
  unfold ev1 at hr
  split at hr
  · rename_i v hv
    obtain ⟨b, h1, h2⟩ := aval_sound hR hE hv
    subst hr
    intro h
    unfold Oper.wp
    rw [h1]
    exact h ρ b w (Env.le.refl ρ) hR h2
  · have hw := awrite_sound hX hR hE
    split at hr
    · rename_i v s1 he
      rw [he] at hw
      obtain ⟨σ, b, w1, h1, h2, h3, h4⟩ := hw
      subst hr
      intro h
      unfold Oper.wp
      rw [h1]
      exact h σ b w1 h2 h4 h3
    · rename_i s1 he
      rw [he] at hw
      obtain ⟨σ, w1, h1, h2, h3⟩ := hw
      subst hr
      intro h
      unfold Oper.wp
      rw [h1]
      exact h σ undef w1 h2 h3 (.g _)
    · rename_i d he
      rw [he] at hw
      obtain ⟨dd, h1, h2⟩ := hw
      subst hr
      intro h
      unfold Oper.wp
      rw [h1]
      exact h dd h2
    · rename_i v he
      rw [he] at hw
      obtain ⟨u, h1, h2⟩ := hw
      subst hr
      intro h
      unfold Oper.wp
      rw [h1]
      exact h ρ _ w (Env.le.refl ρ) hR (.cons h2 .nil)
    · rename_i f args he
      rw [he] at hw
      obtain ⟨l, hl, hrun⟩ := hw
      split at hr
      · rename_i v s1 hc
        obtain ⟨⟨fn, f1, f2⟩, hcall⟩ := hC _ _ _ _ _ hc
        subst hr
        intro h
        unfold Oper.wp
        rw [hrun fn f1 f2]
        refine (hcall ρ w l hR hl).mono ?_
        rintro E w1 ⟨σ, h1, h2, h3⟩
        cases E with
        | returned u => exact h σ u w1 h1 h2 h3
        | panicked c => exact h3.elim
        | outgrown => exact h3.elim
      · rename_i ch s1 hc
        obtain ⟨⟨fn, f1, f2⟩, hcall⟩ := hC _ _ _ _ _ hc
        subst hr
        intro h
        unfold Oper.wp
        rw [hrun fn f1 f2]
        refine (hcall ρ w l hR hl).mono ?_
        rintro E w1 ⟨σ, h1, h2, h3⟩
        cases E with
        | returned u => exact h3.elim
        | panicked c => exact h σ c w1 h1 h2 h3
        | outgrown => exact h3.elim
      · subst hr; trivial
    · subst hr; trivial
/-- How a piece of code ends. -/
def ExR (ρ : Env) : AX → Exit → Prop
  | .nrm, .normal => True
  | .ext i, .exit j => i = j
  | .ret, .ret => True
  | .pan ch, .panic c => Ch ρ ch c
  | _, _ => False
/-- What stands behind a piece of code. -/
def Then (P : Program) (w0 : World) (ρ : Env) (x : AX) (fr : AF) (s : AS) (Q : Exit → Act → World → Prop) : Prop := ∀ σ E a w, ρ.le σ → ExR σ x E → R P w0 σ s w → RF σ fr a → Q E a w
theorem Then.mono {x : AX} {Q : Exit → Act → World → Prop} (h : ρ.le σ) (k : Then P w0 ρ x fr s Q) : Then P w0 σ x fr s Q := fun τ E a w hs => k τ E a w (h.trans hs)
theorem evOps_sound {ext : FuncId → Option Ext} {cl : Caller} (hX : ExtOk ext P) (hC : CS P w0 cl) {ops : Array Oper} {x : AX} {Q : Exit → Act → World → Prop} : ∀ (l : List Oper) {ρ : Env} {fr : AF} {s : AS} {a : Act} {w : World}, R P w0 ρ s w → RF ρ fr a → evOps ext P cl ops l fr s = .ok x fr' s' → Then P w0 ρ x fr' s' Q → wpList P ops Q l a w
  | [], ρ, fr, s, a, w, hR, hF, h, hT => by
    unfold evOps at h
    injection h with h1 h2 h3
    subst h1 h2 h3
    exact hT ρ .normal a w (Env.le.refl ρ) trivial hR hF
  | o :: r, ρ, fr, s, a, w, hR, hF, h, hT => by
    unfold evOps at h
    unfold wpList
    split at h
    · rename_i hw
      rw [if_neg (by rw [wantB_sound hF hw]; decide)]
      exact evOps_sound hX hC r hR (hF.put (.g undef) o.dst) h hT
    · rename_i hw
      rw [if_pos (wantB_sound hF hw)]
      left
      have k := ev1_sound hX hC hR (hF.ok o.op.operands) (wpList P ops Q r) Q
      split at h
      · rename_i v s1 he
        rw [he] at k
        exact k fun σ b w1 h1 h2 h3 => evOps_sound hX hC r h2 ((hF.mono h1).put h3 o.dst) h (hT.mono h1)
      · rename_i d he
        rw [he] at k
        refine k fun dd hd => evOps_sound hX hC r hR ?_ h hT
        exact RF.put (fr := { fr with ds := d :: fr.ds }) (a := { a with defers := dd :: a.defers }) ⟨hF.size, hF.slot, .cons hd hF.ds⟩ (.g undef) o.dst
      · rename_i ch s1 he
        rw [he] at k
        injection h with h1 h2 h3
        subst h1 h2 h3
        exact k fun σ c w1 h1 h2 h3 => hT σ (.panic c) a w1 h1 h3 h2 (hF.mono h1)
      · cases h
    · cases h
theorem wp_loop_n {c : Code} {Q : Exit → Act → World → Prop} (I : Nat → Act → World → Prop) (round : ∀ n a w, I n a w → ∃ m, n = m + 1 ∧ c.wp P (Exit.then (fun a' w' => I m a' w') Q) a w) {n : Nat} {w : World} (h : I n a w) : (Code.loop c).wp P Q a w := by
  intro b k cs
  have key : ∀ n a w, I n a w → ∃ e a' w', Q e a' w' ∧ Arrives P (lone (b.at a (.code c :: .inLoop c :: k)) cs w) b k cs e a' w' := by
    intro n
    induction n with
    | zero => intro a w h; obtain ⟨m, hm, -⟩ := round 0 a w h; omega
    | succ n ih =>
      intro a w h
      obtain ⟨m, hm, hr⟩ := round _ a w h
      obtain rfl : n = m := by omega
      obtain ⟨e, a₁, w₁, hq, harr⟩ := hr b (.inLoop c :: k) cs
      cases e with
      | normal =>
        obtain ⟨e₂, a₂, w₂, hq₂, harr₂⟩ := ih a₁ w₁ hq
        exact ⟨e₂, a₂, w₂, hq₂, .of_steps (Steps.trans harr (.one step_inLoop)) harr₂⟩
      | exit id => exact ⟨_, a₁, w₁, hq, .pass (x := .inLoop c) rfl (fun _ _ => .inl (by simp)) harr⟩
      | goto l => exact ⟨_, a₁, w₁, hq, .pass (x := .inLoop c) rfl (fun _ _ => .inl (by simp)) harr⟩
      | ret => exact ⟨_, a₁, w₁, hq, .pass (x := .inLoop c) rfl (fun _ _ => .inl (by simp)) harr⟩
      | panic ch => exact ⟨_, a₁, w₁, hq, .pass (x := .inLoop c) rfl (fun _ _ => .inl (by simp)) harr⟩
      | outgrown => exact ⟨_, a₁, w₁, hq, .pass (x := .inLoop c) rfl (fun _ _ => .inl (by simp)) harr⟩
  obtain ⟨e, a', w', hq, harr⟩ := key n a w h
  exact ⟨e, a', w', hq, .of_steps (.one step_loop) harr⟩
/-- A region whose order is drawn, told ahead. -/
def DrawOk (ext : FuncId → Option Ext) (P : Program) (w0 : World) (cl : Caller) : Prop := ∀ (id : Nat) (ops : Array Oper) (ρ : Env) (fr : AF) (s : AS) (a : Act) (w : World) (x : AX) (fr' : AF) (s' : AS) (Q : Exit → Act → World → Prop), R P w0 ρ s w → RF ρ fr a → evRegion ext P cl ops fr s = .ok x fr' s' → Then P w0 ρ x fr' s' Q → (Code.region id ops true).wp P Q a w
theorem evC_sound {ext : FuncId → Option Ext} {cl : Caller} (hX : ExtOk ext P) (hC : CS P w0 cl) (hD : DrawOk ext P w0 cl) (L : Nat) : ∀ (c : Code) {ρ : Env} {fr : AF} {s : AS} {a : Act} {w : World} {x : AX} {fr' : AF} {s' : AS} {Q : Exit → Act → World → Prop}, R P w0 ρ s w → RF ρ fr a → evC ext P cl L c fr s = .ok x fr' s' → Then P w0 ρ x fr' s' Q → c.wp P Q a w := by
  intro c
  induction c with
  | skip =>
    intro ρ fr s a w x fr' s' Q hR hF h hT
    injection h with h1 h2 h3
    subst h1 h2 h3
    exact wp_skip (hT ρ .normal a w (Env.le.refl ρ) trivial hR hF)
  | region id ops d =>
    intro ρ fr s a w x fr' s' Q hR hF h hT
    cases d with
    | false => exact wp_region_list (evOps_sound hX hC ops.toList hR hF h hT)
    | true => exact hD id ops ρ fr s a w x fr' s' Q hR hF h hT
  | seq p q ihp ihq =>
    intro ρ fr s a w x fr' s' Q hR hF h hT
    unfold evC at h
    split at h
    · rename_i fr1 s1 he
      refine wp_seq (ihp hR hF he fun σ E a1 w1 h1 h2 h3 h4 => ?_)
      cases E <;> try exact h2.elim
      exact ihq h3 h4 h (hT.mono h1)
    · rename_i r hne
      refine wp_seq (ihp hR hF h fun σ E a1 w1 h1 h2 h3 h4 => ?_)
      have k := hT σ E a1 w1 h1 h2 h3 h4
      cases E with
      | normal =>
        cases x <;> try exact h2.elim
        exact absurd h (hne _ _)
      | _ => exact k
  | cond c p q ihp ihq =>
    intro ρ fr s a w x fr' s' Q hR hF h hT
    unfold evC at h
    split at h
    · rename_i hc
      exact wp_cond_true (hF.ev hc).g' (ihp hR hF h hT)
    · rename_i hc
      exact wp_cond_false (hF.ev hc).g' (ihq hR hF h hT)
    · cases h
  | block id b ih =>
    intro ρ fr s a w x fr' s' Q hR hF h hT
    unfold evC at h
    split at h
    · rename_i j fr1 s1 he
      split at h
      · rename_i hj
        obtain rfl := Nat.eq_of_beq_eq_true hj
        injection h with h1 h2 h3
        subst h1 h2 h3
        refine wp_block (ih hR hF he fun σ E a1 w1 h1 h2 h3 h4 => ?_)
        cases E <;> try exact h2.elim
        obtain rfl := h2
        show (if j = j then _ else _)
        rw [if_pos rfl]
        exact hT σ .normal a1 w1 h1 trivial h3 h4
      · rename_i hj
        have hj := Nat.ne_of_beq_eq_false hj
        injection h with h1 h2 h3
        subst h1 h2 h3
        refine wp_block (ih hR hF he fun σ E a1 w1 h1 h2 h3 h4 => ?_)
        have k := hT σ E a1 w1 h1 h2 h3 h4
        cases E <;> try exact h2.elim
        obtain rfl := h2
        show (if j = id then _ else _)
        rw [if_neg hj]
        exact k
    · rename_i r hne
      refine wp_block (ih hR hF h fun σ E a1 w1 h1 h2 h3 h4 => ?_)
      have k := hT σ E a1 w1 h1 h2 h3 h4
      cases E with
      | exit i =>
        cases x <;> try exact h2.elim
        exact absurd h (hne _ _ _)
      | _ => exact k
  | loop b ih =>
    intro ρ fr s a w x fr' s' Q hR hF h hT
    unfold evC at h
    refine wp_loop_n (fun n a w => ∃ σ fr1 s1, ρ.le σ ∧ R P w0 σ s1 w ∧ RF σ fr1 a ∧ loopR (evC ext P cl L b) n fr1 s1 = .ok x fr' s') ?_ ⟨ρ, fr, s, Env.le.refl ρ, hR, hF, h⟩
    rintro n a1 w1 ⟨σ, fr1, s1, h1, h2, h3, h4⟩
    cases n with
    | zero => cases h4
    | succ n =>
      refine ⟨n, rfl, ?_⟩
      unfold loopR at h4
      split at h4
      · rename_i fr2 s2 he
        refine ih h2 h3 he fun τ E a2 w2 k1 k2 k3 k4 => ?_
        cases E <;> try exact k2.elim
        exact ⟨τ, fr2, s2, h1.trans k1, k3, k4, h4⟩
      · rename_i r hne
        refine ih h2 h3 h4 fun τ E a2 w2 k1 k2 k3 k4 => ?_
        have k := hT τ E a2 w2 (h1.trans k1) k2 k3 k4
        cases E with
        | normal =>
          cases x <;> try exact k2.elim
          exact absurd h4 (hne _ _)
        | _ => exact k
  | exit id =>
    intro ρ fr s a w x fr' s' Q hR hF h hT
    injection h with h1 h2 h3
    subst h1 h2 h3
    exact wp_exit (hT ρ (.exit id) a w (Env.le.refl ρ) rfl hR hF)
  | label l =>
    intro ρ fr s a w x fr' s' Q hR hF h hT
    injection h with h1 h2 h3
    subst h1 h2 h3
    exact wp_label (hT ρ .normal a w (Env.le.refl ρ) trivial hR hF)
  | ret =>
    intro ρ fr s a w x fr' s' Q hR hF h hT
    injection h with h1 h2 h3
    subst h1 h2 h3
    exact wp_ret (hT ρ .ret a w (Env.le.refl ρ) trivial hR hF)
  | _ => intro ρ fr s a w x fr' s' Q hR hF h hT; cases h
end
end Go.Proofs.YtkblmloobkiloaaGreatDoor.Ev
