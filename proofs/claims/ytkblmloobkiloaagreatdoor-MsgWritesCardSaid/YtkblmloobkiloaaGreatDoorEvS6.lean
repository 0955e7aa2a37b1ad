
/-
  The evaluator's soundness: deferred calls, panics, functions. Conditions: none.
-/
import Derived.Test.YtkblmloobkiloaaGreatDoorEvS4
namespace Go.Proofs.YtkblmloobkiloaaGreatDoor.Ev
open Go.RowKit

/-- How the frame that defers stands. -/
def Md (ρ : Env) : AM → FrameMode → Prop
  | .ret, .returning => True
  | .pan ch, .panicking c => Ch ρ ch c
  | _, _ => False
section
variable {P : Program} {w0 w w' : World} {ρ σ : Env} {s s' : AS} {fr fr' : AF} {a : Act}
theorem Ch.mono (h : ρ.le σ) {l : List (AV × Bool)} {m : List PanicEntry} : Ch ρ l m → Ch σ l m
  | .nil => .nil
  | .cons a b => .cons (a.mono h) (Ch.mono h b)
theorem Ch.app {l l' : List (AV × Bool)} {m m' : List PanicEntry} (k : Ch ρ l' m') : Ch ρ l m → Ch ρ (l ++ l') (m ++ m')
  | .nil => k
  | .cons a b => .cons a (Ch.app k b)
theorem Md.mono (h : ρ.le σ) {m : AM} {u : FrameMode} (k : Md ρ m u) : Md σ m u := by
  cases m <;> cases u <;> first | exact k | exact Ch.mono h k
theorem Ch.drop {l : List (AV × Bool)} {m : List PanicEntry} (h : Ch ρ l m) : m.dropWhile (!·.goexit) = [] := by
  induction l generalizing m with
  | nil => cases h; rfl
  | cons x l ih => cases h with | cons _ h => simpa using ih h
theorem settle_sound {m : AM} {u : FrameMode} (h : Md ρ m u) : Md ρ (settleA m) (settle u) := by
  cases m with
  | ret => cases u <;> first | exact h.elim | trivial
  | pan ch =>
    cases u with
    | panicking c =>
      have h : Ch ρ ch c := h
      cases h with
      | nil => exact Ch.nil
      | cons h1 h2 =>
        rename_i v u r l m
        cases r with
        | true =>
          show Md ρ .ret (match m.dropWhile (!·.goexit) with | [] => .returning | rest => .panicking rest)
          rw [h2.drop]
          trivial
        | false => exact Ch.cons h1 h2
    | _ => exact h.elim
theorem raised_sound {m : AM} {u : FrameMode} {ch : List (AV × Bool)} {c : List PanicEntry} (h : Md ρ m u) (k : Ch ρ ch c) : Md ρ (raisedA m ch) (raised u c) := by
  cases m with
  | ret => cases u <;> first | exact h.elim | exact k
  | pan old =>
    cases u with
    | panicking o => exact Ch.app h k
    | _ => exact h.elim
theorem Md.ne {m : AM} {u : FrameMode} (h : Md ρ m u) : u ≠ .run := by
  rintro rfl
  cases m <;> exact h.elim
def resOne (a : Act) : ResultVar → Sem Value
  | .tmp t => pure (a.tmps.getD t undef)
  | .cell x t => do loadVar t (← asAddr (a.tmps.getD x undef))
theorem res_list (hR : R P w0 ρ s w) (hF : RF ρ fr a) : ∀ {rs : List ResultVar} {l : List AV}, resA P fr s rs = some l → ∃ r, (rs.mapM (resOne a)).run P w = .ok r w ∧ Vs ρ l r
  | [], l, h => ⟨[], by simp, by rw [← Option.some.inj h]; exact .nil⟩
  | .tmp t :: rs, l, h => by
    unfold resA at h
    obtain ⟨v, hv, h⟩ := Option.bind_eq_some_iff.1 h
    obtain ⟨l', hl, h⟩ := Option.bind_eq_some_iff.1 h
    obtain rfl := Option.some.inj h
    obtain ⟨r, h1, h2⟩ := res_list hR hF hl
    exact ⟨a.tmps.getD t undef :: r, by rw [List.mapM_cons]; simp [resOne, h1], .cons (hF.ev (x := .tmp t) hv) h2⟩
  | .cell x t :: rs, l, h => by
    unfold resA at h
    obtain ⟨v, hv, h⟩ := Option.bind_eq_some_iff.1 h
    obtain ⟨p, hp, hv⟩ := Option.bind_eq_some_iff.1 hv
    obtain ⟨l', hl, h⟩ := Option.bind_eq_some_iff.1 h
    obtain rfl := Option.some.inj h
    obtain ⟨r, h1, h2⟩ := res_list hR hF hl
    have hx := hF.ev (x := .tmp x) hp
    obtain ⟨b, h3, h4⟩ := aload_sound hR hx hv
    have hx2 : ∃ b off, p = .ptr b off := by
      cases p <;> first | exact ⟨_, _, rfl⟩ | cases hv
    obtain ⟨i, off, rfl⟩ := hx2
    obtain ⟨bb, y, -, he⟩ := hx.ptr'
    have he : a.tmps.getD x undef = .pointer (some ⟨bb, off, none⟩) := he
    have hx3 : a.eval (.tmp x) = .pointer (some ⟨bb, off, none⟩) := he
    rw [hx3] at h3
    have h3 : (loadVar t ⟨bb, off, none⟩).run P w = .ok b w := h3
    refine ⟨b :: r, ?_, .cons h4 h2⟩
    rw [List.mapM_cons]
    simp [resOne, he, asAddr, h3, h1]
theorem res_sound (hR : R P w0 ρ s w) (hF : RF ρ fr a) {fn : Func} {l : List AV} (h : resA P fr s fn.results.toList = some l) : ∃ v, (results fn a.tmps).run P w = .ok v w ∧ V ρ (resV l) v := by
  obtain ⟨r, h1, h2⟩ := res_list hR hF h
  have e : (results fn a.tmps).run P w = .ok (if h : r.toArray.size = 1 then r.toArray[0] else .tuple r.toArray) w := by
    have e1 : results fn a.tmps = (do
        let vs ← fn.results.mapM (resOne a)
        pure (if h : vs.size = 1 then vs[0] else .tuple vs)) := by
      unfold results
      congr 1
    rw [e1, Sem.run_bind, Array.mapM_eq_mapM_toList, Sem.run_map, h1]
    rfl
  refine ⟨_, e, ?_⟩
  unfold resV
  split
  · cases h2 with
    | cons h3 h4 => cases h4; exact h3
  · rename_i hne
    split
    · rename_i hsz
      have := h2.len
      simp at hsz
      rw [hsz] at this
      match l, this with
      | [x], _ => exact absurd rfl (hne x)
    · exact .tup h2
/-- A caller of deferred functions that tells the truth. -/
def CD (P : Program) (w0 : World) (cl : CallerD) : Prop := ∀ f args m s e m' s', cl f args m s = some (e, m', s') → (∃ fn, P.funcs[f]? = some fn ∧ fn.body.isSome = true) ∧ ∀ ρ w l u, R P w0 ρ s w → Vs ρ args l → Md ρ m u → CallsD P f l.toArray u w fun E u' w' => ∃ σ, ρ.le σ ∧ R P w0 σ s' w' ∧ Md σ m' u' ∧ VE σ e E
theorem evDef_sound {ext : FuncId → Option Ext} {cl : CallerD} (hX : ExtOk ext P) (hC : CD P w0 cl) (hn : ∀ f args m s r, cl f args m s = some r → ext f = none) {fn : Func} {e : AE} : ∀ (ds : List AD) {ρ : Env} {m : AM} {s : AS} {dl : List Deferred} {u : FrameMode} {w : World}, R P w0 ρ s w → RF ρ fr a → Ds ρ ds dl → Md ρ m u → evDef cl P fn fr ds m s = some (e, s') → Leaves P fn a.tmps (fun E w' => ∃ σ, ρ.le σ ∧ R P w0 σ s' w' ∧ VE σ e E) dl u w
  | [], ρ, m, s, dl, u, w, hR, hF, hD, hM, h => by
    cases hD
    cases m with
    | ret =>
      cases u <;> try exact hM.elim
      obtain ⟨l, hl, h⟩ := Option.bind_eq_some_iff.1 h
      obtain ⟨rfl, rfl⟩ := Prod.mk.inj (Option.some.inj h)
      obtain ⟨v, h1, h2⟩ := res_sound hR hF hl
      exact ⟨v, h1, ρ, Env.le.refl ρ, hR, h2⟩
    | pan ch =>
      cases u <;> try exact hM.elim
      obtain ⟨rfl, rfl⟩ := Prod.mk.inj (Option.some.inj h)
      exact ⟨ρ, Env.le.refl ρ, hR, hM⟩
  | d :: ds, ρ, m, s, dl, u, w, hR, hF, hD, hM, h => by
    cases hD with
    | cons hd hD =>
      obtain ⟨cap, args, rfl, hc, ha⟩ := hd
      have weak : ∀ {σ : Env} {dl : List Deferred} {u : FrameMode} {w : World}, ρ.le σ → Leaves P fn a.tmps (fun E w' => ∃ τ, σ.le τ ∧ R P w0 τ s' w' ∧ VE τ e E) dl u w → Leaves P fn a.tmps (fun E w' => ∃ τ, ρ.le τ ∧ R P w0 τ s' w' ∧ VE τ e E) dl u w := by
        intro σ dl
        induction dl with
        | nil =>
          intro u w hle k
          cases u with
          | run => exact k
          | returning => obtain ⟨v, h1, τ, h2, h3⟩ := k; exact ⟨v, h1, τ, hle.trans h2, h3⟩
          | panicking c => obtain ⟨τ, h2, h3⟩ := k; exact ⟨τ, hle.trans h2, h3⟩
        | cons d dl ih =>
          intro u w hle k
          obtain ⟨k1, fv, cap, f, args, k2, k3, k4⟩ := k
          refine ⟨k1, fv, cap, f, args, k2, k3, k4.mono fun E u' w' hE => ?_⟩
          cases E with
          | returned v => exact ih hle hE
          | panicked c => exact ih hle hE
          | outgrown => obtain ⟨τ, h2, h3⟩ := hE; exact ⟨τ, hle.trans h2, h3⟩
      unfold evDef at h
      split at h
      · rename_i v m1 s1 he
        obtain ⟨⟨f1, g1, g2⟩, hcall⟩ := hC _ _ _ _ _ _ _ he
        have hen := hX.ent _ f1 (hn _ _ _ _ _ he) g1 g2 (args.toArray ++ cap.toArray) w
        refine ⟨hM.ne, _, _, _, _, rfl, hen, ?_⟩
        have := hcall ρ w (args ++ cap) u hR (ha.app hc) hM
        rw [← List.append_toArray] at this
        refine this.mono fun E u' w1 hE => ?_
        obtain ⟨σ, h1, h2, h3, h4⟩ := hE
        cases E with
        | returned x => exact weak h1 (evDef_sound hX hC hn ds h2 (hF.mono h1) (hD.mono h1) (settle_sound h3) h)
        | panicked c => exact h4.elim
        | outgrown => exact h4.elim
      · rename_i ch m1 s1 he
        obtain ⟨⟨f1, g1, g2⟩, hcall⟩ := hC _ _ _ _ _ _ _ he
        have hen := hX.ent _ f1 (hn _ _ _ _ _ he) g1 g2 (args.toArray ++ cap.toArray) w
        refine ⟨hM.ne, _, _, _, _, rfl, hen, ?_⟩
        have := hcall ρ w (args ++ cap) u hR (ha.app hc) hM
        rw [← List.append_toArray] at this
        refine this.mono fun E u' w1 hE => ?_
        obtain ⟨σ, h1, h2, h3, h4⟩ := hE
        cases E with
        | returned x => exact h4.elim
        | panicked c => exact weak h1 (evDef_sound hX hC hn ds h2 (hF.mono h1) (hD.mono h1) (raised_sound h3 h4) h)
        | outgrown => exact h4.elim
      · cases h
theorem Ds.nil' {l : List Deferred} (h : Ds ρ [] l) : l = [] := by cases h; rfl
theorem trip {α β γ : Type} {a d : α} {b e : β} {c f : γ} (h : some (a, b, c) = some (d, e, f)) : a = d ∧ b = e ∧ c = f := by
  injection h with h
  injection h with h1 h2
  injection h2 with h2 h3
  exact ⟨h1, h2, h3⟩
theorem evOpsS_sound {ext : FuncId → Option Ext} {cl : Caller} (hX : ExtOk ext P) (hC : CS P w0 cl) {ops : Array Oper} {Q : Exit → Act → List Frame → World → Prop} {c₀ : Frame} {cs : List Frame} {m' : AM} : ∀ (l : List Oper) (k : Nat) {ρ : Env} {fr : AF} {m : AM} {s : AS} {a : Act} {u : FrameMode} {w : World}, ops.toList.drop k = l → R P w0 ρ s w → RF ρ fr a → Md ρ m u → evOpsS ext P cl ops l fr m s = some (fr', m', s') →
    (∀ σ a' u' w', ρ.le σ → R P w0 σ s' w' → RF σ fr' a' → Md σ m' u' → Q .normal a' ({ c₀ with mode := u' } :: cs) w') → wpOpsS P ops Q (List.range' k l.length) a ({ c₀ with mode := u } :: cs) w
  | [], k, ρ, fr, m, s, a, u, w, hk, hR, hF, hM, h, hT => by
    obtain ⟨rfl, rfl, rfl⟩ := trip h
    exact hT ρ a u w (Env.le.refl ρ) hR hF hM
  | o :: r, k, ρ, fr, m, s, a, u, w, hk, hR, hF, hM, h, hT => by
    have ho : ops[k]? = some o := by
      have : (ops.toList.drop k)[0]? = some o := by rw [hk]; rfl
      rw [List.getElem?_drop] at this
      simpa using this
    have hk' : ops.toList.drop (k + 1) = r := by
      have : (ops.toList.drop k).drop 1 = r := by rw [hk]; rfl
      rwa [List.drop_drop] at this
    rw [List.length_cons, List.range'_succ]
    unfold wpOpsS
    rw [ho]
    dsimp only
    unfold evOpsS at h
    split at h
    · rename_i xs ts hop hgd
      have hw : Region.wanted o (yielded ops a.tmps) = true := by unfold Region.wanted; rw [hgd]
      have hrun : (execOp a.eval o).run P w = .ok .recover w := by
        obtain ⟨dst, op, type, pos, after, guard⟩ := o
        dsimp only at hop
        subst hop
        rw [call_builtin]
        rfl
      rw [if_pos hw, hrun]
      dsimp only
      split at h
      · cases u with
        | panicking c =>
          have hM : Ch ρ _ c := hM
          cases hM with
          | cons h1 h2 =>
            rename_i x _
            exact evOpsS_sound hX hC r (k + 1) (u := .panicking ({ v := _, recovered := true } :: _)) hk' hR (hF.put h1 o.dst) (show Md ρ (.pan _) (.panicking _) from Ch.cons h1 h2) h hT
        | _ => exact hM.elim
      · cases h
      · cases u <;> try exact hM.elim
        exact evOpsS_sound hX hC r (k + 1) (u := .returning) hk' hR (hF.put (.g .nilIface) o.dst) (show Md ρ .ret .returning from trivial) h hT
    · split at h
      · rename_i hwt
        rw [if_neg (by rw [wantB_sound hF hwt]; decide)]
        exact evOpsS_sound hX hC r (k + 1) hk' hR (hF.put (.g undef) o.dst) hM h hT
      · rename_i hwt
        rw [if_pos (wantB_sound hF hwt)]
        have kk := ev1_sound hX hC hR (hF.ok o.op.operands) (fun a' w' => wpOpsS P ops Q (List.range' (k + 1) r.length) a' ({ c₀ with mode := u } :: cs) w') (fun e a' w' => Q e a' ({ c₀ with mode := u } :: cs) w')
        split at h
        · rename_i v s1 he
          rw [he] at kk
          have kk := kk fun σ b w1 h1 h2 h3 => evOpsS_sound hX hC r (k + 1) hk' h2 ((hF.mono h1).put h3 o.dst) (hM.mono h1) h (fun τ a' u' w' g1 => hT τ a' u' w' (h1.trans g1))
          unfold Oper.wp at kk
          generalize (execOp a.eval o).run P w = res at kk ⊢
          cases res with
          | halt x w1 => cases x <;> exact kk
          | ok n w1 => cases n <;> first | exact kk | exact kk.elim
        · cases h
      · cases h
theorem evCS_sound {ext : FuncId → Option Ext} {cl : Caller} (hX : ExtOk ext P) (hC : CS P w0 cl) (hD : DrawOk ext P w0 cl) (L : Nat) {c₀ : Frame} {cs : List Frame} : ∀ (c : Code) {ρ : Env} {fr : AF} {m : AM} {s : AS} {a : Act} {u : FrameMode} {w : World} {x : AX} {fr' : AF} {s' : AS} {m' : AM} {Q : Exit → Act → List Frame → World → Prop}, R P w0 ρ s w → RF ρ fr a → Md ρ m u → evCS ext P cl L c fr m s = some (.ok x fr' s', m') →
    (∀ σ E a' u' w', ρ.le σ → ExR σ x E → R P w0 σ s' w' → RF σ fr' a' → Md σ m' u' → Q E a' ({ c₀ with mode := u' } :: cs) w') → c.wpS P Q a ({ c₀ with mode := u } :: cs) w := by
  intro c
  have plain : ∀ {c : Code} {ρ : Env} {fr : AF} {m : AM} {s : AS} {a : Act} {u : FrameMode} {w : World} {x : AX} {fr' : AF} {s' : AS} {m' : AM} {Q : Exit → Act → List Frame → World → Prop}, R P w0 ρ s w → RF ρ fr a → Md ρ m u → some (evC ext P cl L c fr s, m) = some (.ok x fr' s', m') →
    (∀ σ E a' u' w', ρ.le σ → ExR σ x E → R P w0 σ s' w' → RF σ fr' a' → Md σ m' u' → Q E a' ({ c₀ with mode := u' } :: cs) w') → c.wpS P Q a ({ c₀ with mode := u } :: cs) w := by
    intro c ρ fr m s a u w x fr' s' m' Q hR hF hM h hT
    obtain ⟨h1, rfl⟩ := Prod.mk.inj (Option.some.inj h)
    exact wpS_of_wp (evC_sound hX hC hD L c hR hF h1 fun σ E a1 w1 g1 g2 g3 g4 => hT σ E a1 u w1 g1 g2 g3 g4 (hM.mono g1))
  induction c with
  | seq p q ihp ihq =>
    intro ρ fr m s a u w x fr' s' m' Q hR hF hM h hT
    unfold evCS at h
    split at h
    · rename_i fr1 s1 m1 he
      refine wpS_seq (ihp hR hF hM he fun σ E a1 u1 w1 h1 h2 h3 h4 h5 => ?_)
      cases E <;> try exact h2.elim
      exact ihq h3 h4 h5 h fun τ E a2 u2 w2 g1 => hT τ E a2 u2 w2 (h1.trans g1)
    · rename_i r hne
      refine wpS_seq (ihp hR hF hM h fun σ E a1 u1 w1 h1 h2 h3 h4 h5 => ?_)
      have k := hT σ E a1 u1 w1 h1 h2 h3 h4 h5
      cases E with
      | normal =>
        cases x <;> try exact h2.elim
        exact absurd h (hne _ _ _)
      | _ => exact k
  | region id ops d =>
    intro ρ fr m s a u w x fr' s' m' Q hR hF hM h hT
    cases d with
    | true => exact plain hR hF hM h hT
    | false =>
      obtain ⟨⟨f1, m1, s1⟩, he, h⟩ := Option.bind_eq_some_iff.1 h
      obtain ⟨h1, rfl⟩ := Prod.mk.inj (Option.some.inj h)
      injection h1 with h1 h2 h3
      subst h1 h2 h3
      refine wpS_region ?_
      rw [List.range_eq_range', ← Array.length_toList]
      exact evOpsS_sound hX hC ops.toList 0 (by simp) hR hF hM he fun σ a1 u1 w1 g1 g2 g3 g4 => hT σ .normal a1 u1 w1 g1 trivial g2 g3 g4
  | _ => intro ρ fr m s a u w x fr' s' m' Q hR hF hM h hT; exact plain hR hF hM h hT
theorem argsT_get : ∀ (l : List AV) (i : Nat) (t : Tr AV) (j : Nat), (argsT l i t).get j = if i ≤ j ∧ j < i + l.length then l[j - i]? else t.get j
  | [], i, t, j => by rw [argsT, if_neg (by rintro ⟨h1, h2⟩; simp at h2; omega)]
  | a :: l, i, t, j => by
    rw [argsT, argsT_get l (i + 1), Tr.get_put, List.length_cons]
    by_cases h1 : i + 1 ≤ j ∧ j < i + 1 + l.length
    · rw [if_pos h1, if_pos (by omega), show j - i = (j - (i + 1)) + 1 from by omega, List.getElem?_cons_succ]
    · rw [if_neg h1]
      by_cases h2 : j = i
      · subst h2
        rw [if_pos rfl, if_pos (by omega), Nat.sub_self]
        rfl
      · rw [if_neg h2, if_neg (by omega)]
theorem enter_RF {args : List AV} {l : List Value} (hv : Vs ρ args l) {n : Nat} (hn : args.length ≤ n) : RF ρ ⟨n, argsT args 0 .e, []⟩ { tmps := l.toArray ++ Array.replicate (n - l.toArray.size) undef, defers := [] } := by
  have hl := hv.len
  refine ⟨by simp; omega, fun t v h => ?_, .nil⟩
  have h : (argsT args 0 .e).get t = some v := h
  rw [argsT_get] at h
  split at h
  · obtain ⟨b, h1, h2⟩ := hv.get h
    refine ⟨b, ?_, h2⟩
    rw [Nat.sub_zero] at h1
    have hlt := (List.getElem?_eq_some_iff.1 h1).1
    rw [Array.getElem?_append_left (by simpa using hlt)]
    simpa using h1
  · cases h
theorem fnOf_spec {ext : FuncId → Option Ext} {f : FuncId} {k : Nat} {p : Func × Code} (h : fnOf ext P f k = some p) : ext f = none ∧ P.funcs[f]? = some p.1 ∧ p.1.body = some p.2 ∧ k ≤ p.1.ntmps := by
  unfold fnOf at h
  split at h
  · rename_i he
    obtain ⟨fn, hfn, h⟩ := Option.bind_eq_some_iff.1 h
    split at h
    · rename_i hk
      obtain ⟨c, hc, h⟩ := Option.bind_eq_some_iff.1 h
      obtain rfl := Option.some.inj h
      exact ⟨he, hfn, hc, Nat.le_of_ble_eq_true hk⟩
    · cases h
  · cases h
theorem evFnD_sound {ext : FuncId → Option Ext} {cl : Caller} (hX : ExtOk ext P) (hC : CS P w0 cl) (hD : DrawOk ext P w0 cl) (L : Nat) : CD P w0 (evFnD ext P L cl) ∧ ∀ f args m s r, evFnD ext P L cl f args m s = some r → ext f = none := by
  constructor
  · intro f args m s e m' s' h
    unfold evFnD at h
    obtain ⟨⟨fn, c⟩, hp, h⟩ := Option.bind_eq_some_iff.1 h
    obtain ⟨h1, h2, h3, h4⟩ := fnOf_spec hp
    dsimp only at h h2 h3 h4
    refine ⟨⟨fn, h2, by rw [h3]; rfl⟩, fun ρ w l u hR hv hM => ?_⟩
    refine callsD_of_wpS h2 h3 fun c₀ cs hu => ?_
    have hc0 : (c₀ :: cs) = ({ c₀ with mode := u } :: cs) := by subst hu; rfl
    rw [hc0]
    split at h
    · rename_i fr s1 m1 he
      split at h
      · rename_i hds
        obtain ⟨r, hr, h⟩ := Option.bind_eq_some_iff.1 h
        obtain ⟨rfl, rfl, rfl⟩ := trip h
        refine evCS_sound hX hC hD L c hR (enter_RF hv h4) hM he fun σ E a u' w' g1 g2 g3 g4 g5 => ?_
        cases E <;> try exact g2.elim
        obtain ⟨v, v1, v2⟩ := res_sound g3 g4 hr
        have hd := g4.ds
        rw [hds] at hd
        exact ⟨hd.nil', u', rfl, v, v1, σ, g1, g3, g5, v2⟩
      · cases h
    · rename_i fr s1 m1 he
      split at h
      · rename_i hds
        obtain ⟨r, hr, h⟩ := Option.bind_eq_some_iff.1 h
        obtain ⟨rfl, rfl, rfl⟩ := trip h
        refine evCS_sound hX hC hD L c hR (enter_RF hv h4) hM he fun σ E a u' w' g1 g2 g3 g4 g5 => ?_
        cases E <;> try exact g2.elim
        obtain ⟨v, v1, v2⟩ := res_sound g3 g4 hr
        have hd := g4.ds
        rw [hds] at hd
        exact ⟨hd.nil', u', rfl, v, v1, σ, g1, g3, g5, v2⟩
      · cases h
    · rename_i ch fr s1 m1 he
      split at h
      · rename_i hds
        obtain ⟨rfl, rfl, rfl⟩ := trip h
        refine evCS_sound hX hC hD L c hR (enter_RF hv h4) hM he fun σ E a u' w' g1 g2 g3 g4 g5 => ?_
        cases E <;> try exact g2.elim
        have hd := g4.ds
        rw [hds] at hd
        exact ⟨hd.nil', u', rfl, σ, g1, g3, g5, g2⟩
      · cases h
    · cases h
  · intro f args m s r h
    unfold evFnD at h
    obtain ⟨p, hp, h⟩ := Option.bind_eq_some_iff.1 h
    exact (fnOf_spec hp).1
theorem evFn_sound {ext : FuncId → Option Ext} (hX : ExtOk ext P) (hD : ∀ cl, CS P w0 cl → DrawOk ext P w0 cl) (L : Nat) : ∀ k, CS P w0 (evFn ext P L k)
  | 0 => fun f args s e s' h => by cases h
  | k + 1 => fun f args s e s' h => by
    have hC := evFn_sound hX hD L k
    obtain ⟨hCD, hn⟩ := evFnD_sound hX hC (hD _ hC) L
    unfold evFn at h
    obtain ⟨⟨fn, c⟩, hp, h⟩ := Option.bind_eq_some_iff.1 h
    obtain ⟨h1, h2, h3, h4⟩ := fnOf_spec hp
    dsimp only at h h2 h3 h4
    refine ⟨⟨fn, h2, by rw [h3]; rfl⟩, fun ρ w l hR hv => ?_⟩
    refine calls_of_wp_defers h2 h3 ?_
    have fin : ∀ {σ : Env} {dl : List Deferred} {u : FrameMode} {w : World} {tmps : Array Value}, ρ.le σ → Leaves P fn tmps (fun E w' => ∃ τ, σ.le τ ∧ R P w0 τ s' w' ∧ VE τ e E) dl u w → Leaves P fn tmps (fun E w' => ∃ τ, ρ.le τ ∧ R P w0 τ s' w' ∧ VE τ e E) dl u w := by
      intro σ dl
      induction dl with
      | nil =>
        intro u w tmps hle k
        cases u with
        | run => exact k
        | returning => obtain ⟨v, h1, τ, h2, h3⟩ := k; exact ⟨v, h1, τ, hle.trans h2, h3⟩
        | panicking c => obtain ⟨τ, h2, h3⟩ := k; exact ⟨τ, hle.trans h2, h3⟩
      | cons d dl ih =>
        intro u w tmps hle k
        obtain ⟨k1, fv, cap, f, args, k2, k3, k4⟩ := k
        refine ⟨k1, fv, cap, f, args, k2, k3, k4.mono fun E u' w' hE => ?_⟩
        cases E with
        | returned v => exact ih hle hE
        | panicked c => exact ih hle hE
        | outgrown => obtain ⟨τ, h2, h3⟩ := hE; exact ⟨τ, hle.trans h2, h3⟩
    split at h
    · rename_i fr s1 he
      refine evC_sound hX hC (hD _ hC) L c hR (enter_RF hv h4) he fun σ E a w' g1 g2 g3 g4 => ?_
      cases E <;> try exact g2.elim
      exact fin g1 (evDef_sound hX hCD hn fr.ds (u := .returning) g3 g4 g4.ds (show Md σ .ret .returning from trivial) h)
    · rename_i fr s1 he
      refine evC_sound hX hC (hD _ hC) L c hR (enter_RF hv h4) he fun σ E a w' g1 g2 g3 g4 => ?_
      cases E <;> try exact g2.elim
      exact fin g1 (evDef_sound hX hCD hn fr.ds (u := .returning) g3 g4 g4.ds (show Md σ .ret .returning from trivial) h)
    · rename_i ch fr s1 he
      refine evC_sound hX hC (hD _ hC) L c hR (enter_RF hv h4) he fun σ E a w' g1 g2 g3 g4 => ?_
      cases E <;> try exact g2.elim
      exact fin g1 (evDef_sound hX hCD hn fr.ds (m := .pan ch) (u := .panicking _) g3 g4 g4.ds g2 h)
    · cases h
end
end Go.Proofs.YtkblmloobkiloaaGreatDoor.Ev
