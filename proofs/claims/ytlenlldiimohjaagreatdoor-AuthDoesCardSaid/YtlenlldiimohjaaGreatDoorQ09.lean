/-
  ADoW ADo1 ADo1b ADoL: what AuthDoes needs of them.
-/
import Derived.Test.YtlenlldiimohjaaGreatDoorQ08
import Derived.Laws.CopyOwn
import Derived.Laws.BytesArg
import Derived.Clock
namespace Go.Proofs.YtlenlldiimohjaaGreatDoor
open Go.RowKit

/-- Every block of such a type is as it was. -/
def SameT (p : TypeId → Bool) (w w' : World) : Prop := w.heap.size ≤ w'.heap.size ∧ ∀ (k : Nat) (cs : Array Value) (t : TypeId) (fz : Nat × Nat), p t = true → w.heap[k]? = some (.cells cs t fz) → w'.heap[k]? = w.heap[k]?
/-- Every block of bytes, and of a step, is as it was. -/
abbrev Same8 (w w' : World) : Prop := SameT (fun t => t == 5 || t == 92) w w'
/-- Every block is as it was, but the law's world and the rows of lists. -/
abbrev SameK (w w' : World) : Prop := SameT (fun t => t != 86 && t != 47) w w'
section
variable {p : TypeId → Bool}
theorem SameT.refl (w : World) : SameT p w w := ⟨Nat.le_refl _, fun _ _ _ _ _ _ => rfl⟩
theorem SameT.trans {a b c : World} (h : SameT p a b) (k : SameT p b c) : SameT p a c := ⟨Nat.le_trans h.1 k.1, fun i cs t fz hp hi => (k.2 i cs t fz hp ((h.2 i cs t fz hp hi).trans hi)).trans (h.2 i cs t fz hp hi)⟩
theorem SameT.of_below {w w' : World} (h : Below w.heap.size w w') : SameT p w w' := ⟨h.size, fun k _ _ _ _ hk => h.block k (Array.getElem?_eq_some_iff.1 hk).1⟩
theorem SameT.grown {w w' : World} {base n size : Nat} {t : TypeId} {v : Value} {xs : List Value} (hq : w.ownsRow base t size v n xs) (hne : p t = false) (hg : w.grownBy w' v.ownBlock) : SameT p w w' := ⟨hg.size, fun k cs t' fz hp hk => hg.block k (Array.getElem?_eq_some_iff.1 hk).1 (fun he => by
  rcases hq.2 with ⟨rfl, _⟩ | ⟨g, cap, cur, rfl, _, hgg, _⟩
  · cases he
  · injection he with he
    subst he
    rw [hk] at hgg
    injection hgg with h2
    injection h2 with _ h2 _
    subst h2
    rw [hne] at hp
    cases hp)⟩
theorem SameT.set_ {w : World} {q : Nat} {t : TypeId} {cs : Array Value} (hq : Blk w q t cs) (hne : p t = false) (i : Nat) (u : Value) : SameT p w (w.setCell ⟨q, i, none⟩ u) := ⟨by simp [World.setCell], fun k cs' t' fz hp hk => by
  refine Below.heap_setCell w ⟨q, i, none⟩ u k (fun he => ?_)
  have he : k = q := he
  subst he
  have h2 : w.heap[k]? = some (.cells cs t (0, 0)) := hq
  rw [hk] at h2
  injection h2 with h2
  injection h2 with _ h2 _
  subst h2
  rw [hne] at hp
  cases hp⟩
theorem SameT.blk {w w' : World} {q : Nat} {t : TypeId} {cs : Array Value} (h : SameT p w w') (hp : p t = true) (hq : Blk w q t cs) : Blk w' q t cs := (h.2 q cs t _ hp hq).trans hq
end
theorem SameT.mono {p r : TypeId → Bool} {w w' : World} (h : SameT p w w') (hr : ∀ t, r t = true → p t = true) : SameT r w w' := ⟨h.1, fun k cs t fz ht hk => h.2 k cs t fz (hr t ht) hk⟩
theorem SameK.s8 {w w' : World} (h : SameK w w') : Same8 w w' := h.mono fun t ht => by
  have : t = 5 ∨ t = 92 := by simpa using ht
  rcases this with rfl | rfl <;> rfl
theorem OwnB.same8 {w w' : World} {base : Nat} {v : Value} {l : List UInt8} (h : OwnB w base v l) (hs : Same8 w w') : OwnB w' base v l := by
  rcases h with h | ⟨g, cap, cur, fz, rfl, hb, hg, rest⟩
  · exact .inl h
  · exact .inr ⟨g, cap, cur, fz, rfl, hb, (hs.2 g cur _ fz rfl hg).trans hg, rest⟩

/-- Bytes that are lent: three marks behind them. -/
def lentA (l : List UInt8) : Array Value := (byteL (l ++ [90, 91, 92])).toArray
def Lent (w : World) (base : Nat) (v : Value) (l : List UInt8) : Prop := ∃ g, v = .slice (some ⟨g, 0, none⟩) l.length (l.length + 3) ∧ base ≤ g ∧ Blk w g 5 (lentA l)
theorem lentA_at (l : List UInt8) (j : Nat) : (lentA l)[j]? = ((l ++ [90, 91, 92])[j]?).map fun c => Value.int .u8 (c.toNat : Int) := by
  unfold lentA byteL
  rw [List.getElem?_toArray, List.getElem?_map]
theorem lentA_low (l : List UInt8) (j : Nat) (u : Value) (hu : (byteL l)[j]? = some u) : (lentA l)[j]? = some u := by
  rw [lentA_at]
  unfold byteL at hu
  rw [List.getElem?_map, Option.map_eq_some_iff] at hu
  obtain ⟨c, hc, rfl⟩ := hu
  rw [List.getElem?_append_left (List.getElem?_eq_some_iff.1 hc).1, hc]
  rfl
section
variable {w w' : World} {base : Nat} {v : Value} {l : List UInt8}
theorem Lent.below (h : Lent w base v l) (hb : Below w.heap.size w w') : Lent w' base v l := by
  obtain ⟨g, e, h1, h2⟩ := h
  exact ⟨g, e, h1, Blk.below h2 hb (Blk.lt h2)⟩
theorem Lent.same8 (h : Lent w base v l) (hs : Same8 w w') : Lent w' base v l := by
  obtain ⟨g, e, h1, h2⟩ := h
  exact ⟨g, e, h1, hs.blk rfl h2⟩
theorem Lent.more {base' : Nat} (h : Lent w base v l) (hb : base' ≤ base) : Lent w base' v l := by
  obtain ⟨g, e, h1, h2⟩ := h
  exact ⟨g, e, Nat.le_trans hb h1, h2⟩
theorem Lent.bys (h : Lent w base v l) (hl : l.length ≤ 1099511627776) : Bys w w.heap.size v l := by
  obtain ⟨g, rfl, h1, h2⟩ := h
  refine ⟨_, _, rfl, by omega, by unfold maxLen; omega, by rw [byteL_len, Nat.mul_one], fun _ => ⟨_, rfl, Blk.lt h2, fun j u hu => ?_⟩⟩
  rw [Addr.add_lit, Nat.zero_add, Blk.cell h2]
  exact lentA_low l j u hu
end
/-- A byte of what is lent is written. -/
theorem lentA_set (l : List UInt8) (j : Nat) (hj : j < l.length) (c : UInt8) : (lentA l).setIfInBounds j (.int .u8 (c.toNat : Int)) = lentA (l.set j c) := by
  unfold lentA byteL
  rw [List.setIfInBounds_toArray, ← List.set_append_left _ _ hj, List.map_set]

theorem own_row_ne {w : World} {b1 b2 s1 s2 n1 n2 : Nat} {t1 t2 : TypeId} {v1 v2 : Value} {x1 x2 : List Value} (h : w.ownsRow b1 t1 s1 v1 n1 x1) (h2 : w.ownsRow b2 t2 s2 v2 n2 x2) (hne : t1 ≠ t2) : ∀ k, v1.ownBlock = some k → v2.ownBlock ≠ some k := by
  intro k hk hk2
  rcases h.2 with ⟨rfl, _⟩ | ⟨g, cap, cur, rfl, _, hg, _⟩
  · cases hk
  · injection hk with hk
    subst hk
    rcases h2.2 with ⟨rfl, _⟩ | ⟨g2, cap2, cur2, rfl, _, hg2, _⟩
    · cases hk2
    · injection hk2 with hk2
      subst hk2
      have hg2' := hg2
      rw [show (⟨g2, 0, none⟩ : Addr).block = g2 from rfl] at hg
      rw [hg] at hg2'
      injection hg2' with e
      injection e with _ e _
      exact hne e

/-! ### the law's world -/

/-- A Talk that came out: the program's bytes and the document's. -/
structure TalkW where
  t : Tk
  hv : Value
  hw : Value
  l : List UInt8
def tRow (ts : List TalkW) : List Value := ts.flatMap fun x => talkL x.t x.hv
def wRow (ts : List TalkW) : List Value := ts.flatMap fun x => talkL x.t x.hw
abbrev worldL (gu gr : Nat) (vt vw vb vc : Value) : List Value := [.pointer (some ⟨gu, 0, none⟩), .pointer (some ⟨gr, 0, none⟩), vt, vw, vb, vc]

/-- The law's world lies at q: its rows are its own. -/
structure WR (W0 : World) (q gu gr : Nat) (vt : Value) (nt : Nat) (xt : List Value) (vw : Value) (nw : Nat) (xw : List Value) (vb : Value) (nb : Nat) (xb : List Value) (vc : Value) (nc : Nat) (xc : List Value) (w : World) : Prop where
  low : Below W0.heap.size W0 w
  qle : W0.heap.size ≤ q
  blk : Blk w q 86 (worldL gu gr vt vw vb vc).toArray
  rt : w.ownsRow W0.heap.size 54 7 vt nt xt
  rw_ : w.ownsRow W0.heap.size 54 7 vw nw xw
  rb : w.ownsRow W0.heap.size 47 1 vb nb xb
  rc : w.ownsRow W0.heap.size 47 1 vc nc xc
  tw : ∀ k, vt.ownBlock = some k → vw.ownBlock ≠ some k
  bc : ∀ k, vb.ownBlock = some k → vc.ownBlock ≠ some k
section
variable {W0 w w' : World} {q gu gr : Nat} {vt vw vb vc : Value} {nt nw nb nc : Nat} {xt xw xb xc : List Value}
theorem WR.call (h : WR W0 q gu gr vt nt xt vw nw xw vb nb xb vc nc xc w) (hb : Below w.heap.size w w') : WR W0 q gu gr vt nt xt vw nw xw vb nb xb vc nc xc w' :=
  ⟨h.low.trans (hb.mono h.low.size), h.qle, Blk.below h.blk hb (Blk.lt h.blk), own_other_b h.rt hb, own_other_b h.rw_ hb, own_other_b h.rb hb, own_other_b h.rc hb, h.tw, h.bc⟩
/-- The row vt has been grown, then its head is stored. -/
theorem WR.grow_t (h : WR W0 q gu gr vt nt xt vw nw xw vb nb xb vc nc xc w) {v' : Value} {n' : Nat} {x' : List Value} (ho : w'.ownsRow W0.heap.size 54 7 v' n' x') (hg : w.grownBy w' vt.ownBlock) (hor : v'.ownBlock = vt.ownBlock ∨ v'.ownBlock = some w.heap.size) : WR W0 q gu gr v' n' x' vw nw xw vb nb xb vc nc xc (w'.setCell ⟨q, 2, none⟩ v') := by
  have hq := Blk.grown h.blk hg (fun hh => own_blk_ne h.rt h.blk (by decide) hh.symm)
  have hs := setCell_other w' q 2 v'
  have kw : w'.ownsRow W0.heap.size 54 7 vw nw xw := h.rw_.kept hg (by
    rcases hvt : vw.ownBlock with _ | k
    · exact .inl rfl
    · exact .inr (fun hh => h.tw k hh.symm hvt))
  have kb : w'.ownsRow W0.heap.size 47 1 vb nb xb := h.rb.kept hg (by
    rcases hvt : vb.ownBlock with _ | k
    · exact .inl rfl
    · exact .inr (fun hh => own_row_ne h.rb h.rt (by decide) k hvt hh.symm))
  have kc : w'.ownsRow W0.heap.size 47 1 vc nc xc := h.rc.kept hg (by
    rcases hvt : vc.ownBlock with _ | k
    · exact .inl rfl
    · exact .inr (fun hh => own_row_ne h.rc h.rt (by decide) k hvt hh.symm))
  exact ⟨(h.low.grown hg h.low.size (fun k hk => (h.rt.lt _ hk).1)).setCell (p := ⟨q, 2, none⟩) h.qle _, h.qle, Blk.set_ hq 2 v',
    own_other ho (own_blk_ne ho hq (by decide)) hs, own_other kw (own_blk_ne kw hq (by decide)) hs, own_other kb (own_blk_ne kb hq (by decide)) hs, own_other kc (own_blk_ne kc hq (by decide)) hs,
    fun k hk => hor.elim (fun e => h.tw k (e.symm.trans hk)) (fun e hc => Nat.lt_irrefl _ (by have h2 := (h.rw_.lt _ hc).2; rw [e] at hk; injection hk with hk; rw [← hk] at h2; exact h2)),
    h.bc⟩
theorem WR.same_t (p : TypeId → Bool) (h : WR W0 q gu gr vt nt xt vw nw xw vb nb xb vc nc xc w) (hp : p 86 = false) (hp2 : p 54 = false) {v' : Value} (hg : w.grownBy w' vt.ownBlock) : SameT p w (w'.setCell ⟨q, 2, none⟩ v') :=
  (SameT.grown h.rt hp2 hg).trans (SameT.set_ (Blk.grown h.blk hg (fun hh => own_blk_ne h.rt h.blk (by decide) hh.symm)) hp 2 v')
/-- The row vw has been grown, then its head is stored. -/
theorem WR.grow_w (h : WR W0 q gu gr vt nt xt vw nw xw vb nb xb vc nc xc w) {v' : Value} {n' : Nat} {x' : List Value} (ho : w'.ownsRow W0.heap.size 54 7 v' n' x') (hg : w.grownBy w' vw.ownBlock) (hor : v'.ownBlock = vw.ownBlock ∨ v'.ownBlock = some w.heap.size) : WR W0 q gu gr vt nt xt v' n' x' vb nb xb vc nc xc (w'.setCell ⟨q, 3, none⟩ v') := by
  have hq := Blk.grown h.blk hg (fun hh => own_blk_ne h.rw_ h.blk (by decide) hh.symm)
  have hs := setCell_other w' q 3 v'
  have kt : w'.ownsRow W0.heap.size 54 7 vt nt xt := h.rt.kept hg (by
    rcases hvt : vt.ownBlock with _ | k
    · exact .inl rfl
    · exact .inr (fun hh => h.tw k hvt hh.symm))
  have kb : w'.ownsRow W0.heap.size 47 1 vb nb xb := h.rb.kept hg (by
    rcases hvt : vb.ownBlock with _ | k
    · exact .inl rfl
    · exact .inr (fun hh => own_row_ne h.rb h.rw_ (by decide) k hvt hh.symm))
  have kc : w'.ownsRow W0.heap.size 47 1 vc nc xc := h.rc.kept hg (by
    rcases hvt : vc.ownBlock with _ | k
    · exact .inl rfl
    · exact .inr (fun hh => own_row_ne h.rc h.rw_ (by decide) k hvt hh.symm))
  exact ⟨(h.low.grown hg h.low.size (fun k hk => (h.rw_.lt _ hk).1)).setCell (p := ⟨q, 3, none⟩) h.qle _, h.qle, Blk.set_ hq 3 v',
    own_other kt (own_blk_ne kt hq (by decide)) hs, own_other ho (own_blk_ne ho hq (by decide)) hs, own_other kb (own_blk_ne kb hq (by decide)) hs, own_other kc (own_blk_ne kc hq (by decide)) hs,
    fun k hk => hor.elim (fun e hc => h.tw k hk (e.symm.trans hc)) (fun e hc => Nat.lt_irrefl _ (by have h2 := (h.rt.lt _ hk).2; rw [e] at hc; injection hc with hc; rw [← hc] at h2; exact h2)),
    h.bc⟩
theorem WR.same_w (p : TypeId → Bool) (h : WR W0 q gu gr vt nt xt vw nw xw vb nb xb vc nc xc w) (hp : p 86 = false) (hp2 : p 54 = false) {v' : Value} (hg : w.grownBy w' vw.ownBlock) : SameT p w (w'.setCell ⟨q, 3, none⟩ v') :=
  (SameT.grown h.rw_ hp2 hg).trans (SameT.set_ (Blk.grown h.blk hg (fun hh => own_blk_ne h.rw_ h.blk (by decide) hh.symm)) hp 3 v')
/-- The row vb has been grown, then its head is stored. -/
theorem WR.grow_b (h : WR W0 q gu gr vt nt xt vw nw xw vb nb xb vc nc xc w) {v' : Value} {n' : Nat} {x' : List Value} (ho : w'.ownsRow W0.heap.size 47 1 v' n' x') (hg : w.grownBy w' vb.ownBlock) (hor : v'.ownBlock = vb.ownBlock ∨ v'.ownBlock = some w.heap.size) : WR W0 q gu gr vt nt xt vw nw xw v' n' x' vc nc xc (w'.setCell ⟨q, 4, none⟩ v') := by
  have hq := Blk.grown h.blk hg (fun hh => own_blk_ne h.rb h.blk (by decide) hh.symm)
  have hs := setCell_other w' q 4 v'
  have kt : w'.ownsRow W0.heap.size 54 7 vt nt xt := h.rt.kept hg (by
    rcases hvt : vt.ownBlock with _ | k
    · exact .inl rfl
    · exact .inr (fun hh => own_row_ne h.rt h.rb (by decide) k hvt hh.symm))
  have kw : w'.ownsRow W0.heap.size 54 7 vw nw xw := h.rw_.kept hg (by
    rcases hvt : vw.ownBlock with _ | k
    · exact .inl rfl
    · exact .inr (fun hh => own_row_ne h.rw_ h.rb (by decide) k hvt hh.symm))
  have kc : w'.ownsRow W0.heap.size 47 1 vc nc xc := h.rc.kept hg (by
    rcases hvt : vc.ownBlock with _ | k
    · exact .inl rfl
    · exact .inr (fun hh => h.bc k hh.symm hvt))
  exact ⟨(h.low.grown hg h.low.size (fun k hk => (h.rb.lt _ hk).1)).setCell (p := ⟨q, 4, none⟩) h.qle _, h.qle, Blk.set_ hq 4 v',
    own_other kt (own_blk_ne kt hq (by decide)) hs, own_other kw (own_blk_ne kw hq (by decide)) hs, own_other ho (own_blk_ne ho hq (by decide)) hs, own_other kc (own_blk_ne kc hq (by decide)) hs,
    h.tw,
    fun k hk => hor.elim (fun e => h.bc k (e.symm.trans hk)) (fun e hc => Nat.lt_irrefl _ (by have h2 := (h.rc.lt _ hc).2; rw [e] at hk; injection hk with hk; rw [← hk] at h2; exact h2))⟩
theorem WR.same_b (p : TypeId → Bool) (h : WR W0 q gu gr vt nt xt vw nw xw vb nb xb vc nc xc w) (hp : p 86 = false) (hp2 : p 47 = false) {v' : Value} (hg : w.grownBy w' vb.ownBlock) : SameT p w (w'.setCell ⟨q, 4, none⟩ v') :=
  (SameT.grown h.rb hp2 hg).trans (SameT.set_ (Blk.grown h.blk hg (fun hh => own_blk_ne h.rb h.blk (by decide) hh.symm)) hp 4 v')
/-- The row vc has been grown, then its head is stored. -/
theorem WR.grow_c (h : WR W0 q gu gr vt nt xt vw nw xw vb nb xb vc nc xc w) {v' : Value} {n' : Nat} {x' : List Value} (ho : w'.ownsRow W0.heap.size 47 1 v' n' x') (hg : w.grownBy w' vc.ownBlock) (hor : v'.ownBlock = vc.ownBlock ∨ v'.ownBlock = some w.heap.size) : WR W0 q gu gr vt nt xt vw nw xw vb nb xb v' n' x' (w'.setCell ⟨q, 5, none⟩ v') := by
  have hq := Blk.grown h.blk hg (fun hh => own_blk_ne h.rc h.blk (by decide) hh.symm)
  have hs := setCell_other w' q 5 v'
  have kt : w'.ownsRow W0.heap.size 54 7 vt nt xt := h.rt.kept hg (by
    rcases hvt : vt.ownBlock with _ | k
    · exact .inl rfl
    · exact .inr (fun hh => own_row_ne h.rt h.rc (by decide) k hvt hh.symm))
  have kw : w'.ownsRow W0.heap.size 54 7 vw nw xw := h.rw_.kept hg (by
    rcases hvt : vw.ownBlock with _ | k
    · exact .inl rfl
    · exact .inr (fun hh => own_row_ne h.rw_ h.rc (by decide) k hvt hh.symm))
  have kb : w'.ownsRow W0.heap.size 47 1 vb nb xb := h.rb.kept hg (by
    rcases hvt : vb.ownBlock with _ | k
    · exact .inl rfl
    · exact .inr (fun hh => h.bc k hvt hh.symm))
  exact ⟨(h.low.grown hg h.low.size (fun k hk => (h.rc.lt _ hk).1)).setCell (p := ⟨q, 5, none⟩) h.qle _, h.qle, Blk.set_ hq 5 v',
    own_other kt (own_blk_ne kt hq (by decide)) hs, own_other kw (own_blk_ne kw hq (by decide)) hs, own_other kb (own_blk_ne kb hq (by decide)) hs, own_other ho (own_blk_ne ho hq (by decide)) hs,
    h.tw,
    fun k hk => hor.elim (fun e hc => h.bc k hk (e.symm.trans hc)) (fun e hc => Nat.lt_irrefl _ (by have h2 := (h.rb.lt _ hk).2; rw [e] at hc; injection hc with hc; rw [← hc] at h2; exact h2))⟩
theorem WR.same_c (p : TypeId → Bool) (h : WR W0 q gu gr vt nt xt vw nw xw vb nb xb vc nc xc w) (hp : p 86 = false) (hp2 : p 47 = false) {v' : Value} (hg : w.grownBy w' vc.ownBlock) : SameT p w (w'.setCell ⟨q, 5, none⟩ v') :=
  (SameT.grown h.rc hp2 hg).trans (SameT.set_ (Blk.grown h.blk hg (fun hh => own_blk_ne h.rc h.blk (by decide) hh.symm)) hp 5 v')
end

/-! ### lists that came out, each in a block of its own -/
def OB (w : World) (base : Nat) (bl : List (Value × List UInt8)) : Prop := (∀ p ∈ bl, OwnB w base p.1 p.2) ∧ ∀ (i j : Nat) (x y : Value × List UInt8), i ≠ j → bl[i]? = some x → bl[j]? = some y → ∀ k, x.1.ownBlock = some k → y.1.ownBlock ≠ some k
def Apart (bl cl : List (Value × List UInt8)) : Prop := ∀ x ∈ bl, ∀ y ∈ cl, ∀ k, x.1.ownBlock = some k → y.1.ownBlock ≠ some k
/-- None of them lies in that block. -/
def Free (bl : List (Value × List UInt8)) (g : Nat) : Prop := ∀ x ∈ bl, x.1.ownBlock ≠ some g
section
variable {w w' : World} {base : Nat} {bl cl : List (Value × List UInt8)} {v v' : Value} {l l' : List UInt8} {i g : Nat}
theorem Apart.symm_ (h : Apart bl cl) : Apart cl bl := fun x hx y hy k hk hc => h y hy x hx k hc hk
theorem Apart.free (h : Apart bl cl) (hi : bl[i]? = some (v, l)) (hg : v.ownBlock = some g) : Free cl g := fun x hx => h (v, l) (List.mem_of_getElem? hi) x hx g hg
theorem OB.nil_ (w : World) (base : Nat) : OB w base [] := ⟨fun p hp => absurd hp List.not_mem_nil, fun i j x y _ h => by cases h⟩
theorem OB.same8 (h : OB w base bl) (hs : Same8 w w') : OB w' base bl := ⟨fun p hp => (h.1 p hp).same8 hs, h.2⟩
theorem OB.lt (h : OB w base bl) {k : Nat} (hk : w.heap.size ≤ k) : Free bl k := fun x hx hh => Nat.lt_irrefl k (Nat.lt_of_lt_of_le ((h.1 x hx).lt k hh).2 hk)
theorem Free.snoc (h : Free bl g) (hv : v.ownBlock ≠ some g) : Free (bl ++ [(v, l)]) g := fun x hx => by
  rcases List.mem_append.1 hx with hx | hx
  · exact h x hx
  · rw [List.mem_singleton] at hx
    subst hx
    exact hv
theorem OB.snoc (h : OB w base bl) (hv : OwnB w base v l) (hf : ∀ k, v.ownBlock = some k → Free bl k) : OB w base (bl ++ [(v, l)]) := by
  refine ⟨fun p hp => ?_, fun i j x y hij hi hj k hk hc => ?_⟩
  · rcases List.mem_append.1 hp with hp | hp
    · exact h.1 p hp
    · rw [List.mem_singleton] at hp
      subst hp
      exact hv
  · rw [List.getElem?_append] at hi hj
    split at hi
    · rename_i hil
      split at hj
      · exact h.2 i j x y hij hi hj k hk hc
      · have hj0 : j - bl.length = 0 := by
          rcases Nat.eq_zero_or_pos (j - bl.length) with h0 | h0
          · exact h0
          · rw [List.getElem?_eq_none (by rw [List.length_singleton]; exact h0)] at hj; cases hj
        rw [hj0] at hj
        injection hj with hj
        subst hj
        exact hf k hc x (List.mem_of_getElem? hi) hk
    · rename_i hil
      have hi0 : i - bl.length = 0 := by
        rcases Nat.eq_zero_or_pos (i - bl.length) with h0 | h0
        · exact h0
        · rw [List.getElem?_eq_none (by rw [List.length_singleton]; exact h0)] at hi; cases hi
      rw [hi0] at hi
      injection hi with hi
      subst hi
      split at hj
      · exact hf k hk y (List.mem_of_getElem? hj) hc
      · have hj0 : j - bl.length = 0 := by
          rcases Nat.eq_zero_or_pos (j - bl.length) with h0 | h0
          · exact h0
          · rw [List.getElem?_eq_none (by rw [List.length_singleton]; exact h0)] at hj; cases hj
        omega
theorem Apart.snoc (h : Apart bl cl) (h1 : ∀ k, v.ownBlock = some k → Free cl k) (h2 : ∀ k, v'.ownBlock = some k → Free bl k) (h3 : ∀ k, v.ownBlock = some k → v'.ownBlock ≠ some k) : Apart (bl ++ [(v, l)]) (cl ++ [(v', l')]) := fun x hx y hy k hk => by
  rcases List.mem_append.1 hx with hx | hx
  · rcases List.mem_append.1 hy with hy | hy
    · exact h x hx y hy k hk
    · rw [List.mem_singleton] at hy
      subst hy
      exact fun hc => h2 k hc x hx hk
  · rw [List.mem_singleton] at hx
    subst hx
    rcases List.mem_append.1 hy with hy | hy
    · exact h1 k hk y hy
    · rw [List.mem_singleton] at hy
      subst hy
      exact h3 k hk
/-- One of the lists is another one now: it lies where it lay, or in a new block. -/
theorem OB.set_ (h : OB w base bl) (hi : bl[i]? = some (v, l)) (hv : OwnB w' base v' l') (hor : v'.ownBlock = v.ownBlock ∨ v'.ownBlock = some w.heap.size) (hk : ∀ k, k < w.heap.size → v.ownBlock ≠ some k → w'.heap[k]? = w.heap[k]?) : OB w' base (bl.set i (v', l')) := by
  have hil := (List.getElem?_eq_some_iff.1 hi).1
  have key : ∀ (j : Nat) (y : Value × List UInt8), i ≠ j → bl[j]? = some y → ∀ k, v'.ownBlock = some k → y.1.ownBlock ≠ some k := fun j y hij hj k hv2 hc => by
    rcases hor with e | e
    · rw [e] at hv2
      exact h.2 i j _ y hij hi hj k hv2 hc
    · rw [e] at hv2
      injection hv2 with hv2
      subst hv2
      exact Nat.lt_irrefl _ ((h.1 y (List.mem_of_getElem? hj)).lt _ hc).2
  refine ⟨fun p hp => ?_, fun a b x y hab ha hb k hx hy => ?_⟩
  · obtain ⟨j, hj⟩ := List.getElem?_of_mem hp
    by_cases hij : i = j
    · subst hij
      rw [List.getElem?_set_self hil] at hj
      injection hj with hj
      subst hj
      exact hv
    · rw [List.getElem?_set_ne hij] at hj
      refine (h.1 p (List.mem_of_getElem? hj)).kept (fun k hpk => hk k ((h.1 p (List.mem_of_getElem? hj)).lt k hpk).2 (fun hc => ?_))
      exact h.2 i j _ p hij hi hj k hc hpk
  · by_cases hia : i = a
    · subst hia
      rw [List.getElem?_set_self hil] at ha
      injection ha with ha
      subst ha
      rw [List.getElem?_set_ne hab] at hb
      exact key b y hab hb k hx hy
    · rw [List.getElem?_set_ne hia] at ha
      by_cases hib : i = b
      · subst hib
        rw [List.getElem?_set_self hil] at hb
        injection hb with hb
        subst hb
        exact key a x (fun e => hia e) ha k hy hx
      · rw [List.getElem?_set_ne hib] at hb
        exact h.2 a b x y hab ha hb k hx hy
/-- The other lists stay. -/
theorem OB.off (h : OB w base cl) (hf : ∀ g, v.ownBlock = some g → Free cl g) (hk : ∀ k, k < w.heap.size → v.ownBlock ≠ some k → w'.heap[k]? = w.heap[k]?) : OB w' base cl :=
  ⟨fun p hp => (h.1 p hp).kept (fun k hpk => hk k ((h.1 p hp).lt k hpk).2 (fun hc => hf k hc p hp hpk)), h.2⟩
theorem Apart.set_ (h : Apart bl cl) (hc : OB w base cl) (hi : bl[i]? = some (v, l)) (hor : v'.ownBlock = v.ownBlock ∨ v'.ownBlock = some w.heap.size) : Apart (bl.set i (v', l')) cl := fun x hx y hy k hk hyk => by
  rcases List.mem_or_eq_of_mem_set hx with hx | hx
  · exact h x hx y hy k hk hyk
  · subst hx
    rcases hor with e | e
    · exact h (v, l) (List.mem_of_getElem? hi) y hy k (e.symm.trans hk) hyk
    · have hk : v'.ownBlock = some k := hk
      rw [e] at hk
      injection hk with hk
      subst hk
      exact hc.lt (Nat.le_refl _) y hy hyk
end

/-- Where AuthDoes stands. -/
structure WB (W0 : World) (q gu gr : Nat) (vt vw vb vc : Value) (ts : List TalkW) (bl cl : List (Value × List UInt8)) (w : World) : Prop where
  r : WR W0 q gu gr vt ts.length (tRow ts) vw ts.length (wRow ts) vb bl.length (bl.map fun p => p.1) vc cl.length (cl.map fun p => p.1) w
  ob : OB w W0.heap.size bl
  oc : OB w W0.heap.size cl
  ap : Apart bl cl
  tk : ∀ x ∈ ts, OwnB w W0.heap.size x.hv x.l ∧ OwnB w W0.heap.size x.hw x.l
section
variable {W0 w w' : World} {q gu gr : Nat} {vt vw vb vc : Value} {ts : List TalkW} {bl cl : List (Value × List UInt8)}
theorem WB.call (h : WB W0 q gu gr vt vw vb vc ts bl cl w) (hb : Below w.heap.size w w') : WB W0 q gu gr vt vw vb vc ts bl cl w' :=
  have hs := SameT.of_below hb
  ⟨h.r.call hb, h.ob.same8 hs, h.oc.same8 hs, h.ap, fun x hx => ⟨(h.tk x hx).1.same8 hs, (h.tk x hx).2.same8 hs⟩⟩
theorem WB.q0 (h : WB W0 q gu gr vt vw vb vc ts bl cl w) : w.cell? ⟨q, 0, none⟩ = some (.pointer (some ⟨gu, 0, none⟩)) := Blk.cell h.r.blk 0
theorem WB.q1 (h : WB W0 q gu gr vt vw vb vc ts bl cl w) : w.cell? ⟨q, 1, none⟩ = some (.pointer (some ⟨gr, 0, none⟩)) := Blk.cell h.r.blk 1
theorem WB.q2 (h : WB W0 q gu gr vt vw vb vc ts bl cl w) : w.cell? ⟨q, 2, none⟩ = some vt := Blk.cell h.r.blk 2
theorem WB.q3 (h : WB W0 q gu gr vt vw vb vc ts bl cl w) : w.cell? ⟨q, 3, none⟩ = some vw := Blk.cell h.r.blk 3
theorem WB.q4 (h : WB W0 q gu gr vt vw vb vc ts bl cl w) : w.cell? ⟨q, 4, none⟩ = some vb := Blk.cell h.r.blk 4
theorem WB.q5 (h : WB W0 q gu gr vt vw vb vc ts bl cl w) : w.cell? ⟨q, 5, none⟩ = some vc := Blk.cell h.r.blk 5
theorem WB.f (h : WB W0 q gu gr vt vw vb vc ts bl cl w) (i : Nat) : w.frozen? ⟨q, i, none⟩ = false := Blk.frozen h.r.blk i
end
/-- The two rows hold the same bytes. -/
def Ag (bl cl : List (Value × List UInt8)) : Prop := bl.map (fun p => p.2) = cl.map (fun p => p.2)
end Go.Proofs.YtlenlldiimohjaaGreatDoor
namespace Go.Proofs.YtlenlldiimohjaaGreatDoor
open Go.RowKit

theorem conv_any {w : World} {B : Nat} {hv : Value} {l : List UInt8} (h : Bys w B hv l) : (convert 47 9 hv).run Tryz.prog w = .ok (.string (ofL l)) w := by
  by_cases hl : l = []
  · subst hl
    obtain ⟨A, cap, rfl, -⟩ := h
    cases A with
    | none => exact run_convert_bytes_nil (P := Tryz.prog) (w := w) 47 5 Tryz.underlying47 Tryz.underlying5 0 cap 9 Tryz.underlying9
    | some ad => exact run_convert_bytes_back (P := Tryz.prog) w 47 9 5 ad cap [] Tryz.underlying47 Tryz.underlying5 Tryz.underlying9 (fun j hj => absurd hj (Nat.not_lt_zero _))
  · exact conv_bys h hl
set_option maxRecDepth 100000 in
set_option maxHeartbeats 3200000 in
/-- Two Talks that are the same. -/
theorem same_t (t : Tk) (hv hw : Value) (l : List UInt8) (w : World) (h1 : Bys w w.heap.size hv l) (h2 : Bys w w.heap.size hw l) :
    Calls Tryz.prog 79 #[talkV t hv, talkV t hw] w fun e w' => e = .returned (.bool true) ∧ Below w.heap.size w w' := by
  have HB := Lib.hid (show Below w.heap.size w ((w.alloc (Obj.cells #[.string t.user, .string t.tree, .int .u64 t.ours, .int .u64 t.theirs, .int .u8 t.step, .int .i64 t.said, hv] 54)).alloc (Obj.cells #[.string t.user, .string t.tree, .int .u64 t.ours, .int .u64 t.theirs, .int .u8 t.step, .int .i64 t.said, hw] 54)) from ((Below.refl _ _).alloc (Nat.le_refl _) _).alloc (by simp) _)
  have HT := Lib.hid (show TBlk ((w.alloc (Obj.cells #[.string t.user, .string t.tree, .int .u64 t.ours, .int .u64 t.theirs, .int .u8 t.step, .int .i64 t.said, hv] 54)).alloc (Obj.cells #[.string t.user, .string t.tree, .int .u64 t.ours, .int .u64 t.theirs, .int .u8 t.step, .int .i64 t.said, hw] 54)) w.heap.size t hv from Blk.alloc (Blk.new w _ (talkL t hv).toArray) _)
  have HZ := Lib.hid (show TBlk ((w.alloc (Obj.cells #[.string t.user, .string t.tree, .int .u64 t.ours, .int .u64 t.theirs, .int .u8 t.step, .int .i64 t.said, hv] 54)).alloc (Obj.cells #[.string t.user, .string t.tree, .int .u64 t.ours, .int .u64 t.theirs, .int .u8 t.step, .int .i64 t.said, hw] 54)) (w.heap.size + 1) t hw from by
    have h := Blk.new (w.alloc (Obj.cells (talkL t hv).toArray 54)) 54 (talkL t hw).toArray
    simp only [World.size_alloc] at h
    exact h)
  go_enter Tryz.func79, Tryz.ntmps79
  go_upto_region 1 with (fail)
  generalize (w.alloc (Obj.cells #[.string t.user, .string t.tree, .int .u64 t.ours, .int .u64 t.theirs, .int .u8 t.step, .int .i64 t.said, hv] 54)).alloc (Obj.cells #[.string t.user, .string t.tree, .int .u64 t.ours, .int .u64 t.theirs, .int .u8 t.step, .int .i64 t.said, hw] 54) = w1 at HB HT HZ ⊢
  have hc1 := conv_any (h1.below HB.out)
  have hc2 := conv_any (h2.below HB.out)
  have k0 : w1.cell? ⟨w.heap.size, 0, none⟩ = some (.string t.user) := Blk.cell HT.out 0
  have k1 : w1.cell? ⟨w.heap.size, 1, none⟩ = some (.string t.tree) := Blk.cell HT.out 1
  have k2 : w1.cell? ⟨w.heap.size, 2, none⟩ = some (.int .u64 t.ours) := Blk.cell HT.out 2
  have k3 : w1.cell? ⟨w.heap.size, 3, none⟩ = some (.int .u64 t.theirs) := Blk.cell HT.out 3
  have k4 : w1.cell? ⟨w.heap.size, 4, none⟩ = some (.int .u8 t.step) := Blk.cell HT.out 4
  have k5 : w1.cell? ⟨w.heap.size, 5, none⟩ = some (.int .i64 t.said) := Blk.cell HT.out 5
  have k6 : w1.cell? ⟨w.heap.size, 6, none⟩ = some hv := Blk.cell HT.out 6
  have z0 : w1.cell? ⟨w.heap.size + 1, 0, none⟩ = some (.string t.user) := Blk.cell HZ.out 0
  have z1 : w1.cell? ⟨w.heap.size + 1, 1, none⟩ = some (.string t.tree) := Blk.cell HZ.out 1
  have z2 : w1.cell? ⟨w.heap.size + 1, 2, none⟩ = some (.int .u64 t.ours) := Blk.cell HZ.out 2
  have z3 : w1.cell? ⟨w.heap.size + 1, 3, none⟩ = some (.int .u64 t.theirs) := Blk.cell HZ.out 3
  have z4 : w1.cell? ⟨w.heap.size + 1, 4, none⟩ = some (.int .u8 t.step) := Blk.cell HZ.out 4
  have z5 : w1.cell? ⟨w.heap.size + 1, 5, none⟩ = some (.int .i64 t.said) := Blk.cell HZ.out 5
  have z6 : w1.cell? ⟨w.heap.size + 1, 6, none⟩ = some hw := Blk.cell HZ.out 6
  clear h1 h2
  go_wp2_with fail
  go_ret
  exact ⟨rfl, HB.out⟩
theorem byteL_app (a b : List UInt8) : byteL (a ++ b) = byteL a ++ byteL b := List.map_append
theorem made_rep (n : Nat) : (madeCells (Value.int .u8 0).cells (n * 1)).toList = List.replicate n (.int .u8 0) := by
  rw [Nat.mul_one]
  exact toList_madeCells_one (.int .u8 0) n
theorem lent_copied (l : List UInt8) {n : Nat} (hn : l.length = n) : splice (List.replicate (n + 3) (Value.int .u8 0)) 0 (byteL l) = byteL l ++ [.int .u8 0, .int .u8 0, .int .u8 0] := by
  unfold splice
  rw [List.take_zero, List.nil_append, Nat.zero_add, byteL_len, hn, List.drop_replicate, Nat.add_sub_cancel_left]
  rfl
theorem lent_marked (l : List UInt8) {n : Nat} (hn : l.length = n) : ((((byteL l ++ [Value.int .u8 0, .int .u8 0, .int .u8 0]).toArray.setIfInBounds n (.int .u8 90)).setIfInBounds (n + 1) (.int .u8 91)).setIfInBounds (n + 2) (.int .u8 92)) = lentA l := by
  have hb : (byteL l).length = n := (byteL_len l).trans hn
  unfold lentA
  rw [List.setIfInBounds_toArray, List.setIfInBounds_toArray, List.setIfInBounds_toArray, List.set_append_right _ _ (by omega), List.set_append_right _ _ (by omega), List.set_append_right _ _ (by omega), hb, Nat.sub_self, Nat.add_sub_cancel_left, Nat.add_sub_cancel_left, byteL_app]
  rfl
set_option maxRecDepth 100000 in
set_option maxHeartbeats 3200000 in
/-- Bytes with marks behind them. -/
theorem lent_calls (v : Value) (l : List UInt8) (w : World) (h : Bys w w.heap.size v l) (hl : l.length ≤ 1099511627776) :
    Calls Tryz.prog 125 #[v] w fun e w' => (∃ u, e = .returned u ∧ Lent w' w.heap.size u l) ∧ Below w.heap.size w w' := by
  obtain ⟨i0, hi0, hz0, hz1, hz2⟩ := info_parts u8_info
  have HI := Lib.hid hi0; clear hi0
  have HZ0 := Lib.hid hz0; clear hz0
  have HZ1 := Lib.hid hz1; clear hz1
  have HZ2 := Lib.hid hz2; clear hz2
  obtain ⟨A, cap, rfl, hlc, hcm, hr⟩ := h
  have HR := Lib.hid hr; clear hr
  unfold maxLen at hcm
  obtain ⟨n, hn⟩ : ∃ n, l.length = n := ⟨_, rfl⟩
  have HN := Lib.hid hn
  rw [hn] at hl hlc HR ⊢
  clear hn
  go_enter Tryz.func125, Tryz.ntmps125
  go_upto_region 2 with (refine wpList_make_full _ rfl _ _ _ rfl w.heap.size 5 i0 _ 1 Tryz.underlying47 HI.out HZ0.out HZ1.out .i64 .i64 ((n : Int) + 3) ((n : Int) + 3) (n + 3) rfl rfl (by omega) (by omega) (by rw [HZ2.out]; omega) (by unfold maxLen; omega) (Nat.le_refl _) ?_; intro w1 hown hgr; have HO := Lib.hid hown; have HG := Lib.hid hgr; clear hown hgr)
  have hb0 := Blk.of_row HO.out (Nat.succ_pos _)
  rw [made_rep] at hb0
  have HB1 := Lib.hid ((Below.refl w.heap.size w).grown HG.out (Nat.le_refl _) (by simp))
  have HBK := Lib.hid hb0
  replace HR := Lib.hid (HR.out.below HB1.out)
  have hgl := Blk.lt hb0
  clear hb0 HO HG
  generalize hg : w.heap.size = g at HBK HB1 HR hgl ⊢
  have HGG := Lib.hid hg
  clear hg
  go_upto_region 3 with (refine wpList_copy_splice rfl (.tmp 8) (.tmp 9) _ _ rfl 5 Tryz.underlying47 (by kernel_rfl) _ _ _ _ _ _ rfl rfl g 0 (List.replicate (n + 3) (.int .u8 0)) 5 HBK.out (byteL l) (by rw [byteL_len, HN.out]; exact (Nat.min_eq_left (by omega)).symm) (fun hp => ⟨rfl, by obtain ⟨ad, h1, _, h2⟩ := HR.out.2 (by rw [byteL_len, HN.out] at hp; exact hp); exact ⟨ad, h1, h2⟩⟩) (by rw [byteL_len, HN.out, List.length_replicate]; omega) (byteL_one l) g w HB1.out (Nat.le_refl _) ?_; intro w2 HB2 hlow; rw [lent_copied l HN.out] at HB2; have HL2 := Lib.hid hlow; clear hlow)
  have HL3 := Lib.hid HL2.out
  have hk2 : Blk w2 g 5 (byteL l ++ [Value.int .u8 0, .int .u8 0, .int .u8 0]).toArray := HB2.out
  have HM := Lib.hid (lent_marked l HN.out)
  have hbl : (byteL l).length = n := (byteL_len l).trans HN.out
  have c0 : w2.cell? ⟨g, n, none⟩ = some (.int .u8 0) := by rw [Blk.cell hk2, List.getElem?_toArray, List.getElem?_append_right (by omega), hbl, Nat.sub_self]; rfl
  have hk3 := Blk.set_ hk2 n (.int .u8 90)
  have hk4 := Blk.set_ hk3 (n + 1) (.int .u8 91)
  have hk5 := Blk.set_ hk4 (n + 2) (.int .u8 92)
  rw [HM.out] at hk5
  have c1 : (w2.setCell ⟨g, n, none⟩ (.int .u8 90)).cell? ⟨g, n + 1, none⟩ = some (.int .u8 0) := by
    rw [Blk.cell hk3, List.setIfInBounds_toArray, List.getElem?_toArray, List.getElem?_set_ne (by omega), List.getElem?_append_right (by omega), hbl, Nat.add_sub_cancel_left]; rfl
  have c2 : ((w2.setCell ⟨g, n, none⟩ (.int .u8 90)).setCell ⟨g, n + 1, none⟩ (.int .u8 91)).cell? ⟨g, n + 2, none⟩ = some (.int .u8 0) := by
    rw [Blk.cell hk4, List.setIfInBounds_toArray, List.setIfInBounds_toArray, List.getElem?_toArray, List.getElem?_set_ne (by omega), List.getElem?_set_ne (by omega), List.getElem?_append_right (by omega), hbl, Nat.add_sub_cancel_left]; rfl
  have f0 := Blk.frozen hk2 n
  have f1 := Blk.frozen hk3 (n + 1)
  have f2 := Blk.frozen hk4 (n + 2)
  have HK5 := Lib.hid hk5
  have HL5 := Lib.hid (((HL2.out.setCell (p := ⟨g, n, none⟩) (Nat.le_refl _) (.int .u8 90)).setCell (p := ⟨g, n + 1, none⟩) (Nat.le_refl _) (.int .u8 91)).setCell (p := ⟨g, n + 2, none⟩) (Nat.le_refl _) (.int .u8 92))
  clear hk2 hk3 hk4 hk5 hbl HB2 HL2 HL3
  go_wp2_with fail
  go_ret
  rw [HGG.out]
  exact ⟨⟨_, rfl, g, by rw [HN.out]; rfl, Nat.le_refl _, HK5.out⟩, HL5.out⟩
end Go.Proofs.YtlenlldiimohjaaGreatDoor
namespace Go.Proofs.YtlenlldiimohjaaGreatDoor
open Go.RowKit

theorem results_heard {tmps : Array Value} {w : World} {q : Nat} {t : Tk} {hv : Value} (h2 : tmps.getD 2 undef = .pointer (some ⟨q, 0, none⟩)) (hk : TBlk w q t hv) :
    (results Tryz.f85 tmps).run Tryz.prog w = .ok (talkV t hv) w := by
  have h2' : tmps[2]?.getD undef = .pointer (some ⟨q, 0, none⟩) := by simpa using h2
  simp [results, Tryz.results85, h2', asAddr, loadVar_talk hk]
theorem Lent.one {w : World} {base : Nat} {v : Value} {l : List UInt8} (h : Lent w base v l) : v.oneCell' = true := by
  obtain ⟨g, rfl, -⟩ := h
  rfl
theorem Lent.blk_ne {w : World} {base q : Nat} {v : Value} {l : List UInt8} {t : TypeId} {cs : Array Value} (h : Lent w base v l) (hq : Blk w q t cs) (hne : 5 ≠ t) : v.ownBlock ≠ some q := by
  obtain ⟨g, rfl, -, hk⟩ := h
  intro he
  injection he with he
  exact Blk.ne_ hk hq hne he
theorem Lent.far {w w' : World} {base q : Nat} {v : Value} {l : List UInt8} (h : Lent w base v l) (hne : v.ownBlock ≠ some q) (ho : ∀ i, i ≠ q → w'.heap[i]? = w.heap[i]?) : Lent w' base v l := by
  obtain ⟨g, rfl, h1, hk⟩ := h
  exact ⟨g, rfl, h1, (ho g (fun he => hne (by rw [he]; rfl))).trans hk⟩
set_option maxRecDepth 100000 in
set_option maxHeartbeats 3200000 in
/-- A Talk whose bytes are lent. -/
theorem lheard_calls (t : Tk) (hv : Value) (l : List UInt8) (w : World) (h : Bys w w.heap.size hv l) (hl : l.length ≤ 33) :
    Calls Tryz.prog 85 #[talkV t hv] w fun e w' => (∃ u, e = .returned (talkV t u) ∧ Lent w' w.heap.size u l) ∧ Below w.heap.size w w' := by
  have HL := Lib.hid (show l.length ≤ 1099511627776 from by omega)
  have HH := Lib.hid h
  clear h hl
  have HB := Lib.hid (show Below w.heap.size w ((w.alloc (Obj.cells #[.string t.user, .string t.tree, .int .u64 t.ours, .int .u64 t.theirs, .int .u8 t.step, .int .i64 t.said, hv] 54)).alloc (Obj.cells #[.string ⟨#[]⟩, .string ⟨#[]⟩, .int .u64 0, .int .u64 0, .int .u8 0, .int .i64 0, .slice none 0 0] 54)) from ((Below.refl _ _).alloc (Nat.le_refl _) _).alloc (by simp) _)
  have HT := Lib.hid (show TBlk ((w.alloc (Obj.cells #[.string t.user, .string t.tree, .int .u64 t.ours, .int .u64 t.theirs, .int .u8 t.step, .int .i64 t.said, hv] 54)).alloc (Obj.cells #[.string ⟨#[]⟩, .string ⟨#[]⟩, .int .u64 0, .int .u64 0, .int .u8 0, .int .i64 0, .slice none 0 0] 54)) w.heap.size t hv from Blk.alloc (Blk.new w _ (talkL t hv).toArray) _)
  have HZ := Lib.hid (show TBlk ((w.alloc (Obj.cells #[.string t.user, .string t.tree, .int .u64 t.ours, .int .u64 t.theirs, .int .u8 t.step, .int .i64 t.said, hv] 54)).alloc (Obj.cells #[.string ⟨#[]⟩, .string ⟨#[]⟩, .int .u64 0, .int .u64 0, .int .u8 0, .int .i64 0, .slice none 0 0] 54)) (w.heap.size + 1) Tk.none (.slice none 0 0) from by
    have h := TBlk.zero (w.alloc (Obj.cells (talkL t hv).toArray 54))
    simp only [World.size_alloc] at h
    exact h)
  go_enter Tryz.func85, Tryz.ntmps85
  go_upto_region 1 with (fail)
  generalize (w.alloc (Obj.cells #[.string t.user, .string t.tree, .int .u64 t.ours, .int .u64 t.theirs, .int .u8 t.step, .int .i64 t.said, hv] 54)).alloc (Obj.cells #[.string ⟨#[]⟩, .string ⟨#[]⟩, .int .u64 0, .int .u64 0, .int .u8 0, .int .i64 0, .slice none 0 0] 54) = w1 at HB HT HZ ⊢
  replace HH := Lib.hid ((HH.out.below HB.out).more HB.out.size)
  have k6 : w1.cell? ⟨w.heap.size, 6, none⟩ = some hv := Blk.cell HT.out 6
  go_upto_region 2 with (go_at_call 125; (with_reducible refine (lent_calls hv l _ HH.out HL.out).mono ?_); rintro e w2 ⟨⟨u, rfl, hlent0⟩, hb⟩; obtain ⟨gu, rfl, hgu⟩ := hlent0; have hlent : Lent w2 w1.heap.size (.slice (some ⟨gu, 0, none⟩) l.length (l.length + 3)) l := ⟨gu, rfl, hgu⟩; have HT2 := Lib.hid (HT.out.below hb); have HZ2 := Lib.hid (HZ.out.below hb); have HB2 := Lib.hid (HB.out.trans (hb.mono HB.out.size)); have HU2 := Lib.hid (hlent.more HB.out.size); clear k6 hlent hgu hb; have k6 : w2.cell? ⟨w.heap.size, 6, none⟩ = some hv := Blk.cell HT2.out 6; have z6 := Blk.frozen HT2.out 6)
  have HT3 := Lib.hid (show TBlk (w2.setCell ⟨w.heap.size, 6, none⟩ (.slice (some ⟨gu, 0, none⟩) l.length (l.length + 3))) w.heap.size t (.slice (some ⟨gu, 0, none⟩) l.length (l.length + 3)) from Blk.set_ HT2.out 6 _)
  have HZ3 := Lib.hid (show TBlk (w2.setCell ⟨w.heap.size, 6, none⟩ (.slice (some ⟨gu, 0, none⟩) l.length (l.length + 3))) (w.heap.size + 1) Tk.none (.slice none 0 0) from Blk.far HZ2.out (by show w.heap.size + 1 ≠ w.heap.size; omega) _)
  have HU3 := Lib.hid (HU2.out.far (HU2.out.blk_ne HT2.out (by decide)) (setCell_other w2 w.heap.size 6 (.slice (some ⟨gu, 0, none⟩) l.length (l.length + 3))))
  have HB3 := Lib.hid (HB2.out.setCell (p := ⟨w.heap.size, 6, none⟩) (Nat.le_refl _) (.slice (some ⟨gu, 0, none⟩) l.length (l.length + 3)))
  clear k6 z6
  change Code.wp _ _ _ _ (w2.setCell ⟨w.heap.size, 6, none⟩ (.slice (some ⟨gu, 0, none⟩) l.length (l.length + 3)))
  generalize w2.setCell ⟨w.heap.size, 6, none⟩ (.slice (some ⟨gu, 0, none⟩) l.length (l.length + 3)) = w3 at HT3 HZ3 HU3 HB3 ⊢
  go_wp2_with (first
    | (refine wT HT3.out rfl _ rfl rfl ?_)
    | (refine wstT HZ3.out t (.slice (some ⟨gu, 0, none⟩) l.length (l.length + 3)) HU3.out.one rfl _ _ rfl rfl rfl ?_; intro w4 hs ho hbl; have HX := Lib.hid hs; have HB4 := Lib.hid (hbl _ _ HB3.out (by omega)); have HU4 := Lib.hid (HU3.out.far (HU3.out.blk_ne HZ3.out (by decide)) ho); clear hs ho hbl))
  exact bodyPost_ret (results_heard rfl HX.out) rfl ⟨⟨_, rfl, HU4.out⟩, HB4.out⟩
set_option maxRecDepth 100000 in
set_option maxHeartbeats 3200000 in
/-- They are as they were. -/
theorem left_calls (base : Nat) (v u : Value) (l : List UInt8) (w : World) (h : Lent w base v l) (h2 : Bys w w.heap.size u l) (hl : l.length ≤ 1099511627776) :
    Calls Tryz.prog 86 #[v, u] w fun e w' => e = .returned (.bool true) ∧ w = w' := by
  have hc1 := conv_any (h.bys hl)
  have hc2 := conv_any h2
  obtain ⟨A, cap, rfl, -⟩ := h2
  obtain ⟨g, rfl, h1, hk⟩ := h
  have hle : ∀ j : Nat, (l ++ [90, 91, 92])[l.length + j]? = ([90, 91, 92] : List UInt8)[j]? := fun j => by rw [List.getElem?_append_right (by omega), Nat.add_sub_cancel_left]
  have c0 : w.cell? ⟨g, l.length, none⟩ = some (.int .u8 90) := by rw [Blk.cell hk, lentA_at, show l.length = l.length + 0 from rfl, hle 0]; rfl
  have c1 : w.cell? ⟨g, l.length + 1, none⟩ = some (.int .u8 91) := by rw [Blk.cell hk, lentA_at, hle 1]; rfl
  have c2 : w.cell? ⟨g, l.length + 2, none⟩ = some (.int .u8 92) := by rw [Blk.cell hk, lentA_at, hle 2]; rfl
  clear hk hle h1
  obtain ⟨n, hn⟩ : ∃ n, l.length = n := ⟨_, rfl⟩
  rw [hn] at hl c0 c1 c2 hc1 hc2 ⊢
  clear hn
  go_enter Tryz.func86, Tryz.ntmps86
  go_wp2_with fail
  go_ret
  exact ⟨rfl, rfl⟩
/-- What is written over: so far as c goes its bytes, behind them 238. -/
def overS (l c : List UInt8) : List UInt8 := (List.range l.length).map fun i => c.getD i 238
theorem overS_len (l c : List UInt8) : (overS l c).length = l.length := by simp [overS]
def overP (l c : List UInt8) (k : Nat) : List UInt8 := (overS l c).take k ++ l.drop k
theorem overP_len (l c : List UInt8) (k : Nat) (hk : k ≤ l.length) : (overP l c k).length = l.length := by
  unfold overP
  rw [List.length_append, List.length_take, overS_len, List.length_drop]
  omega
theorem overP_set (l c : List UInt8) (k : Nat) (hk : k < l.length) : (overP l c k).set k (c.getD k 238) = overP l c (k + 1) := by
  unfold overP
  have h1 : ((overS l c).take k).length = k := by rw [List.length_take, overS_len]; omega
  rw [List.set_append_right _ _ (by omega), h1, Nat.sub_self, List.drop_eq_getElem_cons hk, List.set_cons_zero, List.take_succ_eq_append_getElem (by rw [overS_len]; exact hk), List.append_assoc]
  congr 2
  simp [overS]
theorem grown_set {w w1 : World} {g : Nat} (h : w.grownBy w1 (some g)) (k : Nat) (u : Value) : w.grownBy (w1.setCell ⟨g, k, none⟩ u) (some g) :=
  ⟨h.os, h.tape, h.output, by simp only [World.setCell, Array.size_modify]; exact h.size, fun i hi hne => (Below.heap_setCell w1 ⟨g, k, none⟩ u i (fun he => hne (congrArg some he))).trans (h.block i hi hne)⟩
set_option maxRecDepth 100000 in
set_option maxHeartbeats 3200000 in
/-- What is lent is written over. -/
theorem over_calls (B base : Nat) (v cv : Value) (l c : List UInt8) (w : World) (h : Lent w base v l) (hc : Bys w B cv c) (hB : B ≤ base) (hl : l.length ≤ 1099511627776) :
    Calls Tryz.prog 87 #[v, cv] w fun e w' => e = .returned (.tuple #[]) ∧ Lent w' base v (overS l c) ∧ w.grownBy w' v.ownBlock := by
  obtain ⟨g, rfl, h1, hk⟩ := h
  obtain ⟨A, cap, rfl, hcl, hcm, hcr⟩ := hc
  have HC := Lib.hid hcr
  unfold maxLen at hcm
  have HK := Lib.hid (show Blk w g 5 (lentA (overP l c 0)) from by unfold overP; rw [List.take_zero, List.drop_zero, List.nil_append]; exact hk)
  clear hk hcr
  go_enter Tryz.func87, Tryz.ntmps87
  go_wp2_with fail
  go_loopw [4] (fun i wr => ∃ k : Nat, k ≤ l.length ∧ i = .int .i64 (k : Int) ∧ Blk wr g 5 (lentA (overP l c k)) ∧ w.grownBy wr (some g)) (fun i _ => l.length - (intOf i).toNat)
  case atStart => exact ⟨0, Nat.zero_le _, rfl, HK.out, World.grownBy.refl _ _⟩
  case round =>
    obtain ⟨k, hkl, rfl, hk, hg⟩ := hrel
    clear HK
    have HG := Lib.hid hg
    clear hg
    by_cases hlt : k < l.length
    · have hpl := overP_len l c k hkl
      have hs1 := Blk.set_ hk k (.int .u8 238)
      have e1 : (lentA (overP l c k)).setIfInBounds k (.int .u8 238) = lentA ((overP l c k).set k 238) := lentA_set _ k (by omega) 238
      rw [e1] at hs1
      have cc : ∃ u, wr.cell? ⟨g, k, none⟩ = some u := by
        rw [Blk.cell hk, lentA_at]
        exact ⟨_, by rw [List.getElem?_eq_getElem (by rw [List.length_append]; omega)]; rfl⟩
      obtain ⟨u0, c0⟩ := cc
      have f0 := Blk.frozen hk k
      have hlt' : (k : Int) < (l.length : Int) := by omega
      by_cases hcc : k < c.length
      · obtain ⟨ad, rfl, hb, hcell⟩ := HC.out.2 (by omega)
        have hgk : ad.block ≠ g := by omega
        have ck : w.cell? (ad.add k) = some (.int .u8 (c[k].toNat : Int)) := hcell k _ (by rw [List.getElem?_map, List.getElem?_eq_getElem hcc]; rfl)
        have cw : (wr.setCell ⟨g, k, none⟩ (.int .u8 238)).cell? (ad.add k) = some (.int .u8 (c[k].toNat : Int)) := by
          rw [← ck]
          refine World.cell?_of_block ?_
          have hab : (ad.add k).block = ad.block := block_of_add _ _
          rw [hab]
          exact (setCell_other wr g k _ ad.block hgk).trans (HG.out.block ad.block (by have := Go.Clock.block_lt ck; rwa [hab] at this) (fun he => hgk (Option.some.inj he)))
        have c1 : (wr.setCell ⟨g, k, none⟩ (.int .u8 238)).cell? ⟨g, k, none⟩ = some (.int .u8 238) := by
          rw [Blk.cell hs1, lentA_at, List.getElem?_append_left (by rw [List.length_set]; omega), List.getElem?_set_self (by omega)]
          rfl
        have f1 := Blk.frozen hs1 k
        have hs2 := Blk.set_ hs1 k (.int .u8 (c[k].toNat : Int))
        have e2 : (lentA ((overP l c k).set k 238)).setIfInBounds k (.int .u8 (c[k].toNat : Int)) = lentA (overP l c (k + 1)) := by
          rw [lentA_set _ k (by rw [List.length_set]; omega), List.set_set, ← overP_set l c k hlt]
          congr 2
          rw [List.getD_eq_getElem?_getD, List.getElem?_eq_getElem hcc]
          rfl
        rw [e2] at hs2
        have HK2 := Lib.hid hs2
        have hcc' : (k : Int) < (c.length : Int) := by omega
        have HG2 := Lib.hid (show w.grownBy ((wr.setCell ⟨g, k, none⟩ (.int .u8 238)).setCell ⟨g, k, none⟩ (.int .u8 (c[k].toNat : Int))) (some g) from grown_set (grown_set HG.out k _) k _)
        generalize c[k] = z at cw HK2 HG2
        clear hk hs1 hs2 e1 e2 hcell ck hcc hlt hpl
        go_wp2_with fail
        go_roundw
        case rel => exact ⟨k + 1, by omega, by go_num, HK2.out, HG2.out⟩
        case measure => simp [intOf]; omega
      · have e2 : lentA ((overP l c k).set k 238) = lentA (overP l c (k + 1)) := by
          rw [← overP_set l c k hlt]
          congr 2
          rw [List.getD_eq_getElem?_getD, List.getElem?_eq_none (by omega)]
          rfl
        rw [e2] at hs1
        have HK2 := Lib.hid hs1
        have hcc' : ¬ (k : Int) < (c.length : Int) := by omega
        have HG2 := Lib.hid (show w.grownBy (wr.setCell ⟨g, k, none⟩ (.int .u8 238)) (some g) from grown_set HG.out k _)
        clear hk hs1 e1 e2 hcc hlt hpl
        go_wp2_with fail
        go_roundw
        case rel => exact ⟨k + 1, by omega, by go_num, HK2.out, HG2.out⟩
        case measure => simp [intOf]; omega
    · have hkn : k = l.length := by omega
      have HK2 := Lib.hid (show Blk wr g 5 (lentA (overS l c)) from by
        rw [hkn] at hk
        unfold overP at hk
        rwa [List.take_of_length_le (by rw [overS_len]; exact Nat.le_refl _), List.drop_length, List.append_nil] at hk)
      have hlt' : ¬ (k : Int) < (l.length : Int) := by omega
      clear hk hkn hlt
      go_wp2_with fail
      go_end0
      exact ⟨rfl, ⟨g, by rw [overS_len], h1, HK2.out⟩, HG.out⟩
/-- The place of a Talk by a raw number. -/
def atN (n : Int) (m : Nat) : Nat := (cutC n).toNat % m
theorem atN_lt (n : Int) {m : Nat} (h : 0 < m) : atN n m < m := Nat.mod_lt _ h
theorem len_of {w : World} {base n size : Nat} {e : TypeId} {v : Value} {xs : List Value} (h : w.ownsRow base e size v n xs) : ∃ A cap, v = .slice A n cap ∧ n ≤ cap ∧ cap ≤ maxLen := by
  rcases h.2 with ⟨rfl, rfl⟩ | ⟨g, cap, cur, rfl, _, _, h1, h2, _⟩
  · exact ⟨_, _, rfl, Nat.le_refl _, Nat.zero_le _⟩
  · exact ⟨_, _, rfl, h1, h2⟩
set_option maxRecDepth 100000 in
set_option maxHeartbeats 1600000 in
theorem at_calls {W0 w : World} {q gu gr : Nat} {vt vw vb vc : Value} {nt nw nb nc : Nat} {xt xw xb xc : List Value} (h : WR W0 q gu gr vt nt xt vw nw xw vb nb xb vc nc xc w) (n : Int) (hn : -9223372036854775808 ≤ n ∧ n ≤ 9223372036854775807) (h0 : 0 < nt) :
    Calls Tryz.prog 81 #[.pointer (some ⟨q, 0, none⟩), .int .i64 n] w fun e w' => e = .returned (.int .i64 ((atN n nt : Nat) : Int)) ∧ w = w' := by
  obtain ⟨A, cap, rfl, hlc, hcm⟩ := len_of h.rt
  unfold maxLen at hcm
  have k2 : w.cell? ⟨q, 2, none⟩ = some (.slice A nt cap) := Blk.cell h.blk 2
  clear h
  have hpos : (0 : Int) < (nt : Int) := by omega
  have hne : ((nt : Int) == 0) = false := by rw [beq_eq_false_iff_ne]; omega
  by_cases hc : n < 0
  · have HX := Lib.hid (show ((atN n nt : Nat) : Int) = -(n + 1) % (nt : Int) from by
      unfold atN cutC
      rw [if_pos hc, Int.natCast_emod]
      congr 1
      omega)
    have hw : IntKind.i64.wrap (n + 1) = n + 1 := IntWalk.i64_in _ (by omega)
    have hw2 : IntKind.i64.wrap (-(n + 1)) = -(n + 1) := IntWalk.i64_in _ (by omega)
    have HE := Lib.hid (show ((atN n nt : Nat) : Int) = -(n + 1).tmod (nt : Int) from by rw [HX.out, ← Int.tmod_eq_emod_of_nonneg (by omega), Int.neg_tmod])
    have hnn : 0 ≤ -(n + 1) := by omega
    go_enter Tryz.func81, Tryz.ntmps81
    go_wp2_with fail
    go_ret
    exact ⟨by rw [HE.out]; first | rfl | simp, rfl⟩
  · have HX := Lib.hid (show ((atN n nt : Nat) : Int) = n % (nt : Int) from by
      unfold atN cutC
      rw [if_neg hc, Int.natCast_emod]
      congr 1
      omega)
    have hnn : 0 ≤ n := by omega
    go_enter Tryz.func81, Tryz.ntmps81
    go_wp2_with fail
    go_ret
    exact ⟨by rw [HX.out]; first | rfl | (congr 2; omega), rfl⟩
end Go.Proofs.YtlenlldiimohjaaGreatDoor
namespace Go.Proofs.YtlenlldiimohjaaGreatDoor
open SumLaw

theorem cutL_app (c : UInt8) (rest : List UInt8) : ∀ l : List UInt8, cutL c (l ++ c :: rest) = cutL c l ++ cutL c rest
  | [] => by
    have h : cutL c (c :: rest) = [] :: cutL c rest := by rw [cutL, if_pos rfl]
    exact h
  | b :: l => by
    rw [List.cons_append, cutL, cutL, cutL_app c rest l]
    by_cases h : b = c
    · rw [if_pos h, if_pos h]; rfl
    · rw [if_neg h, if_neg h]
      cases hc : cutL c l with
      | nil => exact absurd hc (cutL_ne c l)
      | cons x t => rfl
theorem readLines_app : ∀ (l m : List ByteArray) (i : Nat) (L : List Acct) (P : List Nat), readLines (l ++ m) i L P = match readLines l i L P with
    | .error e => .error e
    | .ok (L1, P1) => readLines m (i + l.length) L1 P1
  | [], m, i, L, P => by rw [List.nil_append, readLines]; rfl
  | x :: l, m, i, L, P => by
    rw [List.cons_append, readLines, readLines]
    have hlen : ∀ j : Nat, i + 1 + l.length = i + (x :: l).length := fun _ => by rw [List.length_cons]; omega
    by_cases h1 : x.size = 0 ∨ x.data.toList.head? = some 35
    · rw [if_pos h1, if_pos h1, readLines_app l m, hlen 0]
    · rw [if_neg h1, if_neg h1]
      cases account x with
      | none => rfl
      | some a =>
        dsimp only
        by_cases h2 : known L a.name = true ∨ twice a.members = true
        · rw [if_pos h2, if_pos h2]
        · rw [if_neg h2, if_neg h2, readLines_app l m, hlen 0]
def zName : ByteArray := ⟨#[122, 122, 122]⟩
def zKey : ByteArray := ⟨#[122, 122]⟩
def zA : Acct := { name := zName, leader := ⟨#[]⟩, members := [], key := zKey }
def zLine : List UInt8 := [122, 122, 122, 58, 58, 58, 122, 122]
def zTail : ByteArray := ⟨#[10, 122, 122, 122, 58, 58, 58, 122, 122]⟩
theorem acct_z : account (ofL zLine) = some zA := by kernel_rfl
theorem cut_z (text : ByteArray) : cut 10 (text ++ zTail) = cut 10 text ++ [ofL zLine] := by
  unfold cut
  rw [show (text ++ zTail).data.toList = text.data.toList ++ 10 :: zLine from by simp [ByteArray.data_append, zTail, zLine], cutL_app, List.map_append]
  rfl
/-- A table that was read with that line at its end knows zzz, with a key. -/
theorem parse_z {text : ByteArray} {L : List Acct} (h : parse (text ++ zTail) = .ok L) : known L zName = true ∧ keyOfUser L zName = zKey := by
  unfold parse at h
  rw [cut_z, readLines_app] at h
  split at h
  · cases h
  · cases hr : readLines (cut 10 text) 0 [] [] with
    | error e => rw [hr] at h; cases h
    | ok p =>
      obtain ⟨L1, P1⟩ := p
      rw [hr] at h
      dsimp only at h
      rw [readLines, if_neg (by decide), acct_z] at h
      dsimp only at h
      cases hk : known L1 zName with
      | true =>
        rw [if_pos (.inl hk)] at h
        cases h
      | false =>
        rw [if_neg (fun hh => by
          rcases hh with hh | hh
          · rw [show zA.name = zName from rfl, hk] at hh; cases hh
          · exact absurd hh (by decide))] at h
        rw [readLines] at h
        dsimp only at h
        split at h
        · cases h
        · split at h
          · cases h
          · injection h with h
            subst h
            have hf : List.find? (fun a => decide (a.name = zName)) L1 = none := by
              rw [List.find?_eq_none]
              intro a ha hh
              have : known L1 zName = true := List.any_eq_true.2 ⟨a, ha, hh⟩
              rw [hk] at this
              cases this
            refine ⟨?_, ?_⟩
            · unfold known
              rw [List.any_append]
              rw [show List.any [zA] (fun a => decide (a.name = zName)) = true from by decide, Bool.or_true]
            · unfold keyOfUser
              rw [List.find?_append, hf]
              rfl
/-- The text that is taken in place of one that can't be read. -/
def plainText : ByteArray := ⟨#[97, 110, 110, 58, 58, 58, 107, 49, 10, 98, 111, 98, 58, 58, 58, 10, 101, 118, 101, 58, 97, 110, 110, 58, 98, 111, 98, 58, 107, 50, 10]⟩
theorem parse_plain : ∃ L, parse plainText = .ok L := by
  have h : (match parse plainText with | .ok _ => true | .error _ => false) = true := by kernel_rfl
  cases hp : parse plainText with
  | ok L => exact ⟨L, rfl⟩
  | error e => rw [hp] at h; cases h
theorem keys_small' {s : ByteArray} {L : List Acct} (h : parse s = .ok L) (u : ByteArray) : (keyOfUser L u).size ≤ 32 := by
  rcases parse_keys h u with h1 | h1
  · omega
  · exact (key_no h1).1
/-- What holds of each Talk that came out. -/
def TalkOk (t : Tk) (l : List UInt8) : Prop := t.user.size ≤ 268435456 ∧ t.tree.size ≤ 268435456 ∧ (0 ≤ t.ours ∧ t.ours < 18446744073709551616) ∧ l.length ≤ 33 ∧
  ((t.step = 1 ∧ l = [] ∧ 0 ≤ t.said ∧ t.said < 25) ∨ (t.step = 2 ∧ t.said = 0 ∧ l.length < 33) ∨ (t.step = 3 ∧ l = [] ∧ 0 ≤ t.said ∧ t.said < 17) ∨ (t.step = 4 ∧ t.said = 0 ∧ l = []) ∨ (t.step = 5 ∧ t.said = 0 ∧ l = []))
theorem lineRd_ok {t : Tk} {line : List UInt8} {next count : Int} (h : TalkOk t []) (hn : next = 2 ∧ t.step = 1 ∧ line.length = 25 ∨ next = 4 ∧ t.step = 3 ∧ line.length = 17) : TalkOk (lineRd t [] line next count).t (lineRd t [] line next count).h ∧ (lineRd t [] line next count).e = 0 ∧ (lineRd t [] line next count).out.length ≤ 33 ∧ (lineRd t [] line next count).h = [] := by
  obtain ⟨h1, h2, h3, -, h5⟩ := h
  have hto := from_le t.said count line.length
  have hout : ((line.take (toN t.said count line.length)).drop (fromN t.said line.length)).length ≤ 33 := by
    rw [List.length_drop, List.length_take]
    omega
  unfold lineRd
  by_cases hc : toN t.said count line.length = line.length
  · rw [if_pos hc]
    refine ⟨⟨h1, h2, h3, Nat.zero_le _, ?_⟩, rfl, hout, rfl⟩
    rcases hn with ⟨rfl, _⟩ | ⟨rfl, _⟩
    · exact .inr (.inl ⟨rfl, rfl, Nat.zero_lt_succ 32⟩)
    · exact .inr (.inr (.inr (.inl ⟨rfl, rfl, rfl⟩)))
  · rw [if_neg hc]
    refine ⟨⟨h1, h2, h3, Nat.zero_le _, ?_⟩, rfl, hout, rfl⟩
    rcases hn with ⟨rfl, hs, hl⟩ | ⟨rfl, hs, hl⟩
    · exact .inl ⟨hs, rfl, by show (0 : Int) ≤ (toN _ _ _ : Nat); omega, by show ((toN _ _ _ : Nat) : Int) < 25; omega⟩
    · exact .inr (.inr (.inl ⟨hs, rfl, by show (0 : Int) ≤ (toN _ _ _ : Nat); omega, by show ((toN _ _ _ : Nat) : Int) < 17; omega⟩))
/-- What Read makes of such a Talk. -/
theorem readS_ok (L : List Acct) {t : Tk} {l : List UInt8} (count : Int) (h : TalkOk t l) : ((readS L t l count).e = 0 → TalkOk (readS L t l count).t (readS L t l count).h) ∧ (readS L t l count).out.length ≤ 33 ∧ (readS L t l count).h.length ≤ 33 := by
  have h5 := h.2.2.2.2
  unfold readS
  rcases h5 with ⟨hs, rfl, -⟩ | ⟨hs, hx⟩ | ⟨hs, rfl, -⟩ | ⟨hs, hx⟩ | ⟨hs, hx⟩
  · rw [if_neg (by omega), if_pos hs]
    have := lineRd_ok (count := count) h (.inl ⟨rfl, hs, hello25 t.ours.toNat⟩)
    exact ⟨fun _ => this.1, this.2.2.1, by rw [this.2.2.2]; decide⟩
  · rw [if_neg (by omega), if_neg (by omega), if_neg (by omega)]
    exact ⟨fun _ => h, Nat.zero_le _, h.2.2.2.1⟩
  · rw [if_neg (by omega), if_neg (by omega), if_pos hs]
    have := lineRd_ok (count := count) h (.inr ⟨rfl, hs, shown17 (shN (keyOfUser L t.user) t.user t.tree 2 t.ours t.theirs)⟩)
    exact ⟨fun _ => this.1, this.2.2.1, by rw [this.2.2.2]; decide⟩
  · rw [if_neg (by omega), if_neg (by omega), if_neg (by omega)]
    exact ⟨fun _ => h, Nat.zero_le _, h.2.2.2.1⟩
  · rw [if_pos hs]
    exact ⟨fun hh => absurd (show (72 : Int) = 0 from hh) (by decide), by decide, by decide⟩
/-- What Write makes of such a Talk. -/
theorem writeS_ok (L : List Acct) {t : Tk} {l : List UInt8} (b : List UInt8) (h : TalkOk t l) : ((writeS L t l b).e = 0 → TalkOk (writeS L t l b).t (writeS L t l b).h) ∧ (writeS L t l b).h.length ≤ 33 := by
  obtain ⟨h1, h2, h3, h4, h5⟩ := h
  unfold writeS
  by_cases c1 : t.step = 1
  · rw [if_pos c1]
    exact ⟨fun hh => absurd (show (70 : Int) = 0 from hh) (by decide), by decide⟩
  · rw [if_neg c1]
    by_cases c2 : t.step ≠ 2
    · rw [if_pos c2]
      exact ⟨fun hh => absurd (show (71 : Int) = 0 from hh) (by decide), by decide⟩
    · rw [if_neg c2]
      by_cases c3 : 33 < l.length + b.length
      · rw [if_pos c3]
        exact ⟨fun hh => absurd (show (70 : Int) = 0 from hh) (by decide), by decide⟩
      · rw [if_neg c3]
        have hsaid : t.said = 0 := by
          rcases h5 with ⟨hs, -⟩ | ⟨-, hx, -⟩ | ⟨hs, -⟩ | ⟨hs, -⟩ | ⟨hs, -⟩
          · omega
          · exact hx
          · omega
          · omega
          · omega
        by_cases c4 : l.length + b.length = 33
        · rw [if_pos c4]
          unfold heardS
          split
          · exact ⟨fun _ => ⟨h1, h2, h3, Nat.zero_le _, .inr (.inr (.inl ⟨rfl, rfl, by show 0 ≤ t.said; omega, by show t.said < 17; omega⟩))⟩, Nat.zero_le _⟩
          · exact ⟨fun _ => ⟨h1, h2, h3, Nat.zero_le _, .inr (.inr (.inr (.inr ⟨rfl, hsaid, rfl⟩)))⟩, Nat.zero_le _⟩
        · rw [if_neg c4]
          have hl : (l ++ b).length = l.length + b.length := List.length_append
          exact ⟨fun _ => ⟨h1, h2, h3, by show (l ++ b).length ≤ 33; omega, .inr (.inl ⟨by show t.step = 2; omega, hsaid, by show (l ++ b).length < 33; omega⟩)⟩, by show (l ++ b).length ≤ 33; omega⟩
theorem beginS_ok (L : List Acct) (user tree : ByteArray) (ours : Int) (hu : user.size ≤ 268435456) (ht : tree.size ≤ 268435456) (ho : 0 ≤ ours ∧ ours < 18446744073709551616) (h : (beginS L user tree ours).2 = 0) : TalkOk (beginS L user tree ours).1 [] := by
  unfold beginS at h ⊢
  split at h
  · exact absurd (show (62 : Int) = 0 from h) (by decide)
  · rename_i c1
    rw [if_neg c1]
    split at h
    · exact absurd (show (72 : Int) = 0 from h) (by decide)
    · rename_i c2
      rw [if_neg c2]
      exact ⟨hu, ht, ho, Nat.zero_le _, .inl ⟨rfl, rfl, Int.le_refl 0, show (0 : Int) < 25 from by decide⟩⟩
theorem beginS_z {L : List Acct} (tree : ByteArray) (ours : Int) (h1 : known L zName = true) (h2 : keyOfUser L zName = zKey) : beginS L zName tree ours = (⟨zName, tree, ours, 0, 1, 0⟩, 0) := by
  unfold beginS
  rw [if_neg (by rw [h1]; decide), h2, if_neg (by decide)]
end Go.Proofs.YtlenlldiimohjaaGreatDoor
