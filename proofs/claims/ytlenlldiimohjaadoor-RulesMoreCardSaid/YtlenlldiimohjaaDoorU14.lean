/-
  Package users: the words for what Parse's inner function does: how its variables lie. No walk in this text.
-/
import Derived.Test.YtlenlldiimohjaaDoorU13
namespace Go.Proofs.YtlenlldiimohjaaDoor
open Go.ChangeShapes Go.WideShapes Go.ChangeAt Go.RowKit

/-- Blocks of cells of other types than a reader's own stay. -/
def KeptP (w w' : World) : Prop := w.heap.size ≤ w'.heap.size ∧ ∀ (i : Nat) cs t fr, w.heap[i]? = some (Obj.cells cs t fr) → t = 9 ∨ t = 40 ∨ t = 25 → w'.heap[i]? = w.heap[i]?
theorem KeptP.refl (w : World) : KeptP w w := ⟨Nat.le_refl _, fun _ _ _ _ _ _ => rfl⟩
theorem KeptP.trans {a b c : World} (h : KeptP a b) (k : KeptP b c) : KeptP a c :=
  ⟨Nat.le_trans h.1 k.1, fun i cs t fr hi h1 => (k.2 i cs t fr ((h.2 i cs t fr hi h1).trans hi) h1).trans (h.2 i cs t fr hi h1)⟩
theorem KeptP.of_below {a b : World} (h : Below a.heap.size a b) : KeptP a b := ⟨h.size, fun i _ _ _ hi _ => h.block i (heap_lt hi)⟩
theorem KeptP.of_kept {a b : World} (h : Kept a b) : KeptP a b := ⟨h.1, fun i cs t fr hi h1 => h.2 i cs t fr hi (by rcases h1 with rfl | rfl | rfl <;> decide) (by rcases h1 with rfl | rfl | rfl <;> decide)⟩
theorem KeptP.of_set {a : World} {g k : Nat} {cs : Array Value} {t : TypeId} {v : Value} (h : Blk a g t cs) (h1 : t ≠ 9) (h2 : t ≠ 40) (h3 : t ≠ 25) : KeptP a (a.setCell ⟨g, k, none⟩ v) :=
  ⟨by simp, fun i cs' t' fr hi hne => Below.heap_setCell _ _ _ _ (by
    rintro rfl
    unfold Blk at h
    rw [h] at hi
    injection hi with hi
    injection hi with _ ht
    rcases hne with h | h | h
    · exact h1 (ht.trans h)
    · exact h2 (ht.trans h)
    · exact h3 (ht.trans h))⟩
theorem KeptP.of_own {a b : World} {base e size n : Nat} {v : Value} {xs : List Value} (ho : a.ownsRow base e size v n xs) (h : a.grownBy b v.ownBlock) (h1 : e ≠ 9) (h2 : e ≠ 40) (h3 : e ≠ 25) : KeptP a b :=
  ⟨h.size, fun i cs t fr hi hne => h.block i (heap_lt hi) (own_apart ho hi (by
    rcases hne with rfl | rfl | rfl
    · exact h1.symm
    · exact h2.symm
    · exact h3.symm))⟩

theorem Blk.setOther {w : World} {g q k : Nat} {t t' : TypeId} {cs cs' : Array Value} {v : Value} (h : Blk w g t cs) (h' : Blk w q t' cs') (hne : t ≠ t') : Blk (w.setCell ⟨q, k, none⟩ v) g t cs := h.far (Blk.ne_ h h' hne) v

theorem Build.setCell {w : World} {base g b q k : Nat} {L : List Acct} {t : TypeId} {cs : Array Value} {v : Value} (h : Build w base g b L) (hq : Blk w q t cs) (h1 : t ≠ 9) (h2 : t ≠ 104) (h3 : t ≠ 99) : Build (w.setCell ⟨q, k, none⟩ v) base g b L := by
  obtain ⟨vl, b1, b2, b3, b4⟩ := h
  exact ⟨vl, b1.setOther hq (Ne.symm h3), b2.setCell hq h1 h2, b3.setCell hq, b4⟩
theorem Build.grown {w w' : World} {base g b : Nat} {L : List Acct} {e size n base' : Nat} {u : Value} {ys : List Value} (h : Build w base g b L) (ho : w.ownsRow base' e size u n ys) (hg : w.grownBy w' u.ownBlock) (h1 : 9 ≠ e) (h2 : 104 ≠ e) (h3 : 99 ≠ e) : Build w' base g b L := by
  obtain ⟨vl, b1, b2, b3, b4⟩ := h
  refine ⟨vl, b1.grown hg (own_apart ho b1 h3), b2.grown ho hg h1 h2, b3.keep (fun es ck hb => hg.block b (heap_lt hb) (fun he => ?_)), b4⟩
  obtain ⟨cc, fz, hk⟩ := Go.Lib.ownsRow_kind ho b he.symm
  rw [hb] at hk
  cases hk
theorem own_kept {w w' : World} {base size n : Nat} {v : Value} {xs : List Value} (h : w.ownsRow base 3 size v n xs) (hk : Kept w w') : w'.ownsRow base 3 size v n xs := by
  refine ⟨h.1, ?_⟩
  rcases h.2 with h0 | ⟨gg, cap, cur, hv, hbg, hgc, hr⟩
  · exact .inl h0
  · exact .inr ⟨gg, cap, cur, hv, hbg, (hk.2 gg _ _ _ hgc (by decide) (by decide)).trans hgc, hr⟩
theorem Kept.blk {w w' : World} (hk : Kept w w') {g : Nat} {t : TypeId} {cs : Array Value} (h : Blk w g t cs) (h1 : t ≠ 99) (h2 : t ≠ 104) : Blk w' g t cs := (hk.2 g _ _ _ h h1 h2).trans h

/-- The variables of the inner function, while lines are read: the place (block pa), the table (its pointer in block pv), the places of the accounts (block pp). w0: when Parse was entered; W: when the inner one was. -/
def At1 (w0 W : World) (g b pa pv pp : Nat) (lv : Value) (lines : List ByteArray) (L : List Acct) (P : List Nat) (vp : Value) (at_ : Nat) (wr : World) : Prop :=
  Build wr w0.heap.size g b L ∧ Blk wr pp 24 #[vp] ∧ wr.ownsRow w0.heap.size 3 1 vp P.length (P.map fun p : Nat => Value.int .i64 (p : Int)) ∧ vp.ownBlock ≠ some pa ∧
    Blk wr pa 3 #[.int .i64 (at_ : Int)] ∧ Blk wr pv 40 #[.pointer (some ⟨g, 0, none⟩)] ∧ Strs wr lv lines ∧ Below w0.heap.size w0 wr ∧ KeptP W wr
section
variable {w0 W wr w' : World} {g b pa pv pp : Nat} {lv vp : Value} {lines : List ByteArray} {L : List Acct} {P : List Nat} {at_ : Nat}
theorem At1.below (h : At1 w0 W g b pa pv pp lv lines L P vp at_ wr) (hb : Below wr.heap.size wr w') : At1 w0 W g b pa pv pp lv lines L P vp at_ w' := by
  obtain ⟨h1, h2, h3, h4, h5, h6, h7, h8, h9⟩ := h
  exact ⟨h1.below hb, h2.below hb h2.lt, own_below h3 hb, h4, h5.below hb h5.lt, h6.below hb h6.lt, h7.below hb (Nat.le_refl _), h8.trans (hb.mono h8.size), h9.trans (KeptP.of_below hb)⟩
theorem At1.set_ (h : At1 w0 W g b pa pv pp lv lines L P vp at_ wr) (n : Nat) (hpa : w0.heap.size ≤ pa) : At1 w0 W g b pa pv pp lv lines L P vp n (wr.setCell ⟨pa, 0, none⟩ (.int .i64 (n : Int))) := by
  obtain ⟨h1, h2, h3, h4, h5, h6, h7, h8, h9⟩ := h
  refine ⟨h1.setCell h5 (by decide) (by decide) (by decide), h2.setOther h5 (by decide), ⟨h3.1, ?_⟩, h4, by simpa using h5.set_ 0 (.int .i64 (n : Int)), h6.setOther h5 (by decide), h7.setCell h5 (by decide), h8.setCell hpa _, h9.trans (KeptP.of_set h5 (by decide) (by decide) (by decide))⟩
  rcases h3.2 with h0 | ⟨gg, cap, cur, hv, hbg, hgc, hr⟩
  · exact .inl h0
  · refine .inr ⟨gg, cap, cur, hv, hbg, (Below.heap_setCell _ _ _ _ ?_).trans hgc, hr⟩
    rintro rfl
    exact h4 (by rw [hv]; rfl)
theorem At1.add {a : Acct} (h : At1 w0 W g b pa pv pp lv lines L P vp at_ wr) (hb : Build w' w0.heap.size g b (L ++ [a])) (hbl : Below w0.heap.size wr w') (hk : Kept wr w') : At1 w0 W g b pa pv pp lv lines (L ++ [a]) P vp at_ w' := by
  obtain ⟨h1, h2, h3, h4, h5, h6, h7, h8, h9⟩ := h
  exact ⟨hb, hk.blk h2 (by decide) (by decide), own_kept h3 hk, h4, hk.blk h5 (by decide) (by decide), hk.blk h6 (by decide) (by decide), hk.strs h7, h8.trans hbl, h9.trans (KeptP.of_kept hk)⟩
theorem At1.grow {v' : Value} {o : Obj} {n : Nat} (h : At1 w0 W g b pa pv pp lv lines L P vp at_ wr) (ho : w'.ownsRow w0.heap.size 3 1 v' (P.length + 1) ((P.map fun p : Nat => Value.int .i64 (p : Int)) ++ [.int .i64 (n : Int)])) (hg : (wr.alloc o).grownBy w' vp.ownBlock)
    (hv : v'.ownBlock = vp.ownBlock ∨ v'.ownBlock = some (wr.alloc o).heap.size) (hpp : w0.heap.size ≤ pp) : At1 w0 W g b pa pv pp lv lines L (P ++ [n]) v' at_ (w'.setCell ⟨pp, 0, none⟩ v') := by
  have h0 : At1 w0 W g b pa pv pp lv lines L P vp at_ (wr.alloc o) := h.below ((Below.refl _ _).alloc (Nat.le_refl _) o)
  obtain ⟨h1, h2, h3, h4, h5, h6, h7, h8, h9⟩ := h0
  have k2 := h2.grown hg (own_apart h3 h2 (by decide))
  have k5 := h5.grown hg (Ne.symm h4)
  refine ⟨(h1.grown h3 hg (by decide) (by decide) (by decide)).setCell k2 (by decide) (by decide) (by decide), by simpa using k2.set_ 0 v', ?_, ?_, k5.setOther k2 (by decide), (h6.grown hg (own_apart h3 h6 (by decide))).setOther k2 (by decide), (h7.grown h3 hg (by decide)).setCell k2 (by decide), (h8.grown hg h8.size (fun k hk => (h3.lt k hk).1)).setCell hpp _, (h9.trans (KeptP.of_own h3 hg (by decide) (by decide) (by decide))).trans (KeptP.of_set k2 (by decide) (by decide) (by decide))⟩
  · rw [List.length_append, List.map_append]
    exact own_setCell ho k2 (by decide)
  · rcases hv with e | e
    · rw [e]; exact h4
    · rw [e]
      intro he
      injection he with he
      have := h5.lt
      omega
theorem At1.ready (h : At1 w0 W g b pa pv pp lv lines L P vp at_ wr) (hr : Ready w0) : Ready wr := hr.below h.2.2.2.2.2.2.2.1 (Nat.le_refl _)
theorem At1.strs (h : At1 w0 W g b pa pv pp lv lines L P vp at_ wr) : Strs wr lv lines := h.2.2.2.2.2.2.1
theorem At1.build (h : At1 w0 W g b pa pv pp lv lines L P vp at_ wr) : Build wr w0.heap.size g b L := h.1
theorem At1.cv (h : At1 w0 W g b pa pv pp lv lines L P vp at_ wr) : wr.cell? ⟨pv, 0, none⟩ = some (.pointer (some ⟨g, 0, none⟩)) := h.2.2.2.2.2.1.cell 0
theorem At1.ca (h : At1 w0 W g b pa pv pp lv lines L P vp at_ wr) : wr.cell? ⟨pa, 0, none⟩ = some (.int .i64 (at_ : Int)) := h.2.2.2.2.1.cell 0
theorem At1.fa (h : At1 w0 W g b pa pv pp lv lines L P vp at_ wr) : wr.frozen? ⟨pa, 0, none⟩ = false := h.2.2.2.2.1.frozen 0
theorem At1.cp (h : At1 w0 W g b pa pv pp lv lines L P vp at_ wr) : wr.cell? ⟨pp, 0, none⟩ = some vp := h.2.1.cell 0
theorem At1.fp (h : At1 w0 W g b pa pv pp lv lines L P vp at_ wr) : wr.frozen? ⟨pp, 0, none⟩ = false := h.2.1.frozen 0
theorem At1.own (h : At1 w0 W g b pa pv pp lv lines L P vp at_ wr) : wr.ownsRow w0.heap.size 3 1 vp P.length (P.map fun p : Nat => Value.int .i64 (p : Int)) := h.2.2.1
theorem At1.low (h : At1 w0 W g b pa pv pp lv lines L P vp at_ wr) : Below w0.heap.size w0 wr := h.2.2.2.2.2.2.2.1
theorem At1.kept (h : At1 w0 W g b pa pv pp lv lines L P vp at_ wr) : KeptP W wr := h.2.2.2.2.2.2.2.2
theorem At1.blk (h : At1 w0 W g b pa pv pp lv lines L P vp at_ wr) : Blk wr pa 3 #[.int .i64 (at_ : Int)] := h.2.2.2.2.1
end

theorem Build.look {w : World} {base g b : Nat} {L : List Acct} (h : Build w base g b L) (s : ByteArray) (hs : s.size ≤ 16777216) :
    (Instr.lookup 95 (.map (some b)) (.string s) true).run Tryd.prog w = .ok (.tuple #[.int .i64 (ix L s : Nat), .bool (known L s)]) w := by
  obtain ⟨vl, b1, b2, b3, b4⟩ := h
  exact b3.look s (by unfold maxLen; omega)

theorem Accts.setCell {w : World} {va v : Value} {L : List Acct} {q k : Nat} {t : TypeId} {cs : Array Value} (h : Accts w va L) (hq : Blk w q t cs) (h1 : t ≠ 9) (h2 : t ≠ 104) : Accts (w.setCell ⟨q, k, none⟩ v) va L :=
  h.keep fun i cur e fr hi he => Below.heap_setCell _ _ _ _ (by
    rintro rfl
    unfold Blk at hq
    rw [hq] at hi
    injection hi with hi
    injection hi with _ ht
    rcases he with he | he
    · exact h1 (ht.trans he)
    · exact h2 (ht.trans he))

/-- How many bytes the lines are, one for each line's end with them. -/
def sumL (l : List ByteArray) : Nat := (l.map fun x => x.size + 1).sum
theorem sumL_cut (c : UInt8) (s : ByteArray) : sumL (cut c s) = s.size + 1 := by
  have h := cutL_sum c s.data.toList
  unfold sumL cut
  rw [List.map_map]
  have : ((cutL c s.data.toList).map ((fun x : ByteArray => x.size + 1) ∘ ofL)) = (cutL c s.data.toList).map (fun x => x.length + 1) := List.map_congr_left fun x _ => by simp [ofL_size]
  rw [this, h]
  simp
theorem sumL_take_succ {l : List ByteArray} {k : Nat} {x : ByteArray} (h : l[k]? = some x) : sumL (l.take (k + 1)) = sumL (l.take k) + (x.size + 1) := by
  obtain ⟨hl, rfl⟩ := List.getElem?_eq_some_iff.1 h
  unfold sumL
  rw [List.take_succ_eq_append_getElem hl, List.map_append, List.sum_append]
  simp
theorem sumL_take_le (l : List ByteArray) (k : Nat) : sumL (l.take k) ≤ sumL l := by
  conv => rhs; rw [← List.take_append_drop k l]
  unfold sumL
  rw [List.map_append, List.sum_append]
  omega
theorem small_of_line {a : Acct} (h : (lineL a).length ≤ 16777216) : Small a := by
  have hl := lineL_len a
  have hm := joinL_many [44] (by simp) a.members
  refine ⟨by omega, by omega, by omega, ?_⟩
  intro x hx
  obtain ⟨j, hj⟩ := List.getElem?_of_mem hx
  have := joinL_get [44] a.members j x hj
  omega

/-- What the inner function does. -/
def P1Post (text : ByteArray) (w0 W : World) (g pa : Nat) (e : Ending) (w' : World) : Prop :=
  Below w0.heap.size w0 w' ∧ KeptP W w' ∧ match parse text with
    | .error (er, ln) => e = gaveUp er ∧ Blk w' pa 3 #[.int .i64 (ln : Int)]
    | .ok L => e = .returned (.tuple #[]) ∧ PTab w' g L
theorem P1Post.err {text : ByteArray} {w0 W w' : World} {g pa : Nat} {er : Int} {ln : Nat} (h : parse text = .error (er, ln)) (h1 : Below w0.heap.size w0 w') (h2 : KeptP W w') (h3 : Blk w' pa 3 #[.int .i64 (ln : Int)]) : P1Post text w0 W g pa (gaveUp er) w' := by
  refine ⟨h1, h2, ?_⟩
  rw [h]
  exact ⟨rfl, h3⟩
theorem P1Post.ok {text : ByteArray} {w0 W w' : World} {g pa : Nat} {L : List Acct} (h : parse text = .ok L) (h1 : Below w0.heap.size w0 w') (h2 : KeptP W w') (h3 : PTab w' g L) : P1Post text w0 W g pa (.returned (.tuple #[])) w' := by
  refine ⟨h1, h2, ?_⟩
  rw [h]
  exact ⟨rfl, h3⟩
theorem known_of_find (L : List Acct) (s : ByteArray) : known L s = true ∨ known L s = false := by cases known L s <;> simp
end Go.Proofs.YtlenlldiimohjaaDoor
