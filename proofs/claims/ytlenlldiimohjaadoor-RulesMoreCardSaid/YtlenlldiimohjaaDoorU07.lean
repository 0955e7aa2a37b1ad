/-
  Package users: add, named: the table while it is built.
-/
import Derived.Test.YtlenlldiimohjaaDoorU06
import Derived.Test.YtlenlldiimohjaaDoorR06h
import Derived.Test.YtlenlldiimohjaaDoorUMap
import Derived.Deep.RegionLaw
namespace Go.Proofs.YtlenlldiimohjaaDoor
open Go.ChangeShapes Go.WideShapes Go.ChangeAt Go.RowKit

/-- The table of the accounts L lies at g, with its map at b; its list is the call's own (from base on). -/
def Build (w : World) (base g b : Nat) (L : List Acct) : Prop :=
  ∃ vl, Blk w g 99 #[vl, .map (some b), .map none] ∧ OwnAccts w base vl L ∧ AtMap w b L.length L ∧ base ≤ g ∧ base ≤ b
theorem Build.below {w w' : World} {base g b : Nat} {L : List Acct} (h : Build w base g b L) (hb : Below w.heap.size w w') : Build w' base g b L := by
  obtain ⟨vl, h1, h2, h3, h4, h5⟩ := h
  exact ⟨vl, h1.below hb h1.lt, h2.below hb, h3.below hb, h4, h5⟩

/-- In the midst of add: the list reads as L, the map as M, the account in its block. -/
def AddAt (w0 : Nat) (base g b : Nat) (L M : List Acct) (vl : Value) (a : Acct) (mv : Value) (w : World) : Prop :=
  Blk w g 99 #[vl, .map (some b), .map none] ∧ OwnAccts w base vl L ∧ AtMap w b M.length M ∧ Blk w w0 104 #[.string a.name, .string a.leader, mv, .string a.key] ∧ Strs w mv a.members
theorem AddAt.below {w0 base g b : Nat} {L M : List Acct} {vl : Value} {a : Acct} {mv : Value} {w w' : World} (h : AddAt w0 base g b L M vl a mv w) (hb : Below w.heap.size w w') : AddAt w0 base g b L M vl a mv w' :=
  ⟨h.1.below hb h.1.lt, h.2.1.below hb, h.2.2.1.below hb, h.2.2.2.1.below hb h.2.2.2.1.lt, h.2.2.2.2.below hb (Nat.le_refl _)⟩
theorem below_drew (w : World) : Below w.heap.size w w.drew := (Below.refl _ _).drew

/-- The map's block is turned: all else stays. -/
theorem AddAt.map {w0 base g b : Nat} {L M M' : List Acct} {vl : Value} {a : Acct} {mv : Value} {w w' : World} (h : AddAt w0 base g b L M vl a mv w) (hg : w.grownBy w' (some b)) (hm : AtMap w' b M'.length M') : AddAt w0 base g b L M' vl a mv w' := by
  obtain ⟨h1, ⟨xs, ho, hx⟩, h3, h4, h5⟩ := h
  obtain ⟨D, ⟨es, ck, hb, -⟩, -⟩ := h3
  have key : ∀ (i : Nat) cs t fr, w.heap[i]? = some (.cells cs t fr) → w'.heap[i]? = w.heap[i]? := fun i cs t fr hi => hg.block i (heap_lt hi) (by
    intro e
    injection e with e
    subst e
    rw [hb] at hi
    cases hi)
  have ks : ∀ {v : Value} {l : List ByteArray}, Strs w v l → Strs w' v l := fun hs => hs.keep fun i cur fr hi => key i cur _ fr hi
  refine ⟨(key g _ _ _ h1).trans h1, ⟨xs, ⟨ho.1, ?_⟩, fun k c hc => ?_⟩, hm, (key w0 _ _ _ h4).trans h4, ks h5⟩
  · rcases ho.2 with h0 | ⟨gg, cap, cur, hv, hbg, hgc, hr⟩
    · exact .inl h0
    · exact .inr ⟨gg, cap, cur, hv, hbg, (key gg _ _ _ hgc).trans hgc, hr⟩
  · obtain ⟨mv', hm', r⟩ := hx k c hc
    exact ⟨mv', ks hm', r⟩

/-- Whatever is no table and no account stays. -/
def Kept (w w' : World) : Prop := w.heap.size ≤ w'.heap.size ∧ ∀ (i : Nat) cs t fr, w.heap[i]? = some (Obj.cells cs t fr) → t ≠ 99 → t ≠ 104 → w'.heap[i]? = w.heap[i]?
theorem Kept.trans {a b c : World} (h : Kept a b) (k : Kept b c) : Kept a c :=
  ⟨Nat.le_trans h.1 k.1, fun i cs t fr hi h1 h2 => (k.2 i cs t fr ((h.2 i cs t fr hi h1 h2).trans hi) h1 h2).trans (h.2 i cs t fr hi h1 h2)⟩
theorem Kept.of_below {a b : World} (h : Below a.heap.size a b) : Kept a b := ⟨h.size, fun i _ _ _ hi _ _ => h.block i (heap_lt hi)⟩
theorem Kept.of_grown {a b : World} {row : Option Nat} (h : a.grownBy b row) (hr : ∀ g, row = some g → ∀ cs t fr, a.heap[g]? = some (.cells cs t fr) → t = 99 ∨ t = 104) : Kept a b :=
  ⟨h.size, fun i cs t fr hi h1 h2 => h.block i (heap_lt hi) (fun e => by rcases hr i e.symm cs t fr hi with h | h; exact h1 h; exact h2 h)⟩
theorem Kept.of_set {a : World} {g : Nat} {cs : Array Value} {k : Nat} {v : Value} (h : Blk a g 99 cs) : Kept a (a.setCell ⟨g, k, none⟩ v) :=
  ⟨by simp, fun i cs' t fr hi h1 _ => Below.heap_setCell _ _ _ _ (by
    rintro rfl
    unfold Blk at h
    rw [h] at hi
    injection hi with hi
    injection hi with _ ht
    exact h1 ht.symm)⟩
theorem Kept.strs {a b : World} (h : Kept a b) {v : Value} {l : List ByteArray} (hs : Strs a v l) : Strs b v l := hs.keep fun g cur fr hg => h.2 g cur _ fr hg (by decide) (by decide)

theorem own_setCell {w : World} {base e size n : Nat} {v u : Value} {xs : List Value} {g k : Nat} {cs : Array Value} {t : TypeId} (h : w.ownsRow base e size v n xs) (hg : Blk w g t cs) (hne : t ≠ e) : (w.setCell ⟨g, k, none⟩ u).ownsRow base e size v n xs := by
  refine ⟨h.1, ?_⟩
  rcases h.2 with h0 | ⟨gg, cap, cur, hv, hbg, hgc, hr⟩
  · exact .inl h0
  · refine .inr ⟨gg, cap, cur, hv, hbg, (Below.heap_setCell _ _ _ _ ?_).trans hgc, hr⟩
    rintro rfl
    unfold Blk at hg
    rw [hg] at hgc
    injection hgc with hgc
    injection hgc with _ ht
    exact hne ht
theorem Strs.setCell {w : World} {v u : Value} {l : List ByteArray} {g k : Nat} {cs : Array Value} {t : TypeId} (h : Strs w v l) (hg : Blk w g t cs) (hne : t ≠ 9) : Strs (w.setCell ⟨g, k, none⟩ u) v l :=
  h.keep fun i cur fr hi => Below.heap_setCell _ _ _ _ (by
    rintro rfl
    unfold Blk at hg
    rw [hg] at hi
    injection hi with hi
    injection hi with _ ht
    exact hne ht)
theorem AtMap.setCell {w : World} {b n : Nat} {L : List Acct} {u : Value} {g k : Nat} {cs : Array Value} {t : TypeId} (h : AtMap w b n L) (hg : Blk w g t cs) : AtMap (w.setCell ⟨g, k, none⟩ u) b n L :=
  h.keep fun es ck hb => Below.heap_setCell _ _ _ _ (by
    rintro rfl
    unfold Blk at hg
    rw [hg] at hb
    cases hb)
theorem OwnAccts.setCell {w : World} {base : Nat} {v u : Value} {L : List Acct} {g k : Nat} {cs : Array Value} {t : TypeId} (h : OwnAccts w base v L) (hg : Blk w g t cs) (h1 : t ≠ 9) (h2 : t ≠ 104) : OwnAccts (w.setCell ⟨g, k, none⟩ u) base v L := by
  obtain ⟨xs, ho, hx⟩ := h
  refine ⟨xs, own_setCell ho hg h2, fun j a ha => ?_⟩
  obtain ⟨mv, hm, r⟩ := hx j a ha
  exact ⟨mv, hm.setCell hg h1, r⟩

/-- The end of add. -/
theorem add_fin {w0 base g b : Nat} {L : List Acct} {vl v6 : Value} {a : Acct} {mv : Value} {w4 w5 : World} {xs : List Value} {o : Obj} (h : AddAt w0 base g b L (L ++ [a]) vl a mv w4) (hox : w4.ownsRow base 104 4 vl L.length xs)
    (hxx : ∀ (k : Nat) a, L[k]? = some a → ∃ mv, Strs w4 mv a.members ∧ xs[k * 4]? = some (.string a.name) ∧ xs[k * 4 + 1]? = some (.string a.leader) ∧ xs[k * 4 + 2]? = some mv ∧ xs[k * 4 + 3]? = some (.string a.key))
    (ho5 : w5.ownsRow base 104 4 v6 (L.length + 1) (xs ++ [.string a.name, .string a.leader, mv, .string a.key])) (hg5 : (w4.alloc o).grownBy w5 vl.ownBlock) (hb4 : base ≤ g) (hb5 : base ≤ b) (hB : base ≤ w4.heap.size) :
    Build (w5.setCell ⟨g, 0, none⟩ v6) base g b (L ++ [a]) ∧ Below base w4 (w5.setCell ⟨g, 0, none⟩ v6) ∧ Kept w4 (w5.setCell ⟨g, 0, none⟩ v6) := by
  obtain ⟨h1, h2, h3, h4, h5⟩ := h
  have hpre : Below w4.heap.size w4 (w4.alloc o) := (Below.refl _ _).alloc (Nat.le_refl _) _
  have hblk : Blk w5 g 99 #[vl, .map (some b), .map none] := (h1.alloc o).grown hg5 (own_apart (hox.alloc o) (h1.alloc o) (by decide))
  have hmap : AtMap w5 b (L ++ [a]).length (L ++ [a]) := (h3.below hpre).keep fun es ck hb => hg5.block b (heap_lt hb) (fun e => by
    obtain ⟨cc, fz, hk⟩ := Go.Lib.ownsRow_kind (hox.alloc o) b e.symm
    rw [hb] at hk
    cases hk)
  have hacc : OwnAccts w5 base v6 (L ++ [a]) := OwnAccts.snoc (a := a) (hox.alloc o) hg5 (fun k c hc => by obtain ⟨m, hm, r⟩ := hxx k c hc; exact ⟨m, hm.alloc o, r⟩) (h5.alloc o) ho5
  have hown : ∀ k, vl.ownBlock = some k → base ≤ k := fun k hk => (hox.lt k hk).1
  refine ⟨⟨v6, ?_, hacc.setCell hblk (by decide) (by decide), hmap.setCell hblk, hb4, hb5⟩, ?_, ?_⟩
  · have := hblk.set_ 0 v6
    simpa using this
  · exact (((Below.refl base w4).alloc hB o).grown hg5 (by simp; omega) hown).setCell hb4 _
  · refine (Kept.of_below hpre).trans ((Kept.of_grown hg5 ?_).trans (Kept.of_set hblk))
    intro k hk cs t fr hc
    obtain ⟨cc, fz, hkk⟩ := Go.Lib.ownsRow_kind (hox.alloc o) k hk
    rw [hc] at hkk
    injection hkk with hkk
    injection hkk with _ ht
    exact .inr ht

set_option maxRecDepth 100000 in
set_option maxHeartbeats 3200000 in
theorem add_calls (base g b : Nat) (L : List Acct) (a : Acct) (mv : Value) (w : World) (hB : Build w base g b L) (hm : Strs w mv a.members) (hk : known L a.name = false) (hn : a.name.size ≤ 16777216) (hl : L.length ≤ 16777216) (hbw : base ≤ w.heap.size) :
    Calls Tryd.prog 64 #[.pointer (some ⟨g, 0, none⟩), acctV a mv] w fun e w' => e = .returned (.tuple #[]) ∧ Build w' base g b (L ++ [a]) ∧ Below base w w' ∧ Kept w w' := by
  obtain ⟨A, c, rfl, hlc, hcm, -⟩ := id hm
  unfold maxLen at hcm
  obtain ⟨vl, hb1, hb2, hb3, hb4, hb5⟩ := hB
  obtain ⟨Al, cl, rfl, hlc2, hcm2⟩ := hb2.accts.len
  unfold maxLen at hcm2
  unfold acctV
  have hpre : Below w.heap.size w (w.alloc (Obj.cells #[.string a.name, .string a.leader, .slice A a.members.length c, .string a.key] 104)) := (Below.refl _ _).alloc (Nat.le_refl _) _
  have HAT := Lib.hid (show AddAt w.heap.size base g b L L (.slice Al L.length cl) a (.slice A a.members.length c) (w.alloc (Obj.cells #[.string a.name, .string a.leader, .slice A a.members.length c, .string a.key] 104)) from
    ⟨hb1.below hpre hb1.lt, hb2.below hpre, hb3.below hpre, Blk.new _ _ _, hm.below hpre (Nat.le_refl _)⟩)
  clear hb1 hb2 hb3 hm
  have HP := Lib.hid hpre; clear hpre
  have HK := Lib.hid hk; clear hk
  go_enter Tryd.func64, Tryd.ntmps64
  go_wp2_with fail
  generalize w.alloc (Obj.cells #[.string a.name, .string a.leader, .slice A a.members.length c, .string a.key] 104) = w1 at HAT HP ⊢
  have HAT1 := Lib.hid (HAT.out.below (below_drew w1))
  have hlook := HAT1.out.2.2.1.look a.name (by unfold maxLen; omega)
  rw [HK.out] at hlook
  have g0 : w1.drew.cell? ⟨g, 0, none⟩ = some (.slice Al L.length cl) := HAT1.out.1.cell 0
  have g1 : w1.drew.cell? ⟨g, 1, none⟩ = some (.map (some b)) := HAT1.out.1.cell 1
  have a0 : w1.drew.cell? ⟨w.heap.size, 0, none⟩ = some (.string a.name) := HAT1.out.2.2.2.1.cell 0
  go_region
  have HP1 := Lib.hid (HP.out.drew)
  generalize w1.drew = w2 at HAT1 HP1 ⊢
  clear hlook g0 g1 a0 HAT HP
  obtain ⟨w3, hrun, hat3, hg3⟩ := (HAT1.out.below (below_drew w2)).2.2.1.add a (by unfold maxLen; omega) HK.out (by unfold maxLen; omega) (by unfold maxLen; omega)
  have HAT2 := Lib.hid (HAT1.out.below (below_drew w2))
  have g0 : w2.drew.cell? ⟨g, 0, none⟩ = some (.slice Al L.length cl) := HAT2.out.1.cell 0
  have g1 : w2.drew.cell? ⟨g, 1, none⟩ = some (.map (some b)) := HAT2.out.1.cell 1
  have a0 : w2.drew.cell? ⟨w.heap.size, 0, none⟩ = some (.string a.name) := HAT2.out.2.2.2.1.cell 0
  have HAT3 := Lib.hid (HAT2.out.map (M' := L ++ [a]) hg3 (by rw [List.length_append]; exact hat3))
  have HKP := Lib.hid (show Kept w w3.drew from (Kept.of_below HP1.out.drew).trans ((Kept.of_grown hg3 (fun k hk cs t fr hc => by
    injection hk with hk
    subst hk
    obtain ⟨D, ⟨es, ck, hb, -⟩, -⟩ := HAT2.out.2.2.1
    rw [hb] at hc
    cases hc)).trans (Kept.of_below (below_drew w3))))
  have HG3 := Lib.hid hg3; clear hg3 hat3
  go_wp2_with fail
  go_region
  clear g0 g1 a0 hrun
  have HAT4 := Lib.hid (HAT3.out.below (below_drew w3))
  have g0 : w3.drew.cell? ⟨g, 0, none⟩ = some (.slice Al L.length cl) := HAT4.out.1.cell 0
  have f0 : w3.drew.frozen? ⟨g, 0, none⟩ = false := HAT4.out.1.frozen 0
  have a0 : w3.drew.cell? ⟨w.heap.size, 0, none⟩ = some (.string a.name) := HAT4.out.2.2.2.1.cell 0
  have a1 : w3.drew.cell? ⟨w.heap.size, 1, none⟩ = some (.string a.leader) := HAT4.out.2.2.2.1.cell 1
  have a2 : w3.drew.cell? ⟨w.heap.size, 2, none⟩ = some (.slice A a.members.length c) := HAT4.out.2.2.2.1.cell 2
  have a3 : w3.drew.cell? ⟨w.heap.size, 3, none⟩ = some (.string a.key) := HAT4.out.2.2.2.1.cell 3
  obtain ⟨i0, hi0, hz0, hz1, hz2⟩ := info_parts acct_info
  have HI := Lib.hid hi0; clear hi0
  have HZ0 := Lib.hid hz0; clear hz0
  have HZ1 := Lib.hid hz1; clear hz1
  have HZ2 := Lib.hid hz2; clear hz2
  have g0b : (w3.alloc (Obj.cells #[.string a.name, .string a.leader, .slice A a.members.length c, .string a.key] 104)).cell? ⟨g, 0, none⟩ = some (.slice Al L.length cl) := (HAT4.out.1.alloc (Obj.cells #[.string a.name, .string a.leader, .slice A a.members.length c, .string a.key] 104)).cell 0
  have HS3 := Lib.hid (show w.heap.size ≤ w3.heap.size from Nat.le_trans HP1.out.size HG3.out.size)
  obtain ⟨xs, hox, hxx⟩ := HAT4.out.2.1
  have HOX := Lib.hid hox; clear hox
  have HXX := Lib.hid hxx; clear hxx
  go_wp2_with fail
  go_region_law (refine step_append_any _ rfl (.tmp 39) (.tmp 41) _ rfl base 104 i0 _ 4 72 Tryd.underlying96 HI.out HZ0.out HZ1.out HZ2.out rfl (by omega) _ L.length xs (by simp [Act.eval]) (HOX.out.alloc _) (w3.heap.size + 1) (some ⟨w3.heap.size, 0, none⟩) 1 1 [.string a.name, .string a.leader, .slice A a.members.length c, .string a.key] (by simp [Act.eval]) (reads_new4 _ _ _ _ _ _) (by intro u hu; simp at hu; rcases hu with rfl | rfl | rfl | rfl <;> rfl) (by simp only [maxLen]; omega) (by omega) (by have := HS3.out; simp; omega) ?_; intro v6 w5 hown5 hg5 hat5; clear hat5; obtain ⟨g6, c6, rfl, -, -⟩ := hown5.form (by omega); have hb5x := Blk.grown (w := (w3.alloc (Obj.cells #[.string a.name, .string a.leader, .slice A a.members.length c, .string a.key] 104)).drew) (HAT4.out.1.alloc (Obj.cells #[.string a.name, .string a.leader, .slice A a.members.length c, .string a.key] 104)) hg5 (own_apart (HOX.out.alloc (Obj.cells #[.string a.name, .string a.leader, .slice A a.members.length c, .string a.key] 104)) (HAT4.out.1.alloc (Obj.cells #[.string a.name, .string a.leader, .slice A a.members.length c, .string a.key] 104)) (by decide)); have g05 := hb5x.cell 0; have f05 := hb5x.frozen 0; have HB5X := Lib.hid hb5x; clear hb5x; have HO5 := Lib.hid hown5; clear hown5; have HG5 := Lib.hid hg5; clear hg5)
  all_goals
    go_end0
    obtain ⟨q1, q2, q3⟩ := add_fin (o := Obj.cells #[.string a.name, .string a.leader, .slice A a.members.length c, .string a.key] 104) HAT4.out HOX.out HXX.out HO5.out HG5.out hb4 hb5 (Nat.le_trans hbw HS3.out)
    have k1 : Below base w w3.drew := (((HP1.out.mono hbw).drew).grown HG3.out (Nat.le_trans hbw HP1.out.size) (fun k hk => by injection hk with hk; subst hk; exact hb5)).drew
    exact ⟨rfl, q1, k1.trans q2, HKP.out.trans q3⟩
end Go.Proofs.YtlenlldiimohjaaDoor
