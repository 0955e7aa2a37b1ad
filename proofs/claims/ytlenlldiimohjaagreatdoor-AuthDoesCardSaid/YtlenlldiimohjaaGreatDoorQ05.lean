/-
  G3: what AuthDoes needs of them.
-/
import Derived.Test.YtlenlldiimohjaaGreatDoorQ04
import Derived.Test.YtlenlldiimohjaaGreatDoorQ03
import Derived.Test.YtlenlldiimohjaaGreatDoorQ01
import Derived.Deep.RegionLaw
import Derived.Shelf.Strings.Builder1
import Derived.Deep.RegionHeld3
import Derived.Defers
import Derived.Recover
import Derived.WalkLawsBesides
import Derived.Conc.MuLone
namespace Go.Proofs.YtlenlldiimohjaaGreatDoor
open Go.ChangeShapes Go.WideShapes Go.ChangeAt Go.RowKit

theorem contains_has (l : List ByteArray) (x : ByteArray) : Lib.containsS l x = has l x := by
  rw [Bool.eq_iff_iff, Lib.containsS_iff]
  unfold has
  rw [List.any_eq_true]
  constructor
  · intro h; exact ⟨x, h, decide_eq_true rfl⟩
  · rintro ⟨y, hy, he⟩
    rw [← of_decide_eq_true he]
    exact hy

set_option maxRecDepth 100000 in
theorem once_calls (a : Acct) (mv : Value) (w : World) (hm : Strs w mv a.members) (hr : Ready w) :
    Calls Tryz.prog 75 #[acctV a mv] w fun e w' => e = said (!twice a.members) 61 ∧ Below w.heap.size w w' := by
  obtain ⟨A, c, rfl, hlc, hcm, -⟩ := id hm
  unfold maxLen at hcm
  have HF := Lib.hid (FAt.start (a := a) hm hr); clear hm hr
  unfold acctV
  go_enter Tryz.func75, Tryz.ntmps75
  go_wp2_with fail
  have hb2 := HF.out.c2
  generalize w.alloc (Obj.cells #[.string a.name, .string a.leader, .slice A a.members.length c, .string a.key] 127) = w1 at HF hb2 ⊢
  go_loop [7] (fun i => ∃ k : Nat, k ≤ a.members.length ∧ i = .int .i64 k ∧ twiceFrom a.members (a.members.drop k) k = twice a.members) (fun i => a.members.length - (intOf i).toNat)
  case atStart => exact ⟨0, by omega, rfl, rfl⟩
  case round =>
    obtain ⟨k, hk, rfl, htw⟩ := hrel
    have HT := Lib.hid htw; clear htw
    by_cases hlt : k < a.members.length
    · obtain ⟨x, hkx⟩ : ∃ x, a.members[k]? = some x := ⟨a.members[k], List.getElem?_eq_getElem hlt⟩
      obtain ⟨g, o, c', hv, _, h0⟩ := HF.out.2.2.1.at_ hkx
      injection hv with e1 _ e3
      subst e1; subst e3
      have HKX := Lib.hid hkx; clear hkx
      have HC := Lib.hid (show ∀ j, j < a.members.length → w1.cell? ⟨g, o + j, none⟩ = some (.string (a.members.getD j ByteArray.empty)) from by
        intro j hj
        obtain ⟨g', o', c', hv, _, h0⟩ := HF.out.2.2.1.at_ (List.getElem?_eq_getElem hj)
        injection hv with e1 _ e3
        injection e1 with e1
        injection e1 with e1 e2
        subst e1; subst e2
        rw [h0, List.getD_eq_getElem?_getD, List.getElem?_eq_getElem hj]
        rfl)
      have i1 : (k : Int) < (a.members.length : Int) := by omega
      have i2 : (k : Int) ≤ (c : Int) := by omega
      have i3 : k ≤ c := by omega
      cases hh : has (a.members.take k) x with
      | true =>
        have HZ := Lib.hid (twice_hit HKX.out HT.out hh)
        have HH := Lib.hid hh; clear hh
        go_wp2_with fail
        refine (Tryz.slices_Contains_string g o k c a.members x w1 (by omega) (by omega) HC.out).mono ?_
        rw [contains_has, HH.out]
        rintro e w2 ⟨rfl, hw2⟩
        subst hw2
        go_wp2_with fail
        refine (need_f 61 _).mono ?_
        rintro e w2 ⟨rfl, rfl⟩
        exact ⟨rfl, said_f (by rw [HZ.out]; rfl) 61, HF.out.1⟩
      | false =>
        have HZ := Lib.hid (twice_miss HKX.out HT.out hh)
        have HH := Lib.hid hh; clear hh
        go_wp2_with fail
        refine (Tryz.slices_Contains_string g o k c a.members x w1 (by omega) (by omega) HC.out).mono ?_
        rw [contains_has, HH.out]
        rintro e w2 ⟨rfl, hw2⟩
        subst hw2
        go_wp2_with fail
        refine (need_t 61 _).mono ?_
        rintro e w2 ⟨rfl, rfl⟩
        go_wp2_with fail
        go_round
        case rel => exact ⟨k + 1, by omega, by go_num, HZ.out⟩
        case measure => simp [intOf]; omega
    · have HZ := Lib.hid (twice_end HT.out (by omega))
      go_wp2_with fail
      go_end0
      exact ⟨said_t (by rw [HZ.out]; rfl) 61, HF.out.1⟩
end Go.Proofs.YtlenlldiimohjaaGreatDoor

namespace Go.Proofs.YtlenlldiimohjaaGreatDoor
open Go.ChangeShapes Go.WideShapes Go.ChangeAt Go.RowKit

/-- The table of the accounts L lies at g, with its map at b; its list is the call's own (from base on). -/
def Build (w : World) (base g b : Nat) (L : List Acct) : Prop :=
  ∃ vl, Blk w g 139 #[vl, .map (some b), .map none] ∧ OwnAccts w base vl L ∧ AtMap w b L.length L ∧ base ≤ g ∧ base ≤ b
theorem Build.below {w w' : World} {base g b : Nat} {L : List Acct} (h : Build w base g b L) (hb : Below w.heap.size w w') : Build w' base g b L := by
  obtain ⟨vl, h1, h2, h3, h4, h5⟩ := h
  exact ⟨vl, h1.below hb h1.lt, h2.below hb, h3.below hb, h4, h5⟩

/-- In the midst of add: the list reads as L, the map as M, the account in its block. -/
def AddAt (w0 : Nat) (base g b : Nat) (L M : List Acct) (vl : Value) (a : Acct) (mv : Value) (w : World) : Prop :=
  Blk w g 139 #[vl, .map (some b), .map none] ∧ OwnAccts w base vl L ∧ AtMap w b M.length M ∧ Blk w w0 127 #[.string a.name, .string a.leader, mv, .string a.key] ∧ Strs w mv a.members
theorem AddAt.below {w0 base g b : Nat} {L M : List Acct} {vl : Value} {a : Acct} {mv : Value} {w w' : World} (h : AddAt w0 base g b L M vl a mv w) (hb : Below w.heap.size w w') : AddAt w0 base g b L M vl a mv w' :=
  ⟨h.1.below hb h.1.lt, h.2.1.below hb, h.2.2.1.below hb, h.2.2.2.1.below hb h.2.2.2.1.lt, h.2.2.2.2.below hb (Nat.le_refl _)⟩
theorem below_drew (w : World) : Below w.heap.size w w.drew := (Below.refl _ _).drew

/-- The map's block is turned: all else stays. -/
theorem AddAt.map {w0 base g b : Nat} {L M M' : List Acct} {vl : Value} {a : Acct} {mv : Value} {w w' : World} (h : AddAt w0 base g b L M vl a mv w) (hg : w.grownBy w' (some b)) (hm : AtMap w' b M'.length M') : AddAt w0 base g b L M' vl a mv w' := by
  obtain ⟨h1, ⟨xs, ho, hx⟩, h3, h4, h5⟩ := h
  obtain ⟨D, ⟨es, ck, hb, -⟩, -⟩ := h3
  have key : ∀ (i : Nat) cs t fr, w.heap[i]? = some (.cells cs t fr) → w'.heap[i]? = w.heap[i]? := fun i cs t fr hi => hg.block i (heap_lt hi) (by
    intro e
    injection e with e
    subst e
    rw [hb] at hi
    cases hi)
  have ks : ∀ {v : Value} {l : List ByteArray}, Strs w v l → Strs w' v l := fun hs => hs.keep fun i cur fr hi => key i cur _ fr hi
  refine ⟨(key g _ _ _ h1).trans h1, ⟨xs, ⟨ho.1, ?_⟩, fun k c hc => ?_⟩, hm, (key w0 _ _ _ h4).trans h4, ks h5⟩
  · rcases ho.2 with h0 | ⟨gg, cap, cur, hv, hbg, hgc, hr⟩
    · exact .inl h0
    · exact .inr ⟨gg, cap, cur, hv, hbg, (key gg _ _ _ hgc).trans hgc, hr⟩
  · obtain ⟨mv', hm', r⟩ := hx k c hc
    exact ⟨mv', ks hm', r⟩

/-- Whatever is no table and no account stays. -/
def Kept (w w' : World) : Prop := w.heap.size ≤ w'.heap.size ∧ ∀ (i : Nat) cs t fr, w.heap[i]? = some (Obj.cells cs t fr) → t ≠ 139 → t ≠ 127 → w'.heap[i]? = w.heap[i]?
theorem Kept.trans {a b c : World} (h : Kept a b) (k : Kept b c) : Kept a c :=
  ⟨Nat.le_trans h.1 k.1, fun i cs t fr hi h1 h2 => (k.2 i cs t fr ((h.2 i cs t fr hi h1 h2).trans hi) h1 h2).trans (h.2 i cs t fr hi h1 h2)⟩
theorem Kept.of_below {a b : World} (h : Below a.heap.size a b) : Kept a b := ⟨h.size, fun i _ _ _ hi _ _ => h.block i (heap_lt hi)⟩
theorem Kept.of_grown {a b : World} {row : Option Nat} (h : a.grownBy b row) (hr : ∀ g, row = some g → ∀ cs t fr, a.heap[g]? = some (.cells cs t fr) → t = 139 ∨ t = 127) : Kept a b :=
  ⟨h.size, fun i cs t fr hi h1 h2 => h.block i (heap_lt hi) (fun e => by rcases hr i e.symm cs t fr hi with h | h; exact h1 h; exact h2 h)⟩
theorem Kept.of_set {a : World} {g : Nat} {cs : Array Value} {k : Nat} {v : Value} (h : Blk a g 139 cs) : Kept a (a.setCell ⟨g, k, none⟩ v) :=
  ⟨by simp, fun i cs' t fr hi h1 _ => Below.heap_setCell _ _ _ _ (by
    rintro rfl
    unfold Blk at h
    rw [h] at hi
    injection hi with hi
    injection hi with _ ht
    exact h1 ht.symm)⟩
theorem Kept.strs {a b : World} (h : Kept a b) {v : Value} {l : List ByteArray} (hs : Strs a v l) : Strs b v l := hs.keep fun g cur fr hg => h.2 g cur _ fr hg (by decide) (by decide)

theorem own_setCell {w : World} {base e size n : Nat} {v u : Value} {xs : List Value} {g k : Nat} {cs : Array Value} {t : TypeId} (h : w.ownsRow base e size v n xs) (hg : Blk w g t cs) (hne : t ≠ e) : (w.setCell ⟨g, k, none⟩ u).ownsRow base e size v n xs := by
  refine ⟨h.1, ?_⟩
  rcases h.2 with h0 | ⟨gg, cap, cur, hv, hbg, hgc, hr⟩
  · exact .inl h0
  · refine .inr ⟨gg, cap, cur, hv, hbg, (Below.heap_setCell _ _ _ _ ?_).trans hgc, hr⟩
    rintro rfl
    unfold Blk at hg
    rw [hg] at hgc
    injection hgc with hgc
    injection hgc with _ ht
    exact hne ht
theorem Strs.setCell {w : World} {v u : Value} {l : List ByteArray} {g k : Nat} {cs : Array Value} {t : TypeId} (h : Strs w v l) (hg : Blk w g t cs) (hne : t ≠ 9) : Strs (w.setCell ⟨g, k, none⟩ u) v l :=
  h.keep fun i cur fr hi => Below.heap_setCell _ _ _ _ (by
    rintro rfl
    unfold Blk at hg
    rw [hg] at hi
    injection hi with hi
    injection hi with _ ht
    exact hne ht)
theorem AtMap.setCell {w : World} {b n : Nat} {L : List Acct} {u : Value} {g k : Nat} {cs : Array Value} {t : TypeId} (h : AtMap w b n L) (hg : Blk w g t cs) : AtMap (w.setCell ⟨g, k, none⟩ u) b n L :=
  h.keep fun es ck hb => Below.heap_setCell _ _ _ _ (by
    rintro rfl
    unfold Blk at hg
    rw [hg] at hb
    cases hb)
theorem OwnAccts.setCell {w : World} {base : Nat} {v u : Value} {L : List Acct} {g k : Nat} {cs : Array Value} {t : TypeId} (h : OwnAccts w base v L) (hg : Blk w g t cs) (h1 : t ≠ 9) (h2 : t ≠ 127) : OwnAccts (w.setCell ⟨g, k, none⟩ u) base v L := by
  obtain ⟨xs, ho, hx⟩ := h
  refine ⟨xs, own_setCell ho hg h2, fun j a ha => ?_⟩
  obtain ⟨mv, hm, r⟩ := hx j a ha
  exact ⟨mv, hm.setCell hg h1, r⟩

/-- The end of add. -/
theorem add_fin {w0 base g b : Nat} {L : List Acct} {vl v6 : Value} {a : Acct} {mv : Value} {w4 w5 : World} {xs : List Value} {o : Obj} (h : AddAt w0 base g b L (L ++ [a]) vl a mv w4) (hox : w4.ownsRow base 127 4 vl L.length xs)
    (hxx : ∀ (k : Nat) a, L[k]? = some a → ∃ mv, Strs w4 mv a.members ∧ xs[k * 4]? = some (.string a.name) ∧ xs[k * 4 + 1]? = some (.string a.leader) ∧ xs[k * 4 + 2]? = some mv ∧ xs[k * 4 + 3]? = some (.string a.key))
    (ho5 : w5.ownsRow base 127 4 v6 (L.length + 1) (xs ++ [.string a.name, .string a.leader, mv, .string a.key])) (hg5 : (w4.alloc o).grownBy w5 vl.ownBlock) (hb4 : base ≤ g) (hb5 : base ≤ b) (hB : base ≤ w4.heap.size) :
    Build (w5.setCell ⟨g, 0, none⟩ v6) base g b (L ++ [a]) ∧ Below base w4 (w5.setCell ⟨g, 0, none⟩ v6) ∧ Kept w4 (w5.setCell ⟨g, 0, none⟩ v6) := by
  obtain ⟨h1, h2, h3, h4, h5⟩ := h
  have hpre : Below w4.heap.size w4 (w4.alloc o) := (Below.refl _ _).alloc (Nat.le_refl _) _
  have hblk : Blk w5 g 139 #[vl, .map (some b), .map none] := (h1.alloc o).grown hg5 (own_apart (hox.alloc o) (h1.alloc o) (by decide))
  have hmap : AtMap w5 b (L ++ [a]).length (L ++ [a]) := (h3.below hpre).keep fun es ck hb => hg5.block b (heap_lt hb) (fun e => by
    obtain ⟨cc, fz, hk⟩ := Go.Lib.ownsRow_kind (hox.alloc o) b e.symm
    rw [hb] at hk
    cases hk)
  have hacc : OwnAccts w5 base v6 (L ++ [a]) := OwnAccts.snoc (a := a) (hox.alloc o) hg5 (fun k c hc => by obtain ⟨m, hm, r⟩ := hxx k c hc; exact ⟨m, hm.alloc o, r⟩) (h5.alloc o) ho5
  have hown : ∀ k, vl.ownBlock = some k → base ≤ k := fun k hk => (hox.lt k hk).1
  refine ⟨⟨v6, ?_, hacc.setCell hblk (by decide) (by decide), hmap.setCell hblk, hb4, hb5⟩, ?_, ?_⟩
  · have := hblk.set_ 0 v6
    simpa using this
  · exact (((Below.refl base w4).alloc hB o).grown hg5 (by simp; omega) hown).setCell hb4 _
  · refine (Kept.of_below hpre).trans ((Kept.of_grown hg5 ?_).trans (Kept.of_set hblk))
    intro k hk cs t fr hc
    obtain ⟨cc, fz, hkk⟩ := Go.Lib.ownsRow_kind (hox.alloc o) k hk
    rw [hc] at hkk
    injection hkk with hkk
    injection hkk with _ ht
    exact .inr ht

set_option maxRecDepth 100000 in
set_option maxHeartbeats 3200000 in
theorem add_calls (base g b : Nat) (L : List Acct) (a : Acct) (mv : Value) (w : World) (hB : Build w base g b L) (hm : Strs w mv a.members) (hk : known L a.name = false) (hn : a.name.size ≤ 16777216) (hl : L.length ≤ 16777216) (hbw : base ≤ w.heap.size) :
    Calls Tryz.prog 76 #[.pointer (some ⟨g, 0, none⟩), acctV a mv] w fun e w' => e = .returned (.tuple #[]) ∧ Build w' base g b (L ++ [a]) ∧ Below base w w' ∧ Kept w w' := by
  obtain ⟨A, c, rfl, hlc, hcm, -⟩ := id hm
  unfold maxLen at hcm
  obtain ⟨vl, hb1, hb2, hb3, hb4, hb5⟩ := hB
  obtain ⟨Al, cl, rfl, hlc2, hcm2⟩ := hb2.accts.len
  unfold maxLen at hcm2
  unfold acctV
  have hpre : Below w.heap.size w (w.alloc (Obj.cells #[.string a.name, .string a.leader, .slice A a.members.length c, .string a.key] 127)) := (Below.refl _ _).alloc (Nat.le_refl _) _
  have HAT := Lib.hid (show AddAt w.heap.size base g b L L (.slice Al L.length cl) a (.slice A a.members.length c) (w.alloc (Obj.cells #[.string a.name, .string a.leader, .slice A a.members.length c, .string a.key] 127)) from
    ⟨hb1.below hpre hb1.lt, hb2.below hpre, hb3.below hpre, Blk.new _ _ _, hm.below hpre (Nat.le_refl _)⟩)
  clear hb1 hb2 hb3 hm
  have HP := Lib.hid hpre; clear hpre
  have HK := Lib.hid hk; clear hk
  go_enter Tryz.func76, Tryz.ntmps76
  go_wp2_with fail
  generalize w.alloc (Obj.cells #[.string a.name, .string a.leader, .slice A a.members.length c, .string a.key] 127) = w1 at HAT HP ⊢
  have HAT1 := Lib.hid (HAT.out.below (below_drew w1))
  have hlook := HAT1.out.2.2.1.look a.name (by unfold maxLen; omega)
  rw [HK.out] at hlook
  have g0 : w1.drew.cell? ⟨g, 0, none⟩ = some (.slice Al L.length cl) := HAT1.out.1.cell 0
  have g1 : w1.drew.cell? ⟨g, 1, none⟩ = some (.map (some b)) := HAT1.out.1.cell 1
  have a0 : w1.drew.cell? ⟨w.heap.size, 0, none⟩ = some (.string a.name) := HAT1.out.2.2.2.1.cell 0
  go_region
  have HP1 := Lib.hid (HP.out.drew)
  generalize w1.drew = w2 at HAT1 HP1 ⊢
  clear hlook g0 g1 a0 HAT HP
  obtain ⟨w3, hrun, hat3, hg3⟩ := (HAT1.out.below (below_drew w2)).2.2.1.add a (by unfold maxLen; omega) HK.out (by unfold maxLen; omega) (by unfold maxLen; omega)
  have HAT2 := Lib.hid (HAT1.out.below (below_drew w2))
  have g0 : w2.drew.cell? ⟨g, 0, none⟩ = some (.slice Al L.length cl) := HAT2.out.1.cell 0
  have g1 : w2.drew.cell? ⟨g, 1, none⟩ = some (.map (some b)) := HAT2.out.1.cell 1
  have a0 : w2.drew.cell? ⟨w.heap.size, 0, none⟩ = some (.string a.name) := HAT2.out.2.2.2.1.cell 0
  have HAT3 := Lib.hid (HAT2.out.map (M' := L ++ [a]) hg3 (by rw [List.length_append]; exact hat3))
  have HKP := Lib.hid (show Kept w w3.drew from (Kept.of_below HP1.out.drew).trans ((Kept.of_grown hg3 (fun k hk cs t fr hc => by
    injection hk with hk
    subst hk
    obtain ⟨D, ⟨es, ck, hb, -⟩, -⟩ := HAT2.out.2.2.1
    rw [hb] at hc
    cases hc)).trans (Kept.of_below (below_drew w3))))
  have HG3 := Lib.hid hg3; clear hg3 hat3
  go_wp2_with fail
  go_region
  clear g0 g1 a0 hrun
  have HAT4 := Lib.hid (HAT3.out.below (below_drew w3))
  have g0 : w3.drew.cell? ⟨g, 0, none⟩ = some (.slice Al L.length cl) := HAT4.out.1.cell 0
  have f0 : w3.drew.frozen? ⟨g, 0, none⟩ = false := HAT4.out.1.frozen 0
  have a0 : w3.drew.cell? ⟨w.heap.size, 0, none⟩ = some (.string a.name) := HAT4.out.2.2.2.1.cell 0
  have a1 : w3.drew.cell? ⟨w.heap.size, 1, none⟩ = some (.string a.leader) := HAT4.out.2.2.2.1.cell 1
  have a2 : w3.drew.cell? ⟨w.heap.size, 2, none⟩ = some (.slice A a.members.length c) := HAT4.out.2.2.2.1.cell 2
  have a3 : w3.drew.cell? ⟨w.heap.size, 3, none⟩ = some (.string a.key) := HAT4.out.2.2.2.1.cell 3
  obtain ⟨i0, hi0, hz0, hz1, hz2⟩ := info_parts acct_info
  have HI := Lib.hid hi0; clear hi0
  have HZ0 := Lib.hid hz0; clear hz0
  have HZ1 := Lib.hid hz1; clear hz1
  have HZ2 := Lib.hid hz2; clear hz2
  have g0b : (w3.alloc (Obj.cells #[.string a.name, .string a.leader, .slice A a.members.length c, .string a.key] 127)).cell? ⟨g, 0, none⟩ = some (.slice Al L.length cl) := (HAT4.out.1.alloc (Obj.cells #[.string a.name, .string a.leader, .slice A a.members.length c, .string a.key] 127)).cell 0
  have HS3 := Lib.hid (show w.heap.size ≤ w3.heap.size from Nat.le_trans HP1.out.size HG3.out.size)
  obtain ⟨xs, hox, hxx⟩ := HAT4.out.2.1
  have HOX := Lib.hid hox; clear hox
  have HXX := Lib.hid hxx; clear hxx
  go_wp2_with fail
  go_region_law (refine step_append_any _ rfl (.tmp 39) (.tmp 41) _ rfl base 127 i0 _ 4 72 Tryz.underlying125 HI.out HZ0.out HZ1.out HZ2.out rfl (by omega) _ L.length xs (by simp [Act.eval]) (HOX.out.alloc _) (w3.heap.size + 1) (some ⟨w3.heap.size, 0, none⟩) 1 1 [.string a.name, .string a.leader, .slice A a.members.length c, .string a.key] (by simp [Act.eval]) (reads_new4 _ _ _ _ _ _) (by intro u hu; simp at hu; rcases hu with rfl | rfl | rfl | rfl <;> rfl) (by simp only [maxLen]; omega) (by omega) (by have := HS3.out; simp; omega) ?_; intro v6 w5 hown5 hg5 hat5; clear hat5; obtain ⟨g6, c6, rfl, -, -⟩ := hown5.form (by omega); have hb5x := Blk.grown (w := (w3.alloc (Obj.cells #[.string a.name, .string a.leader, .slice A a.members.length c, .string a.key] 127)).drew) (HAT4.out.1.alloc (Obj.cells #[.string a.name, .string a.leader, .slice A a.members.length c, .string a.key] 127)) hg5 (own_apart (HOX.out.alloc (Obj.cells #[.string a.name, .string a.leader, .slice A a.members.length c, .string a.key] 127)) (HAT4.out.1.alloc (Obj.cells #[.string a.name, .string a.leader, .slice A a.members.length c, .string a.key] 127)) (by decide)); have g05 := hb5x.cell 0; have f05 := hb5x.frozen 0; have HB5X := Lib.hid hb5x; clear hb5x; have HO5 := Lib.hid hown5; clear hown5; have HG5 := Lib.hid hg5; clear hg5)
  all_goals
    go_end0
    obtain ⟨q1, q2, q3⟩ := add_fin (o := Obj.cells #[.string a.name, .string a.leader, .slice A a.members.length c, .string a.key] 127) HAT4.out HOX.out HXX.out HO5.out HG5.out hb4 hb5 (Nat.le_trans hbw HS3.out)
    have k1 : Below base w w3.drew := (((HP1.out.mono hbw).drew).grown HG3.out (Nat.le_trans hbw HP1.out.size) (fun k hk => by injection hk with hk; subst hk; exact hb5)).drew
    exact ⟨rfl, q1, k1.trans q2, HKP.out.trans q3⟩
end Go.Proofs.YtlenlldiimohjaaGreatDoor

namespace Go.Proofs.YtlenlldiimohjaaGreatDoor
open Go.ChangeShapes Go.WideShapes Go.ChangeAt Go.RowKit

/-- The program's table of the accounts L lies at g, whatever its third field. -/
def UTab (w : World) (g b : Nat) (L : List Acct) : Prop :=
  ∃ vl iv, Blk w g 139 #[vl, .map (some b), iv] ∧ Accts w vl L ∧ AtMap w b L.length L
theorem UTab.below {w w' : World} {g b : Nat} {L : List Acct} (h : UTab w g b L) (hb : Below w.heap.size w w') : UTab w' g b L := by
  obtain ⟨vl, iv, h1, h2, h3⟩ := h
  exact ⟨vl, iv, h1.below hb h1.lt, h2.below hb (Nat.le_refl _), h3.below hb⟩
theorem Build.tab {w : World} {base g b : Nat} {L : List Acct} (h : Build w base g b L) : UTab w g b L := by
  obtain ⟨vl, h1, h2, h3, _⟩ := h
  exact ⟨vl, _, h1, h2.accts, h3⟩

set_option maxRecDepth 100000 in
set_option maxHeartbeats 1600000 in
theorem named_calls (g b : Nat) (L : List Acct) (a : Acct) (mv : Value) (w : World) (hT : UTab w g b L) (hm : Strs w mv a.members) (hs : Small a) :
    Calls Tryz.prog 77 #[.pointer (some ⟨g, 0, none⟩), acctV a mv] w fun e w' => e = said (knows L a) 62 ∧ Below w.heap.size w w' := by
  obtain ⟨A, c, rfl, hlc, hcm, -⟩ := id hm
  unfold maxLen at hcm
  obtain ⟨-, hs2, -, hs4⟩ := hs
  have HS4 := Lib.hid hs4; clear hs4
  unfold acctV
  have hpre : Below w.heap.size w (w.alloc (Obj.cells #[.string a.name, .string a.leader, .slice A a.members.length c, .string a.key] 127)) := (Below.refl _ _).alloc (Nat.le_refl _) _
  have HP := Lib.hid hpre
  have HT := Lib.hid (hT.below hpre); clear hT
  have HM := Lib.hid (hm.below hpre (Nat.le_refl _)); clear hm
  have HA := Lib.hid (Blk.new w 127 #[.string a.name, .string a.leader, .slice A a.members.length c, .string a.key])
  clear hpre
  have hcase : (known L a.leader = true ∧ Hid (knows L a = a.members.all (known L))) ∨
      (known L a.leader = false ∧ a.leader.toList.isEmpty = true ∧ a.leader.toList = [] ∧ Hid (knows L a = a.members.all (known L))) ∨
      (known L a.leader = false ∧ a.leader.toList.isEmpty = false ∧ Hid (knows L a = false)) := by
    cases hk : known L a.leader with
    | true => exact .inl ⟨rfl, by show knows L a = _; unfold knows; rw [hk, Bool.or_true]; rfl⟩
    | false =>
      by_cases h0 : a.leader.size = 0
      · exact .inr (.inl ⟨rfl, empty_t h0, List.isEmpty_iff.1 (empty_t h0), by show knows L a = _; unfold knows; rw [decide_eq_true h0]; rfl⟩)
      · exact .inr (.inr ⟨rfl, empty_f h0, by show knows L a = _; unfold knows; rw [hk, decide_eq_false h0]; rfl⟩)
  go_enter Tryz.func77, Tryz.ntmps77
  go_wp2_with fail
  generalize w.alloc (Obj.cells #[.string a.name, .string a.leader, .slice A a.members.length c, .string a.key] 127) = w1 at HP HT HM HA ⊢
  obtain ⟨vl, iv, t1, t2, t3⟩ := HT.out
  have hlook := (t3.below (below_drew w1)).look a.leader (by unfold maxLen; omega)
  have g1 : w1.drew.cell? ⟨g, 1, none⟩ = some (.map (some b)) := t1.cell 1
  have a1 : w1.drew.cell? ⟨w.heap.size, 1, none⟩ = some (.string a.leader) := HA.out.cell 1
  have a2 : w1.drew.cell? ⟨w.heap.size, 2, none⟩ = some (.slice A a.members.length c) := HA.out.cell 2
  have HLOOK := Lib.hid (fun (x : ByteArray) (hx : x.size ≤ 16777216) => (t3.below (below_drew w1)).look x (by unfold maxLen; omega))
  clear t1 t2 t3
  go_region
  have HP1 := Lib.hid HP.out.drew
  have HM1 := Lib.hid (show Strs w1.drew (.slice A a.members.length c) a.members from HM.out)
  generalize w1.drew = w2 at HP1 HM1 HLOOK a1 a2 g1 ⊢
  clear HP HT HM HA hlook
  rcases hcase with ⟨hk, HX⟩ | ⟨hk, he, he2, HX⟩ | ⟨hk, he, HX⟩
  case inr.inr =>
    rw [hk]
    go_wp2_with fail
    refine (need_f 62 _).mono ?_
    rintro e w3 ⟨rfl, rfl⟩
    exact ⟨rfl, said_f HX.out 62, HP1.out⟩
  all_goals
    rw [hk]
    have HKL := Lib.hid hk; clear hk
    go_wp2_with (go_at_call 74; refine (need_t 62 _).mono ?_; rintro e w' ⟨rfl, rfl⟩)
    go_loop [30] (fun i => ∃ k : Nat, k ≤ a.members.length ∧ i = .int .i64 k ∧ (a.members.take k).all (known L) = true) (fun i => a.members.length - (intOf i).toNat)
    case atStart => exact ⟨0, by omega, rfl, rfl⟩
    case round =>
      obtain ⟨k, hk, rfl, hall⟩ := hrel
      have HAL := Lib.hid hall; clear hall
      by_cases hlt : k < a.members.length
      · obtain ⟨x, hkx⟩ : ∃ x, a.members[k]? = some x := ⟨a.members[k], List.getElem?_eq_getElem hlt⟩
        obtain ⟨gg, o, c', hv, _, h0⟩ := HM1.out.at_ hkx
        injection hv with e1 _ e3
        subst e1; subst e3
        have hlx := HLOOK.out x (HS4.out x (List.mem_of_getElem? hkx))
        have HKX := Lib.hid hkx; clear hkx
        cases hn : known L x with
        | false =>
          rw [hn] at hlx
          have HN := Lib.hid hn; clear hn
          go_wp2_with fail
          refine (need_f 62 _).mono ?_
          rintro e w3 ⟨rfl, rfl⟩
          exact ⟨rfl, said_f (by rw [HX.out, lall_no HKX.out HN.out]) 62, HP1.out⟩
        | true =>
          rw [hn] at hlx
          have HN := Lib.hid hn; clear hn
          go_wp2_with (go_at_call 74; refine (need_t 62 _).mono ?_; rintro e w' ⟨rfl, rfl⟩)
          go_round
          case rel => exact ⟨k + 1, by omega, by go_num, by rw [lall_step HKX.out HAL.out]; exact HN.out⟩
          case measure => simp [intOf]; omega
      · go_wp2_with fail
        go_end0
        exact ⟨said_t (by rw [HX.out, lall_end (by omega) HAL.out]) 62, HP1.out⟩
end Go.Proofs.YtlenlldiimohjaaGreatDoor

namespace Go.Proofs.YtlenlldiimohjaaGreatDoor
open Go.ChangeShapes Go.WideShapes Go.ChangeAt Go.RowKit

theorem sizeBuilder : (Tryz.prog.info? 200).map (·.size) = some 2 := by kernel_rfl
theorem liesBuilder : liesAt Tryz.prog Tryz.prog.depth 200 (2 / Tryz.prog.cellsOf 200) 0 200 1 = true := by kernel_rfl
theorem byte_info : (Tryz.prog.info? 5).map (fun i => (i.zero, i.size, i.bytes)) = some (some (.int .u8 0), 1, 1) := by kernel_rfl

set_option maxHeartbeats 1000000 in
set_option maxRecDepth 100000 in
theorem copyCheck_used (b : Nat) (w : World) (h0 : w.cell? ⟨b, 0, none⟩ = some (.pointer (some ⟨b, 0, none⟩))) :
    Calls Tryz.prog 173 #[.pointer (some ⟨b, 0, none⟩)] w fun e w' => e = .returned (.tuple #[]) ∧ w' = w := by
  obtain ⟨j, hj, _⟩ := Option.map_eq_some_iff.1 sizeBuilder
  go_enter Tryz.func173, Tryz.ntmps173
  go_wp2
  rw [Lib.run_neq_ptr_same w _ Tryz.underlying198 hj]
  go_wp2
  go_end0
  exact ⟨rfl, rfl⟩

set_option maxHeartbeats 1000000 in
set_option maxRecDepth 100000 in
theorem copyCheck_fresh (b : Nat) (w : World) (h0 : w.cell? ⟨b, 0, none⟩ = some (.pointer none)) (hsh : w.shape? b = some (200, 2)) (hfz : w.frozen? ⟨b, 0, none⟩ = false) :
    Calls Tryz.prog 173 #[.pointer (some ⟨b, 0, none⟩)] w fun e w' => e = .returned (.tuple #[]) ∧ w' = w.setCell ⟨b, 0, none⟩ (.pointer (some ⟨b, 0, none⟩)) := by
  obtain ⟨j, hj, hjs⟩ := Option.map_eq_some_iff.1 sizeBuilder
  go_enter Tryz.func173, Tryz.ntmps173
  go_wp2
  rw [Lib.run_to_unsafe w ⟨b, 0, none⟩ Tryz.underlying198 Tryz.underlying234 hj (by rw [hjs]; decide) hsh (Nat.zero_lt_succ 1)]
  simp only [Result.andThen]
  rw [Oper.upon_value]
  go_wp2
  rw [run_callFunc_extern Tryz.func193 (by kernel_rfl) (by kernel_rfl) (by kernel_rfl) (e := Extern.AbiNoEscape.same) (by kernel_rfl)]
  rw [Lib.run_noEscape]
  simp only [Result.andThen]
  rw [Oper.upon_value]
  go_wp2
  rw [Lib.run_from_unsafe w ⟨b, 0, none⟩ Tryz.underlying234 Tryz.underlying198 hj hsh liesBuilder]
  simp only [Result.andThen]
  rw [Oper.upon_value]
  go_wp2
  go_end0
  exact ⟨rfl, rfl⟩

theorem copyCheck_calls (B b : Nat) (bs : List Value) (w : World) (h : Lib.IsBuilder 200 5 B b bs w) :
    Calls Tryz.prog 173 #[.pointer (some ⟨b, 0, none⟩)] w fun e w' => e = .returned (.tuple #[]) ∧ (Lib.BuilderAt 200 5 B b (.pointer (some ⟨b, 0, none⟩)) bs w' ∧ Below B w w') := by
  rcases h with h | h
  · refine (copyCheck_fresh b w h.cell0 h.shape h.frozen0).mono ?_
    rintro e w' ⟨rfl, rfl⟩
    exact ⟨rfl, h.used _, (Below.refl B w).setCell (p := ⟨b, 0, none⟩) h.1 _⟩
  · refine (copyCheck_used b w h.cell0).mono ?_
    rintro e w' ⟨rfl, rfl⟩
    exact ⟨rfl, h, Below.refl B _⟩

set_option maxHeartbeats 2000000 in
set_option maxRecDepth 100000 in
theorem writeString_calls (B b : Nat) (bs : List Value) (s : ByteArray) (w : World) (h : Lib.IsBuilder 200 5 B b bs w) (hlen : bs.length + s.size ≤ 140737488355328) (hBw : B ≤ w.heap.size) :
    Calls Tryz.prog 150 #[.pointer (some ⟨b, 0, none⟩), .string s] w fun e w' => e = .returned (.tuple #[.int .i64 s.size, .nilIface]) ∧ (Lib.BuilderAt 200 5 B b (.pointer (some ⟨b, 0, none⟩)) (bs ++ Lib.strCells s) w' ∧ Below B w w') := by
  obtain ⟨i0, hi, hz0, hz1, hz2⟩ := info_parts byte_info
  go_enter Tryz.func150, Tryz.ntmps150
  go_wp2_with (go_at_call 173; refine (copyCheck_calls B b bs _ h).mono ?_)
  rintro e w1 ⟨rfl, h1, hb1⟩
  obtain ⟨hB, v, hbk, hown, hne⟩ := h1
  have c0 : w1.cell? ⟨b, 0, none⟩ = some (.pointer (some ⟨b, 0, none⟩)) := by rw [Lib.cell_of_heap hbk]; rfl
  have c1 : w1.cell? ⟨b, 1, none⟩ = some v := by rw [Lib.cell_of_heap hbk]; rfl
  go_wp2_with (at_builtin; refine Lib.wpList_append_own_string _ rfl _ _ 47 9 rfl B 5 i0 Tryz.underlying47 Tryz.underlying9 hi hz0 hz1 hz2 _ _ _ rfl hown s rfl ?c3 ?c4 ?c5 ?_)
  case c3 => unfold maxLen; omega
  case c4 => omega
  case c5 => have := hb1.size; omega
  intro v' w2 hown' hgrow _
  have hlt : b < w1.heap.size := by
    rcases Nat.lt_or_ge b w1.heap.size with h' | h'
    · exact h'
    · simp [Array.getElem?_eq_none h'] at hbk
  have hb2 : w2.heap[b]? = some (.cells #[.pointer (some ⟨b, 0, none⟩), v] 200 (0, 0)) := by
    rw [hgrow.block b hlt (fun e => hne e.symm)]
    exact hbk
  have d0 : w2.cell? ⟨b, 0, none⟩ = some (.pointer (some ⟨b, 0, none⟩)) := by rw [Lib.cell_of_heap hb2]; rfl
  have d1 : w2.cell? ⟨b, 1, none⟩ = some v := by rw [Lib.cell_of_heap hb2]; rfl
  have f1 : w2.frozen? ⟨b, 1, none⟩ = false := Lib.frozen_of_heap hb2 1
  obtain ⟨ao, n', cap, rfl⟩ : ∃ ao n' cap, v' = .slice ao n' cap := by
    rcases hown'.2 with ⟨hv, _⟩ | ⟨g, cap, cur, hv, _⟩
    · exact ⟨_, _, _, hv⟩
    · exact ⟨_, _, _, hv⟩
  go_wp2
  go_ret2
  refine ⟨rfl, ?_, ?_⟩
  · exact Lib.BuilderAt.put (T := 200) (e := 5) hB hb2 (bs' := bs ++ Lib.strCells s) (by simpa [Lib.strCells_length] using hown') (by decide)
  · exact (hb1.grown hgrow (by have := hb1.size; omega) (fun k hk => (hown.lt k hk).1)).setCell (p := ⟨b, 1, none⟩) hB _
end Go.Proofs.YtlenlldiimohjaaGreatDoor

namespace Go.Proofs.YtlenlldiimohjaaGreatDoor
open Go.ChangeShapes Go.WideShapes Go.ChangeAt Go.RowKit

theorem join_eq (sep : List UInt8) : ∀ l : List ByteArray, Lib.join (l.map (·.data.toList)) sep = joinL sep l
  | [] => rfl
  | [x] => by simp [Lib.join, joinL]
  | x :: y :: l => by
    have ih := join_eq sep (y :: l)
    simp only [List.map_cons] at ih ⊢
    rw [joinL, ← ih]
    simp [Lib.join, List.intercalate, List.intersperse]

theorem join_calls (v : Value) (l : List ByteArray) (sep : ByteArray) (w : World) (h : Strs w v l) (hl : (joinL sep.data.toList l).length ≤ 140737488355328) (hn : l.length ≤ 140737488355328) :
    Calls Tryz.prog 174 #[v, .string sep] w fun e w' => e = .returned (.string (ofL (joinL sep.data.toList l))) ∧ Below w.heap.size w w' := by
  obtain ⟨A, c, rfl, hlc, hcm, hr⟩ := id h
  rcases Nat.eq_zero_or_pos l.length with h0 | h0
  · have hl0 : l = [] := List.eq_nil_of_length_eq_zero h0
    subst hl0
    refine (Tryz.strings_Join_none A c sep w).mono ?_
    rintro e w' ⟨rfl, rfl⟩
    exact ⟨rfl, Below.refl _ _⟩
  · obtain ⟨g, o, rfl, hg⟩ := hr.form h0
    refine (Tryz.strings_Join g o c l sep w ?_ hg hn hlc (by rw [join_eq]; exact hl)).mono ?_
    · intro j x hj
      obtain ⟨g', o', c', hv, _, hc⟩ := h.at_ hj
      injection hv with e1 _ e3
      injection e1 with e1
      injection e1 with e1 e2
      subst e1; subst e2
      exact hc
    · rintro e w' ⟨rfl, hb⟩
      rw [join_eq]
      exact ⟨rfl, hb⟩

set_option maxRecDepth 100000 in
set_option maxHeartbeats 1600000 in
theorem written_calls (a : Acct) (mv : Value) (w : World) (hm : Strs w mv a.members) (hll : (lineL a).length ≤ 1099511627776) (hmem : a.members.length ≤ 16777216) :
    Calls Tryz.prog 151 #[acctV a mv] w fun e w' => e = .returned (.string (ofL (lineL a))) ∧ Below w.heap.size w w' := by
  obtain ⟨A, c, rfl, hlc, hcm, -⟩ := id hm
  unfold maxLen at hcm
  have hpre : Below w.heap.size w (w.alloc (Obj.cells #[.string a.name, .string a.leader, .slice A a.members.length c, .string a.key] 127)) := (Below.refl _ _).alloc (Nat.le_refl _) _
  have HP := Lib.hid hpre
  have HM := Lib.hid (hm.below hpre (Nat.le_refl _)); clear hm
  have HA := Lib.hid (Blk.new w 127 #[.string a.name, .string a.leader, .slice A a.members.length c, .string a.key])
  clear hpre
  have HLL := Lib.hid hll; clear hll
  unfold acctV
  go_enter Tryz.func151, Tryz.ntmps151
  go_wp2_with fail
  generalize w.alloc (Obj.cells #[.string a.name, .string a.leader, .slice A a.members.length c, .string a.key] 127) = w1 at HP HM HA ⊢
  have a0 : w1.drew.cell? ⟨w.heap.size, 0, none⟩ = some (.string a.name) := HA.out.cell 0
  have a1 : w1.drew.cell? ⟨w.heap.size, 1, none⟩ = some (.string a.leader) := HA.out.cell 1
  have a2 : w1.drew.cell? ⟨w.heap.size, 2, none⟩ = some (.slice A a.members.length c) := HA.out.cell 2
  have a3 : w1.drew.cell? ⟨w.heap.size, 3, none⟩ = some (.string a.key) := HA.out.cell 3
  have HM1 := Lib.hid (show Strs w1.drew (.slice A a.members.length c) a.members from HM.out)
  have HP1 := Lib.hid HP.out.drew
  have HL1 := Lib.hid (show (joinL [44] a.members).length ≤ 140737488355328 from by have := HLL.out; rw [lineL_len] at this; omega)
  have HL2 := Lib.hid (show (joinL [58] [a.name, a.leader, ofL (joinL [44] a.members), a.key]).length ≤ 140737488355328 from by
    have := HLL.out
    rw [lineL_len] at this
    simp [joinL, ofL]
    omega)
  have hsz : (ofL (joinL [58] [a.name, a.leader, ofL (joinL [44] a.members), a.key])).size ≤ 140737488355328 := by rw [ofL_size]; exact HL2.out
  have HEQ := Lib.hid (show ofL (joinL [58] [a.name, a.leader, ofL (joinL [44] a.members), a.key]) ++ ⟨#[10]⟩ = ofL (lineL a) from by
    apply ByteArray.ext
    simp [ofL, lineL, joinL, ByteArray.data_append])
  generalize hM : ofL (joinL [44] a.members) = M at hsz HEQ HL2
  have HMM := Lib.hid hM; clear hM
  generalize hJ : ofL (joinL [58] [a.name, a.leader, M, a.key]) = J at hsz HEQ
  have HJ := Lib.hid hJ; clear hJ
  have hadd : ∀ w' : World, (Op.stringOp .add J ⟨#[10]⟩).run Tryz.prog w' = .ok (.string (J ++ ⟨#[10]⟩)) w' := fun w' => run_string_add_sum w' _ _ (by
    have h1 : (⟨#[10]⟩ : ByteArray).size = 1 := rfl
    rw [h1]
    omega)
  go_region_held3 (fun w' => w'.cell? ⟨w.heap.size, 0, none⟩ = some (.string a.name) ∧ w'.cell? ⟨w.heap.size, 1, none⟩ = some (.string a.leader) ∧ w'.cell? ⟨w.heap.size, 2, none⟩ = some (.slice A a.members.length c) ∧ w'.cell? ⟨w.heap.size, 3, none⟩ = some (.string a.key))
    (first | exact ⟨a0, a1, a2, a3⟩ | exact ⟨b0, b1, b2, b3⟩ | exact ⟨c0, c1, c2, c3⟩ | go_keep)
    (first
    | (go_at_call_of 174 (ByteArray.mk #[44]); refine (join_calls (.slice A a.members.length c) a.members ⟨#[44]⟩ w1.drew HM1.out HL1.out (by omega)).mono ?_; rw [show ofL (joinL (ByteArray.mk #[44]).data.toList a.members) = M from HMM.out]; rintro e w2 ⟨rfl, hb2⟩
       have HA2 := Lib.hid (Blk.below (w := w1.drew) HA.out hb2 HA.out.lt)
       have HP2 := Lib.hid (HP1.out.trans (hb2.mono HP1.out.size))
       clear hb2
       have b0 : w2.cell? ⟨w.heap.size, 0, none⟩ = some (.string a.name) := HA2.out.cell 0
       have b1 : w2.cell? ⟨w.heap.size, 1, none⟩ = some (.string a.leader) := HA2.out.cell 1
       have b2 : w2.cell? ⟨w.heap.size, 2, none⟩ = some (.slice A a.members.length c) := HA2.out.cell 2
       have b3 : w2.cell? ⟨w.heap.size, 3, none⟩ = some (.string a.key) := HA2.out.cell 3
       have HS2 := Lib.hid (Strs.new w2 #[.string a.name, .string a.leader, .string M, .string a.key] (0, 0) [a.name, a.leader, M, a.key] 4 (Nat.le_refl 4) (by unfold maxLen; omega) (by intro j u hu; simpa using hu)))
    | (go_at_call_of 174 (ByteArray.mk #[58]); refine (join_calls (.slice (some ⟨w2.heap.size, 0, none⟩) 4 4) [a.name, a.leader, M, a.key] ⟨#[58]⟩ _ HS2.out HL2.out (by show (4 : Nat) ≤ _; omega)).mono ?_; rw [show ofL (joinL (ByteArray.mk #[58]).data.toList [a.name, a.leader, M, a.key]) = J from HJ.out]; rintro e w3 ⟨rfl, hb3⟩
       have HP3 := Lib.hid ((HP2.out.alloc HP2.out.size _).trans (hb3.mono (by have := HP2.out.size; simp; omega)))
       have HA3 := Lib.hid ((HA2.out.alloc (Obj.cells #[.string a.name, .string a.leader, .string M, .string a.key] 9)).below hb3 (by have := HA2.out.lt; simp; omega))
       clear hb3
       have c0 : w3.cell? ⟨w.heap.size, 0, none⟩ = some (.string a.name) := HA3.out.cell 0
       have c1 : w3.cell? ⟨w.heap.size, 1, none⟩ = some (.string a.leader) := HA3.out.cell 1
       have c2 : w3.cell? ⟨w.heap.size, 2, none⟩ = some (.slice A a.members.length c) := HA3.out.cell 2
       have c3 : w3.cell? ⟨w.heap.size, 3, none⟩ = some (.string a.key) := HA3.out.cell 3))
  go_wp2_with fail
  rw [HEQ.out]
  go_ret
  exact ⟨rfl, HP3.out⟩
end Go.Proofs.YtlenlldiimohjaaGreatDoor

namespace Go.Proofs.YtlenlldiimohjaaGreatDoor
open Go.ChangeShapes Go.WideShapes Go.ChangeAt Go.RowKit

theorem joinL_many (sep : List UInt8) (h : 1 ≤ sep.length) : ∀ l : List ByteArray, l.length ≤ (joinL sep l).length + 1
  | [] => by simp
  | [x] => by simp
  | x :: y :: l => by
    have ih := joinL_many sep h (y :: l)
    simp only [joinL, List.length_append, List.length_cons] at ih ⊢
    omega
theorem lineL_many (a : Acct) : a.members.length + 1 ≤ (lineL a).length := by
  have := joinL_many [44] (by simp) a.members
  rw [lineL_len]
  omega
theorem lineL_get {L : List Acct} {k : Nat} {a : Acct} (h : L[k]? = some a) : (textL (L.take k)).length + (lineL a).length ≤ (textL L).length := by
  have h1 := textL_take_le L (k + 1)
  rw [textL_take_succ h, List.length_append] at h1
  exact h1
theorem isBuilder_below {T e : TypeId} {B b : Nat} {bs : List Value} {w w' : World} (h : Lib.IsBuilder T e B b bs w) (hb : Below w.heap.size w w') : Lib.IsBuilder T e B b bs w' := by
  have key : ∀ {p : Value}, Lib.BuilderAt T e B b p bs w → Lib.BuilderAt T e B b p bs w' := fun ⟨h1, v, h2, h3, h4⟩ => ⟨h1, v, (hb.block b (heap_lt h2)).trans h2, own_below h3 hb, h4⟩
  rcases h with h | h
  · exact .inl (key h)
  · exact .inr (key h)
theorem isBuilder_new (w : World) : Lib.IsBuilder 200 5 w.heap.size w.heap.size [] (w.alloc (Obj.cells #[.pointer none, .slice none 0 0] 200)) :=
  .inl ⟨Nat.le_refl _, .slice none 0 0, Blk.new _ _ _, World.ownsRow_nil _ _ _ _, by simp [Value.ownBlock]⟩
theorem byteCells_line (l : List UInt8) (a : Acct) : Lib.byteCells l ++ Lib.strCells (ofL (lineL a)) = Lib.byteCells (l ++ lineL a) := by
  simp [Lib.byteCells, Lib.strCells, ofL]

set_option maxRecDepth 100000 in
set_option maxHeartbeats 1600000 in
theorem text_calls (g b : Nat) (L : List Acct) (w : World) (hT : UTab w g b L) (hl : (textL L).length ≤ 16777216) :
    Calls Tryz.prog 124 #[.pointer (some ⟨g, 0, none⟩)] w fun e w' => e = .returned (.string (ofL (textL L))) ∧ Below w.heap.size w w' := by
  obtain ⟨vl, iv, t1, t2, -⟩ := hT
  obtain ⟨A, c, rfl, hlc, hcm⟩ := t2.len
  unfold maxLen at hcm
  have HL := Lib.hid hl; clear hl
  have HA := Lib.hid t2; clear t2
  have HP := Lib.hid (show Below w.heap.size w (w.alloc (Obj.cells #[.pointer none, .slice none 0 0] 200)) from (Below.refl _ _).alloc (Nat.le_refl _) _)
  have HB := Lib.hid (isBuilder_new w)
  have c0 : (w.alloc (Obj.cells #[.pointer none, .slice none 0 0] 200)).cell? ⟨g, 0, none⟩ = some (.slice A L.length c) := (t1.alloc _).cell 0
  clear t1
  go_enter Tryz.func124, Tryz.ntmps124
  go_wp2_with fail
  go_loopw [11] (fun i wr => ∃ k : Nat, k ≤ L.length ∧ i = .int .i64 k ∧ Lib.IsBuilder 200 5 w.heap.size w.heap.size (Lib.byteCells (textL (L.take k))) wr ∧ Below w.heap.size w wr) (fun i _ => L.length - (intOf i).toNat)
  case atStart => exact ⟨0, by omega, rfl, HB.out, HP.out⟩
  case round =>
    obtain ⟨k, hk, rfl, hbu, hb⟩ := hrel
    have HBU := Lib.hid hbu; clear hbu
    have HBW := Lib.hid hb; clear hb
    clear c0 HB HP
    by_cases hlt : k < L.length
    · obtain ⟨a, hka⟩ : ∃ a, L[k]? = some a := ⟨L[k], List.getElem?_eq_getElem hlt⟩
      have hll := lineL_get hka
      have hlm := lineL_many a
      have hltx := HL.out
      have HA2 := Lib.hid (HA.out.below HBW.out (Nat.le_refl _))
      obtain ⟨g', o, c', mv, hv, _, hms, h0, h1, h2, h3, _⟩ := HA2.out.at_ hka
      injection hv with e1 _ e3
      subst e1; subst e3
      obtain ⟨Am, cm, rfl, -⟩ := id hms
      have HKA := Lib.hid hka; clear hka
      have HMS := Lib.hid (hms.alloc (Obj.cells #[.string a.name, .string a.leader, .slice Am a.members.length cm, .string a.key] 127)); clear hms
      have HBU2 := Lib.hid (isBuilder_below HBU.out ((Below.refl _ _).alloc (Nat.le_refl _) (Obj.cells #[.string a.name, .string a.leader, .slice Am a.members.length cm, .string a.key] 127)))
      have HBW2 := Lib.hid (HBW.out.alloc HBW.out.size (Obj.cells #[.string a.name, .string a.leader, .slice Am a.members.length cm, .string a.key] 127))
      generalize hTK : textL (L.take k) = TK at hll HBU2
      have HTK := Lib.hid hTK; clear hTK
      have HLL := Lib.hid hll; clear hll
      have HLM := Lib.hid hlm; clear hlm
      have HLTX := Lib.hid hltx; clear hltx
      go_wp2_with fail
      refine (written_calls a (.slice Am a.members.length cm) _ HMS.out (by have := HLL.out; have := HLTX.out; omega) (by have := HLL.out; have := HLTX.out; have := HLM.out; omega)).mono ?_
      rintro e w1 ⟨rfl, hb1⟩
      have HBU3 := Lib.hid (isBuilder_below HBU2.out hb1)
      have HBW3 := Lib.hid (HBW2.out.trans (hb1.mono HBW2.out.size))
      clear hb1
      go_wp2_with fail
      refine (writeString_calls w.heap.size w.heap.size (Lib.byteCells TK) (ofL (lineL a)) _ HBU3.out (by have := HLL.out; have := HLTX.out; rw [ofL_size, show (Lib.byteCells TK).length = TK.length from List.length_map ..]; omega) HBW3.out.size).mono ?_
      rintro e w2 ⟨rfl, hb2, hb3⟩
      rw [byteCells_line] at hb2
      have HBU4 := Lib.hid hb2; clear hb2
      have HBW4 := Lib.hid (HBW3.out.trans hb3); clear hb3
      go_wp2_with fail
      go_roundw
      case rel => exact ⟨k + 1, by omega, by go_num, .inr (by rw [textL_take_succ HKA.out, HTK.out]; exact HBU4.out), HBW4.out⟩
      case measure => simp [intOf]; omega
    · have HBU2 := Lib.hid (show Lib.IsBuilder 200 5 w.heap.size w.heap.size (Lib.byteCells (textL L)) wr from by have := HBU.out; rwa [List.take_of_length_le (by omega)] at this)
      go_wp2_with fail
      refine (Tryz.Builder_String_any w.heap.size w.heap.size (textL L) _ HBU2.out HBW.out.size).mono ?_
      rintro e w1 ⟨rfl, hb1⟩
      have HB1 := Lib.hid (HBW.out.trans hb1); clear hb1
      go_wp2_with fail
      go_ret
      exact ⟨rfl, HB1.out⟩
end Go.Proofs.YtlenlldiimohjaaGreatDoor

namespace Go.Proofs.YtlenlldiimohjaaGreatDoor
open Go.ChangeShapes Go.WideShapes Go.ChangeAt Go.RowKit

theorem has_take_succ {l : List ByteArray} {j : Nat} {x : ByteArray} (h : l[j]? = some x) (u : ByteArray) : has (l.take (j + 1)) u = (has (l.take j) u || decide (x = u)) := by
  obtain ⟨hl, rfl⟩ := List.getElem?_eq_some_iff.1 h
  unfold has
  rw [List.take_succ_eq_append_getElem hl, List.any_append]
  simp only [List.any_cons, List.any_nil, Bool.or_false]
theorem isMember_take_succ {L : List Acct} {k : Nat} {a : Acct} (h : L[k]? = some a) (u g : ByteArray) : isMember (L.take (k + 1)) u g = (isMember (L.take k) u g || (decide (a.name = g) && (decide (u = g) || has a.members u))) := by
  obtain ⟨hl, rfl⟩ := List.getElem?_eq_some_iff.1 h
  unfold isMember
  rw [List.take_succ_eq_append_getElem hl, List.any_append]
  simp only [List.any_cons, List.any_nil, Bool.or_false]
/-- In the midst of an account: the first j members are noted. -/
def midMember (L : List Acct) (k : Nat) (a : Acct) (j : Nat) (u g : ByteArray) : Bool := isMember (L.take k) u g || (decide (a.name = g) && (decide (u = g) || has (a.members.take j) u))
theorem mid_zero (L : List Acct) (k : Nat) (a : Acct) (u g : ByteArray) : (isMember (L.take k) u g || (decide (u = a.name) && decide (g = a.name))) = midMember L k a 0 u g := by
  unfold midMember
  congr 1
  have h0 : has (a.members.take 0) u = false := rfl
  rw [h0, Bool.or_false, Bool.eq_iff_iff]
  simp only [Bool.and_eq_true, decide_eq_true_iff]
  constructor
  · rintro ⟨rfl, rfl⟩; exact ⟨rfl, rfl⟩
  · rintro ⟨rfl, rfl⟩; exact ⟨rfl, rfl⟩
theorem mid_succ {L : List Acct} {k : Nat} {a : Acct} {j : Nat} {x : ByteArray} (h : a.members[j]? = some x) (u g : ByteArray) : (midMember L k a j u g || (decide (u = x) && decide (g = a.name))) = midMember L k a (j + 1) u g := by
  unfold midMember
  rw [has_take_succ h, Bool.or_assoc]
  congr 1
  rw [Bool.eq_iff_iff]
  simp only [Bool.and_eq_true, Bool.or_eq_true, decide_eq_true_iff]
  constructor
  · rintro (⟨h1, h2⟩ | ⟨rfl, rfl⟩)
    · exact ⟨h1, h2.elim .inl (fun h => .inr (.inl h))⟩
    · exact ⟨rfl, .inr (.inr rfl)⟩
  · rintro ⟨rfl, h1 | h1 | h1⟩
    · exact .inl ⟨rfl, .inl h1⟩
    · exact .inl ⟨rfl, .inr h1⟩
    · exact .inr ⟨h1.symm, rfl⟩
theorem mid_end {L : List Acct} {k : Nat} {a : Acct} {j : Nat} (h : L[k]? = some a) (hj : a.members.length ≤ j) (u g : ByteArray) : midMember L k a j u g = isMember (L.take (k + 1)) u g := by
  rw [isMember_take_succ h]
  unfold midMember
  rw [List.take_of_length_le hj]

/-- The table of the accounts L at g, its map of names at b, its map of pairs at m. -/
def JTab (w : World) (g b m n : Nat) (L : List Acct) (M : ByteArray → ByteArray → Bool) : Prop :=
  ∃ vl, Blk w g 139 #[vl, .map (some b), .map (some m)] ∧ Accts w vl L ∧ AtMap w b L.length L ∧ InMap w m n M ∧ b ≠ m
section
variable {w w' : World} {g b m n n' : Nat} {L : List Acct} {M M' : ByteArray → ByteArray → Bool}
theorem JTab.below (h : JTab w g b m n L M) (hb : Below w.heap.size w w') : JTab w' g b m n L M := by
  obtain ⟨vl, h1, h2, h3, h4, h5⟩ := h
  exact ⟨vl, h1.below hb h1.lt, h2.below hb (Nat.le_refl _), h3.below hb, h4.below hb, h5⟩
theorem JTab.map (h : JTab w g b m n L M) (hg : w.grownBy w' (some m)) (hm : InMap w' m n' M') : JTab w' g b m n' L M' := by
  obtain ⟨vl, h1, h2, h3, h4, h5⟩ := h
  obtain ⟨es, ck, ho⟩ := h4.obj
  have key : ∀ (i : Nat) cs t fr, w.heap[i]? = some (.cells cs t fr) → w'.heap[i]? = w.heap[i]? := fun i cs t fr hi => hg.block i (heap_lt hi) (by
    intro e
    injection e with e
    subst e
    rw [ho] at hi
    cases hi)
  exact ⟨vl, (key g _ _ _ h1).trans h1, h2.keep (fun i cur e fr hi _ => key i cur e fr hi), h3.keep (fun es ck hb => hg.block b (heap_lt hb) (fun e => h5 (by injection e))), hm, h5⟩
theorem JTab.kept (h : JTab w g b m n L M) (hg : w.grownBy w' (some m)) : Kept w w' := by
  obtain ⟨vl, h1, h2, h3, h4, h5⟩ := h
  obtain ⟨es, ck, ho⟩ := h4.obj
  refine Kept.of_grown hg (fun k hk cs t fr hc => ?_)
  injection hk with hk
  subst hk
  rw [ho] at hc
  cases hc
theorem JTab.as (h : JTab w g b m n L M) (hM : ∀ u g, M u g = M' u g) (hn : n ≤ n') : JTab w g b m n' L M' := by
  obtain ⟨vl, h1, h2, h3, h4, h5⟩ := h
  exact ⟨vl, h1, h2, h3, (h4.mono hn).as hM, h5⟩
end

/-- The program's whole table of the accounts L, at g. -/
def PTab (w : World) (g : Nat) (L : List Acct) : Prop := ∃ b m n, JTab w g b m n L (isMember L)
theorem PTab.below {w w' : World} {g : Nat} {L : List Acct} (h : PTab w g L) (hb : Below w.heap.size w w') : PTab w' g L := by
  obtain ⟨b, m, n, h⟩ := h
  exact ⟨b, m, n, h.below hb⟩

/-- What join does. -/
def Joined (g : Nat) (L : List Acct) (e : Ending) (w' : World) : Prop :=
  if (textL L).length ≤ 65536 then e = .returned (.tuple #[]) ∧ PTab w' g L else e = gaveUp 1
theorem Joined.no {g : Nat} {L : List Acct} {w' : World} (h : ¬ (textL L).length ≤ 65536) : Joined g L (gaveUp 1) w' := by
  unfold Joined; rw [if_neg h]
theorem Joined.yes {g : Nat} {L : List Acct} {w' : World} (h : (textL L).length ≤ 65536) (hp : PTab w' g L) : Joined g L (.returned (.tuple #[])) w' := by
  unfold Joined; rw [if_pos h]; exact ⟨rfl, hp⟩

theorem textL_many (L : List Acct) : L.length ≤ (textL L).length := by
  induction L with
  | nil => simp
  | cons a L ih =>
    have h1 : textL (a :: L) = lineL a ++ textL L := rfl
    have := lineL_many a
    rw [h1]
    simp
    omega

/-- Where join stands. -/
def JAt (w : World) (base g b m n : Nat) (L : List Acct) (M : ByteArray → ByteArray → Bool) (wr : World) : Prop :=
  JTab wr g b m n L M ∧ Below base w wr ∧ Kept w wr ∧ base ≤ m
section
variable {w wr w' : World} {base g b m n n' : Nat} {L : List Acct} {M M' : ByteArray → ByteArray → Bool}
theorem JAt.below (h : JAt w base g b m n L M wr) (hb : Below wr.heap.size wr w') (hbase : base ≤ w.heap.size) : JAt w base g b m n L M w' :=
  ⟨h.1.below hb, h.2.1.trans (hb.mono (Nat.le_trans hbase h.2.2.1.1)), h.2.2.1.trans (Kept.of_below hb), h.2.2.2⟩
theorem JAt.map (h : JAt w base g b m n L M wr) (hg : wr.grownBy w' (some m)) (hm : InMap w' m n' M') (hbase : base ≤ w.heap.size) : JAt w base g b m n' L M' w' :=
  ⟨h.1.map hg hm, h.2.1.grown hg (Nat.le_trans hbase h.2.2.1.1) (fun k hk => by injection hk with hk; subst hk; exact h.2.2.2), h.2.2.1.trans (h.1.kept hg), h.2.2.2⟩
theorem JAt.as (h : JAt w base g b m n L M wr) (hM : ∀ u g, M u g = M' u g) (hn : n ≤ n') : JAt w base g b m n' L M' wr :=
  ⟨h.1.as hM hn, h.2⟩
end

theorem JAt.cell2 {w wr : World} {base g b m n : Nat} {L : List Acct} {M : ByteArray → ByteArray → Bool} (h : JAt w base g b m n L M wr) : wr.cell? ⟨g, 2, none⟩ = some (.map (some m)) := by
  obtain ⟨vl, h1, -⟩ := h.1
  exact h1.cell 2
theorem JAt.step {w wr : World} {base g b m n : Nat} {L : List Acct} {M : ByteArray → ByteArray → Bool} (h : JAt w base g b m n L M wr) (hbase : base ≤ w.heap.size) (x y : ByteArray) (hx : x.size ≤ 16777216) (hy : y.size ≤ 16777216) (hn : n ≤ 16777216) (i : Nat) (hi : i ≤ 16777216)
    {q : Nat} {t : TypeId} {cs : Array Value} (hq : Blk wr q t cs) {v : Value} {l : List ByteArray} (hs : Strs wr v l) {va : Value} (ha : Accts wr va L) :
    ∃ w', (Instr.mapUpdate 137 (.map (some m)) (.agg #[.string x, .string y]) (.int .i64 (i : Nat))).run Tryz.prog wr = .ok () w' ∧ JAt w base g b m (n + 1) L (fun u z => M u z || (decide (u = x) && decide (z = y))) w' ∧ Blk w' q t cs ∧ Strs w' v l ∧ Accts w' va L := by
  obtain ⟨vl, h1, h2, h3, h4, h5⟩ := id h.1
  obtain ⟨w', hrun, him, hgr⟩ := h4.add x y (by omega) (by omega) (by unfold maxLen; omega) i (by omega)
  obtain ⟨es, ck, ho⟩ := h4.obj
  have key : ∀ (i : Nat) cs t fr, wr.heap[i]? = some (.cells cs t fr) → w'.heap[i]? = wr.heap[i]? := fun i cs t fr hi => hgr.block i (heap_lt hi) (by
    intro e
    injection e with e
    subst e
    rw [ho] at hi
    cases hi)
  exact ⟨w', hrun, h.map hgr him hbase, (key q _ _ _ hq).trans hq, hs.keep (fun i cur fr hi => key i cur _ fr hi), ha.keep (fun i cur e fr hi _ => key i cur e fr hi)⟩

theorem jat_start {w w1 : World} {base g b : Nat} {L : List Acct} (hB : Build w base g b L) (hb : Below w.heap.size w w1) (hbase : base ≤ w.heap.size) :
    JAt w base g b w1.heap.size 0 L (fun _ _ => false) ((w1.alloc (Obj.map #[] 0)).setCell ⟨g, 2, none⟩ (.map (some w1.heap.size))) := by
  obtain ⟨vl, h1, h2, h3, h4, h5⟩ := hB.below hb
  have hpre : Below w1.heap.size w1 (w1.alloc (Obj.map #[] 0)) := (Below.refl _ _).alloc (Nat.le_refl _) _
  have hblk := h1.alloc (Obj.map #[] 0)
  have hk1 : Kept w (w1.alloc (Obj.map #[] 0)) := (Kept.of_below hb).trans (Kept.of_below hpre)
  refine ⟨⟨vl, ?_, ?_, (h3.below hpre).setCell hblk, ?_, ?_⟩, ?_, hk1.trans (Kept.of_set hblk), Nat.le_trans hbase hb.size⟩
  · have := hblk.set_ 2 (.map (some w1.heap.size))
    simpa using this
  · refine (h2.accts.below hpre (Nat.le_refl _)).keep (fun i cur e fr hi he => Below.heap_setCell _ _ _ _ ?_)
    rintro rfl
    unfold Blk at hblk
    rw [hblk] at hi
    injection hi with hi
    injection hi with _ ht
    rcases he with rfl | rfl
    · revert ht; decide
    · revert ht; decide
  · refine (InMap.made w1).keep (fun es ck hi => Below.heap_setCell _ _ _ _ ?_)
    rintro rfl
    unfold Blk at hblk
    rw [hblk] at hi
    cases hi
  · have := h3.lt
    omega
  · exact ((hb.mono hbase).alloc (Nat.le_trans hbase hb.size) _).setCell (p := ⟨g, 2, none⟩) h4 _

set_option maxRecDepth 100000 in
set_option maxHeartbeats 3200000 in
theorem join_walk (base g b : Nat) (L : List Acct) (w : World) (hB : Build w base g b L) (hl : (textL L).length ≤ 16777216) (hbase : base ≤ w.heap.size) :
    Calls Tryz.prog 78 #[.pointer (some ⟨g, 0, none⟩)] w fun e w' => Joined g L e w' ∧ Below base w w' ∧ Kept w w' := by
  have hmm := @run_makeMap Tryz.prog
  have HTX := Lib.hid (show (ofL (textL L)).size = (textL L).length from ofL_size _)
  have HB := Lib.hid hB; clear hB
  have HL := Lib.hid hl; clear hl
  have HBS := Lib.hid hbase; clear hbase
  by_cases h : (ofL (textL L)).size ≤ 65536
  case neg =>
    have hd : decide (((ofL (textL L)).size : Int) ≤ 65536) = false := decide_eq_false (by omega)
    have HN := Lib.hid (show ¬ (textL L).length ≤ 65536 from by rw [← HTX.out]; exact h)
    go_enter Tryz.func78, Tryz.ntmps78
    go_wp2_with fail
    refine (text_calls g b L _ HB.out.tab HL.out).mono ?_
    rintro e w1 ⟨rfl, hb1⟩
    have HB1 := Lib.hid hb1; clear hb1
    go_wp2_with fail
    refine (need_f 1 _).mono ?_
    rintro e w2 ⟨rfl, rfl⟩
    exact ⟨rfl, Joined.no HN.out, HB1.out.mono HBS.out, Kept.of_below HB1.out⟩
  case pos =>
    have hd : decide (((ofL (textL L)).size : Int) ≤ 65536) = true := decide_eq_true (by omega)
    have HY := Lib.hid (show (textL L).length ≤ 65536 from by rw [← HTX.out]; exact h)
    go_enter Tryz.func78, Tryz.ntmps78
    go_wp2_with fail
    refine (text_calls g b L _ HB.out.tab HL.out).mono ?_
    rintro e w1 ⟨rfl, hb1⟩
    have HJ := Lib.hid (jat_start HB.out hb1 HBS.out)
    obtain ⟨vl, t1, t2, -⟩ := HB.out.below hb1
    clear hb1
    obtain ⟨A, c, rfl, hlc, hcm⟩ := t2.accts.len
    unfold maxLen at hcm
    have g2 : (w1.alloc (Obj.map #[] 0)).cell? ⟨g, 2, none⟩ = some (.map none) := (t1.alloc _).cell 2
    have f2 : (w1.alloc (Obj.map #[] 0)).frozen? ⟨g, 2, none⟩ = false := (t1.alloc _).frozen 2
    have g0 : ((w1.alloc (Obj.map #[] 0)).setCell ⟨g, 2, none⟩ (.map (some w1.heap.size))).cell? ⟨g, 0, none⟩ = some (.slice A L.length c) := ((t1.alloc (Obj.map #[] 0)).set_ 2 _).cell 0
    clear t1 t2
    go_wp2_with fail
    refine (need_t 1 _).mono ?_
    rintro e w2 ⟨rfl, rfl⟩
    clear h hd
    go_wp2_with fail
    generalize (w1.alloc (Obj.map #[] 0)).setCell ⟨g, 2, none⟩ (.map (some w1.heap.size)) = w2 at HJ g0 ⊢
    generalize w1.heap.size = m at HJ ⊢
    clear hmm f2 g2
    have HAC := Lib.hid (show Accts w2 (.slice A L.length c) L from by
      obtain ⟨vl, b1, b2, -⟩ := HJ.out.1
      have := b1.cell 0
      rw [g0] at this
      injection this with this
      subst this
      exact b2)
    go_loopw [20] (fun i wr => ∃ k n : Nat, k ≤ L.length ∧ i = .int .i64 k ∧ n ≤ (textL (L.take k)).length ∧ Accts wr (.slice A L.length c) L ∧ JAt w base g b m n L (isMember (L.take k)) wr) (fun i _ => L.length - (intOf i).toNat)
    case atStart => exact ⟨0, 0, by omega, rfl, by omega, HAC.out, HJ.out.as (fun _ _ => rfl) (Nat.le_refl _)⟩
    case round =>
      obtain ⟨k, n, hk, rfl, hn, hac, hj⟩ := hrel
      clear HJ HAC g0
      have HN := Lib.hid hn; clear hn
      have HAC := Lib.hid hac; clear hac
      have HJ := Lib.hid hj; clear hj
      by_cases hlt : k < L.length
      · obtain ⟨a, hka⟩ : ∃ a, L[k]? = some a := ⟨L[k], List.getElem?_eq_getElem hlt⟩
        obtain ⟨g', o, c', mv, hv, _, hms, h0, h1, h2, h3, _⟩ := HAC.out.at_ hka
        injection hv with e1 _ e3
        subst e1; subst e3
        obtain ⟨Am, cm, rfl, hm1, hm2, -⟩ := id hms
        unfold maxLen at hm2
        have HKA := Lib.hid hka; clear hka
        have HMS := Lib.hid (hms.alloc (Obj.cells #[.string a.name, .string a.leader, .slice Am a.members.length cm, .string a.key] 127)); clear hms
        have hll := lineL_get HKA.out
        have hlm := lineL_many a
        rw [lineL_len] at hll
        have hns : a.name.size ≤ 16777216 := by have := HL.out; omega
        have hxs : ∀ x ∈ a.members, x.size ≤ 16777216 := by
          intro x hx
          obtain ⟨j, hj⟩ := List.getElem?_of_mem hx
          have := joinL_get [44] a.members j x hj
          have := HL.out
          omega
        rw [← lineL_len] at hll
        have HSP := Lib.hid (show n + 1 + a.members.length ≤ (textL (L.take (k + 1))).length ∧ n + 1 + a.members.length ≤ 16777216 from by
          have := HN.out
          have := HL.out
          rw [textL_take_succ HKA.out, List.length_append]
          omega)
        have HXS := Lib.hid hxs; clear hxs
        clear hll hlm
        have hpre : Below wr.heap.size wr (wr.alloc (Obj.cells #[.string a.name, .string a.leader, .slice Am a.members.length cm, .string a.key] 127)) := (Below.refl _ _).alloc (Nat.le_refl _) _
        have HJ3 := Lib.hid (HJ.out.below hpre HBS.out)
        have HAC3 := Lib.hid (HAC.out.below hpre (Nat.le_refl _))
        have HQ := Lib.hid (Blk.new wr 127 #[.string a.name, .string a.leader, .slice Am a.members.length cm, .string a.key])
        clear hpre
        go_wp2_with fail
        clear h0 h1 h2 h3
        generalize wr.alloc (Obj.cells #[.string a.name, .string a.leader, .slice Am a.members.length cm, .string a.key] 127) = w3 at HJ3 HAC3 HQ HMS ⊢
        generalize wr.heap.size = q at HQ ⊢
        clear HJ HAC HN
        have HJ4 := Lib.hid (HJ3.out.below (below_drew w3) HBS.out)
        have HQ4 := Lib.hid (show Blk w3.drew q 127 #[.string a.name, .string a.leader, .slice Am a.members.length cm, .string a.key] from HQ.out)
        obtain ⟨w4, hrun, hj4, hq4, hs4, ha4⟩ := HJ4.out.step HBS.out a.name a.name hns hns (by have := HSP.out; omega) k (by have := lineL_many a; have := HL.out; have := textL_many L; omega) HQ4.out HMS.out.drew HAC3.out.drew
        have g2 : w3.drew.cell? ⟨g, 2, none⟩ = some (.map (some m)) := HJ4.out.cell2
        have a0 : w3.drew.cell? ⟨q, 0, none⟩ = some (.string a.name) := HQ4.out.cell 0
        have HJ5 := Lib.hid (hj4.as (M' := midMember L k a 0) (mid_zero L k a) (Nat.le_refl _)); clear hj4
        have HQ5 := Lib.hid hq4; clear hq4
        have HS5 := Lib.hid hs4; clear hs4
        have HAC5 := Lib.hid ha4; clear ha4
        clear HJ3 HJ4 HQ4 HQ HMS HAC3
        go_region
        clear hrun g2 a0
        have a2 : w4.cell? ⟨q, 2, none⟩ = some (.slice Am a.members.length cm) := HQ5.out.cell 2
        go_wp2_with fail
        clear a2
        go_loopw [38] (fun i wi => ∃ j : Nat, j ≤ a.members.length ∧ i = .int .i64 j ∧ JAt w base g b m (n + 1 + j) L (midMember L k a j) wi ∧ Blk wi q 127 #[.string a.name, .string a.leader, .slice Am a.members.length cm, .string a.key] ∧ Strs wi (.slice Am a.members.length cm) a.members ∧ Accts wi (.slice (some ⟨g', o, none⟩) L.length c) L) (fun i _ => a.members.length - (intOf i).toNat)
        case atStart => exact ⟨0, by omega, rfl, HJ5.out, HQ5.out, HS5.out, HAC5.out⟩
        case round =>
          obtain ⟨j, hj, rfl, hj1, hj2, hj3, hj4⟩ := hrel
          clear HJ5 HQ5 HS5 HAC5
          by_cases hlj : j < a.members.length
          · obtain ⟨x, hx⟩ : ∃ x, a.members[j]? = some x := ⟨a.members[j], List.getElem?_eq_getElem hlj⟩
            obtain ⟨gg, oo, c', hv, _, x0⟩ := hj3.at_ hx
            injection hv with e1 _ e3
            subst e1; subst e3
            have hxz := HXS.out x (List.mem_of_getElem? hx)
            have HX := Lib.hid hx; clear hx
            have HA4 := Lib.hid hj4; clear hj4
            have HS3 := Lib.hid hj3; clear hj3
            have HQ2 := Lib.hid hj2; clear hj2
            have HJ1 := Lib.hid hj1; clear hj1
            go_wp2_with fail
            clear x0
            have HJ2 := Lib.hid (HJ1.out.below (below_drew wr) HBS.out)
            have HQ3 := Lib.hid (show Blk wr.drew q 127 #[.string a.name, .string a.leader, .slice (some ⟨gg, oo, none⟩) a.members.length cm, .string a.key] from HQ2.out)
            obtain ⟨w5, hrun, hj5, hq5, hs5, ha5⟩ := HJ2.out.step HBS.out x a.name hxz hns (by have := HSP.out; omega) k (by have := lineL_many a; have := HL.out; have := textL_many L; omega) HQ3.out HS3.out.drew HA4.out.drew
            have g2 : wr.drew.cell? ⟨g, 2, none⟩ = some (.map (some m)) := HJ2.out.cell2
            have a0 : wr.drew.cell? ⟨q, 0, none⟩ = some (.string a.name) := HQ3.out.cell 0
            have HJ5 := Lib.hid (hj5.as (M' := midMember L k a (j + 1)) (mid_succ HX.out) (Nat.le_refl _)); clear hj5
            have HQ5 := Lib.hid hq5; clear hq5
            have HS5 := Lib.hid hs5; clear hs5
            have HAC5 := Lib.hid ha5; clear ha5
            clear HJ1 HJ2 HQ2 HQ3 HS3 HA4
            go_region
            clear hrun g2 a0
            go_wp2_with fail
            go_roundw
            case rel => exact ⟨j + 1, by omega, by go_num, HJ5.out, HQ5.out, HS5.out, HAC5.out⟩
            case measure => simp [intOf]; omega
          · have HJ6 := Lib.hid (hj1.as (M' := isMember (L.take (k + 1))) (mid_end HKA.out (by omega)) (Nat.le_refl _)); clear hj1
            have HAC6 := Lib.hid hj4; clear hj4
            clear hj2 hj3
            go_wp2_with fail
            go_roundw
            case rel => exact ⟨k + 1, n + 1 + j, by omega, by go_num, by have := HSP.out; omega, HAC6.out, HJ6.out⟩
            case measure => simp [intOf]; omega
      · have HF := Lib.hid (HJ.out.as (M' := isMember L) (fun u g => by rw [List.take_of_length_le (by omega)]) (Nat.le_refl _))
        go_wp2_with fail
        go_end0
        exact ⟨Joined.yes HY.out ⟨b, m, _, HF.out.1⟩, HF.out.2.1, HF.out.2.2.1⟩
end Go.Proofs.YtlenlldiimohjaaGreatDoor

namespace Go.Proofs.YtlenlldiimohjaaGreatDoor
open Go.ChangeShapes Go.WideShapes Go.ChangeAt Go.RowKit

theorem assert_trouble (er : Int) (w : World) : (Instr.typeAssert (.iface 182 (.agg #[.int .i64 er])) 20 182 true).run Tryz.prog w = .ok (.tuple #[.agg #[.int .i64 er], .bool true]) w := by kernel_rfl

set_option maxRecDepth 100000 in
set_option maxHeartbeats 1600000 in
theorem catch_panicking (q : Nat) (x er : Int) (older : List PanicEntry) (w : World) (hq : Blk w q 41 #[.int .i64 x]) :
    CallsD Tryz.prog 120 #[.pointer (some ⟨q, 0, none⟩)] (.panicking ({ v := .iface 182 (.agg #[.int .i64 er]), recovered := false } :: older)) w fun e u' w' =>
      e = .returned (.tuple #[]) ∧ u' = .panicking ({ v := .iface 182 (.agg #[.int .i64 er]), recovered := true } :: older) ∧ w' = (w.alloc (.cells #[.int .i64 er] 182)).setCell ⟨q, 0, none⟩ (.int .i64 er) := by
  have hc := (hq.alloc (.cells #[.int .i64 er] 182)).cell 0
  have hz := (hq.alloc (.cells #[.int .i64 er] 182)).frozen 0
  clear hq
  refine callsD_of_wpS Tryz.func120 rfl fun c₀ cs hu => ?_
  apply wpS_seq
  apply wpS_region
  simp [wpOpsS, go_sem, recoverD, hu, Tryz.ntmps120, Exit.thenS]
  have key : ∀ V p : Value, #[p] ++ ((Array.replicate 16 undef).setIfInBounds 3 V).setIfInBounds 0 V = #[p, V, undef, undef, V, undef, undef, undef, undef, undef, undef, undef, undef, undef, undef, undef, undef] := fun _ _ => rfl
  rw [key]
  clear key
  have hta := assert_trouble er
  refine wpS_of_wp ?_
  go_wp2
  cases c₀
  simp_all [bodyPostS, results, Tryz.results120]

set_option maxRecDepth 100000 in
theorem catch_idle (p : Addr) (w : World) :
    CallsD Tryz.prog 120 #[.pointer (some p)] .returning w fun e u' w' => e = .returned (.tuple #[]) ∧ u' = .returning ∧ w' = w := by
  refine callsD_of_wpS Tryz.func120 rfl fun c₀ cs hu => ?_
  apply wpS_seq
  apply wpS_region
  simp [wpOpsS, go_sem, recoverD, hu, Tryz.ntmps120, Exit.thenS]
  generalize hT : #[Value.pointer (some p)] ++ ((Array.replicate 16 undef).setIfInBounds 3 Value.nilIface).setIfInBounds 0 Value.nilIface = T
  obtain rfl : T = #[Value.pointer (some p), Value.nilIface, undef, undef, Value.nilIface, undef, undef, undef, undef, undef, undef, undef, undef, undef, undef, undef, undef] := hT.symm.trans rfl
  clear hT
  refine wpS_of_wp ?_
  go_wp2
  cases c₀
  simp_all [bodyPostS, results, Tryz.results120]

/-- What guard is told of the function that it calls: from the world w on (in which the error lies in block q) it returns, or gives up by an error. -/
def Tried (q : Nat) (R : Option Int → World → Prop) (e : Ending) (w' : World) : Prop :=
  Blk w' q 41 #[.int .i64 0] ∧ ((e = .returned (.tuple #[]) ∧ R none w') ∨ ∃ er, e = gaveUp er ∧ R (some er) w')
/-- What guard does. -/
def Guarded (q : Nat) (R : Option Int → World → Prop) (e : Ending) (w' : World) : Prop :=
  ∃ r w1, R r w1 ∧ Blk w1 q 41 #[.int .i64 0] ∧ e = .returned (.int .i64 (r.getD 0)) ∧ Below q w1 w' ∧ ∀ i, i < w1.heap.size → i ≠ q → w'.heap[i]? = w1.heap[i]?

set_option maxRecDepth 100000 in
set_option maxHeartbeats 1600000 in
theorem guard_calls (K : Nat) (caps : Array Value) (w : World) (R : Option Int → World → Prop)
    (hent : ∀ w, Sem.run Tryz.prog (callFunc K caps) w = .ok (.enter K caps) w) (H : Calls Tryz.prog K caps (w.alloc (.cells #[.int .i64 0] 41)) (Tried w.heap.size R)) :
    Calls Tryz.prog 70 #[.func (.func K) #[] caps] w (Guarded w.heap.size R) := by
  have hmf : ∀ (fn : Fn) (first cap : Array Value) (w : World), (Instr.makeFunc fn first cap).run Tryz.prog w = .ok (.func fn first cap) w := fun _ _ _ _ => rfl
  have HH := Lib.hid H; clear H
  go_enter_defers Tryz.func70, Tryz.ntmps70
  go_wp2_with fail
  refine HH.out.mono ?_
  clear hent
  rintro e w1 ⟨hq, ⟨rfl, hr⟩ | ⟨er, rfl, hr⟩⟩
  · have HR := Lib.hid hr; clear hr
    have c0 := hq.cell 0
    have f0 := hq.frozen 0
    have HQ := Lib.hid hq; clear hq
    go_wp2_with fail
    clear c0 f0
    have hb := HQ.out.set_ 0 (.int .i64 0)
    have c0 : (w1.setCell ⟨w.heap.size, 0, none⟩ (.int .i64 0)).cell? ⟨w.heap.size, 0, none⟩ = some (.int .i64 0) := hb.cell 0
    clear hb
    refine leaves_cons (f := 120) (args := #[.pointer (some ⟨w.heap.size, 0, none⟩)]) (by simp) (by simp [go_sem]) ?_
    refine (catch_idle _ _).mono ?_
    rintro e u' w'' ⟨rfl, rfl, rfl⟩
    refine ⟨.int .i64 0, by simp [results, Tryz.results70, go_sem, c0], ?_⟩
    exact ⟨none, w1, HR.out, HQ.out, rfl, (Below.refl _ _).setCell (p := ⟨w.heap.size, 0, none⟩) (Nat.le_refl _) _, fun i _ hi => Below.heap_setCell _ _ _ _ hi⟩
  · have HR := Lib.hid hr; clear hr
    have HQ := Lib.hid hq; clear hq
    show bodyPostD _ _ _ _ _ _
    refine leaves_cons (f := 120) (args := #[.pointer (some ⟨w.heap.size, 0, none⟩)]) (by simp) (by simp [go_sem]) ?_
    refine (catch_panicking _ _ _ _ _ HQ.out).mono ?_
    rintro e u' w'' ⟨rfl, rfl, rfl⟩
    have hb := (HQ.out.alloc (.cells #[.int .i64 er] 182)).set_ 0 (.int .i64 er)
    have c0 : ((w1.alloc (.cells #[.int .i64 er] 182)).setCell ⟨w.heap.size, 0, none⟩ (.int .i64 er)).cell? ⟨w.heap.size, 0, none⟩ = some (.int .i64 er) := hb.cell 0
    clear hb
    refine ⟨.int .i64 er, by simp [results, Tryz.results70, go_sem, c0], ?_⟩
    exact ⟨some er, w1, HR.out, HQ.out, rfl, ((Below.refl _ _).alloc (Nat.le_of_lt HQ.out.lt) _).setCell (p := ⟨w.heap.size, 0, none⟩) (Nat.le_refl _) _, fun i hl hi => (Below.heap_setCell _ _ _ _ hi).trans (Below.heap_alloc _ _ _ hl)⟩
end Go.Proofs.YtlenlldiimohjaaGreatDoor

namespace Go.Proofs.YtlenlldiimohjaaGreatDoor
open Go.ChangeShapes Go.WideShapes Go.ChangeAt Go.RowKit

/-- Blocks of cells of other types than a reader's own stay. -/
def KeptP (w w' : World) : Prop := w.heap.size ≤ w'.heap.size ∧ ∀ (i : Nat) cs t fr, w.heap[i]? = some (Obj.cells cs t fr) → t = 9 ∨ t = 37 ∨ t = 41 → w'.heap[i]? = w.heap[i]?
theorem KeptP.refl (w : World) : KeptP w w := ⟨Nat.le_refl _, fun _ _ _ _ _ _ => rfl⟩
theorem KeptP.trans {a b c : World} (h : KeptP a b) (k : KeptP b c) : KeptP a c :=
  ⟨Nat.le_trans h.1 k.1, fun i cs t fr hi h1 => (k.2 i cs t fr ((h.2 i cs t fr hi h1).trans hi) h1).trans (h.2 i cs t fr hi h1)⟩
theorem KeptP.of_below {a b : World} (h : Below a.heap.size a b) : KeptP a b := ⟨h.size, fun i _ _ _ hi _ => h.block i (heap_lt hi)⟩
theorem KeptP.of_kept {a b : World} (h : Kept a b) : KeptP a b := ⟨h.1, fun i cs t fr hi h1 => h.2 i cs t fr hi (by rcases h1 with rfl | rfl | rfl <;> decide) (by rcases h1 with rfl | rfl | rfl <;> decide)⟩
theorem KeptP.of_set {a : World} {g k : Nat} {cs : Array Value} {t : TypeId} {v : Value} (h : Blk a g t cs) (h1 : t ≠ 9) (h2 : t ≠ 37) (h3 : t ≠ 41) : KeptP a (a.setCell ⟨g, k, none⟩ v) :=
  ⟨by simp, fun i cs' t' fr hi hne => Below.heap_setCell _ _ _ _ (by
    rintro rfl
    unfold Blk at h
    rw [h] at hi
    injection hi with hi
    injection hi with _ ht
    rcases hne with h | h | h
    · exact h1 (ht.trans h)
    · exact h2 (ht.trans h)
    · exact h3 (ht.trans h))⟩
theorem KeptP.of_own {a b : World} {base e size n : Nat} {v : Value} {xs : List Value} (ho : a.ownsRow base e size v n xs) (h : a.grownBy b v.ownBlock) (h1 : e ≠ 9) (h2 : e ≠ 37) (h3 : e ≠ 41) : KeptP a b :=
  ⟨h.size, fun i cs t fr hi hne => h.block i (heap_lt hi) (own_apart ho hi (by
    rcases hne with rfl | rfl | rfl
    · exact h1.symm
    · exact h2.symm
    · exact h3.symm))⟩

theorem Blk.setOther {w : World} {g q k : Nat} {t t' : TypeId} {cs cs' : Array Value} {v : Value} (h : Blk w g t cs) (h' : Blk w q t' cs') (hne : t ≠ t') : Blk (w.setCell ⟨q, k, none⟩ v) g t cs := h.far (Blk.ne_ h h' hne) v

theorem Build.setCell {w : World} {base g b q k : Nat} {L : List Acct} {t : TypeId} {cs : Array Value} {v : Value} (h : Build w base g b L) (hq : Blk w q t cs) (h1 : t ≠ 9) (h2 : t ≠ 127) (h3 : t ≠ 139) : Build (w.setCell ⟨q, k, none⟩ v) base g b L := by
  obtain ⟨vl, b1, b2, b3, b4⟩ := h
  exact ⟨vl, b1.setOther hq (Ne.symm h3), b2.setCell hq h1 h2, b3.setCell hq, b4⟩
theorem Build.grown {w w' : World} {base g b : Nat} {L : List Acct} {e size n base' : Nat} {u : Value} {ys : List Value} (h : Build w base g b L) (ho : w.ownsRow base' e size u n ys) (hg : w.grownBy w' u.ownBlock) (h1 : 9 ≠ e) (h2 : 127 ≠ e) (h3 : 139 ≠ e) : Build w' base g b L := by
  obtain ⟨vl, b1, b2, b3, b4⟩ := h
  refine ⟨vl, b1.grown hg (own_apart ho b1 h3), b2.grown ho hg h1 h2, b3.keep (fun es ck hb => hg.block b (heap_lt hb) (fun he => ?_)), b4⟩
  obtain ⟨cc, fz, hk⟩ := Go.Lib.ownsRow_kind ho b he.symm
  rw [hb] at hk
  cases hk
theorem own_kept {w w' : World} {base size n : Nat} {v : Value} {xs : List Value} (h : w.ownsRow base 3 size v n xs) (hk : Kept w w') : w'.ownsRow base 3 size v n xs := by
  refine ⟨h.1, ?_⟩
  rcases h.2 with h0 | ⟨gg, cap, cur, hv, hbg, hgc, hr⟩
  · exact .inl h0
  · exact .inr ⟨gg, cap, cur, hv, hbg, (hk.2 gg _ _ _ hgc (by decide) (by decide)).trans hgc, hr⟩
theorem Kept.blk {w w' : World} (hk : Kept w w') {g : Nat} {t : TypeId} {cs : Array Value} (h : Blk w g t cs) (h1 : t ≠ 139) (h2 : t ≠ 127) : Blk w' g t cs := (hk.2 g _ _ _ h h1 h2).trans h

/-- The variables of the inner function, while lines are read: the place (block pa), the table (its pointer in block pv), the places of the accounts (block pp). w0: when Parse was entered; W: when the inner one was. -/
def At1 (w0 W : World) (g b pa pv pp : Nat) (lv : Value) (lines : List ByteArray) (L : List Acct) (P : List Nat) (vp : Value) (at_ : Nat) (wr : World) : Prop :=
  Build wr w0.heap.size g b L ∧ Blk wr pp 67 #[vp] ∧ wr.ownsRow w0.heap.size 3 1 vp P.length (P.map fun p : Nat => Value.int .i64 (p : Int)) ∧ vp.ownBlock ≠ some pa ∧
    Blk wr pa 3 #[.int .i64 (at_ : Int)] ∧ Blk wr pv 37 #[.pointer (some ⟨g, 0, none⟩)] ∧ Strs wr lv lines ∧ Below w0.heap.size w0 wr ∧ KeptP W wr
section
variable {w0 W wr w' : World} {g b pa pv pp : Nat} {lv vp : Value} {lines : List ByteArray} {L : List Acct} {P : List Nat} {at_ : Nat}
theorem At1.below (h : At1 w0 W g b pa pv pp lv lines L P vp at_ wr) (hb : Below wr.heap.size wr w') : At1 w0 W g b pa pv pp lv lines L P vp at_ w' := by
  obtain ⟨h1, h2, h3, h4, h5, h6, h7, h8, h9⟩ := h
  exact ⟨h1.below hb, h2.below hb h2.lt, own_below h3 hb, h4, h5.below hb h5.lt, h6.below hb h6.lt, h7.below hb (Nat.le_refl _), h8.trans (hb.mono h8.size), h9.trans (KeptP.of_below hb)⟩
theorem At1.set_ (h : At1 w0 W g b pa pv pp lv lines L P vp at_ wr) (n : Nat) (hpa : w0.heap.size ≤ pa) : At1 w0 W g b pa pv pp lv lines L P vp n (wr.setCell ⟨pa, 0, none⟩ (.int .i64 (n : Int))) := by
  obtain ⟨h1, h2, h3, h4, h5, h6, h7, h8, h9⟩ := h
  refine ⟨h1.setCell h5 (by decide) (by decide) (by decide), h2.setOther h5 (by decide), ⟨h3.1, ?_⟩, h4, by simpa using h5.set_ 0 (.int .i64 (n : Int)), h6.setOther h5 (by decide), h7.setCell h5 (by decide), h8.setCell hpa _, h9.trans (KeptP.of_set h5 (by decide) (by decide) (by decide))⟩
  rcases h3.2 with h0 | ⟨gg, cap, cur, hv, hbg, hgc, hr⟩
  · exact .inl h0
  · refine .inr ⟨gg, cap, cur, hv, hbg, (Below.heap_setCell _ _ _ _ ?_).trans hgc, hr⟩
    rintro rfl
    exact h4 (by rw [hv]; rfl)
theorem At1.add {a : Acct} (h : At1 w0 W g b pa pv pp lv lines L P vp at_ wr) (hb : Build w' w0.heap.size g b (L ++ [a])) (hbl : Below w0.heap.size wr w') (hk : Kept wr w') : At1 w0 W g b pa pv pp lv lines (L ++ [a]) P vp at_ w' := by
  obtain ⟨h1, h2, h3, h4, h5, h6, h7, h8, h9⟩ := h
  exact ⟨hb, hk.blk h2 (by decide) (by decide), own_kept h3 hk, h4, hk.blk h5 (by decide) (by decide), hk.blk h6 (by decide) (by decide), hk.strs h7, h8.trans hbl, h9.trans (KeptP.of_kept hk)⟩
theorem At1.grow {v' : Value} {o : Obj} {n : Nat} (h : At1 w0 W g b pa pv pp lv lines L P vp at_ wr) (ho : w'.ownsRow w0.heap.size 3 1 v' (P.length + 1) ((P.map fun p : Nat => Value.int .i64 (p : Int)) ++ [.int .i64 (n : Int)])) (hg : (wr.alloc o).grownBy w' vp.ownBlock)
    (hv : v'.ownBlock = vp.ownBlock ∨ v'.ownBlock = some (wr.alloc o).heap.size) (hpp : w0.heap.size ≤ pp) : At1 w0 W g b pa pv pp lv lines L (P ++ [n]) v' at_ (w'.setCell ⟨pp, 0, none⟩ v') := by
  have h0 : At1 w0 W g b pa pv pp lv lines L P vp at_ (wr.alloc o) := h.below ((Below.refl _ _).alloc (Nat.le_refl _) o)
  obtain ⟨h1, h2, h3, h4, h5, h6, h7, h8, h9⟩ := h0
  have k2 := h2.grown hg (own_apart h3 h2 (by decide))
  have k5 := h5.grown hg (Ne.symm h4)
  refine ⟨(h1.grown h3 hg (by decide) (by decide) (by decide)).setCell k2 (by decide) (by decide) (by decide), by simpa using k2.set_ 0 v', ?_, ?_, k5.setOther k2 (by decide), (h6.grown hg (own_apart h3 h6 (by decide))).setOther k2 (by decide), (h7.grown h3 hg (by decide)).setCell k2 (by decide), (h8.grown hg h8.size (fun k hk => (h3.lt k hk).1)).setCell hpp _, (h9.trans (KeptP.of_own h3 hg (by decide) (by decide) (by decide))).trans (KeptP.of_set k2 (by decide) (by decide) (by decide))⟩
  · rw [List.length_append, List.map_append]
    exact own_setCell ho k2 (by decide)
  · rcases hv with e | e
    · rw [e]; exact h4
    · rw [e]
      intro he
      injection he with he
      have := h5.lt
      omega
theorem At1.ready (h : At1 w0 W g b pa pv pp lv lines L P vp at_ wr) (hr : Ready w0) : Ready wr := hr.below h.2.2.2.2.2.2.2.1 (Nat.le_refl _)
theorem At1.strs (h : At1 w0 W g b pa pv pp lv lines L P vp at_ wr) : Strs wr lv lines := h.2.2.2.2.2.2.1
theorem At1.build (h : At1 w0 W g b pa pv pp lv lines L P vp at_ wr) : Build wr w0.heap.size g b L := h.1
theorem At1.cv (h : At1 w0 W g b pa pv pp lv lines L P vp at_ wr) : wr.cell? ⟨pv, 0, none⟩ = some (.pointer (some ⟨g, 0, none⟩)) := h.2.2.2.2.2.1.cell 0
theorem At1.ca (h : At1 w0 W g b pa pv pp lv lines L P vp at_ wr) : wr.cell? ⟨pa, 0, none⟩ = some (.int .i64 (at_ : Int)) := h.2.2.2.2.1.cell 0
theorem At1.fa (h : At1 w0 W g b pa pv pp lv lines L P vp at_ wr) : wr.frozen? ⟨pa, 0, none⟩ = false := h.2.2.2.2.1.frozen 0
theorem At1.cp (h : At1 w0 W g b pa pv pp lv lines L P vp at_ wr) : wr.cell? ⟨pp, 0, none⟩ = some vp := h.2.1.cell 0
theorem At1.own (h : At1 w0 W g b pa pv pp lv lines L P vp at_ wr) : wr.ownsRow w0.heap.size 3 1 vp P.length (P.map fun p : Nat => Value.int .i64 (p : Int)) := h.2.2.1
theorem At1.low (h : At1 w0 W g b pa pv pp lv lines L P vp at_ wr) : Below w0.heap.size w0 wr := h.2.2.2.2.2.2.2.1
theorem At1.kept (h : At1 w0 W g b pa pv pp lv lines L P vp at_ wr) : KeptP W wr := h.2.2.2.2.2.2.2.2
theorem At1.blk (h : At1 w0 W g b pa pv pp lv lines L P vp at_ wr) : Blk wr pa 3 #[.int .i64 (at_ : Int)] := h.2.2.2.2.1
end

theorem Build.look {w : World} {base g b : Nat} {L : List Acct} (h : Build w base g b L) (s : ByteArray) (hs : s.size ≤ 16777216) :
    (Instr.lookup 136 (.map (some b)) (.string s) true).run Tryz.prog w = .ok (.tuple #[.int .i64 (ix L s : Nat), .bool (known L s)]) w := by
  obtain ⟨vl, b1, b2, b3, b4⟩ := h
  exact b3.look s (by unfold maxLen; omega)

theorem Accts.setCell {w : World} {va v : Value} {L : List Acct} {q k : Nat} {t : TypeId} {cs : Array Value} (h : Accts w va L) (hq : Blk w q t cs) (h1 : t ≠ 9) (h2 : t ≠ 127) : Accts (w.setCell ⟨q, k, none⟩ v) va L :=
  h.keep fun i cur e fr hi he => Below.heap_setCell _ _ _ _ (by
    rintro rfl
    unfold Blk at hq
    rw [hq] at hi
    injection hi with hi
    injection hi with _ ht
    rcases he with he | he
    · exact h1 (ht.trans he)
    · exact h2 (ht.trans he))

/-- How many bytes the lines are, one for each line's end with them. -/
def sumL (l : List ByteArray) : Nat := (l.map fun x => x.size + 1).sum
theorem sumL_cut (c : UInt8) (s : ByteArray) : sumL (cut c s) = s.size + 1 := by
  have h := cutL_sum c s.data.toList
  unfold sumL cut
  rw [List.map_map]
  have : ((cutL c s.data.toList).map ((fun x : ByteArray => x.size + 1) ∘ ofL)) = (cutL c s.data.toList).map (fun x => x.length + 1) := List.map_congr_left fun x _ => by simp [ofL_size]
  rw [this, h]
  simp
theorem sumL_take_succ {l : List ByteArray} {k : Nat} {x : ByteArray} (h : l[k]? = some x) : sumL (l.take (k + 1)) = sumL (l.take k) + (x.size + 1) := by
  obtain ⟨hl, rfl⟩ := List.getElem?_eq_some_iff.1 h
  unfold sumL
  rw [List.take_succ_eq_append_getElem hl, List.map_append, List.sum_append]
  simp
theorem sumL_take_le (l : List ByteArray) (k : Nat) : sumL (l.take k) ≤ sumL l := by
  conv => rhs; rw [← List.take_append_drop k l]
  unfold sumL
  rw [List.map_append, List.sum_append]
  omega
theorem small_of_line {a : Acct} (h : (lineL a).length ≤ 16777216) : Small a := by
  have hl := lineL_len a
  have hm := joinL_many [44] (by simp) a.members
  refine ⟨by omega, by omega, by omega, ?_⟩
  intro x hx
  obtain ⟨j, hj⟩ := List.getElem?_of_mem hx
  have := joinL_get [44] a.members j x hj
  omega

/-- What the inner function does. -/
def P1Post (text : ByteArray) (w0 W : World) (g pa : Nat) (e : Ending) (w' : World) : Prop :=
  Below w0.heap.size w0 w' ∧ KeptP W w' ∧ match parse text with
    | .error (er, ln) => e = gaveUp er ∧ Blk w' pa 3 #[.int .i64 (ln : Int)]
    | .ok L => e = .returned (.tuple #[]) ∧ PTab w' g L
theorem P1Post.err {text : ByteArray} {w0 W w' : World} {g pa : Nat} {er : Int} {ln : Nat} (h : parse text = .error (er, ln)) (h1 : Below w0.heap.size w0 w') (h2 : KeptP W w') (h3 : Blk w' pa 3 #[.int .i64 (ln : Int)]) : P1Post text w0 W g pa (gaveUp er) w' := by
  refine ⟨h1, h2, ?_⟩
  rw [h]
  exact ⟨rfl, h3⟩
theorem P1Post.ok {text : ByteArray} {w0 W w' : World} {g pa : Nat} {L : List Acct} (h : parse text = .ok L) (h1 : Below w0.heap.size w0 w') (h2 : KeptP W w') (h3 : PTab w' g L) : P1Post text w0 W g pa (.returned (.tuple #[])) w' := by
  refine ⟨h1, h2, ?_⟩
  rw [h]
  exact ⟨rfl, h3⟩
theorem known_of_find (L : List Acct) (s : ByteArray) : known L s = true ∨ known L s = false := by cases known L s <;> simp
end Go.Proofs.YtlenlldiimohjaaGreatDoor

namespace Go.Proofs.YtlenlldiimohjaaGreatDoor
open Go.ChangeShapes Go.WideShapes Go.ChangeAt Go.RowKit

set_option maxRecDepth 100000 in
set_option maxHeartbeats 6400000 in
theorem parse1_calls (text : ByteArray) (w0 W : World) (g b pt pa pv pp : Nat) (hr : Ready w0) (hsz : ¬ 65536 < text.size)
    (ht : Blk W pt 9 #[.string text]) (hB : Build W w0.heap.size g b []) (hp : Blk W pp 67 #[.slice none 0 0]) (ha : Blk W pa 3 #[.int .i64 0]) (hv : Blk W pv 37 #[.pointer (some ⟨g, 0, none⟩)])
    (hlow : Below w0.heap.size w0 W) (hpa : w0.heap.size ≤ pa) (hpp : w0.heap.size ≤ pp) :
    Calls Tryz.prog 71 #[.pointer (some ⟨pt, 0, none⟩), .pointer (some ⟨pa, 0, none⟩), .pointer (some ⟨pv, 0, none⟩), .pointer (some ⟨pp, 0, none⟩)] W (P1Post text w0 W g pa) := by
  obtain ⟨j0, hi0, hz0, hz1, hz2⟩ := info_parts int_info
  have JI := Lib.hid hi0; clear hi0
  have JZ0 := Lib.hid hz0; clear hz0
  have JZ1 := Lib.hid hz1; clear hz1
  have JZ2 := Lib.hid hz2; clear hz2
  have hcl := cut_length 10 text
  have hsl := sumL_cut 10 text
  have hcs : ∀ x ∈ cut 10 text, x.size ≤ 65536 := fun x hx => by have := cut_size hx; omega
  have c0 : W.cell? ⟨pt, 0, none⟩ = some (.string text) := ht.cell 0
  have HR := Lib.hid hr; clear hr
  have HPA := Lib.hid hpa; clear hpa
  have HPP := Lib.hid hpp; clear hpp
  have hsz2 : text.size ≤ 16777216 := by omega
  have HRW := Lib.hid (HR.out.below hlow (Nat.le_refl _))
  go_enter Tryz.func71, Tryz.ntmps71
  go_wp2_with fail
  refine (split_calls text 10 _ HRW.out hsz2).mono ?_
  rintro e w1 ⟨vl, rfl, hvl, hb1⟩
  have HA := Lib.hid (show At1 w0 W g b pa pv pp vl (cut 10 text) [] [] (.slice none 0 0) 0 w1 from
    ⟨hB.below hb1, hp.below hb1 hp.lt, World.ownsRow_nil _ _ _ _, by simp [Value.ownBlock], ha.below hb1 ha.lt, hv.below hb1 hv.lt, hvl, hlow.trans (hb1.mono hlow.size), KeptP.of_below hb1⟩)
  clear hB hp ha hv ht hlow hb1 c0 HRW
  generalize hlines : cut 10 text = lines at HA hcl hcs hsl hvl
  have HLN := Lib.hid hlines; clear hlines
  have hln : lines.length ≤ 65537 := by omega
  have HCS := Lib.hid hcs; clear hcs
  have HSL := Lib.hid (show sumL lines ≤ 65537 by omega); clear hsl
  clear hcl
  have HBIG := Lib.hid hsz; clear hsz
  obtain ⟨A, c, rfl, hlc, hcm, -⟩ := hvl
  unfold maxLen at hcm
  go_wp2_with fail
  go_loopw [14] (fun i wr => ∃ (L : List Acct) (P : List Nat) (vp : Value) (k n : Nat), i = .int .i64 k ∧ k ≤ lines.length ∧ L.length ≤ k ∧ P.length = L.length ∧ At1 w0 W g b pa pv pp (.slice A lines.length c) lines L P vp n wr ∧ (textL L).length ≤ sumL (lines.take k) ∧ readLines lines 0 [] [] = readLines (lines.drop k) k L P) (fun i _ => lines.length - (intOf i).toNat)
  case atStart => exact ⟨[], [], _, 0, 0, rfl, by omega, by simp, rfl, HA.out, by simp [textL], rfl⟩
  case round =>
    obtain ⟨L, P, vp, k, n, rfl, hk, hLk, hPL, hat, htx, hrd⟩ := hrel
    clear HA
    have HPL := Lib.hid hPL; clear hPL
    have HA := Lib.hid hat; clear hat
    have HTX := Lib.hid htx; clear htx
    have HRD := Lib.hid hrd; clear hrd
    by_cases hlt : k < lines.length
    · obtain ⟨x, hkx⟩ : ∃ x, lines[k]? = some x := ⟨lines[k], List.getElem?_eq_getElem hlt⟩
      obtain ⟨g', o, c', hv, _, h0⟩ := HA.out.strs.at_ hkx
      injection hv with e1 _ e3
      subst e1; subst e3
      have hxs := HCS.out x (List.mem_of_getElem? hkx)
      have HST := Lib.hid (sumL_take_succ hkx)
      have hdr : lines.drop k = x :: lines.drop (k + 1) := by
        obtain ⟨h1, rfl⟩ := List.getElem?_eq_some_iff.1 hkx
        exact List.drop_eq_getElem_cons h1
      clear hkx
      have HDR := Lib.hid hdr; clear hdr
      have ca := HA.out.ca
      have fa := HA.out.fa
      have HA1 := Lib.hid (show At1 w0 W g b pa pv pp (.slice (some ⟨g', o, none⟩) lines.length c) lines L P vp (k + 1) (wr.setCell ⟨pa, 0, none⟩ (.int .i64 ((k : Int) + 1))) from HA.out.set_ (k + 1) HPA.out); clear HA
      have hk63 : (k : Int) + 1 ≤ 9223372036854775807 := by omega
      go_upto_region 4 with (fail)
      clear h0 ca fa
      generalize wr.setCell ⟨pa, 0, none⟩ (.int .i64 ((k : Int) + 1)) = w2 at HA1 ⊢
      by_cases hz : x.size = 0
      · have hem := empty_t hz
        have HZ := Lib.hid hz; clear hz
        go_wp2_with fail
        go_roundw
        case rel => exact ⟨L, P, vp, k + 1, k + 1, by go_num, by omega, by omega, HPL.out, HA1.out, by have := HTX.out; rw [HST.out]; omega, by rw [HRD.out, HDR.out, readLines_skip (.inl HZ.out)]⟩
        case measure => simp [intOf]; omega
      · have hem := empty_f hz
        have hpos : 0 < x.size := by omega
        cases hb35 : ((x[0].toNat : Int) == 35) with
        | true =>
          go_wp2_with fail
          go_roundw
          case rel => exact ⟨L, P, vp, k + 1, k + 1, by go_num, by omega, by omega, HPL.out, HA1.out, by have := HTX.out; rw [HST.out]; omega, by rw [HRD.out, HDR.out, readLines_skip (.inr (head35 hpos hb35))]⟩
          case measure => simp [intOf]; omega
        | false =>
          have HNO := Lib.hid (head35_no hpos hb35)
          have hxz : x.size ≤ 16777216 := by omega
          have HRY := Lib.hid (HA1.out.ready HR.out)
          cases hacc : account x with
          | none =>
            have HACC := Lib.hid hacc; clear hacc
            go_wp2_with fail
            refine (account_calls x _ HRY.out hxz).mono ?_
            rintro e w3 ⟨hb3, he3⟩
            rw [HACC.out] at he3
            dsimp only at he3
            subst he3
            have HA3 := Lib.hid (HA1.out.below hb3)
            exact ⟨rfl, P1Post.err (parse_err HBIG.out (by rw [HLN.out, HRD.out, HDR.out, readLines_bad HNO.out HACC.out])) HA3.out.low HA3.out.kept HA3.out.blk⟩
          | some a =>
            have HACC := Lib.hid hacc; clear hacc
            go_wp2_with fail
            refine (account_calls x _ HRY.out hxz).mono ?_
            rintro e w3 ⟨hb3, he3⟩
            rw [HACC.out] at he3
            dsimp only at he3
            obtain ⟨mv, rfl, hmv⟩ := he3
            have HA3 := Lib.hid (HA1.out.below hb3)
            generalize (x[0]'hpos).toNat = y0 at hb35 ⊢
            clear hb3 HA1 HRY hb35 hem hpos hxz
            obtain ⟨Am, cm, rfl, hm1, hm2, -⟩ := id hmv
            unfold maxLen at hm2
            unfold acctV
            have HMV := Lib.hid (hmv.alloc (Obj.cells #[.string a.name, .string a.leader, .slice Am a.members.length cm, .string a.key] 127)); clear hmv
            have HA4 := Lib.hid (HA3.out.below ((Below.refl _ _).alloc (Nat.le_refl _) (Obj.cells #[.string a.name, .string a.leader, .slice Am a.members.length cm, .string a.key] 127))); clear HA3
            have HQ := Lib.hid (Blk.new w3 127 #[.string a.name, .string a.leader, .slice Am a.members.length cm, .string a.key])
            have hll := lineL_account_len HACC.out
            have hsl := HSL.out
            have hst := HST.out
            have hst2 := sumL_take_le lines (k + 1)
            have htx := HTX.out
            have HTX2 := Lib.hid (show (textL (L ++ [a])).length ≤ sumL (lines.take (k + 1)) from by
              have h1 : textL (L ++ [a]) = textL L ++ lineL a := by simp [textL]
              rw [h1, List.length_append]
              omega)
            have HSM := Lib.hid (small_of_line (a := a) (by omega))
            clear hll hsl hst hst2 htx
            go_wp2_with fail
            generalize w3.alloc (Obj.cells #[.string a.name, .string a.leader, .slice Am a.members.length cm, .string a.key] 127) = w4 at HMV HA4 HQ ⊢
            generalize w3.heap.size = q at HQ ⊢
            have HA5 := Lib.hid (HA4.out.below (below_drew w4))
            have HMV5 := Lib.hid (HMV.out.drew)
            have HQ5 := Lib.hid (show Blk w4.drew q 127 #[.string a.name, .string a.leader, .slice Am a.members.length cm, .string a.key] from HQ.out)
            clear HA4 HMV HQ
            have cv := HA5.out.cv
            have g1 : w4.drew.cell? ⟨g, 1, none⟩ = some (.map (some b)) := by
              obtain ⟨vl, b1, -⟩ := HA5.out.build
              exact b1.cell 1
            have hlook := HA5.out.build.look a.name HSM.out.1
            have q0 : w4.drew.cell? ⟨q, 0, none⟩ = some (.string a.name) := HQ5.out.cell 0
            rcases known_of_find L a.name with hkn | hkn
            · rw [hkn] at hlook
              have HKN := Lib.hid hkn; clear hkn
              go_region
              generalize w4.drew = w5 at HA5 HMV5 HQ5 ⊢
              clear cv g1 hlook q0
              go_wp2_with fail
              refine (need_f 61 _).mono ?_
              rintro e w6 ⟨rfl, rfl⟩
              exact ⟨rfl, P1Post.err (parse_err HBIG.out (by rw [HLN.out, HRD.out, HDR.out, readLines_twice HNO.out HACC.out (.inl HKN.out)])) HA5.out.low HA5.out.kept HA5.out.blk⟩
            · rw [hkn] at hlook
              have HKN := Lib.hid hkn; clear hkn
              go_region
              generalize w4.drew = w5 at HA5 HMV5 HQ5 ⊢
              clear cv g1 hlook q0
              have q0 : w5.cell? ⟨q, 0, none⟩ = some (.string a.name) := HQ5.out.cell 0
              have q1 : w5.cell? ⟨q, 1, none⟩ = some (.string a.leader) := HQ5.out.cell 1
              have q2 : w5.cell? ⟨q, 2, none⟩ = some (.slice Am a.members.length cm) := HQ5.out.cell 2
              have q3 : w5.cell? ⟨q, 3, none⟩ = some (.string a.key) := HQ5.out.cell 3
              go_wp2_with fail
              refine (need_t 61 _).mono ?_
              rintro e w6 ⟨rfl, rfl⟩
              go_wp2_with fail
              clear q0 q1 q2 q3
              refine (once_calls a (.slice Am a.members.length cm) _ HMV5.out (HA5.out.ready HR.out)).mono ?_
              rintro e w6 ⟨rfl, hb6⟩
              have HA6 := Lib.hid (HA5.out.below hb6)
              have HMV6 := Lib.hid (HMV5.out.below hb6 (Nat.le_refl _))
              have HQ6 := Lib.hid (HQ5.out.below hb6 HQ5.out.lt)
              clear hb6 HA5 HMV5 HQ5
              cases htw : twice a.members with
              | true =>
                have HTW := Lib.hid htw; clear htw
                exact ⟨rfl, P1Post.err (parse_err HBIG.out (by rw [HLN.out, HRD.out, HDR.out, readLines_twice HNO.out HACC.out (.inr HTW.out)])) HA6.out.low HA6.out.kept HA6.out.blk⟩
              | false =>
                have HTW := Lib.hid htw; clear htw
                rw [← said_t (b := !false) rfl 61]
                have cv := HA6.out.cv
                have q0 : w6.cell? ⟨q, 0, none⟩ = some (.string a.name) := HQ6.out.cell 0
                have q1 : w6.cell? ⟨q, 1, none⟩ = some (.string a.leader) := HQ6.out.cell 1
                have q2 : w6.cell? ⟨q, 2, none⟩ = some (.slice Am a.members.length cm) := HQ6.out.cell 2
                have q3 : w6.cell? ⟨q, 3, none⟩ = some (.string a.key) := HQ6.out.cell 3
                go_wp2_with fail
                clear q0 q1 q2 q3 cv
                refine (add_calls w0.heap.size g b L a (.slice Am a.members.length cm) _ HA6.out.build HMV6.out HKN.out HSM.out.1 (by omega) HA6.out.low.size).mono ?_
                rintro e w7 ⟨rfl, hB7, hl7, hk7⟩
                have HA7 := Lib.hid (HA6.out.add hB7 hl7 hk7)
                clear hB7 hl7 hk7 HA6 HMV6 HQ6
                have cp := HA7.out.cp
                have ca : w7.cell? ⟨pa, 0, none⟩ = some (.int .i64 ((k : Int) + 1)) := HA7.out.ca
                have hpl : P.length ≤ 65537 := by have := HPL.out; omega
                have HOW := Lib.hid (HA7.out.own.alloc (Obj.cells #[.int .i64 ((k : Int) + 1)] 3))
                have HB1 := Lib.hid (show P.length + 1 ≤ maxLen ∧ (P.length + 1) * 8 ≤ 140737488355328 ∧ w0.heap.size ≤ (w7.alloc (Obj.cells #[.int .i64 ((k : Int) + 1)] 3)).heap.size from ⟨by unfold maxLen; omega, by omega, Nat.le_trans HA7.out.low.size (by rw [World.size_alloc]; omega)⟩)
                go_wp2_with (at_builtin; refine wpList_append_any _ rfl (.tmp 48) (.tmp 50) _ rfl w0.heap.size 3 j0 _ 1 8 Tryz.underlying67 JI.out JZ0.out JZ1.out JZ2.out rfl (by omega) _ P.length _ rfl HOW.out (w7.heap.size + 1) (some ⟨w7.heap.size, 0, none⟩) 1 1 [.int .i64 ((k : Int) + 1)] rfl (reads_new _ _ _) (by intro u hu; simp at hu; subst hu; rfl) HB1.out.1 HB1.out.2.1 HB1.out.2.2 ?_; intro v8 w8 hown8 hg8 hat8; obtain ⟨g9, c9, rfl, -, -⟩ := hown8.form (by omega)
                             have k8 := Blk.grown (HA7.out.below ((Below.refl _ _).alloc (Nat.le_refl _) (Obj.cells #[.int .i64 ((k : Int) + 1)] 3))).2.1 hg8 (own_apart HOW.out (HA7.out.below ((Below.refl _ _).alloc (Nat.le_refl _) (Obj.cells #[.int .i64 ((k : Int) + 1)] 3))).2.1 (by decide))
                             have cp8 := k8.cell 0
                             have fp8 := k8.frozen 0
                             have HA8 := Lib.hid (HA7.out.grow (n := k + 1) hown8 hg8 hat8 HPP.out)
                             clear k8 hown8 hg8 hat8 HOW HA7)
                go_roundw
                case rel => exact ⟨L ++ [a], P ++ [k + 1], _, k + 1, k + 1, by go_num, by omega, by simp; omega, by simp [HPL.out], HA8.out, HTX2.out, by rw [HRD.out, HDR.out, readLines_more HNO.out HACC.out HKN.out HTW.out]⟩
                case measure => simp [intOf]; omega
    · have HRL := Lib.hid (show readLines (cut 10 text) 0 [] [] = .ok (L, P) from by rw [HLN.out, HRD.out, List.drop_eq_nil_of_le (by omega)]; rfl)
      have HTX2 := Lib.hid (show (textL L).length ≤ 65537 from by
        have h1 := HTX.out
        have h2 := sumL_take_le lines k
        have h3 := HSL.out
        omega)
      have hLn : L.length ≤ 65537 := by omega
      clear HTX HSL HRD HLN HCS JI JZ0 JZ1 JZ2
      obtain ⟨vl, hvl⟩ : ∃ vl, Hid (wr.cell? ⟨g, 0, none⟩ = some vl ∧ Accts wr vl L) := by
        obtain ⟨vl, b1, b2, -⟩ := HA.out.build
        exact ⟨vl, b1.cell 0, b2.accts⟩
      obtain ⟨Al, cl, rfl, hlc2, hcm2⟩ := hvl.out.2.len
      unfold maxLen at hcm2
      have g0 := hvl.out.1
      have cv := HA.out.cv
      go_wp2_with fail
      clear g0 cv
      go_loopw [58] (fun i wr => ∃ j n : Nat, i = .int .i64 j ∧ j ≤ L.length ∧ At1 w0 W g b pa pv pp (.slice A lines.length c) lines L P vp n wr ∧ Accts wr (.slice Al L.length cl) L ∧ checkNames L L P = checkNames L (L.drop j) (P.drop j)) (fun i _ => L.length - (intOf i).toNat)
      case atStart => exact ⟨0, n, rfl, by omega, HA.out, hvl.out.2, rfl⟩
      case round =>
        obtain ⟨j, m, rfl, hj, hat, hac, hcn⟩ := hrel
        clear HA hvl
        have HA := Lib.hid hat; clear hat
        have HAC := Lib.hid hac; clear hac
        have HCN := Lib.hid hcn; clear hcn
        by_cases hlt2 : j < L.length
        · obtain ⟨a, hja⟩ : ∃ a, L[j]? = some a := ⟨L[j], List.getElem?_eq_getElem hlt2⟩
          obtain ⟨p, hjp⟩ : ∃ p, P[j]? = some p := ⟨P[j]'(by have := HPL.out; omega), List.getElem?_eq_getElem (by have := HPL.out; omega)⟩
          have hjP : j < P.length := by have := HPL.out; omega
          have HST := Lib.hid (checkNames_step (all := L) hja hjp)
          obtain ⟨g', o, c', mv, hv, _, hms, h0, h1, h2, h3, _⟩ := HAC.out.at_ hja
          injection hv with e1 _ e3
          subst e1; subst e3
          obtain ⟨Am, cm, rfl, hm1, hm2, -⟩ := id hms
          unfold maxLen at hm2
          have hll := lineL_get hja
          have HSM := Lib.hid (small_of_line (a := a) (by have := HTX2.out; omega))
          clear hll
          have HMS := Lib.hid (hms.alloc (Obj.cells #[.string a.name, .string a.leader, .slice Am a.members.length cm, .string a.key] 127)); clear hms
          have hpre : Below wr.heap.size wr (wr.alloc (Obj.cells #[.string a.name, .string a.leader, .slice Am a.members.length cm, .string a.key] 127)) := (Below.refl _ _).alloc (Nat.le_refl _) _
          have HA2 := Lib.hid (HA.out.below hpre)
          have HAC2 := Lib.hid (HAC.out.below hpre (Nat.le_refl _))
          have HQ := Lib.hid (Blk.new wr 127 #[.string a.name, .string a.leader, .slice Am a.members.length cm, .string a.key])
          clear hpre
          go_upto_region 15 with (fail)
          clear h0 h1 h2 h3
          generalize wr.alloc (Obj.cells #[.string a.name, .string a.leader, .slice Am a.members.length cm, .string a.key] 127) = w2 at HMS HA2 HAC2 HQ ⊢
          generalize wr.heap.size = q at HQ ⊢
          clear HA HAC
          obtain ⟨g7, c7, e7, -, -⟩ := HA2.out.own.form (by omega)
          subst e7
          have cp := HA2.out.cp
          have fa := HA2.out.fa
          have ca := HA2.out.ca
          have cj : w2.cell? ⟨g7, j, none⟩ = some (.int .i64 (p : Int)) := by
            rw [HA2.out.own.cellAt j (by omega), List.getElem?_map, hjp]
            rfl
          clear hja hjp
          have HA3 := Lib.hid (HA2.out.set_ p HPA.out)
          have HAC3 := Lib.hid (HAC2.out.setCell (k := 0) (v := .int .i64 (p : Int)) HA2.out.blk (by decide) (by decide))
          have HMS3 := Lib.hid (HMS.out.setCell (k := 0) (u := .int .i64 (p : Int)) HA2.out.blk (by decide))
          have HQ3 := Lib.hid (HQ.out.setOther (k := 0) (v := .int .i64 (p : Int)) HA2.out.blk (by decide))
          go_upto_region 16 with (fail)
          clear cp fa ca cj
          generalize w2.setCell ⟨pa, 0, none⟩ (.int .i64 (p : Int)) = w3 at HA3 HAC3 HMS3 HQ3 ⊢
          clear HA2 HAC2 HMS HQ
          have cv := HA3.out.cv
          have q0 : w3.cell? ⟨q, 0, none⟩ = some (.string a.name) := HQ3.out.cell 0
          have q1 : w3.cell? ⟨q, 1, none⟩ = some (.string a.leader) := HQ3.out.cell 1
          have q2 : w3.cell? ⟨q, 2, none⟩ = some (.slice Am a.members.length cm) := HQ3.out.cell 2
          have q3 : w3.cell? ⟨q, 3, none⟩ = some (.string a.key) := HQ3.out.cell 3
          go_wp2_with fail
          clear cv q0 q1 q2 q3
          refine (named_calls g b L a (.slice Am a.members.length cm) _ HA3.out.build.tab HMS3.out HSM.out).mono ?_
          rintro e w4 ⟨rfl, hb4⟩
          have HA4 := Lib.hid (HA3.out.below hb4)
          have HAC4 := Lib.hid (HAC3.out.below hb4 (Nat.le_refl _))
          clear hb4 HA3 HAC3 HMS3 HQ3
          cases hkn : knows L a with
          | false =>
            have HC := Lib.hid (show checkNames L L P = some p from by rw [HCN.out, HST.out, if_neg (by rw [hkn]; exact Bool.false_ne_true)])
            exact ⟨rfl, P1Post.err (parse_none HBIG.out HRL.out HC.out) HA4.out.low HA4.out.kept HA4.out.blk⟩
          | true =>
            have HC := Lib.hid (show checkNames L L P = checkNames L (L.drop (j + 1)) (P.drop (j + 1)) from by rw [HCN.out, HST.out, if_pos hkn])
            clear hkn
            rw [← said_t (b := true) rfl 62]
            go_wp2_with fail
            go_roundw
            case rel => exact ⟨j + 1, p, by go_num, by omega, HA4.out, HAC4.out, HC.out⟩
            case measure => simp [intOf]; omega
        · have HC := Lib.hid (show checkNames L L P = none from by rw [HCN.out, List.drop_eq_nil_of_le (by omega)]; rfl)
          have ca := HA.out.ca
          have fa := HA.out.fa
          have HA3 := Lib.hid (show At1 w0 W g b pa pv pp (.slice A lines.length c) lines L P vp 0 (wr.setCell ⟨pa, 0, none⟩ (.int .i64 0)) from HA.out.set_ 0 HPA.out)
          go_upto_region 19 with (fail)
          clear ca fa
          generalize wr.setCell ⟨pa, 0, none⟩ (.int .i64 0) = w3 at HA3 ⊢
          have cv := HA3.out.cv
          go_wp2_with fail
          clear cv
          refine (join_walk w0.heap.size g b L _ HA3.out.build (by have := HTX2.out; omega) HA3.out.low.size).mono ?_
          rintro e w4 ⟨hj4, hl4, hk4⟩
          have HL4 := Lib.hid (HA3.out.low.trans hl4)
          have HK4 := Lib.hid (HA3.out.kept.trans (KeptP.of_kept hk4))
          have HB4 := Lib.hid (hk4.blk HA3.out.blk (by decide) (by decide))
          unfold Joined at hj4
          by_cases hle : (textL L).length ≤ 65536
          · rw [if_pos hle] at hj4
            obtain ⟨rfl, hp⟩ := hj4
            have HP := Lib.hid (show parse text = .ok L from parse_ok HBIG.out HRL.out HC.out (by omega))
            have HPT := Lib.hid hp; clear hp hl4 hk4 hle
            go_wp2_with fail
            go_end0
            exact P1Post.ok HP.out HL4.out HK4.out HPT.out
          · rw [if_neg hle] at hj4
            subst hj4
            exact ⟨rfl, P1Post.err (parse_long HBIG.out HRL.out HC.out (by omega)) HL4.out HK4.out HB4.out⟩
end Go.Proofs.YtlenlldiimohjaaGreatDoor

namespace Go.Proofs.YtlenlldiimohjaaGreatDoor
open Go.ChangeShapes Go.WideShapes Go.ChangeAt Go.RowKit

theorem readLines_er : ∀ (l : List ByteArray) (i : Nat) (L : List Acct) (P : List Nat) (e : Int × Nat), readLines l i L P = .error e → e.1 = 60 ∨ e.1 = 61
  | [], i, L, P, e, h => by simp [readLines] at h
  | l :: rest, i, L, P, e, h => by
    by_cases h1 : l.size = 0 ∨ l.data.toList.head? = some 35
    · rw [readLines_skip h1] at h
      exact readLines_er rest _ _ _ _ h
    · cases ha : account l with
      | none =>
        rw [readLines_bad h1 ha] at h
        injection h with h
        subst h
        exact .inl rfl
      | some a =>
        by_cases h2 : known L a.name = true ∨ twice a.members = true
        · rw [readLines_twice h1 ha h2] at h
          injection h with h
          subst h
          exact .inr rfl
        · have hk : known L a.name = false := by cases hk : known L a.name <;> simp_all
          have ht : twice a.members = false := by cases ht : twice a.members <;> simp_all
          rw [readLines_more h1 ha hk ht] at h
          exact readLines_er rest _ _ _ _ h
theorem parse_er {s : ByteArray} {e : Int × Nat} (h : parse s = .error e) : e.1 = 1 ∨ e.1 = 60 ∨ e.1 = 61 ∨ e.1 = 62 := by
  unfold parse at h
  split at h
  · injection h with h; subst h; exact .inl rfl
  · split at h
    · rename_i hr
      injection h with h
      subst h
      rcases readLines_er _ _ _ _ _ hr with h | h <;> simp [h]
    · split at h
      · injection h with h; subst h; simp
      · split at h
        · injection h with h; subst h; exact .inl rfl
        · cases h

/-- The table is still there where only a block of another kind of cells was written. -/
theorem PTab.apart {w w' : World} {g q : Nat} {L : List Acct} {cs : Array Value} (h : PTab w g L) (hq : Blk w q 41 cs) (hk : ∀ i, i < w.heap.size → i ≠ q → w'.heap[i]? = w.heap[i]?) : PTab w' g L := by
  obtain ⟨b, m, n, vl, h1, h2, h3, h4, h5⟩ := h
  have key : ∀ (i : Nat) cs t fr, w.heap[i]? = some (Obj.cells cs t fr) → t ≠ 41 → w'.heap[i]? = w.heap[i]? := fun i cs t fr hi hne => hk i (heap_lt hi) (by
    rintro rfl
    unfold Blk at hq
    rw [hq] at hi
    injection hi with hi
    injection hi with _ ht
    exact hne ht.symm)
  have keym : ∀ (i : Nat) es ck, w.heap[i]? = some (Obj.map es ck) → w'.heap[i]? = w.heap[i]? := fun i es ck hi => hk i (heap_lt hi) (by
    rintro rfl
    unfold Blk at hq
    rw [hq] at hi
    cases hi)
  exact ⟨b, m, n, vl, (key g _ _ _ h1 (by decide)).trans h1, h2.keep (fun i cur e fr hi he => key i cur e fr hi (by rcases he with rfl | rfl <;> decide)), h3.keep (fun es ck hb => keym b es ck hb), h4.keep (fun es ck hb => keym m es ck hb), h5⟩

/-- What the program's Parse gives back. -/
def PParsed (s : ByteArray) (w : World) (e : Ending) (w' : World) : Prop :=
  Below w.heap.size w w' ∧ match parse s with
    | .error (er, ln) => e = .returned (.tuple #[.pointer none, .int .i64 er, .int .i64 (ln : Int)])
    | .ok L => ∃ g, w.heap.size ≤ g ∧ e = .returned (.tuple #[.pointer (some ⟨g, 0, none⟩), .int .i64 0, .int .i64 0]) ∧ PTab w' g L
theorem PParsed.err {s : ByteArray} {w w' : World} {er : Int} {ln : Nat} (hb : Below w.heap.size w w') (h : parse s = .error (er, ln)) : PParsed s w (.returned (.tuple #[.pointer none, .int .i64 er, .int .i64 (ln : Int)])) w' := by
  refine ⟨hb, ?_⟩
  rw [h]
theorem PParsed.ok {s : ByteArray} {w w' : World} {L : List Acct} {g : Nat} (hb : Below w.heap.size w w') (h : parse s = .ok L) (hg : w.heap.size ≤ g) (hp : PTab w' g L) : PParsed s w (.returned (.tuple #[.pointer (some ⟨g, 0, none⟩), .int .i64 0, .int .i64 0])) w' := by
  refine ⟨hb, ?_⟩
  rw [h]
  exact ⟨g, hg, rfl, hp⟩

/-- What guard is told. -/
def PR (s : ByteArray) (w W : World) (g pa : Nat) (r : Option Int) (w' : World) : Prop :=
  Below w.heap.size w w' ∧ KeptP W w' ∧ match parse s with
    | .error (er, ln) => r = some er ∧ Blk w' pa 3 #[.int .i64 (ln : Int)]
    | .ok L => r = none ∧ PTab w' g L
theorem tried_of {s : ByteArray} {w W : World} {g pa q : Nat} {e : Ending} {w' : World} (hq : Blk W q 41 #[.int .i64 0]) (h : P1Post s w W g pa e w') : Tried q (PR s w W g pa) e w' := by
  obtain ⟨h1, h2, h3⟩ := h
  refine ⟨(h2.2 q _ _ _ hq (.inr (.inr rfl))).trans hq, ?_⟩
  cases hp : parse s with
  | error x =>
    obtain ⟨er, ln⟩ := x
    rw [hp] at h3
    exact .inr ⟨er, h3.1, h1, h2, by rw [hp]; exact ⟨rfl, h3.2⟩⟩
  | ok L =>
    rw [hp] at h3
    exact .inl ⟨h3.1, h1, h2, by rw [hp]; exact ⟨rfl, h3.2⟩⟩

theorem parse1_enters (args : Array Value) (w : World) : Sem.run Tryz.prog (callFunc 71 args) w = .ok (.enter 71 args) w :=
  Go.MuLone.run_callFunc_enter Tryz.func71 (by kernel_rfl) rfl args w

/-- The variables of Parse, as it lays them. -/
def PW (s : ByteArray) (w : World) : World :=
  (((((w.alloc (Obj.cells #[.string s] 9)).alloc (Obj.map #[] 0)).alloc (Obj.cells #[.slice none 0 0, .map (some (w.heap.size + 1)), .map none] 139)).alloc (Obj.cells #[.pointer (some ⟨w.heap.size + 1 + 1, 0, none⟩)] 37)).alloc (Obj.cells #[.int .i64 0] 3)).alloc (Obj.cells #[.slice none 0 0] 67)
theorem PW_size (s : ByteArray) (w : World) : (PW s w).heap.size = w.heap.size + 6 := by simp [PW, World.size_alloc]
theorem PW_low (s : ByteArray) (w : World) : Below w.heap.size w (PW s w) := by
  unfold PW
  refine Below.alloc (Below.alloc (Below.alloc (Below.alloc (Below.alloc (Below.alloc (Below.refl _ _) (Nat.le_refl _) _) ?_ _) ?_ _) ?_ _) ?_ _) ?_ _
  all_goals simp only [World.size_alloc]; omega
theorem PW_t (s : ByteArray) (w : World) : Blk (PW s w) w.heap.size 9 #[.string s] := (((((Blk.new w 9 #[.string s]).alloc _).alloc _).alloc _).alloc _).alloc _
theorem PW_p (s : ByteArray) (w : World) : Blk (PW s w) (w.heap.size + 1 + 1 + 1 + 1 + 1) 67 #[.slice none 0 0] := by
  have := Blk.new (((((w.alloc (Obj.cells #[.string s] 9)).alloc (Obj.map #[] 0)).alloc (Obj.cells #[.slice none 0 0, .map (some (w.heap.size + 1)), .map none] 139)).alloc (Obj.cells #[.pointer (some ⟨w.heap.size + 1 + 1, 0, none⟩)] 37)).alloc (Obj.cells #[.int .i64 0] 3)) 67 #[.slice none 0 0]
  simp only [World.size_alloc] at this
  exact this
theorem PW_a (s : ByteArray) (w : World) : Blk (PW s w) (w.heap.size + 1 + 1 + 1 + 1) 3 #[.int .i64 0] := by
  have := Blk.new ((((w.alloc (Obj.cells #[.string s] 9)).alloc (Obj.map #[] 0)).alloc (Obj.cells #[.slice none 0 0, .map (some (w.heap.size + 1)), .map none] 139)).alloc (Obj.cells #[.pointer (some ⟨w.heap.size + 1 + 1, 0, none⟩)] 37)) 3 #[.int .i64 0]
  simp only [World.size_alloc] at this
  exact this.alloc _
theorem PW_v (s : ByteArray) (w : World) : Blk (PW s w) (w.heap.size + 1 + 1 + 1) 37 #[.pointer (some ⟨w.heap.size + 1 + 1, 0, none⟩)] := by
  have := Blk.new (((w.alloc (Obj.cells #[.string s] 9)).alloc (Obj.map #[] 0)).alloc (Obj.cells #[.slice none 0 0, .map (some (w.heap.size + 1)), .map none] 139)) 37 #[.pointer (some ⟨w.heap.size + 1 + 1, 0, none⟩)]
  simp only [World.size_alloc] at this
  exact (this.alloc _).alloc _
theorem PW_b (s : ByteArray) (w : World) : Build (PW s w) w.heap.size (w.heap.size + 1 + 1) (w.heap.size + 1) [] := by
  have h1 := Blk.new ((w.alloc (Obj.cells #[.string s] 9)).alloc (Obj.map #[] 0)) 139 #[.slice none 0 0, .map (some (w.heap.size + 1)), .map none]
  simp only [World.size_alloc] at h1
  have h2 := AtMap.made (w.alloc (Obj.cells #[.string s] 9))
  simp only [World.size_alloc] at h2
  have up : ∀ (W : World) (o : Obj), Below W.heap.size W (W.alloc o) := fun W o => (Below.refl _ _).alloc (Nat.le_refl _) o
  exact ⟨_, ((h1.alloc _).alloc _).alloc _, OwnAccts.nil_ _ _, (((h2.below (up _ _)).below (up _ _)).below (up _ _)).below (up _ _), by omega, by omega⟩

set_option maxRecDepth 100000 in
set_option maxHeartbeats 1600000 in
theorem parse_calls (s : ByteArray) (w : World) (hr : Ready w) : Calls Tryz.prog 27 #[.string s] w (PParsed s w) := by
  have hmm := @run_makeMap Tryz.prog
  have hmf : ∀ (fn : Fn) (first cap : Array Value) (w : World), (Instr.makeFunc fn first cap).run Tryz.prog w = .ok (.func fn first cap) w := fun _ _ _ _ => rfl
  by_cases hbig : 65536 < s.size
  · have HP := Lib.hid (show parse s = .error (1, 0) from by unfold parse; rw [if_pos hbig])
    go_enter Tryz.func27, Tryz.ntmps27
    go_wp2_with fail
    go_ret3
    exact PParsed.err ((Below.refl _ _).alloc (Nat.le_refl _) _) HP.out
  · have HBIG := Lib.hid hbig
    have HR := Lib.hid hr; clear hr
    have HG := Lib.hid (guard_calls 71 #[.pointer (some ⟨w.heap.size, 0, none⟩), .pointer (some ⟨w.heap.size + 1 + 1 + 1 + 1, 0, none⟩), .pointer (some ⟨w.heap.size + 1 + 1 + 1, 0, none⟩), .pointer (some ⟨w.heap.size + 1 + 1 + 1 + 1 + 1, 0, none⟩)] (PW s w)
      (PR s w ((PW s w).alloc (.cells #[.int .i64 0] 41)) (w.heap.size + 1 + 1) (w.heap.size + 1 + 1 + 1 + 1)) (parse1_enters _)
      (by
        have up : Below (PW s w).heap.size (PW s w) ((PW s w).alloc (.cells #[.int .i64 0] 41)) := (Below.refl _ _).alloc (Nat.le_refl _) _
        refine (parse1_calls s w _ (w.heap.size + 1 + 1) (w.heap.size + 1) _ _ _ _ HR.out hbig ((PW_t s w).alloc _) ((PW_b s w).below up) ((PW_p s w).alloc _) ((PW_a s w).alloc _) ((PW_v s w).alloc _) ((PW_low s w).trans (up.mono (PW_low s w).size)) (by omega) (by omega)).mono ?_
        intro e w' h
        exact tried_of (Blk.new _ _ _) h))
    go_enter Tryz.func27, Tryz.ntmps27
    go_wp2_with fail
    refine HG.out.mono ?_
    rintro e w1 ⟨r, w2, ⟨hlow, hkp, hpr⟩, hq, rfl, hb, hap⟩
    have HPV := Lib.hid (hkp.2 _ _ _ _ ((PW_v s w).alloc (.cells #[.int .i64 0] 41)) (.inr (.inl rfl)))
    have hpv2 : Blk w2 (w.heap.size + 1 + 1 + 1) 37 #[.pointer (some ⟨w.heap.size + 1 + 1, 0, none⟩)] := HPV.out.trans ((PW_v s w).alloc (.cells #[.int .i64 0] 41))
    have hsz := PW_size s w
    have HPV1 := Lib.hid (hpv2.below hb (by omega)); clear hpv2 HPV
    have HLOW := Lib.hid (hlow.trans (hb.mono (by omega)))
    clear hmm hmf HG
    cases hp : parse s with
    | error x =>
      obtain ⟨er, ln⟩ := x
      rw [hp] at hpr
      obtain ⟨rfl, hpa⟩ := hpr
      have hpa1 := hpa.below hb (by omega)
      have ca : w1.cell? ⟨w.heap.size + 1 + 1 + 1 + 1, 0, none⟩ = some (.int .i64 (ln : Int)) := hpa1.cell 0
      have hne : (er != 0) = true := by
        have := parse_er hp
        rw [bne_iff_ne]
        dsimp only at this
        omega
      have HP := Lib.hid hp; clear hp
      clear hpa hpa1 hb hap hq hkp hlow hsz hbig
      rw [show (some er).getD 0 = er from rfl]
      go_upto_region 8 with (fail)
      clear hne
      have ca2 : w1.drew.cell? ⟨w.heap.size + 1 + 1 + 1 + 1, 0, none⟩ = some (.int .i64 (ln : Int)) := ca
      clear ca
      have HLOW2 := Lib.hid HLOW.out.drew
      go_region
      generalize w1.drew = w3 at ca2 HLOW2 ⊢
      clear ca2
      go_wp2_with fail
      go_ret3
      exact PParsed.err HLOW2.out HP.out
    | ok L =>
      rw [hp] at hpr
      obtain ⟨rfl, hpt⟩ := hpr
      have HPT := Lib.hid (hpt.apart hq hap)
      have cv : w1.cell? ⟨w.heap.size + 1 + 1 + 1, 0, none⟩ = some (.pointer (some ⟨w.heap.size + 1 + 1, 0, none⟩)) := HPV1.out.cell 0
      have HP := Lib.hid hp; clear hp
      clear hpt hb hap hq hkp hlow hsz hbig
      rw [show (none : Option Int).getD 0 = 0 from rfl]
      go_wp2_with fail
      go_ret3
      exact PParsed.ok HLOW.out HP.out (by omega) HPT.out
end Go.Proofs.YtlenlldiimohjaaGreatDoor

namespace Go.Proofs.YtlenlldiimohjaaGreatDoor
open Go.ChangeShapes Go.WideShapes Go.ChangeAt Go.RowKit

theorem known_calls (g : Nat) (L : List Acct) (s : ByteArray) (w : World) (h : PTab w g L) (hs : s.size ≤ 1099511627776) :
    Calls Tryz.prog 53 #[.pointer (some ⟨g, 0, none⟩), .string s] w fun e w' => e = .returned (.bool (known L s)) ∧ w = w' := by
  obtain ⟨b, m, n, vl, h1, -, h3, -⟩ := h
  have g1 : w.cell? ⟨g, 1, none⟩ = some (.map (some b)) := h1.cell 1
  have hlook := h3.look s (by unfold maxLen; omega)
  clear h1 h3
  go_enter Tryz.func53, Tryz.ntmps53
  go_wp2_with fail
  go_ret
  exact ⟨rfl, rfl⟩

theorem ix_find {L : List Acct} {s : ByteArray} (h : known L s = true) : ∃ a, L[ix L s]? = some a ∧ L.find? (fun a => decide (a.name = s)) = some a := by
  rcases findZ_parts L s with ⟨i, a, hz, hia, -, -, hfd⟩ | ⟨-, hk, -⟩
  · refine ⟨a, ?_, hfd⟩
    unfold findZ at hz
    unfold ix
    cases hf : findIx L s with
    | none => rw [hf] at hz; simp at hz
    | some j =>
      rw [hf] at hz
      simp only [Option.getD_some]
      have : j = i := by
        have : (j : Int) = (i : Int) := by simpa using hz
        omega
      rw [this]
      exact hia
  · rw [hk] at h; cases h
end Go.Proofs.YtlenlldiimohjaaGreatDoor
