/-
  ADo4: what AuthDoes needs of them.
-/
import Derived.Test.YtlenlldiimohjaaGreatDoorQ11
namespace Go.Proofs.YtlenlldiimohjaaGreatDoor
open Go.RowKit

section
variable {W0 w w' : World} {q gu gr base g : Nat} {vt vw vb vc v v' : Value} {nt nw nb nc : Nat} {xt xw xb xc : List Value} {l l' : List UInt8}
/-- A list of one's own is written, or grown. -/
theorem WR.move (h : WR W0 q gu gr vt nt xt vw nw xw vb nb xb vc nc xc w) (hv : OwnB w base v l) (hB : W0.heap.size ≤ base) (hg : w.grownBy w' v.ownBlock) : WR W0 q gu gr vt nt xt vw nw xw vb nb xb vc nc xc w' := by
  have key : ∀ {b2 size n : Nat} {t : TypeId} {v2 : Value} {xs : List Value}, w.ownsRow b2 t size v2 n xs → 5 ≠ t → w'.ownsRow b2 t size v2 n xs := fun {b2 size n t v2 xs} hq hne => hq.kept hg (by
    rcases hvt : v2.ownBlock with _ | k
    · exact .inl rfl
    · exact .inr (fun hh => hv.row_ne hq hne k hh.symm hvt))
  exact ⟨h.low.grown hg h.low.size (fun k hk => Nat.le_trans hB (hv.lt k hk).1), h.qle, Blk.grown h.blk hg (fun hh => hv.blk_ne h.blk (by decide) hh.symm), key h.rt (by decide), key h.rw_ (by decide), key h.rb (by decide), key h.rc (by decide), h.tw, h.bc⟩
end
theorem grown_at {w w' : World} {r : Option Nat} (hg : w.grownBy w' r) : ∀ k, k < w.heap.size → r ≠ some k → w'.heap[k]? = w.heap[k]? := fun k hk hne => hg.block k hk (fun hh => hne hh.symm)
theorem set_grown (w : World) (g k : Nat) (u : Value) : w.grownBy (w.setCell ⟨g, k, none⟩ u) (some g) := grown_set (World.grownBy.refl w _) k u
theorem map_set_same (bl : List (Value × List UInt8)) (k : Nat) (v : Value) (l l' : List UInt8) (h : bl[k]? = some (v, l)) : (bl.set k (v, l')).map (fun p => p.1) = bl.map (fun p => p.1) := by
  rw [List.map_set]
  apply List.ext_getElem? fun i => ?_
  by_cases hi : k = i
  · subst hi
    rw [List.getElem?_set_self (by rw [List.length_map]; exact (List.getElem?_eq_some_iff.1 h).1), List.getElem?_map, h]
    rfl
  · rw [List.getElem?_set_ne hi]
section
variable {W0 w w' : World} {q gu gr g k : Nat} {vt vw vb vc v v' : Value} {bl cl : List (Value × List UInt8)} {l l' : List UInt8}
/-- The rows of Talks are let go. -/
theorem WB.clear {ts : List TalkW} (h : WB W0 q gu gr vt vw vb vc ts bl cl w) : WB W0 q gu gr (.slice none 0 0) (.slice none 0 0) vb vc [] bl cl ((w.setCell ⟨q, 2, none⟩ (.slice none 0 0)).setCell ⟨q, 3, none⟩ (.slice none 0 0)) := by
  have hb2 := Blk.set_ h.r.blk 2 (.slice none 0 0)
  have hb3 := Blk.set_ hb2 3 (.slice none 0 0)
  have hs : Same8 w ((w.setCell ⟨q, 2, none⟩ (.slice none 0 0)).setCell ⟨q, 3, none⟩ (.slice none 0 0)) := (SameT.set_ h.r.blk rfl 2 _).trans (SameT.set_ hb2 rfl 3 _)
  have key : ∀ {b2 size n : Nat} {t : TypeId} {v2 : Value} {xs : List Value}, w.ownsRow b2 t size v2 n xs → t ≠ 86 → ((w.setCell ⟨q, 2, none⟩ (.slice none 0 0)).setCell ⟨q, 3, none⟩ (.slice none 0 0)).ownsRow b2 t size v2 n xs := fun {b2 size n t v2 xs} hq hne => by
    have h1 := own_other hq (own_blk_ne hq h.r.blk hne) (setCell_other w q 2 (.slice none 0 0))
    exact own_other h1 (own_blk_ne h1 hb2 hne) (setCell_other _ q 3 (.slice none 0 0))
  exact ⟨⟨(h.r.low.setCell (p := ⟨q, 2, none⟩) h.r.qle _).setCell (p := ⟨q, 3, none⟩) h.r.qle _, h.r.qle, hb3, ⟨rfl, .inl ⟨rfl, rfl⟩⟩, ⟨rfl, .inl ⟨rfl, rfl⟩⟩, key h.r.rb (by decide), key h.r.rc (by decide), (fun k hk => by cases hk), h.r.bc⟩, h.ob.same8 hs, h.oc.same8 hs, h.ap, fun x hx => by cases hx⟩
variable {gr2 n cap : Nat}
theorem WB.set_b (h : WB W0 q gu gr (.slice none 0 0) (.slice none 0 0) vb vc [] bl cl w) (hp : bl[k]? = some (v, l)) (hgb : v.ownBlock = some g) (j : Nat) (c : UInt8) : WB W0 q gu gr (.slice none 0 0) (.slice none 0 0) vb vc [] (bl.set k (v, l.set j c)) cl (w.setCell ⟨g, j, none⟩ (.int .u8 (c.toNat : Int))) := by
  have hv := h.ob.1 _ (List.mem_of_getElem? hp)
  have hg : w.grownBy (w.setCell ⟨g, j, none⟩ (.int .u8 (c.toNat : Int))) v.ownBlock := by
    rw [hgb]
    exact set_grown w g j _
  have hr := h.r.move hv (Nat.le_refl _) hg
  have hv2 := hv.set_ hgb j c
  have hb := h.ob.set_ hp hv2 (.inl rfl) (grown_at hg)
  have hc := h.oc.off (fun g' hg' => h.ap.free hp hg') (grown_at hg)
  have ha := h.ap.set_ (v' := v) (l' := l.set j c) h.oc hp (.inl rfl)
  refine ⟨?_, hb, hc, ha, fun x hx => by cases hx⟩
  rw [map_set_same bl k v l _ hp, List.length_set]
  exact hr
theorem WB.grow_bk (h : WB W0 q gu gr (.slice none 0 0) (.slice none 0 0) (.slice (some ⟨gr2, 0, none⟩) n cap) vc [] bl cl w) (hp : bl[k]? = some (v, l)) (hg : w.grownBy w' v.ownBlock) (hv : OwnB w' W0.heap.size v' l') (hor : v'.ownBlock = v.ownBlock ∨ v'.ownBlock = some w.heap.size) : WB W0 q gu gr (.slice none 0 0) (.slice none 0 0) (.slice (some ⟨gr2, 0, none⟩) n cap) vc [] (bl.set k (v', l')) cl (w'.setCell ⟨gr2, k, none⟩ v') ∧ w'.cell? ⟨q, 4, none⟩ = some (.slice (some ⟨gr2, 0, none⟩) n cap) ∧ w'.cell? ⟨gr2, k, none⟩ = some v ∧ w'.frozen? ⟨gr2, k, none⟩ = false := by
  have hk := (List.getElem?_eq_some_iff.1 hp).1
  have hv0 := h.ob.1 _ (List.mem_of_getElem? hp)
  have hr := h.r.move hv0 (Nat.le_refl _) hg
  have hb := h.ob.set_ hp hv hor (grown_at hg)
  have hc := h.oc.off (fun g' hg' => h.ap.free hp hg') (grown_at hg)
  have ha := h.ap.set_ (l' := l') h.oc hp hor
  have hrow := hr.rb
  obtain ⟨A, c, e, -⟩ := len_of hrow
  injection e with e1 e2 e3
  subst e2
  have hcell := brow_cell hrow (k := k) (v := v) (by rw [List.getElem?_map, hp]; rfl)
  have hfro := hrow.frozenAt k
  have hst := hrow.stored k v'
  have hs : Same8 w' (w'.setCell ⟨gr2, k, none⟩ v') := ⟨by simp [World.setCell], fun i cs t fz ht hi => Below.heap_setCell w' ⟨gr2, k, none⟩ v' i (fun he => by
    have he : i = gr2 := he
    subst he
    rcases hrow.2 with ⟨he2, _⟩ | ⟨g2, cap2, cur2, he2, _, hg2, _⟩
    · cases he2
    · injection he2 with he2
      injection he2 with he2
      injection he2 with he2
      subst he2
      rw [hi] at hg2
      injection hg2 with hg2
      injection hg2 with _ hg2 _
      subst hg2
      cases ht)⟩
  have ho := setCell_other w' gr2 k v'
  have hgB := (hrow.lt gr2 rfl).1
  refine ⟨⟨⟨hr.low.setCell (p := ⟨gr2, k, none⟩) hgB _, hr.qle, (ho q (fun he => own_blk_ne hrow hr.blk (by decide) (by rw [he]; rfl))).trans hr.blk, ⟨rfl, .inl ⟨rfl, rfl⟩⟩, ⟨rfl, .inl ⟨rfl, rfl⟩⟩, ?_, ?_, hr.tw, hr.bc⟩, hb.same8 hs, hc.same8 hs, ha, fun x hx => by cases hx⟩, Blk.cell hr.blk 4, hcell, hfro⟩
  · exact (by rw [List.length_set, List.map_set]; exact hst.1)
  · exact own_other hr.rc (hr.bc _ rfl) ho
theorem WB.set_c (h : WB W0 q gu gr (.slice none 0 0) (.slice none 0 0) vb vc [] bl cl w) (hp : cl[k]? = some (v, l)) (hgb : v.ownBlock = some g) (j : Nat) (c : UInt8) : WB W0 q gu gr (.slice none 0 0) (.slice none 0 0) vb vc [] bl (cl.set k (v, l.set j c)) (w.setCell ⟨g, j, none⟩ (.int .u8 (c.toNat : Int))) := by
  have hv := h.oc.1 _ (List.mem_of_getElem? hp)
  have hg : w.grownBy (w.setCell ⟨g, j, none⟩ (.int .u8 (c.toNat : Int))) v.ownBlock := by
    rw [hgb]
    exact set_grown w g j _
  have hr := h.r.move hv (Nat.le_refl _) hg
  have hv2 := hv.set_ hgb j c
  have hb := h.oc.set_ hp hv2 (.inl rfl) (grown_at hg)
  have hc := h.ob.off (fun g' hg' => h.ap.symm_.free hp hg') (grown_at hg)
  have ha := h.ap.symm_.set_ (v' := v) (l' := l.set j c) h.ob hp (.inl rfl)
  refine ⟨?_, hc, hb, ha.symm_, fun x hx => by cases hx⟩
  rw [map_set_same cl k v l _ hp, List.length_set]
  exact hr
theorem WB.grow_ck (h : WB W0 q gu gr (.slice none 0 0) (.slice none 0 0) vb (.slice (some ⟨gr2, 0, none⟩) n cap) [] bl cl w) (hp : cl[k]? = some (v, l)) (hg : w.grownBy w' v.ownBlock) (hv : OwnB w' W0.heap.size v' l') (hor : v'.ownBlock = v.ownBlock ∨ v'.ownBlock = some w.heap.size) : WB W0 q gu gr (.slice none 0 0) (.slice none 0 0) vb (.slice (some ⟨gr2, 0, none⟩) n cap) [] bl (cl.set k (v', l')) (w'.setCell ⟨gr2, k, none⟩ v') ∧ w'.cell? ⟨q, 5, none⟩ = some (.slice (some ⟨gr2, 0, none⟩) n cap) ∧ w'.cell? ⟨gr2, k, none⟩ = some v ∧ w'.frozen? ⟨gr2, k, none⟩ = false := by
  have hk := (List.getElem?_eq_some_iff.1 hp).1
  have hv0 := h.oc.1 _ (List.mem_of_getElem? hp)
  have hr := h.r.move hv0 (Nat.le_refl _) hg
  have hb := h.oc.set_ hp hv hor (grown_at hg)
  have hc := h.ob.off (fun g' hg' => h.ap.symm_.free hp hg') (grown_at hg)
  have ha := h.ap.symm_.set_ (l' := l') h.ob hp hor
  have hrow := hr.rc
  obtain ⟨A, c, e, -⟩ := len_of hrow
  injection e with e1 e2 e3
  subst e2
  have hcell := brow_cell hrow (k := k) (v := v) (by rw [List.getElem?_map, hp]; rfl)
  have hfro := hrow.frozenAt k
  have hst := hrow.stored k v'
  have hs : Same8 w' (w'.setCell ⟨gr2, k, none⟩ v') := ⟨by simp [World.setCell], fun i cs t fz ht hi => Below.heap_setCell w' ⟨gr2, k, none⟩ v' i (fun he => by
    have he : i = gr2 := he
    subst he
    rcases hrow.2 with ⟨he2, _⟩ | ⟨g2, cap2, cur2, he2, _, hg2, _⟩
    · cases he2
    · injection he2 with he2
      injection he2 with he2
      injection he2 with he2
      subst he2
      rw [hi] at hg2
      injection hg2 with hg2
      injection hg2 with _ hg2 _
      subst hg2
      cases ht)⟩
  have ho := setCell_other w' gr2 k v'
  have hgB := (hrow.lt gr2 rfl).1
  refine ⟨⟨⟨hr.low.setCell (p := ⟨gr2, k, none⟩) hgB _, hr.qle, (ho q (fun he => own_blk_ne hrow hr.blk (by decide) (by rw [he]; rfl))).trans hr.blk, ⟨rfl, .inl ⟨rfl, rfl⟩⟩, ⟨rfl, .inl ⟨rfl, rfl⟩⟩, ?_, ?_, hr.tw, hr.bc⟩, hc.same8 hs, hb.same8 hs, ha.symm_, fun x hx => by cases hx⟩, Blk.cell hr.blk 5, hcell, hfro⟩
  · exact own_other hr.rb (fun hh => hr.bc _ hh rfl) ho
  · exact (by rw [List.length_set, List.map_set]; exact hst.1)
theorem OwnB.head {w : World} {base n cap : Nat} {A : Option Addr} {l : List UInt8} (h : OwnB w base (.slice A n cap) l) (h0 : 0 < l.length) : ∃ g, A = some ⟨g, 0, none⟩ := by
  rcases h with ⟨_, rfl⟩ | ⟨g, c, cur, fz, e, _⟩
  · exact absurd h0 (Nat.lt_irrefl _)
  · injection e with e
    exact ⟨g, e⟩
theorem OwnB.cell_at {w : World} {base n cap g j : Nat} {l : List UInt8} (h : OwnB w base (.slice (some ⟨g, 0, none⟩) n cap) l) (hj : j < l.length) : w.cell? ⟨g, j, none⟩ = some (.int .u8 (l[j].toNat : Int)) := h.cells rfl j _ (by rw [List.getElem?_map, List.getElem?_eq_getElem hj]; rfl)
theorem u8_of (n : Nat) : ∃ z : UInt8, IntKind.u8.wrap (n : Int) = (z.toNat : Int) := ⟨UInt8.ofNat n, by
  rw [UInt8.toNat_ofNat']
  simp [IntKind.wrap, IntKind.signed, IntKind.bits]⟩
theorem set_len (bl : List (Value × List UInt8)) (k : Nat) (x : Value × List UInt8) : (bl.set k x).length = bl.length := List.length_set ..
theorem Ag.set_ {bl cl : List (Value × List UInt8)} (h : Ag bl cl) (k : Nat) (v c : Value) (l : List UInt8) : Ag (bl.set k (v, l)) (cl.set k (c, l)) := by
  unfold Ag
  rw [List.map_set, List.map_set, h]
theorem set_all {bl : List (Value × List UInt8)} {k N : Nat} {v : Value} {l : List UInt8} (h : ∀ p ∈ bl, p.2.length ≤ N) (hl : l.length ≤ N) : ∀ p ∈ bl.set k (v, l), p.2.length ≤ N := fun p hp => by
  rcases List.mem_or_eq_of_mem_set hp with hp | hp
  · exact h p hp
  · rw [hp]
    exact hl
def GrB (bl : List (Value × List UInt8)) (n k : Nat) : Prop := ∀ (j : Nat) (p : Value × List UInt8), bl[j]? = some p → p.2.length ≤ n + (if j < k then 1 else 0)
theorem GrB.start {bl : List (Value × List UInt8)} {n : Nat} (h : ∀ p ∈ bl, p.2.length ≤ n) : GrB bl n 0 := fun j p hp => by
  rw [if_neg (Nat.not_lt_zero j)]
  exact h p (List.mem_of_getElem? hp)
theorem GrB.at_ {bl : List (Value × List UInt8)} {n k : Nat} {p : Value × List UInt8} (h : GrB bl n k) (hp : bl[k]? = some p) : p.2.length ≤ n := by
  have := h k p hp
  rwa [if_neg (Nat.lt_irrefl k)] at this
theorem GrB.step {bl : List (Value × List UInt8)} {n k : Nat} {v v' : Value} {l : List UInt8} {z : UInt8} (h : GrB bl n k) (hp : bl[k]? = some (v, l)) : GrB (bl.set k (v', l ++ [z])) n (k + 1) := fun j p hj => by
  by_cases hjk : k = j
  · subst hjk
    rw [List.getElem?_set_self (List.getElem?_eq_some_iff.1 hp).1] at hj
    injection hj with hj
    subst hj
    rw [if_pos (Nat.lt_succ_self k)]
    have := h.at_ hp
    show (l ++ [z]).length ≤ n + 1
    rw [List.length_append, List.length_singleton]
    exact Nat.succ_le_succ this
  · rw [List.getElem?_set_ne hjk] at hj
    have h2 := h j p hj
    by_cases hlt : j < k
    · rw [if_pos hlt] at h2
      rw [if_pos (by omega)]
      exact h2
    · rw [if_neg hlt] at h2
      rw [if_neg (by omega)]
      exact h2
theorem GrB.done {bl : List (Value × List UInt8)} {n k : Nat} (h : GrB bl n k) : ∀ p ∈ bl, p.2.length ≤ n + 1 := fun p hp => by
  obtain ⟨j, hj⟩ := List.getElem?_of_mem hp
  have := h j p hj
  split at this <;> omega
set_option maxRecDepth 100000 in
set_option maxHeartbeats 6400000 in
/-- All lists are the caller's. -/
theorem own_all_calls {W0 w : World} {q gu gr : Nat} {vt vw vb vc : Value} {ts : List TalkW} {bl cl : List (Value × List UInt8)} (h : WB W0 q gu gr vt vw vb vc ts bl cl w) (ag : Ag bl cl) (hll : ∀ p ∈ bl, p.2.length ≤ 100) (hm : bl.length ≤ 1073741824) :
    Calls Tryz.prog 32 #[.pointer (some ⟨q, 0, none⟩)] w fun e w' => e = .returned (.bool true) ∧ Below W0.heap.size W0 w' := by
  obtain ⟨Ab, capb, rfl, hbc, hbm⟩ := len_of h.r.rb
  obtain ⟨Ac, capc, rfl, hcc, hcm⟩ := len_of h.r.rc
  rw [← ag.len] at h hcc
  unfold maxLen at hbm hcm
  obtain ⟨m, hmm⟩ : ∃ m, bl.length = m := ⟨_, rfl⟩
  rw [hmm] at h hm hbc hcc
  have HWB := Lib.hid h
  have HAG := Lib.hid ag
  have HLL := Lib.hid hll
  have HM := Lib.hid hmm
  clear h ag hll hmm
  go_enter Tryz.func32, Tryz.ntmps32
  go_upto_region 4 with (go_at_call 31; (with_reducible refine (still_calls HWB.out HAG.out).mono ?_); rintro e w1 ⟨rfl, hb⟩; have HW1 := Lib.hid (HWB.out.call hb); clear hb)
  have k2 := HW1.out.q2
  have k3 : (w1.setCell ⟨q, 2, none⟩ (.slice none 0 0)).cell? ⟨q, 3, none⟩ = some vw := (Blk.cell (Blk.set_ HW1.out.r.blk 2 (.slice none 0 0)) 3)
  have z2 := HW1.out.f 2
  have z3 : (w1.setCell ⟨q, 2, none⟩ (.slice none 0 0)).frozen? ⟨q, 3, none⟩ = false := Blk.frozen (Blk.set_ HW1.out.r.blk 2 (.slice none 0 0)) 3
  have HW2 := Lib.hid HW1.out.clear
  clear HWB HW1
  go_upto_region 6 with (fail)
  clear k2 k3 z2 z3
  generalize (w1.setCell ⟨q, 2, none⟩ (.slice none 0 0)).setCell ⟨q, 3, none⟩ (.slice none 0 0) = w2 at HW2 ⊢
  go_wp2_with fail
  go_loopw [4, 5] (fun i _ wr => ∃ (k : Nat) (bl2 cl2 : List (Value × List UInt8)), k ≤ m ∧ i = .int .i64 (k : Int) ∧ WB W0 q gu gr (.slice none 0 0) (.slice none 0 0) (.slice Ab m capb) (.slice Ac m capc) [] bl2 cl2 wr ∧ Ag bl2 cl2 ∧ bl2.length = m ∧ ∀ p ∈ bl2, p.2.length ≤ 100) (fun i _ _ => m - (intOf i).toNat)
  case atStart => exact ⟨0, bl, cl, Nat.zero_le _, rfl, HW2.out, HAG.out, HM.out, HLL.out⟩
  case round =>
    obtain ⟨k, bl2, cl2, hk, rfl, hwb, hag, hm2, hll⟩ := hrel
    clear HW2 HAG HLL HM
    have HWB := Lib.hid hwb
    have HAG := Lib.hid hag
    have HLL := Lib.hid hll
    have HM := Lib.hid hm2
    clear hwb hag hll hm2
    have k4 : wr.cell? ⟨q, 4, none⟩ = some (.slice Ab m capb) := HWB.out.q4
    by_cases hlt : k < m
    · have hlt' : (k : Int) < (m : Int) := by omega
      obtain ⟨p, hp⟩ : ∃ p, bl2[k]? = some p := ⟨_, List.getElem?_eq_getElem (by rw [HM.out]; exact hlt)⟩
      obtain ⟨gb, rfl⟩ : ∃ g, Ab = some ⟨g, 0, none⟩ := by have h := HWB.out.r.rb; rw [HM.out] at h; exact head_some h (by omega)
      obtain ⟨gc, rfl⟩ : ∃ g, Ac = some ⟨g, 0, none⟩ := by have h := HWB.out.r.rc; rw [← HAG.out.len, HM.out] at h; exact head_some h (by omega)
      obtain ⟨nn, hnn⟩ : ∃ n, p.2.length = n := ⟨_, rfl⟩
      have hn100 : nn ≤ 100 := by rw [← hnn]; exact HLL.out p (List.mem_of_getElem? hp)
      have HST := Lib.hid (show ∃ p, bl2[k]? = some p ∧ p.2.length = nn from ⟨p, hp, hnn⟩)
      clear hp hnn
      go_upto_region 10 with (fail)
      clear k4
      go_wp2_with fail
      go_loopw [5] (fun i wr => ∃ (j : Nat) (bl2 cl2 : List (Value × List UInt8)), j ≤ nn ∧ i = .int .i64 (j : Int) ∧ WB W0 q gu gr (.slice none 0 0) (.slice none 0 0) (.slice (some ⟨gb, 0, none⟩) m capb) (.slice (some ⟨gc, 0, none⟩) m capc) [] bl2 cl2 wr ∧ Ag bl2 cl2 ∧ bl2.length = m ∧ (∀ p ∈ bl2, p.2.length ≤ 100) ∧ ∃ p, bl2[k]? = some p ∧ p.2.length = nn) (fun i _ => nn - (intOf i).toNat)
      case atStart => exact ⟨0, bl2, cl2, Nat.zero_le _, rfl, HWB.out, HAG.out, HM.out, HLL.out, HST.out⟩
      case round =>
        obtain ⟨j, bl2, cl2, hj, rfl, hwb, hag, hm2, hll, ⟨v, l⟩, hp, hnn⟩ := hrel
        clear HWB HAG HLL HM HST
        have HWB := Lib.hid hwb
        have HAG := Lib.hid hag
        have HLL := Lib.hid hll
        have HM := Lib.hid hm2
        clear hwb hag hll hm2
        obtain ⟨A1, c1, rfl⟩ : ∃ A c, v = .slice A l.length c := (HWB.out.ob.1 _ (List.mem_of_getElem? hp)).val
        have k4 : wr.cell? ⟨q, 4, none⟩ = some (.slice (some ⟨gb, 0, none⟩) m capb) := HWB.out.q4
        have kb : wr.cell? ⟨gb, k, none⟩ = some (.slice A1 l.length c1) := HWB.out.b_cell hp
        obtain ⟨cv, hcv⟩ : ∃ c, cl2[k]? = some (c, l) := HAG.out.at_ hp
        obtain ⟨A2, c2, rfl⟩ : ∃ A c, cv = .slice A l.length c := (HWB.out.oc.1 _ (List.mem_of_getElem? hcv)).val
        have HP := Lib.hid hp
        have HC := Lib.hid hcv
        have HNN := Lib.hid (show l.length = nn from hnn)
        have hnn2 : l.length ≤ nn := Nat.le_of_eq hnn
        have hnn3 : nn ≤ l.length := Nat.le_of_eq hnn.symm
        clear hp hcv hnn
        by_cases hjn : j < nn
        · have hjl : j < l.length := by omega
          have hjl' : (j : Int) < (l.length : Int) := by omega
          obtain ⟨g1, rfl⟩ := OwnB.head (HWB.out.ob.1 _ (List.mem_of_getElem? HP.out)) (by show 0 < l.length; omega)
          obtain ⟨g2, rfl⟩ := OwnB.head (HWB.out.oc.1 _ (List.mem_of_getElem? HC.out)) (by show 0 < l.length; omega)
          have cb := OwnB.cell_at (HWB.out.ob.1 _ (List.mem_of_getElem? HP.out)) hjl
          have fb := OwnB.frozen (HWB.out.ob.1 _ (List.mem_of_getElem? HP.out)) rfl hjl
          obtain ⟨z, hz⟩ := u8_of (k + j)
          have hz' : IntKind.u8.wrap ((k : Int) + (j : Int)) = (z.toNat : Int) := by rw [← hz]; congr 1
          have HZZ := Lib.hid hz'
          clear hz
          go_upto_region 13 with (fail)
          clear k4 kb cb fb hz'
          have HW2 := Lib.hid (HWB.out.set_b HP.out rfl j z)
          generalize wr.setCell ⟨g1, j, none⟩ (.int .u8 (z.toNat : Int)) = w3 at HW2 ⊢
          have k5 : w3.cell? ⟨q, 5, none⟩ = some (.slice (some ⟨gc, 0, none⟩) m capc) := HW2.out.q5
          have kc : w3.cell? ⟨gc, k, none⟩ = some (.slice (some ⟨g2, 0, none⟩) l.length c2) := HW2.out.c_cell HC.out
          have cc := OwnB.cell_at (HW2.out.oc.1 _ (List.mem_of_getElem? HC.out)) hjl
          have fc := OwnB.frozen (HW2.out.oc.1 _ (List.mem_of_getElem? HC.out)) rfl hjl
          have hz' := HZZ.out
          have HW4 := Lib.hid (HW2.out.set_c HC.out rfl j z)
          have hlb := set_all (bl := bl2) (k := k) (v := .slice (some ⟨g1, 0, none⟩) l.length c1) (l := l.set j z) (N := 100) HLL.out (by rw [List.length_set]; exact HLL.out _ (List.mem_of_getElem? HP.out))
          have HLB := Lib.hid hlb
          clear hlb
          have HA4 := Lib.hid (HAG.out.set_ k (.slice (some ⟨g1, 0, none⟩) l.length c1) (.slice (some ⟨g2, 0, none⟩) l.length c2) (l.set j z))
          have HM4 := Lib.hid (show (bl2.set k (.slice (some ⟨g1, 0, none⟩) l.length c1, l.set j z)).length = m from (set_len _ _ _).trans HM.out)
          have HP4 := Lib.hid (show ∃ p, (bl2.set k (.slice (some ⟨g1, 0, none⟩) l.length c1, l.set j z))[k]? = some p ∧ p.2.length = nn from ⟨_, List.getElem?_set_self (List.getElem?_eq_some_iff.1 HP.out).1, (List.length_set ..).trans HNN.out⟩)
          go_wp2_with fail
          go_roundw
          case rel => exact ⟨j + 1, _, _, by omega, by go_num, HW4.out, HA4.out, HM4.out, HLB.out, HP4.out⟩
          case measure => simp [intOf]; omega
        · have hjl' : ¬ (j : Int) < (l.length : Int) := by omega
          go_wp2_with fail
          go_roundw
          case rel => exact ⟨k + 1, bl2, cl2, by omega, by go_num, HWB.out, HAG.out, HM.out, HLL.out⟩
          case measure => simp [intOf]; omega
    · have hlt' : ¬ (k : Int) < (m : Int) := by omega
      go_upto_region 14 with (fail)
      clear k4 hlt hlt' hk
      go_wp2_with fail
      go_loopw [6, 7] (fun i _ wr => ∃ (n : Nat) (bl2 cl2 : List (Value × List UInt8)), n ≤ 40 ∧ i = .int .i64 (n : Int) ∧ WB W0 q gu gr (.slice none 0 0) (.slice none 0 0) (.slice Ab m capb) (.slice Ac m capc) [] bl2 cl2 wr ∧ Ag bl2 cl2 ∧ bl2.length = m ∧ ∀ p ∈ bl2, p.2.length ≤ 100 + n) (fun i _ _ => 40 - (intOf i).toNat)
      case atStart => exact ⟨0, bl2, cl2, Nat.zero_le _, rfl, HWB.out, HAG.out, HM.out, HLL.out⟩
      case round =>
        obtain ⟨n, bl2, cl2, hn, rfl, hwb, hag, hm2, hll⟩ := hrel
        clear HWB HAG HLL HM
        have HWB := Lib.hid hwb
        have HAG := Lib.hid hag
        have HLL := Lib.hid hll
        have HM := Lib.hid hm2
        clear hwb hag hll hm2
        by_cases hn40 : n < 40
        · have hn40' : (n : Int) < 40 := by omega
          go_upto_region 18 with (fail)
          clear hn40'
          go_wp2_with fail
          go_loopw [7] (fun i wr => ∃ (k : Nat) (bl2 cl2 : List (Value × List UInt8)), k ≤ m ∧ i = .int .i64 (k : Int) ∧ WB W0 q gu gr (.slice none 0 0) (.slice none 0 0) (.slice Ab m capb) (.slice Ac m capc) [] bl2 cl2 wr ∧ Ag bl2 cl2 ∧ bl2.length = m ∧ GrB bl2 (100 + n) k) (fun i _ => m - (intOf i).toNat)
          case atStart => exact ⟨0, bl2, cl2, Nat.zero_le _, rfl, HWB.out, HAG.out, HM.out, GrB.start HLL.out⟩
          case round =>
            obtain ⟨k, bl2, cl2, hk, rfl, hwb, hag, hm2, hgr⟩ := hrel
            clear HWB HAG HLL HM
            have HWB := Lib.hid hwb
            have HAG := Lib.hid hag
            have HGR := Lib.hid hgr
            have HM := Lib.hid hm2
            clear hwb hag hgr hm2
            have k4 : wr.cell? ⟨q, 4, none⟩ = some (.slice Ab m capb) := HWB.out.q4
            by_cases hlt : k < m
            · have hlt' : (k : Int) < (m : Int) := by omega
              obtain ⟨⟨v, l⟩, hp⟩ : ∃ p, bl2[k]? = some p := ⟨_, List.getElem?_eq_getElem (by rw [HM.out]; exact hlt)⟩
              obtain ⟨cv, hcv⟩ : ∃ c, cl2[k]? = some (c, l) := HAG.out.at_ hp
              obtain ⟨gb, rfl⟩ : ∃ g, Ab = some ⟨g, 0, none⟩ := by have h := HWB.out.r.rb; rw [HM.out] at h; exact head_some h (by omega)
              obtain ⟨gc, rfl⟩ : ∃ g, Ac = some ⟨g, 0, none⟩ := by have h := HWB.out.r.rc; rw [← HAG.out.len, HM.out] at h; exact head_some h (by omega)
              have HLL := Lib.hid (show l.length ≤ 200 from Nat.le_trans (HGR.out.at_ hp) (by omega))
              obtain ⟨z, hz⟩ := u8_of (7 * k + n)
              have HW8 := Lib.hid (show IntKind.u8.wrap (7 * (k : Int) + (n : Int)) = (z.toNat : Int) from by rw [← hz]; congr 1)
              have HP := Lib.hid hp
              have HC := Lib.hid hcv
              clear hp hcv hz
              go_upto_region 20 with (fail)
              clear k4 hlt'
              go_cut [] (fun wx => ∃ v', WB W0 q gu gr (.slice none 0 0) (.slice none 0 0) (.slice (some ⟨gb, 0, none⟩) m capb) (.slice (some ⟨gc, 0, none⟩) m capc) [] (bl2.set k (v', l ++ [z])) cl2 wx)
              case first =>
                refine wp_region_held_drew (S := fun wx => Blk wx q 86 (worldL gu gr (.slice none 0 0) (.slice none 0 0) (.slice (some ⟨gb, 0, none⟩) m capb) (.slice (some ⟨gc, 0, none⟩) m capc)).toArray) (by kernel_rfl) (Blk.drew HWB.out.r.blk) (fun hHeld => ?_)
                replace HWB := Lib.hid (HWB.out.call (below_drew wr))
                generalize wr.drew = wd at HWB hHeld ⊢
                refine wpAnyH_takeD 78 (i := 0) (v := .pointer (some ⟨q, 0, none⟩)) rfl rfl (by kernel_rfl) (by kernel_rfl) (by kernel_rfl) (fun _ _ _ h => h) (Or.inl ⟨by rfl, fun wq hSw => by go_simp⟩) (by assumption) ?_
                simp only [Act.put, List.setIfInBounds_toArray, List.set_cons_zero, List.set_cons_succ]
                refine wpAnyH_takeD 79 (i := 1) (v := .pointer (some ⟨q, 0, none⟩)) rfl rfl (by kernel_rfl) (by kernel_rfl) (by kernel_rfl) (fun _ _ _ h => h) (Or.inl ⟨by rfl, fun wq hSw => by go_simp⟩) (by assumption) ?_
                simp only [Act.put, List.setIfInBounds_toArray, List.set_cons_zero, List.set_cons_succ]
                refine wpAnyH_takeD 80 (i := 2) (v := .pointer (some ⟨q, 4, none⟩)) rfl rfl (by kernel_rfl) (by kernel_rfl) (by kernel_rfl) (fun _ _ _ h => h) (Or.inl ⟨by rfl, fun wq hSw => by go_simp⟩) (by assumption) ?_
                simp only [Act.put, List.setIfInBounds_toArray, List.set_cons_zero, List.set_cons_succ]
                refine wpAnyH_takeD 81 (i := 3) (v := .slice (some ⟨gb, 0, none⟩) m capb) rfl rfl (by kernel_rfl) (by kernel_rfl) (by kernel_rfl) (fun _ _ _ h => h) (Or.inl ⟨by rfl, fun wq hSw => by have k4 : wq.cell? ⟨q, 4, none⟩ = some (.slice (some ⟨gb, 0, none⟩) m capb) := Blk.cell hSw 4; go_simp⟩) (by assumption) ?_
                simp only [Act.put, List.setIfInBounds_toArray, List.set_cons_zero, List.set_cons_succ]
                refine wpAnyH_takeD 82 (i := 4) (v := .int .i64 (k : Int)) rfl rfl (by kernel_rfl) (by kernel_rfl) (by kernel_rfl) (fun _ _ _ h => h) (Or.inl ⟨by rfl, fun wq hSw => by go_simp⟩) (by assumption) ?_
                simp only [Act.put, List.setIfInBounds_toArray, List.set_cons_zero, List.set_cons_succ]
                refine wpAnyH_takeD 83 (i := 5) (v := .pointer (some ⟨q, 0, none⟩)) rfl rfl (by kernel_rfl) (by kernel_rfl) (by kernel_rfl) (fun _ _ _ h => h) (Or.inl ⟨by rfl, fun wq hSw => by go_simp⟩) (by assumption) ?_
                simp only [Act.put, List.setIfInBounds_toArray, List.set_cons_zero, List.set_cons_succ]
                refine wpAnyH_takeD 84 (i := 6) (v := .pointer (some ⟨q, 0, none⟩)) rfl rfl (by kernel_rfl) (by kernel_rfl) (by kernel_rfl) (fun _ _ _ h => h) (Or.inl ⟨by rfl, fun wq hSw => by go_simp⟩) (by assumption) ?_
                simp only [Act.put, List.setIfInBounds_toArray, List.set_cons_zero, List.set_cons_succ]
                refine wpAnyH_takeD 85 (i := 7) (v := .pointer (some ⟨q, 4, none⟩)) rfl rfl (by kernel_rfl) (by kernel_rfl) (by kernel_rfl) (fun _ _ _ h => h) (Or.inl ⟨by rfl, fun wq hSw => by go_simp⟩) (by assumption) ?_
                simp only [Act.put, List.setIfInBounds_toArray, List.set_cons_zero, List.set_cons_succ]
                refine wpAnyH_takeD 86 (i := 8) (v := .slice (some ⟨gb, 0, none⟩) m capb) rfl rfl (by kernel_rfl) (by kernel_rfl) (by kernel_rfl) (fun _ _ _ h => h) (Or.inl ⟨by rfl, fun wq hSw => by have k4 : wq.cell? ⟨q, 4, none⟩ = some (.slice (some ⟨gb, 0, none⟩) m capb) := Blk.cell hSw 4; go_simp⟩) (by assumption) ?_
                simp only [Act.put, List.setIfInBounds_toArray, List.set_cons_zero, List.set_cons_succ]
                refine wpAnyH_takeD 87 (i := 9) (v := .int .i64 (k : Int)) rfl rfl (by kernel_rfl) (by kernel_rfl) (by kernel_rfl) (fun _ _ _ h => h) (Or.inl ⟨by rfl, fun wq hSw => by go_simp⟩) (by assumption) ?_
                simp only [Act.put, List.setIfInBounds_toArray, List.set_cons_zero, List.set_cons_succ]
                refine wpAnyH_takeD 88 (i := 10) (v := .pointer (some ⟨gb, k, none⟩)) rfl rfl (by kernel_rfl) (by kernel_rfl) (by kernel_rfl) (fun _ _ _ h => h) (Or.inl ⟨by rfl, fun wq hSw => by go_simp⟩) (by assumption) ?_
                simp only [Act.put, List.setIfInBounds_toArray, List.set_cons_zero, List.set_cons_succ]
                refine wpAnyH_takeD 90 (i := 12) (v := .int .i64 (k : Int)) rfl rfl (by kernel_rfl) (by kernel_rfl) (by kernel_rfl) (fun _ _ _ h => h) (Or.inl ⟨by rfl, fun wq hSw => by go_simp⟩) (by assumption) ?_
                simp only [Act.put, List.setIfInBounds_toArray, List.set_cons_zero, List.set_cons_succ]
                refine wpAnyH_takeD 91 (i := 13) (v := .int .i64 (7 * (k : Int))) rfl rfl (by kernel_rfl) (by kernel_rfl) (by kernel_rfl) (fun _ _ _ h => h) (Or.inl ⟨by rfl, fun wq hSw => by go_simp <;> exact IntWalk.i64_in _ (by omega)⟩) (by assumption) ?_
                simp only [Act.put, List.setIfInBounds_toArray, List.set_cons_zero, List.set_cons_succ]
                refine wpAnyH_takeD 92 (i := 14) (v := .int .i64 (n : Int)) rfl rfl (by kernel_rfl) (by kernel_rfl) (by kernel_rfl) (fun _ _ _ h => h) (Or.inl ⟨by rfl, fun wq hSw => by go_simp⟩) (by assumption) ?_
                simp only [Act.put, List.setIfInBounds_toArray, List.set_cons_zero, List.set_cons_succ]
                refine wpAnyH_takeD 93 (i := 15) (v := .int .i64 (7 * (k : Int) + (n : Int))) rfl rfl (by kernel_rfl) (by kernel_rfl) (by kernel_rfl) (fun _ _ _ h => h) (Or.inl ⟨by rfl, fun wq hSw => by go_simp <;> exact IntWalk.i64_in _ (by omega)⟩) (by assumption) ?_
                simp only [Act.put, List.setIfInBounds_toArray, List.set_cons_zero, List.set_cons_succ]
                refine wpAnyH_takeD 94 (i := 16) (v := .int .u8 (z.toNat : Int)) rfl rfl (by kernel_rfl) (by kernel_rfl) (by kernel_rfl) (fun _ _ _ h => h) (Or.inl ⟨by rfl, fun wq hSw => by have hw8 := HW8.out; go_simp⟩) (by assumption) ?_
                simp only [Act.put, List.setIfInBounds_toArray, List.set_cons_zero, List.set_cons_succ]
                refine wpAnyH_ready (rs := [11, 17]) (by kernel_rfl) (by simp) ?_
                refine AllReadyH.cons rfl (fun K hK => ?_) (AllReadyH.cons rfl (fun K hK => ?_) AllReadyH.nil)
                · as_aux_lemma =>
                    have k5 : wd.cell? ⟨gb, k, none⟩ = some v := WB.b_cell HWB.out HP.out
                    rw [if_pos (by rfl)]
                    go_simp
                    refine hK.out _ _ hHeld (fun hHeld => ?_)
                    clear hK k5
                    refine wpAnyH_ready (rs := [17]) (by kernel_rfl) (by simp) ?_
                    refine AllReadyH.cons rfl (fun K hK => ?_) AllReadyH.nil
                    rw [if_pos (by rfl)]
                    go_simp
                    have hb : Below wd.heap.size wd (wd.alloc (Obj.cells #[.int .u8 (z.toNat : Int)] 5)) := (Below.refl _ _).alloc (Nat.le_refl _) _
                    have HCO := Lib.hid (cell_one_new wd (.int .u8 (z.toNat : Int)) 5)
                    replace HWB := Lib.hid (HWB.out.call hb)
                    have hS2 := Blk.below hHeld hb (Blk.lt hHeld)
                    clear hb hHeld
                    generalize wd.alloc (Obj.cells #[.int .u8 (z.toNat : Int)] 5) = wz at HWB HCO hS2 ⊢
                    generalize wd.heap.size = zb at HCO ⊢
                    refine hK.out _ _ hS2 (fun hHeld => ?_)
                    clear hK hS2
                    refine wpAnyH_ready (rs := [18]) (by kernel_rfl) (by simp) ?_
                    refine AllReadyH.cons rfl (fun K hK => ?_) AllReadyH.nil
                    rw [if_pos (by rfl)]
                    refine wp_append_B (.tmp 89) (.tmp 95) rfl W0.heap.size v l [z] rfl (HWB.out.ob.1 _ (List.mem_of_getElem? HP.out)) ⟨zb, 0, none⟩ 1 rfl HCO.out (by unfold maxLen; have := HLL.out; rw [List.length_singleton]; omega) (by have := HLL.out; rw [List.length_singleton]; omega) HWB.out.r.low.size ?_
                    intro v3 wv hown hgr hor
                    obtain ⟨nA, ncap, rfl⟩ : ∃ A c, v3 = .slice A (l.length + 1) c := by have h := hown.val; rwa [List.length_append, List.length_singleton] at h
                    obtain ⟨hwb4, k4, k5, z5⟩ := HWB.out.grow_bk HP.out hgr hown hor
                    have hbk := Blk.grown hHeld hgr (fun hh => OwnB.blk_ne (HWB.out.ob.1 _ (List.mem_of_getElem? HP.out)) hHeld (by decide) hh.symm)
                    have HW4 := Lib.hid hwb4
                    have HBK := Lib.hid hwb4.r.blk
                    clear hwb4 hown hgr hor HCO HWB hHeld
                    go_simp
                    refine hK.out _ _ hbk (fun hHeld => ?_)
                    clear hK hbk
                    refine wpAnyH_takeD 97 (i := 19) (v := .pointer (some ⟨gb, k, none⟩)) rfl rfl (by kernel_rfl) (by kernel_rfl) (by kernel_rfl) (fun _ _ _ h => h) (Or.inl ⟨by rfl, fun wq hSw => by go_simp⟩) (by assumption) ?_
                    simp only [Act.put, List.setIfInBounds_toArray, List.set_cons_zero, List.set_cons_succ]
                    refine wpAnyH_ready (rs := [20]) (by kernel_rfl) (by simp) ?_
                    refine AllReadyH.cons rfl (fun K hK => ?_) AllReadyH.nil
                    rw [if_pos (by rfl)]
                    go_simp
                    refine hK.out _ _ HBK.out (fun hHeld => ?_)
                    clear hK
                    refine wpAnyH_done (by kernel_rfl) ?_ _
                    go_wp2_with fail
                    go_meet
                    case rel => exact ⟨_, HW4.out⟩
                · as_aux_lemma =>
                    rw [if_pos (by rfl)]
                    go_simp
                    have hb : Below wd.heap.size wd (wd.alloc (Obj.cells #[.int .u8 (z.toNat : Int)] 5)) := (Below.refl _ _).alloc (Nat.le_refl _) _
                    have HCO := Lib.hid (cell_one_new wd (.int .u8 (z.toNat : Int)) 5)
                    replace HWB := Lib.hid (HWB.out.call hb)
                    have hS2 := Blk.below hHeld hb (Blk.lt hHeld)
                    clear hb hHeld
                    generalize wd.alloc (Obj.cells #[.int .u8 (z.toNat : Int)] 5) = wz at HWB HCO hS2 ⊢
                    generalize wd.heap.size = zb at HCO ⊢
                    refine hK.out _ _ hS2 (fun hHeld => ?_)
                    clear hK hS2
                    refine wpAnyH_ready (rs := [11]) (by kernel_rfl) (by simp) ?_
                    refine AllReadyH.cons rfl (fun K hK => ?_) AllReadyH.nil
                    have k5 : wz.cell? ⟨gb, k, none⟩ = some v := WB.b_cell HWB.out HP.out
                    rw [if_pos (by rfl)]
                    go_simp
                    refine hK.out _ _ hHeld (fun hHeld => ?_)
                    clear hK k5
                    refine wpAnyH_ready (rs := [18]) (by kernel_rfl) (by simp) ?_
                    refine AllReadyH.cons rfl (fun K hK => ?_) AllReadyH.nil
                    rw [if_pos (by rfl)]
                    refine wp_append_B (.tmp 89) (.tmp 95) rfl W0.heap.size v l [z] rfl (HWB.out.ob.1 _ (List.mem_of_getElem? HP.out)) ⟨zb, 0, none⟩ 1 rfl HCO.out (by unfold maxLen; have := HLL.out; rw [List.length_singleton]; omega) (by have := HLL.out; rw [List.length_singleton]; omega) HWB.out.r.low.size ?_
                    intro v3 wv hown hgr hor
                    obtain ⟨nA, ncap, rfl⟩ : ∃ A c, v3 = .slice A (l.length + 1) c := by have h := hown.val; rwa [List.length_append, List.length_singleton] at h
                    obtain ⟨hwb4, k4, k5, z5⟩ := HWB.out.grow_bk HP.out hgr hown hor
                    have hbk := Blk.grown hHeld hgr (fun hh => OwnB.blk_ne (HWB.out.ob.1 _ (List.mem_of_getElem? HP.out)) hHeld (by decide) hh.symm)
                    have HW4 := Lib.hid hwb4
                    have HBK := Lib.hid hwb4.r.blk
                    clear hwb4 hown hgr hor HCO HWB hHeld
                    go_simp
                    refine hK.out _ _ hbk (fun hHeld => ?_)
                    clear hK hbk
                    refine wpAnyH_takeD 97 (i := 19) (v := .pointer (some ⟨gb, k, none⟩)) rfl rfl (by kernel_rfl) (by kernel_rfl) (by kernel_rfl) (fun _ _ _ h => h) (Or.inl ⟨by rfl, fun wq hSw => by go_simp⟩) (by assumption) ?_
                    simp only [Act.put, List.setIfInBounds_toArray, List.set_cons_zero, List.set_cons_succ]
                    refine wpAnyH_ready (rs := [20]) (by kernel_rfl) (by simp) ?_
                    refine AllReadyH.cons rfl (fun K hK => ?_) AllReadyH.nil
                    rw [if_pos (by rfl)]
                    go_simp
                    refine hK.out _ _ HBK.out (fun hHeld => ?_)
                    clear hK
                    refine wpAnyH_done (by kernel_rfl) ?_ _
                    go_wp2_with fail
                    go_meet
                    case rel => exact ⟨_, HW4.out⟩
              obtain ⟨v2, hcut⟩ := hcut
              replace HWB := Lib.hid hcut
              clear hcut
              have HP1 := HP
              replace HP := HC
              go_upto_region 21 with (fail)
              have HM4 := Lib.hid (show (bl2.set k (v2, l ++ [z])).length = m from (set_len _ _ _).trans HM.out)
              have HG4 := Lib.hid (HGR.out.step (v' := v2) (z := z) HP1.out)
              refine wp_region_held_drew (S := fun wx => Blk wx q 86 (worldL gu gr (.slice none 0 0) (.slice none 0 0) (.slice (some ⟨gb, 0, none⟩) m capb) (.slice (some ⟨gc, 0, none⟩) m capc)).toArray) (by kernel_rfl) (Blk.drew HWB.out.r.blk) (fun hHeld => ?_)
              replace HWB := Lib.hid (HWB.out.call (below_drew wc))
              generalize wc.drew = wd at HWB hHeld ⊢
              refine wpAnyH_takeD 98 (i := 0) (v := .pointer (some ⟨q, 0, none⟩)) rfl rfl (by kernel_rfl) (by kernel_rfl) (by kernel_rfl) (fun _ _ _ h => h) (Or.inl ⟨by rfl, fun wq hSw => by go_simp⟩) (by assumption) ?_
              simp only [Act.put, List.setIfInBounds_toArray, List.set_cons_zero, List.set_cons_succ]
              refine wpAnyH_takeD 99 (i := 1) (v := .pointer (some ⟨q, 0, none⟩)) rfl rfl (by kernel_rfl) (by kernel_rfl) (by kernel_rfl) (fun _ _ _ h => h) (Or.inl ⟨by rfl, fun wq hSw => by go_simp⟩) (by assumption) ?_
              simp only [Act.put, List.setIfInBounds_toArray, List.set_cons_zero, List.set_cons_succ]
              refine wpAnyH_takeD 100 (i := 2) (v := .pointer (some ⟨q, 5, none⟩)) rfl rfl (by kernel_rfl) (by kernel_rfl) (by kernel_rfl) (fun _ _ _ h => h) (Or.inl ⟨by rfl, fun wq hSw => by go_simp⟩) (by assumption) ?_
              simp only [Act.put, List.setIfInBounds_toArray, List.set_cons_zero, List.set_cons_succ]
              refine wpAnyH_takeD 101 (i := 3) (v := .slice (some ⟨gc, 0, none⟩) m capc) rfl rfl (by kernel_rfl) (by kernel_rfl) (by kernel_rfl) (fun _ _ _ h => h) (Or.inl ⟨by rfl, fun wq hSw => by have k4 : wq.cell? ⟨q, 5, none⟩ = some (.slice (some ⟨gc, 0, none⟩) m capc) := Blk.cell hSw 5; go_simp⟩) (by assumption) ?_
              simp only [Act.put, List.setIfInBounds_toArray, List.set_cons_zero, List.set_cons_succ]
              refine wpAnyH_takeD 102 (i := 4) (v := .int .i64 (k : Int)) rfl rfl (by kernel_rfl) (by kernel_rfl) (by kernel_rfl) (fun _ _ _ h => h) (Or.inl ⟨by rfl, fun wq hSw => by go_simp⟩) (by assumption) ?_
              simp only [Act.put, List.setIfInBounds_toArray, List.set_cons_zero, List.set_cons_succ]
              refine wpAnyH_takeD 103 (i := 5) (v := .pointer (some ⟨q, 0, none⟩)) rfl rfl (by kernel_rfl) (by kernel_rfl) (by kernel_rfl) (fun _ _ _ h => h) (Or.inl ⟨by rfl, fun wq hSw => by go_simp⟩) (by assumption) ?_
              simp only [Act.put, List.setIfInBounds_toArray, List.set_cons_zero, List.set_cons_succ]
              refine wpAnyH_takeD 104 (i := 6) (v := .pointer (some ⟨q, 0, none⟩)) rfl rfl (by kernel_rfl) (by kernel_rfl) (by kernel_rfl) (fun _ _ _ h => h) (Or.inl ⟨by rfl, fun wq hSw => by go_simp⟩) (by assumption) ?_
              simp only [Act.put, List.setIfInBounds_toArray, List.set_cons_zero, List.set_cons_succ]
              refine wpAnyH_takeD 105 (i := 7) (v := .pointer (some ⟨q, 5, none⟩)) rfl rfl (by kernel_rfl) (by kernel_rfl) (by kernel_rfl) (fun _ _ _ h => h) (Or.inl ⟨by rfl, fun wq hSw => by go_simp⟩) (by assumption) ?_
              simp only [Act.put, List.setIfInBounds_toArray, List.set_cons_zero, List.set_cons_succ]
              refine wpAnyH_takeD 106 (i := 8) (v := .slice (some ⟨gc, 0, none⟩) m capc) rfl rfl (by kernel_rfl) (by kernel_rfl) (by kernel_rfl) (fun _ _ _ h => h) (Or.inl ⟨by rfl, fun wq hSw => by have k4 : wq.cell? ⟨q, 5, none⟩ = some (.slice (some ⟨gc, 0, none⟩) m capc) := Blk.cell hSw 5; go_simp⟩) (by assumption) ?_
              simp only [Act.put, List.setIfInBounds_toArray, List.set_cons_zero, List.set_cons_succ]
              refine wpAnyH_takeD 107 (i := 9) (v := .int .i64 (k : Int)) rfl rfl (by kernel_rfl) (by kernel_rfl) (by kernel_rfl) (fun _ _ _ h => h) (Or.inl ⟨by rfl, fun wq hSw => by go_simp⟩) (by assumption) ?_
              simp only [Act.put, List.setIfInBounds_toArray, List.set_cons_zero, List.set_cons_succ]
              refine wpAnyH_takeD 108 (i := 10) (v := .pointer (some ⟨gc, k, none⟩)) rfl rfl (by kernel_rfl) (by kernel_rfl) (by kernel_rfl) (fun _ _ _ h => h) (Or.inl ⟨by rfl, fun wq hSw => by go_simp⟩) (by assumption) ?_
              simp only [Act.put, List.setIfInBounds_toArray, List.set_cons_zero, List.set_cons_succ]
              refine wpAnyH_takeD 110 (i := 12) (v := .int .i64 (k : Int)) rfl rfl (by kernel_rfl) (by kernel_rfl) (by kernel_rfl) (fun _ _ _ h => h) (Or.inl ⟨by rfl, fun wq hSw => by go_simp⟩) (by assumption) ?_
              simp only [Act.put, List.setIfInBounds_toArray, List.set_cons_zero, List.set_cons_succ]
              refine wpAnyH_takeD 111 (i := 13) (v := .int .i64 (7 * (k : Int))) rfl rfl (by kernel_rfl) (by kernel_rfl) (by kernel_rfl) (fun _ _ _ h => h) (Or.inl ⟨by rfl, fun wq hSw => by go_simp <;> exact IntWalk.i64_in _ (by omega)⟩) (by assumption) ?_
              simp only [Act.put, List.setIfInBounds_toArray, List.set_cons_zero, List.set_cons_succ]
              refine wpAnyH_takeD 112 (i := 14) (v := .int .i64 (n : Int)) rfl rfl (by kernel_rfl) (by kernel_rfl) (by kernel_rfl) (fun _ _ _ h => h) (Or.inl ⟨by rfl, fun wq hSw => by go_simp⟩) (by assumption) ?_
              simp only [Act.put, List.setIfInBounds_toArray, List.set_cons_zero, List.set_cons_succ]
              refine wpAnyH_takeD 113 (i := 15) (v := .int .i64 (7 * (k : Int) + (n : Int))) rfl rfl (by kernel_rfl) (by kernel_rfl) (by kernel_rfl) (fun _ _ _ h => h) (Or.inl ⟨by rfl, fun wq hSw => by go_simp <;> exact IntWalk.i64_in _ (by omega)⟩) (by assumption) ?_
              simp only [Act.put, List.setIfInBounds_toArray, List.set_cons_zero, List.set_cons_succ]
              refine wpAnyH_takeD 114 (i := 16) (v := .int .u8 (z.toNat : Int)) rfl rfl (by kernel_rfl) (by kernel_rfl) (by kernel_rfl) (fun _ _ _ h => h) (Or.inl ⟨by rfl, fun wq hSw => by have hw8 := HW8.out; go_simp⟩) (by assumption) ?_
              simp only [Act.put, List.setIfInBounds_toArray, List.set_cons_zero, List.set_cons_succ]
              refine wpAnyH_ready (rs := [11, 17]) (by kernel_rfl) (by simp) ?_
              refine AllReadyH.cons rfl (fun K hK => ?_) (AllReadyH.cons rfl (fun K hK => ?_) AllReadyH.nil)
              · as_aux_lemma =>
                  have k5 : wd.cell? ⟨gc, k, none⟩ = some cv := WB.c_cell HWB.out HP.out
                  rw [if_pos (by rfl)]
                  go_simp
                  refine hK.out _ _ hHeld (fun hHeld => ?_)
                  clear hK k5
                  refine wpAnyH_ready (rs := [17]) (by kernel_rfl) (by simp) ?_
                  refine AllReadyH.cons rfl (fun K hK => ?_) AllReadyH.nil
                  rw [if_pos (by rfl)]
                  go_simp
                  have hb : Below wd.heap.size wd (wd.alloc (Obj.cells #[.int .u8 (z.toNat : Int)] 5)) := (Below.refl _ _).alloc (Nat.le_refl _) _
                  have HCO := Lib.hid (cell_one_new wd (.int .u8 (z.toNat : Int)) 5)
                  replace HWB := Lib.hid (HWB.out.call hb)
                  have hS2 := Blk.below hHeld hb (Blk.lt hHeld)
                  clear hb hHeld
                  generalize wd.alloc (Obj.cells #[.int .u8 (z.toNat : Int)] 5) = wz at HWB HCO hS2 ⊢
                  generalize wd.heap.size = zb at HCO ⊢
                  refine hK.out _ _ hS2 (fun hHeld => ?_)
                  clear hK hS2
                  refine wpAnyH_ready (rs := [18]) (by kernel_rfl) (by simp) ?_
                  refine AllReadyH.cons rfl (fun K hK => ?_) AllReadyH.nil
                  rw [if_pos (by rfl)]
                  refine wp_append_B (.tmp 109) (.tmp 115) rfl W0.heap.size cv l [z] rfl (HWB.out.oc.1 _ (List.mem_of_getElem? HP.out)) ⟨zb, 0, none⟩ 1 rfl HCO.out (by unfold maxLen; have := HLL.out; rw [List.length_singleton]; omega) (by have := HLL.out; rw [List.length_singleton]; omega) HWB.out.r.low.size ?_
                  intro v3 wv hown hgr hor
                  obtain ⟨nA, ncap, rfl⟩ : ∃ A c, v3 = .slice A (l.length + 1) c := by have h := hown.val; rwa [List.length_append, List.length_singleton] at h
                  obtain ⟨hwb4, k4, k5, z5⟩ := HWB.out.grow_ck HP.out hgr hown hor
                  have hbk := Blk.grown hHeld hgr (fun hh => OwnB.blk_ne (HWB.out.oc.1 _ (List.mem_of_getElem? HP.out)) hHeld (by decide) hh.symm)
                  have HW4 := Lib.hid hwb4
                  have HBK := Lib.hid hwb4.r.blk
                  clear hwb4 hown hgr hor HCO HWB hHeld
                  go_simp
                  refine hK.out _ _ hbk (fun hHeld => ?_)
                  clear hK hbk
                  refine wpAnyH_takeD 117 (i := 19) (v := .pointer (some ⟨gc, k, none⟩)) rfl rfl (by kernel_rfl) (by kernel_rfl) (by kernel_rfl) (fun _ _ _ h => h) (Or.inl ⟨by rfl, fun wq hSw => by go_simp⟩) (by assumption) ?_
                  simp only [Act.put, List.setIfInBounds_toArray, List.set_cons_zero, List.set_cons_succ]
                  refine wpAnyH_ready (rs := [20]) (by kernel_rfl) (by simp) ?_
                  refine AllReadyH.cons rfl (fun K hK => ?_) AllReadyH.nil
                  rw [if_pos (by rfl)]
                  go_simp
                  refine hK.out _ _ HBK.out (fun hHeld => ?_)
                  clear hK
                  refine wpAnyH_done (by kernel_rfl) ?_ _
                  have HA4 := Lib.hid (HAG.out.set_ k v2 (.slice nA (l.length + 1) ncap) (l ++ [z]))
                  go_wp2_with fail
                  go_roundw
                  case rel => exact ⟨k + 1, _, _, by omega, by go_num, HW4.out, HA4.out, HM4.out, HG4.out⟩
                  case measure => simp [intOf]; omega
              · as_aux_lemma =>
                  rw [if_pos (by rfl)]
                  go_simp
                  have hb : Below wd.heap.size wd (wd.alloc (Obj.cells #[.int .u8 (z.toNat : Int)] 5)) := (Below.refl _ _).alloc (Nat.le_refl _) _
                  have HCO := Lib.hid (cell_one_new wd (.int .u8 (z.toNat : Int)) 5)
                  replace HWB := Lib.hid (HWB.out.call hb)
                  have hS2 := Blk.below hHeld hb (Blk.lt hHeld)
                  clear hb hHeld
                  generalize wd.alloc (Obj.cells #[.int .u8 (z.toNat : Int)] 5) = wz at HWB HCO hS2 ⊢
                  generalize wd.heap.size = zb at HCO ⊢
                  refine hK.out _ _ hS2 (fun hHeld => ?_)
                  clear hK hS2
                  refine wpAnyH_ready (rs := [11]) (by kernel_rfl) (by simp) ?_
                  refine AllReadyH.cons rfl (fun K hK => ?_) AllReadyH.nil
                  have k5 : wz.cell? ⟨gc, k, none⟩ = some cv := WB.c_cell HWB.out HP.out
                  rw [if_pos (by rfl)]
                  go_simp
                  refine hK.out _ _ hHeld (fun hHeld => ?_)
                  clear hK k5
                  refine wpAnyH_ready (rs := [18]) (by kernel_rfl) (by simp) ?_
                  refine AllReadyH.cons rfl (fun K hK => ?_) AllReadyH.nil
                  rw [if_pos (by rfl)]
                  refine wp_append_B (.tmp 109) (.tmp 115) rfl W0.heap.size cv l [z] rfl (HWB.out.oc.1 _ (List.mem_of_getElem? HP.out)) ⟨zb, 0, none⟩ 1 rfl HCO.out (by unfold maxLen; have := HLL.out; rw [List.length_singleton]; omega) (by have := HLL.out; rw [List.length_singleton]; omega) HWB.out.r.low.size ?_
                  intro v3 wv hown hgr hor
                  obtain ⟨nA, ncap, rfl⟩ : ∃ A c, v3 = .slice A (l.length + 1) c := by have h := hown.val; rwa [List.length_append, List.length_singleton] at h
                  obtain ⟨hwb4, k4, k5, z5⟩ := HWB.out.grow_ck HP.out hgr hown hor
                  have hbk := Blk.grown hHeld hgr (fun hh => OwnB.blk_ne (HWB.out.oc.1 _ (List.mem_of_getElem? HP.out)) hHeld (by decide) hh.symm)
                  have HW4 := Lib.hid hwb4
                  have HBK := Lib.hid hwb4.r.blk
                  clear hwb4 hown hgr hor HCO HWB hHeld
                  go_simp
                  refine hK.out _ _ hbk (fun hHeld => ?_)
                  clear hK hbk
                  refine wpAnyH_takeD 117 (i := 19) (v := .pointer (some ⟨gc, k, none⟩)) rfl rfl (by kernel_rfl) (by kernel_rfl) (by kernel_rfl) (fun _ _ _ h => h) (Or.inl ⟨by rfl, fun wq hSw => by go_simp⟩) (by assumption) ?_
                  simp only [Act.put, List.setIfInBounds_toArray, List.set_cons_zero, List.set_cons_succ]
                  refine wpAnyH_ready (rs := [20]) (by kernel_rfl) (by simp) ?_
                  refine AllReadyH.cons rfl (fun K hK => ?_) AllReadyH.nil
                  rw [if_pos (by rfl)]
                  go_simp
                  refine hK.out _ _ HBK.out (fun hHeld => ?_)
                  clear hK
                  refine wpAnyH_done (by kernel_rfl) ?_ _
                  have HA4 := Lib.hid (HAG.out.set_ k v2 (.slice nA (l.length + 1) ncap) (l ++ [z]))
                  go_wp2_with fail
                  go_roundw
                  case rel => exact ⟨k + 1, _, _, by omega, by go_num, HW4.out, HA4.out, HM4.out, HG4.out⟩
                  case measure => simp [intOf]; omega
            · have hlt' : ¬ (k : Int) < (m : Int) := by omega
              have HD := Lib.hid HGR.out.done
              go_wp2_with fail
              go_roundw
              case rel => exact ⟨n + 1, bl2, cl2, by omega, by go_num, HWB.out, HAG.out, HM.out, HD.out⟩
              case measure => simp [intOf]; omega
        · have hn40' : ¬ (n : Int) < 40 := by omega
          go_wp2_with (go_at_call 31; (with_reducible refine (still_calls HWB.out HAG.out).mono ?_); rintro e w9 ⟨rfl, hb⟩; have HB9 := Lib.hid (HWB.out.call hb).r.low; clear hb)
          go_ret
          exact ⟨rfl, HB9.out⟩
end
end Go.Proofs.YtlenlldiimohjaaGreatDoor
