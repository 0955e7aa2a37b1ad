/-
  ADoD: what AuthDoes needs of them.
-/
import Derived.Test.YtlenlldiimohjaaGreatDoorQ16
import Derived.Test.YtlenlldiimohjaaGreatDoorQ17
namespace Go.Proofs.YtlenlldiimohjaaGreatDoor
open Go.RowKit

/-- The tables and the library's variables, ahead of the law's world. -/
structure DT (W0 : World) (gu gr : Nat) (L : List Acct) : Prop where
  pt : PTab W0 gu L
  rt : RTab W0 gr L
  tz : TZ W0
  sv : SV W0
  ks : ∀ u, (keyOfUser L u).size ≤ 32
theorem DT.below {W0 w : World} {gu gr : Nat} {L : List Acct} (h : DT W0 gu gr L) (hb : Below W0.heap.size W0 w) : DT w gu gr L := ⟨h.pt.below hb, h.rt.below hb, h.tz.below hb (Nat.le_refl _), h.sv.below hb (Nat.le_refl _), h.ks⟩
/-- Nothing of what came out lies in that block. -/
def Away (ts : List TalkW) (bl cl : List (Value × List UInt8)) (g : Nat) : Prop := Free bl g ∧ Free cl g ∧ ∀ x ∈ ts, x.hv.ownBlock ≠ some g ∧ x.hw.ownBlock ≠ some g
section
variable {W0 w w' : World} {q gu gr g base : Nat} {vt vw vb vc v : Value} {ts : List TalkW} {bl cl : List (Value × List UInt8)} {l : List UInt8}
theorem WB.away_new (h : WB W0 q gu gr vt vw vb vc ts bl cl w) (hg : w.heap.size ≤ g) : Away ts bl cl g :=
  ⟨h.ob.lt hg, h.oc.lt hg, fun x hx => ⟨fun hh => Nat.lt_irrefl g (Nat.lt_of_lt_of_le ((h.tk x hx).1.lt g hh).2 hg), fun hh => Nat.lt_irrefl g (Nat.lt_of_lt_of_le ((h.tk x hx).2.lt g hh).2 hg)⟩⟩
/-- What is lent is written over. -/
theorem WB.over_ {a b : Nat} (h : WB W0 q gu gr vt vw vb vc ts bl cl w) (hl : Lent w base (.slice (some ⟨g, 0, none⟩) a b) l) (hb : W0.heap.size ≤ base) (ha : Away ts bl cl g) (hg : w.grownBy w' (some g)) : WB W0 q gu gr vt vw vb vc ts bl cl w' := by
  obtain ⟨g', e, h1, h2⟩ := hl
  injection e with e
  injection e with e
  injection e with e
  subst e
  have key : ∀ {b2 size n : Nat} {t : TypeId} {v2 : Value} {xs : List Value}, w.ownsRow b2 t size v2 n xs → t ≠ 5 → w'.ownsRow b2 t size v2 n xs := fun {b2 size n t v2 xs} hq hne => hq.kept hg (.inr (own_blk_ne hq h2 hne))
  have hk := grown_at hg
  refine ⟨⟨h.r.low.grown hg h.r.low.size (fun k hk => by injection hk with hk; rw [← hk]; exact Nat.le_trans hb h1), h.r.qle, Blk.grown h.r.blk hg (fun hh => Blk.ne_ h.r.blk h2 (by decide) (Option.some.inj hh)), key h.r.rt (by decide), key h.r.rw_ (by decide), key h.r.rb (by decide), key h.r.rc (by decide), h.r.tw, h.r.bc⟩, ⟨fun p hp => ?_, h.ob.2⟩, ⟨fun p hp => ?_, h.oc.2⟩, h.ap, fun x hx => ⟨?_, ?_⟩⟩
  · exact (h.ob.1 p hp).kept (fun k hpk => hk k ((h.ob.1 p hp).lt k hpk).2 (fun hc => by injection hc with hc; subst hc; exact ha.1 p hp hpk))
  · exact (h.oc.1 p hp).kept (fun k hpk => hk k ((h.oc.1 p hp).lt k hpk).2 (fun hc => by injection hc with hc; subst hc; exact ha.2.1 p hp hpk))
  · exact (h.tk x hx).1.kept (fun k hpk => hk k ((h.tk x hx).1.lt k hpk).2 (fun hc => by injection hc with hc; subst hc; exact (ha.2.2 x hx).1 hpk))
  · exact (h.tk x hx).2.kept (fun k hpk => hk k ((h.tk x hx).2.lt k hpk).2 (fun hc => by injection hc with hc; subst hc; exact (ha.2.2 x hx).2 hpk))
end
/-- The state between two steps. -/
def DW (W0 : World) (q gu gr lo n m : Nat) (G : Nat → Prop) (w : World) : Prop := ∃ vt vw vb vc ts bl cl, WB W0 q gu gr vt vw vb vc ts bl cl w ∧ Ag bl cl ∧ (∀ p ∈ bl, p.2.length ≤ 100) ∧ (∀ x ∈ ts, TalkOk x.t x.l) ∧ lo ≤ ts.length ∧ ts.length ≤ n ∧ bl.length ≤ m ∧ ∀ g, G g → Away ts bl cl g
theorem DW.call {W0 w w' : World} {q gu gr lo n m : Nat} {G : Nat → Prop} (h : DW W0 q gu gr lo n m G w) (hb : Below w.heap.size w w') : DW W0 q gu gr lo n m G w' := by
  obtain ⟨vt, vw, vb, vc, ts, bl, cl, h1, h2⟩ := h
  exact ⟨vt, vw, vb, vc, ts, bl, cl, h1.call hb, h2⟩
theorem DW.low {W0 w : World} {q gu gr lo n m : Nat} {G : Nat → Prop} (h : DW W0 q gu gr lo n m G w) : Below W0.heap.size W0 w := by
  obtain ⟨vt, vw, vb, vc, ts, bl, cl, h1, h2⟩ := h
  exact h1.r.low
theorem DW.more {W0 w : World} {q gu gr lo n m n' m' : Nat} {G G' : Nat → Prop} (h : DW W0 q gu gr lo n m G w) (hn : n ≤ n') (hm : m ≤ m') (hG : ∀ g, G' g → G g) : DW W0 q gu gr lo n' m' G' w := by
  obtain ⟨vt, vw, vb, vc, ts, bl, cl, h1, h2, h3, h4, h5, h6, h7, h8⟩ := h
  exact ⟨vt, vw, vb, vc, ts, bl, cl, h1, h2, h3, h4, h5, Nat.le_trans h6 hn, Nat.le_trans h7 hm, fun g hg => h8 g (hG g hg)⟩
theorem DW.away {W0 w : World} {q gu gr lo n m g : Nat} {G : Nat → Prop} (h : DW W0 q gu gr lo n m G w) (hg : w.heap.size ≤ g) : DW W0 q gu gr lo n m (fun x => G x ∨ x = g) w := by
  obtain ⟨vt, vw, vb, vc, ts, bl, cl, h1, h2, h3, h4, h5, h6, h7, h8⟩ := h
  exact ⟨vt, vw, vb, vc, ts, bl, cl, h1, h2, h3, h4, h5, h6, h7, fun x hx => hx.elim (h8 x) (fun e => e ▸ h1.away_new hg)⟩
theorem Ag.snoc {bl cl : List (Value × List UInt8)} (h : Ag bl cl) (v c : Value) (l : List UInt8) : Ag (bl ++ [(v, l)]) (cl ++ [(c, l)]) := by
  unfold Ag
  rw [List.map_append, List.map_append, h]
  rfl
theorem Away.snoc {ts : List TalkW} {bl cl : List (Value × List UInt8)} {v c : Value} {l : List UInt8} {g : Nat} (h : Away ts bl cl g) (hv : v.ownBlock ≠ some g) (hc : c.ownBlock ≠ some g) : Away ts (bl ++ [(v, l)]) (cl ++ [(c, l)]) g := ⟨h.1.snoc hv, h.2.1.snoc hc, h.2.2⟩
theorem Away.talk {ts : List TalkW} {bl cl : List (Value × List UInt8)} {x : TalkW} {g : Nat} (h : Away ts bl cl g) (hv : x.hv.ownBlock ≠ some g) (hw : x.hw.ownBlock ≠ some g) : Away (ts ++ [x]) bl cl g := ⟨h.1, h.2.1, fun y hy => by
  rcases List.mem_append.1 hy with hy | hy
  · exact h.2.2 y hy
  · rw [List.mem_singleton] at hy
    subst hy
    exact ⟨hv, hw⟩⟩
theorem Lent.lt_ {w : World} {base g a b : Nat} {l : List UInt8} (h : Lent w base (.slice (some ⟨g, 0, none⟩) a b) l) : g < w.heap.size := by
  obtain ⟨g', e, h1, h2⟩ := h
  injection e with e
  injection e with e
  injection e with e
  rw [e]
  exact Blk.lt h2
theorem Lent.ge_ {w : World} {base g a b : Nat} {l : List UInt8} (h : Lent w base (.slice (some ⟨g, 0, none⟩) a b) l) : base ≤ g := by
  obtain ⟨g', e, h1, h2⟩ := h
  injection e with e
  injection e with e
  injection e with e
  rw [e]
  exact h1
theorem Lent.kept {w w' : World} {base g gx a b : Nat} {l : List UInt8} (h : Lent w base (.slice (some ⟨g, 0, none⟩) a b) l) (hg : w.grownBy w' (some gx)) (hne : g ≠ gx) : Lent w' base (.slice (some ⟨g, 0, none⟩) a b) l := by
  have hlt := h.lt_
  obtain ⟨g', e, h1, h2⟩ := h
  have e2 := e
  injection e2 with e2
  injection e2 with e2
  injection e2 with e2
  subst e2
  exact ⟨g, e, h1, (hg.block g hlt (fun hh => hne (Option.some.inj hh))).trans h2⟩
/-- One Talk more, or none. -/
theorem talks_more {ts : List TalkW} {bl cl : List (Value × List UInt8)} {x : TalkW} {e : Int} {g : Nat} (h : ∀ y ∈ ts, TalkOk y.t y.l) (hx : e = 0 → TalkOk x.t x.l) (ha : Away ts bl cl g) (hv : x.hv.ownBlock ≠ some g) (hw : x.hw.ownBlock ≠ some g) :
    (∀ y ∈ (if e = 0 then ts ++ [x] else ts), TalkOk y.t y.l) ∧ ts.length ≤ (if e = 0 then ts ++ [x] else ts).length ∧ (if e = 0 then ts ++ [x] else ts).length ≤ ts.length + 1 ∧ Away (if e = 0 then ts ++ [x] else ts) bl cl g := by
  by_cases he : e = 0
  · rw [if_pos he]
    refine ⟨fun y hy => ?_, by rw [List.length_append]; omega, by rw [List.length_append]; exact Nat.le_refl _, ha.talk hv hw⟩
    rcases List.mem_append.1 hy with hy | hy
    · exact h y hy
    · rw [List.mem_singleton] at hy
      subst hy
      exact hx he
  · rw [if_neg he]
    exact ⟨h, Nat.le_refl _, Nat.le_succ _, ha⟩
theorem snoc_all {bl : List (Value × List UInt8)} {v : Value} {l : List UInt8} {N : Nat} (h : ∀ p ∈ bl, p.2.length ≤ N) (hl : l.length ≤ N) : ∀ p ∈ bl ++ [(v, l)], p.2.length ≤ N := fun p hp => by
  rcases List.mem_append.1 hp with hp | hp
  · exact h p hp
  · rw [List.mem_singleton] at hp
    subst hp
    exact hl
/-- A Talk is loaded out of a row. -/
theorem wTrow {ops : Array Oper} {rest : List Oper} {op : Oper} {a : Act} {w : World} {Q : Exit → Act → World → Prop} {g o : Nat} {t : Tk} {hv : Value} (hr : w.rangeAt g o (talkL t hv)) (hgd : op.guard = none) (x : Operand) (ho : op.op = .load 54 x) (hx : a.eval x = .pointer (some ⟨g, o, none⟩))
    (h : wpList Tryz.prog ops Q rest (a.put op.dst (talkV t hv)) w) : wpList Tryz.prog ops Q (op :: rest) a w :=
  wpList_load_mid hgd _ x ho g o hx (talkL t hv) _ hr Tryz.underlying54 rfl talk_size h
theorem row_said {w : World} {g o : Nat} {t : Tk} {hv : Value} (hr : w.rangeAt g o (talkL t hv)) : w.cell? ⟨g, o + 6, none⟩ = some hv := hr 6 hv rfl
/-- Every step's block is as it was. -/
abbrev SameO (w w' : World) : Prop := SameT (fun t => t == 92) w w'
theorem SameT.so {w w' : World} (h : Same8 w w') : SameO w w' := h.mono fun t ht => by
  have : t = 92 := by simpa using ht
  subst this
  rfl
theorem SameO.over_ {w w' : World} {base g a b : Nat} {l : List UInt8} (h : Lent w base (.slice (some ⟨g, 0, none⟩) a b) l) (hg : w.grownBy w' (some g)) : SameO w w' := ⟨hg.size, fun k cs t fz ht hk => hg.block k (Array.getElem?_eq_some_iff.1 hk).1 (fun he => by
  injection he with he
  subst he
  obtain ⟨g', e, -, h2⟩ := h
  injection e with e
  injection e with e
  injection e with e
  subst e
  have h2 : w.heap[k]? = _ := h2
  rw [hk] at h2
  injection h2 with h2
  injection h2 with _ h2 _
  subst h2
  cases ht)⟩
theorem OBlk.so {w w' : World} {q : Nat} {o : OpD} {v : OpV} (h : OBlk w q o v) (hs : SameO w w') : OBlk w' q o v := hs.blk rfl h
set_option maxRecDepth 100000 in
set_option maxHeartbeats 12800000 in
/-- Write to a Talk; and again. -/
theorem lwrite_calls {W0 w : World} {q gu gr lo n m : Nat} {L : List Acct} (hd : DT W0 gu gr L) (h : DW W0 q gu gr lo n m (fun _ => False) w) (k : Nat) (hk : k < lo) (bv cv : Value) (b c : List UInt8) (hb : Bys w w.heap.size bv b) (hc : Bys W0 W0.heap.size cv c) (hbl : b.length ≤ 268435456) (hn : n ≤ 268435456) (hm : m ≤ 268435456) :
    Calls Tryz.prog 89 #[.pointer (some ⟨q, 0, none⟩), .int .i64 (k : Int), bv, cv] w fun e w' => e = .returned (.bool true) ∧ DW W0 q gu gr lo (n + 2) (m + 2) (fun _ => False) w' ∧ SameO w w' := by
  obtain ⟨i0, hi0, hz0, hz1, hz2⟩ := info_parts u8_info
  have HI := Lib.hid hi0; clear hi0
  have HZ0 := Lib.hid hz0; clear hz0
  have HZ1 := Lib.hid hz1; clear hz1
  have HZ2 := Lib.hid hz2; clear hz2
  have HD := Lib.hid hd
  have HWS0 := Lib.hid h
  have HBY := Lib.hid hb
  have HCY := Lib.hid hc
  have HB47 := Lib.hid (show b.length ≤ 1099511627776 from by omega)
  have HBL := Lib.hid hbl
  clear hd h hb hc hbl
  go_enter Tryz.func89, Tryz.ntmps89
  go_upto_region 2 with (go_at_call 125; (with_reducible refine (lent_calls bv b _ HBY.out HB47.out).mono ?_); rintro e w1 ⟨⟨lv, rfl, hlent⟩, hb⟩; have HLT := Lib.hid hlent; have HBA := Lib.hid hb; have HSZ := Lib.hid (HWS0.out.low.size); clear hlent hb)
  have HL2 := Lib.hid (show ∃ gl, lv = .slice (some ⟨gl, 0, none⟩) b.length (b.length + 3) ∧ w.heap.size ≤ gl from by obtain ⟨g, e, h1, -⟩ := HLT.out; exact ⟨g, e, h1⟩)
  obtain ⟨gl, rfl, hgl⟩ := HL2.out
  clear HL2
  have HLW := Lib.hid (HLT.out.more HSZ.out)
  have HWSG := Lib.hid ((HWS0.out.away hgl).call HBA.out)
  have HSO0 := Lib.hid (show SameO w w1 from SameT.of_below HBA.out)
  clear HLT HBA HWS0
  obtain ⟨nb, hnb⟩ : ∃ x, b.length = x := ⟨_, rfl⟩
  rw [hnb] at HLW HB47 HBL ⊢
  have HNB := Lib.hid hnb
  have hnb28 : nb ≤ 268435456 := HBL.out
  clear hnb hgl
  go_wp2_with fail
  go_loopw [10] (fun r wr => ∃ (r' : Nat) (lc : List UInt8), r' ≤ 2 ∧ r = .int .i64 (r' : Int) ∧ lc.length = nb ∧ Lent wr W0.heap.size (.slice (some ⟨gl, 0, none⟩) nb (nb + 3)) lc ∧ DW W0 q gu gr lo (n + r') (m + r') (fun x => False ∨ x = gl) wr ∧ SameO w wr) (fun r _ => 2 - (intOf r).toNat)
  case atStart => exact ⟨0, b, by omega, rfl, HNB.out, HLW.out, HWSG.out, HSO0.out⟩
  case round =>
    obtain ⟨r, lc, hr, rfl, hlc, hlent, hws, hso⟩ := hrel
    have HSO := Lib.hid hso
    clear HLW HWSG hso HSO0
    have HLE := Lib.hid hlent
    have HLC := Lib.hid hlc
    have HWSX := Lib.hid hws
    clear hlent hlc hws
    by_cases hr2 : r < 2
    · have hr2' : (r : Int) < 2 := by omega
      obtain ⟨vt, vw, vb, vc, ts, bl, cl, hwb, hag, hlen, htk, hlo, hnn, hmm, haw⟩ := HWSX.out
      obtain ⟨At, capt, rfl, htc, htm⟩ := len_of hwb.r.rt
      obtain ⟨Aw, capw, rfl, hwc, hwm⟩ := len_of hwb.r.rw_
      unfold maxLen at htm hwm
      have hkt : k < ts.length := Nat.lt_of_lt_of_le hk hlo
      have hkt' : (k : Int) < (ts.length : Int) := by omega
      obtain ⟨gt, rfl⟩ := head_some hwb.r.rt (by omega)
      obtain ⟨gw, rfl⟩ := head_some hwb.r.rw_ (by omega)
      obtain ⟨x, hx⟩ : ∃ x, ts[k]? = some x := ⟨_, List.getElem?_eq_getElem hkt⟩
      have HWB := Lib.hid hwb
      have HAG := Lib.hid hag
      have HLN := Lib.hid hlen
      have HTK := Lib.hid htk
      have HAW := Lib.hid (haw gl (.inr rfl))
      have HX := Lib.hid hx
      have HOK := Lib.hid (htk x (List.mem_of_getElem? hx))
      have HNM := Lib.hid (And.intro hnn (And.intro hmm hlo))
      have HUS := Lib.hid HOK.out.1
      have HTS := Lib.hid HOK.out.2.1
      have HKS := Lib.hid (HD.out.ks x.t.user)
      have HGLW := Lib.hid (HLE.out.lt_)
      clear hwb hag hlen htk haw hx hnn hmm HWSX
      have HRL := Lib.hid (show Reads wr wr.heap.size 1 (some ⟨gl, 0, none⟩) nb (byteL lc) from by
        obtain ⟨A, c2, e, -, -, h⟩ := HLE.out.bys (by rw [HLC.out]; exact HB47.out)
        injection e with e1 e2 e3
        subst e1
        rw [HLC.out] at h
        exact h)
      go_upto_region 7 with (at_builtin; refine wpList_append_any _ rfl (.tmp 28) (.tmp 29) _ rfl wr.heap.size 5 i0 _ 1 1 Tryz.underlying47 HI.out HZ0.out HZ1.out HZ2.out rfl (by omega) (.slice none 0 0) 0 [] rfl ⟨by simp, .inl ⟨rfl, rfl⟩⟩ wr.heap.size (some ⟨gl, 0, none⟩) nb (nb + 3) (byteL lc) rfl HRL.out (byteL_one lc) (by unfold maxLen; omega) (by omega) (Nat.le_refl _) ?_; intro v1 w2 hown hgr hor; rw [Nat.zero_add] at hown; have HWA := Lib.hid (OwnB.of_own hown); obtain ⟨wA, wc2, rfl⟩ := HWA.out.val; have HB2 := Lib.hid ((Below.refl wr.heap.size wr).grown hgr (Nat.le_refl _) (fun k hk => by cases hk)); clear hown hgr hor)
      clear HRL
      have k2 : w2.cell? ⟨q, 2, none⟩ = some (.slice (some ⟨gt, 0, none⟩) ts.length capt) := (HWB.out.call HB2.out).q2
      have HR7 := Lib.hid ((HWB.out.call HB2.out).t_range HX.out)
      have HXY := Lib.hid (((HWB.out.tk x (List.mem_of_getElem? HX.out)).1.below HB2.out).bys)
      have H33 := Lib.hid (show x.l.length ≤ 33 from HOK.out.2.2.2.1)
      go_upto_region 8 with (first
        | (refine wTrow HR7.out rfl _ rfl rfl ?_)
        | (go_at_call 85; (with_reducible refine (lheard_calls x.t x.hv x.l _ HXY.out H33.out).mono ?_); rintro e w3 ⟨⟨ux, rfl, hlx⟩, hb⟩; obtain ⟨gx, rfl, hgx⟩ := hlx; have HLX := Lib.hid (show Lent w3 w2.heap.size (.slice (some ⟨gx, 0, none⟩) x.l.length (x.l.length + 3)) x.l from ⟨gx, rfl, hgx⟩); have HB3 := Lib.hid (HB2.out.trans (hb.mono HB2.out.size)); have HWA3 := Lib.hid (HWA.out.below hb); have hs23 := hb.size; clear hgx hb)
        | (refine wstT (TBlk.zero w3) x.t (.slice (some ⟨gx, 0, none⟩) x.l.length (x.l.length + 3)) rfl rfl _ _ rfl rfl rfl ?_; intro w4 hs ho hbl; have HXB := Lib.hid hs; have HB4 := Lib.hid (hbl _ _ (HB3.out.alloc HB3.out.size _) HB3.out.size); have hbl4 := hbl _ _ ((Below.refl w3.heap.size w3).alloc (Nat.le_refl _) (Obj.cells #[.string ⟨#[]⟩, .string ⟨#[]⟩, .int .u64 0, .int .u64 0, .int .u8 0, .int .i64 0, .slice none 0 0] 54)) (Nat.le_refl _); have HLX4 := Lib.hid (HLX.out.below hbl4); have HWA4 := Lib.hid (HWA3.out.below hbl4); clear hs ho hbl hbl4))
      have HS2 := Lib.hid HB2.out.size
      have HWL := Lib.hid (fun j hj => (HWA.out.lt j hj).2)
      clear k2 HR7 HXY HLX HB3 HWA HWA3 HB2
      generalize w3.heap.size = xb at HXB ⊢
      have HW4 := Lib.hid (HWB.out.call HB4.out)
      have HSO4 := Lib.hid (HSO.out.trans (SameT.of_below HB4.out))
      have HLE4 := Lib.hid (HLE.out.below HB4.out)
      have HD4 := Lib.hid (HD.out.below HW4.out.r.low)
      have HLC28 := Lib.hid (show lc.length ≤ 268435456 from by rw [HLC.out]; exact HBL.out)
      obtain ⟨R, hR⟩ : ∃ z, writeS L x.t x.l lc = z := ⟨_, rfl⟩
      have HRX := Lib.hid hR
      have HRO := Lib.hid (writeS_ok L lc HOK.out)
      rw [hR] at HRO
      clear hR
      simp only [Act.put]
      go_cut [13, 14, 15] (fun a b e wx => ∃ (z : Nat) (hu : Value), a = .pointer (some ⟨z, 0, none⟩) ∧ b = .int .i64 R.n ∧ e = .int .i64 R.e ∧ w4.heap.size ≤ z ∧ TBlk wx z R.t hu ∧ OwnB wx w4.heap.size hu R.h ∧ Below w4.heap.size w4 wx)
      case first =>
        have HB := Lib.hid (below_drew w4)
        refine wp_region_held_drew (S := fun wx => Below w4.heap.size w4 wx) (by kernel_rfl) HB.out (fun hHeld => ?_)
        generalize w4.drew = wd at HB hHeld ⊢
        refine wpAnyH_takeD 40 (i := 0) (v := .pointer (some ⟨q, 0, none⟩)) rfl rfl (by kernel_rfl) (by kernel_rfl) (by kernel_rfl) (fun _ _ _ h => h) (Or.inl ⟨by rfl, fun wq hSw => by go_simp⟩) (by assumption) ?_
        simp only [Act.put, List.setIfInBounds_toArray, List.set_cons_zero, List.set_cons_succ]
        refine wpAnyH_takeD 41 (i := 1) (v := .pointer (some ⟨q, 0, none⟩)) rfl rfl (by kernel_rfl) (by kernel_rfl) (by kernel_rfl) (fun _ _ _ h => h) (Or.inl ⟨by rfl, fun wq hSw => by go_simp⟩) (by assumption) ?_
        simp only [Act.put, List.setIfInBounds_toArray, List.set_cons_zero, List.set_cons_succ]
        refine wpAnyH_takeD 42 (i := 2) (v := .pointer (some ⟨q, 0, none⟩)) rfl rfl (by kernel_rfl) (by kernel_rfl) (by kernel_rfl) (fun _ _ _ h => h) (Or.inl ⟨by rfl, fun wq hSw => by go_simp⟩) (by assumption) ?_
        simp only [Act.put, List.setIfInBounds_toArray, List.set_cons_zero, List.set_cons_succ]
        refine wpAnyH_takeD 43 (i := 3) (v := .pointer (some ⟨gu, 0, none⟩)) rfl rfl (by kernel_rfl) (by kernel_rfl) (by kernel_rfl) (fun _ _ _ h => h) (Or.inl ⟨by rfl, fun wq hSw => by have k := (HW4.out.call hSw).q0; go_simp⟩) (by assumption) ?_
        simp only [Act.put, List.setIfInBounds_toArray, List.set_cons_zero, List.set_cons_succ]
        refine wpAnyH_takeD 44 (i := 4) rfl rfl (by kernel_rfl) (by kernel_rfl) (by kernel_rfl) (fun _ _ _ h => h) (yieldsIf_load_mid (by rfl) _ _ rfl _ _ rfl (talkL x.t (.slice (some ⟨gx, 0, none⟩) x.l.length (x.l.length + 3))) _ (fun _ hS => Blk.range (HXB.out.below hS) 0 _ rfl) Tryz.underlying54 rfl talk_size) (by assumption) ?_
        simp only [Act.put, List.setIfInBounds_toArray, List.set_cons_zero, List.set_cons_succ]
        refine wpAnyH_takeD 45 (i := 5) (v := .slice (some ⟨gl, 0, none⟩) nb (nb + 3)) rfl rfl (by kernel_rfl) (by kernel_rfl) (by kernel_rfl) (fun _ _ _ h => h) (Or.inl ⟨by rfl, fun wq hSw => by go_simp⟩) (by assumption) ?_
        simp only [Act.put, List.setIfInBounds_toArray, List.set_cons_zero, List.set_cons_succ]
        refine wpAnyH_ready (rs := [6, 11]) (by kernel_rfl) (by simp) ?_
        refine AllReadyH.cons rfl (fun K hK => ?_) (AllReadyH.cons rfl (fun K hK => ?_) AllReadyH.nil)
        · as_aux_lemma =>
            rw [if_pos (by rfl)]
            go_simp
            (with_reducible refine (writeO_calls gu L x.t (.slice (some ⟨gx, 0, none⟩) x.l.length (x.l.length + 3)) (.slice (some ⟨gl, 0, none⟩) nb (nb + 3)) x.l lc _ (HD4.out.below hHeld).pt (HD4.out.below hHeld).tz (HD4.out.below hHeld).sv ((HLX4.out.below hHeld).bys (by have := H33.out; omega)) ((HLE4.out.below hHeld).bys (by have := HLC28.out; omega)) H33.out HLC28.out HUS.out HTS.out HKS.out).mono ?_)
            rw [HRX.out]
            rintro e wy ⟨⟨hu, rfl, hown⟩, hb⟩
            dsimp only
            have HU := Lib.hid (hown.more HB.out.size)
            replace HB := Lib.hid (HB.out.trans (hb.mono HB.out.size))
            clear hown hb hHeld
            refine hK.out _ _ HB.out (fun hHeld => ?_)
            clear hK
            refine wpAnyH_takeD 39 (i := 7) (v := .tuple #[talkV R.t hu, .int .i64 R.n, .int .i64 R.e]) rfl rfl (by kernel_rfl) (by kernel_rfl) (by kernel_rfl) (fun _ _ _ h => h) (Or.inl ⟨by rfl, fun wq hSw => by go_simp⟩) (by assumption) ?_
            simp only [Act.put, List.setIfInBounds_toArray, List.set_cons_zero, List.set_cons_succ]
            refine wpAnyH_takeD 47 (i := 8) (v := talkV R.t hu) rfl rfl (by kernel_rfl) (by kernel_rfl) (by kernel_rfl) (fun _ _ _ h => h) (Or.inl ⟨by rfl, fun wq hSw => by go_simp⟩) (by assumption) ?_
            simp only [Act.put, List.setIfInBounds_toArray, List.set_cons_zero, List.set_cons_succ]
            refine wpAnyH_takeD 48 (i := 9) (v := .int .i64 R.n) rfl rfl (by kernel_rfl) (by kernel_rfl) (by kernel_rfl) (fun _ _ _ h => h) (Or.inl ⟨by rfl, fun wq hSw => by go_simp⟩) (by assumption) ?_
            simp only [Act.put, List.setIfInBounds_toArray, List.set_cons_zero, List.set_cons_succ]
            refine wpAnyH_takeD 49 (i := 10) (v := .int .i64 R.e) rfl rfl (by kernel_rfl) (by kernel_rfl) (by kernel_rfl) (fun _ _ _ h => h) (Or.inl ⟨by rfl, fun wq hSw => by go_simp⟩) (by assumption) ?_
            simp only [Act.put, List.setIfInBounds_toArray, List.set_cons_zero, List.set_cons_succ]
            refine wpAnyH_ready (rs := [11]) (by kernel_rfl) (by simp) ?_
            refine AllReadyH.cons rfl (fun K hK => ?_) AllReadyH.nil
            rw [if_pos (by rfl)]
            go_simp
            have hzl := HB.out.size
            have HZ := Lib.hid (TBlk.zero wy)
            replace HU := Lib.hid (HU.out.below ((Below.refl _ _).alloc (Nat.le_refl _) (Obj.cells #[.string ⟨#[]⟩, .string ⟨#[]⟩, .int .u64 0, .int .u64 0, .int .u8 0, .int .i64 0, .slice none 0 0] 54)))
            replace HB := Lib.hid (HB.out.alloc HB.out.size (Obj.cells #[.string ⟨#[]⟩, .string ⟨#[]⟩, .int .u64 0, .int .u64 0, .int .u8 0, .int .i64 0, .slice none 0 0] 54))
            generalize wy.alloc (Obj.cells #[.string ⟨#[]⟩, .string ⟨#[]⟩, .int .u64 0, .int .u64 0, .int .u8 0, .int .i64 0, .slice none 0 0] 54) = wa at HZ HB HU ⊢
            generalize wy.heap.size = z at HZ hzl ⊢
            clear hHeld
            refine hK.out _ _ HB.out (fun hHeld => ?_)
            clear hK
            refine wpAnyH_ready (rs := [12]) (by kernel_rfl) (by simp) ?_
            refine AllReadyH.cons rfl (fun K hK => ?_) AllReadyH.nil
            rw [if_pos (by rfl)]
            refine wp_storeT HZ.out R.t hu HU.out.one _ _ rfl rfl rfl rfl ?_
            have HU2 := Lib.hid (HU.out.far (HU.out.blk_ne HZ.out (by decide)) (setCells_other _ z (talkL R.t hu) 0))
            have HB2 := Lib.hid (below_setCells HB.out hzl (talkL R.t hu) 0)
            have HZ2 := Lib.hid (setTalk (u := R.t) (hu := hu) HZ.out)
            clear hHeld
            refine hK.out _ _ HB2.out (fun hHeld => ?_)
            clear hK
            refine wpAnyH_takeD 14 (i := 13) (v := .int .i64 R.n) rfl rfl (by kernel_rfl) (by kernel_rfl) (by kernel_rfl) (fun _ _ _ h => h) (Or.inl ⟨by rfl, fun wq hSw => by go_simp⟩) (by assumption) ?_
            simp only [Act.put, List.setIfInBounds_toArray, List.set_cons_zero, List.set_cons_succ]
            refine wpAnyH_takeD 15 (i := 14) (v := .int .i64 R.e) rfl rfl (by kernel_rfl) (by kernel_rfl) (by kernel_rfl) (fun _ _ _ h => h) (Or.inl ⟨by rfl, fun wq hSw => by go_simp⟩) (by assumption) ?_
            simp only [Act.put, List.setIfInBounds_toArray, List.set_cons_zero, List.set_cons_succ]
            refine wpAnyH_done (by kernel_rfl) ?_ _
            go_wp2_with fail
            go_meet
            case rel => exact ⟨z, hu, rfl, rfl, rfl, hzl, HZ2.out, HU2.out, HB2.out⟩
        · as_aux_lemma =>
            rw [if_pos (by rfl)]
            go_simp
            have hzl := HB.out.size
            have HZ := Lib.hid (TBlk.zero wd)
            replace HB := Lib.hid (HB.out.alloc HB.out.size (Obj.cells #[.string ⟨#[]⟩, .string ⟨#[]⟩, .int .u64 0, .int .u64 0, .int .u8 0, .int .i64 0, .slice none 0 0] 54))
            generalize wd.alloc (Obj.cells #[.string ⟨#[]⟩, .string ⟨#[]⟩, .int .u64 0, .int .u64 0, .int .u8 0, .int .i64 0, .slice none 0 0] 54) = wa at HZ HB  ⊢
            generalize wd.heap.size = z at HZ hzl ⊢
            clear hHeld
            refine hK.out _ _ HB.out (fun hHeld => ?_)
            clear hK
            refine wpAnyH_ready (rs := [6]) (by kernel_rfl) (by simp) ?_
            refine AllReadyH.cons rfl (fun K hK => ?_) AllReadyH.nil
            rw [if_pos (by rfl)]
            go_simp
            (with_reducible refine (writeO_calls gu L x.t (.slice (some ⟨gx, 0, none⟩) x.l.length (x.l.length + 3)) (.slice (some ⟨gl, 0, none⟩) nb (nb + 3)) x.l lc _ (HD4.out.below hHeld).pt (HD4.out.below hHeld).tz (HD4.out.below hHeld).sv ((HLX4.out.below hHeld).bys (by have := H33.out; omega)) ((HLE4.out.below hHeld).bys (by have := HLC28.out; omega)) H33.out HLC28.out HUS.out HTS.out HKS.out).mono ?_)
            rw [HRX.out]
            rintro e wy ⟨⟨hu, rfl, hown⟩, hb⟩
            dsimp only
            have HU := Lib.hid (hown.more HB.out.size)
            replace HZ := Lib.hid (HZ.out.below hb)
            replace HB := Lib.hid (HB.out.trans (hb.mono HB.out.size))
            clear hown hb hHeld
            refine hK.out _ _ HB.out (fun hHeld => ?_)
            clear hK
            refine wpAnyH_takeD 39 (i := 7) (v := .tuple #[talkV R.t hu, .int .i64 R.n, .int .i64 R.e]) rfl rfl (by kernel_rfl) (by kernel_rfl) (by kernel_rfl) (fun _ _ _ h => h) (Or.inl ⟨by rfl, fun wq hSw => by go_simp⟩) (by assumption) ?_
            simp only [Act.put, List.setIfInBounds_toArray, List.set_cons_zero, List.set_cons_succ]
            refine wpAnyH_takeD 47 (i := 8) (v := talkV R.t hu) rfl rfl (by kernel_rfl) (by kernel_rfl) (by kernel_rfl) (fun _ _ _ h => h) (Or.inl ⟨by rfl, fun wq hSw => by go_simp⟩) (by assumption) ?_
            simp only [Act.put, List.setIfInBounds_toArray, List.set_cons_zero, List.set_cons_succ]
            refine wpAnyH_takeD 48 (i := 9) (v := .int .i64 R.n) rfl rfl (by kernel_rfl) (by kernel_rfl) (by kernel_rfl) (fun _ _ _ h => h) (Or.inl ⟨by rfl, fun wq hSw => by go_simp⟩) (by assumption) ?_
            simp only [Act.put, List.setIfInBounds_toArray, List.set_cons_zero, List.set_cons_succ]
            refine wpAnyH_takeD 49 (i := 10) (v := .int .i64 R.e) rfl rfl (by kernel_rfl) (by kernel_rfl) (by kernel_rfl) (fun _ _ _ h => h) (Or.inl ⟨by rfl, fun wq hSw => by go_simp⟩) (by assumption) ?_
            simp only [Act.put, List.setIfInBounds_toArray, List.set_cons_zero, List.set_cons_succ]
            refine wpAnyH_ready (rs := [12]) (by kernel_rfl) (by simp) ?_
            refine AllReadyH.cons rfl (fun K hK => ?_) AllReadyH.nil
            rw [if_pos (by rfl)]
            refine wp_storeT HZ.out R.t hu HU.out.one _ _ rfl rfl rfl rfl ?_
            have HU2 := Lib.hid (HU.out.far (HU.out.blk_ne HZ.out (by decide)) (setCells_other _ z (talkL R.t hu) 0))
            have HB2 := Lib.hid (below_setCells HB.out hzl (talkL R.t hu) 0)
            have HZ2 := Lib.hid (setTalk (u := R.t) (hu := hu) HZ.out)
            clear hHeld
            refine hK.out _ _ HB2.out (fun hHeld => ?_)
            clear hK
            refine wpAnyH_takeD 14 (i := 13) (v := .int .i64 R.n) rfl rfl (by kernel_rfl) (by kernel_rfl) (by kernel_rfl) (fun _ _ _ h => h) (Or.inl ⟨by rfl, fun wq hSw => by go_simp⟩) (by assumption) ?_
            simp only [Act.put, List.setIfInBounds_toArray, List.set_cons_zero, List.set_cons_succ]
            refine wpAnyH_takeD 15 (i := 14) (v := .int .i64 R.e) rfl rfl (by kernel_rfl) (by kernel_rfl) (by kernel_rfl) (fun _ _ _ h => h) (Or.inl ⟨by rfl, fun wq hSw => by go_simp⟩) (by assumption) ?_
            simp only [Act.put, List.setIfInBounds_toArray, List.set_cons_zero, List.set_cons_succ]
            refine wpAnyH_done (by kernel_rfl) ?_ _
            go_wp2_with fail
            go_meet
            case rel => exact ⟨z, hu, rfl, rfl, rfl, hzl, HZ2.out, HU2.out, HB2.out⟩
      obtain ⟨z, hu, rfl, rfl, rfl, hzl, htz, hou, hb5⟩ := hcut
      have HB5 := Lib.hid hb5
      have HZ5 := Lib.hid htz
      have HU5 := Lib.hid hou
      have HZL := Lib.hid hzl
      clear hb5 htz hou hzl
      have HW5 := Lib.hid (HW4.out.call HB5.out)
      have HSO5 := Lib.hid (HSO4.out.trans (SameT.of_below HB5.out))
      have HLE5 := Lib.hid (HLE4.out.below HB5.out)
      have HLX5 := Lib.hid (HLX4.out.below HB5.out)
      have HXB5 := Lib.hid (HXB.out.below HB5.out)
      have HWA5 := Lib.hid (HWA4.out.below HB5.out)
      have HZLT := Lib.hid (Blk.lt HZ5.out)
      have HGX := Lib.hid HLX4.out.ge_
      have HGX4 := Lib.hid HLX4.out.lt_
      go_upto_region 9 with (fail)
      refine wp_region_held_drew (S := fun wx => Below wc.heap.size wc wx) (by kernel_rfl) (below_drew wc) (fun hHeld => ?_)
      generalize wc.drew = wd at hHeld ⊢
      refine wpAnyH_takeD 50 (i := 0) (v := .pointer (some ⟨xb, 6, none⟩)) rfl rfl (by kernel_rfl) (by kernel_rfl) (by kernel_rfl) (fun _ _ _ h => h) (Or.inl ⟨by rfl, fun wq hSw => by go_simp⟩) (by assumption) ?_
      simp only [Act.put, List.setIfInBounds_toArray, List.set_cons_zero, List.set_cons_succ]
      refine wpAnyH_takeD 51 (i := 1) (v := .slice (some ⟨gx, 0, none⟩) x.l.length (x.l.length + 3)) rfl rfl (by kernel_rfl) (by kernel_rfl) (by kernel_rfl) (fun _ _ _ h => h) (Or.inl ⟨by rfl, fun wq hSw => by have k : wq.cell? ⟨xb, 6, none⟩ = some (.slice (some ⟨gx, 0, none⟩) x.l.length (x.l.length + 3)) := Blk.cell (HXB5.out.below hSw) 6; go_simp⟩) (by assumption) ?_
      simp only [Act.put, List.setIfInBounds_toArray, List.set_cons_zero, List.set_cons_succ]
      refine wpAnyH_takeD 52 (i := 2) (v := .pointer (some ⟨q, 0, none⟩)) rfl rfl (by kernel_rfl) (by kernel_rfl) (by kernel_rfl) (fun _ _ _ h => h) (Or.inl ⟨by rfl, fun wq hSw => by go_simp⟩) (by assumption) ?_
      simp only [Act.put, List.setIfInBounds_toArray, List.set_cons_zero, List.set_cons_succ]
      refine wpAnyH_takeD 53 (i := 3) (v := .pointer (some ⟨q, 0, none⟩)) rfl rfl (by kernel_rfl) (by kernel_rfl) (by kernel_rfl) (fun _ _ _ h => h) (Or.inl ⟨by rfl, fun wq hSw => by go_simp⟩) (by assumption) ?_
      simp only [Act.put, List.setIfInBounds_toArray, List.set_cons_zero, List.set_cons_succ]
      refine wpAnyH_takeD 54 (i := 4) (v := .pointer (some ⟨q, 2, none⟩)) rfl rfl (by kernel_rfl) (by kernel_rfl) (by kernel_rfl) (fun _ _ _ h => h) (Or.inl ⟨by rfl, fun wq hSw => by go_simp⟩) (by assumption) ?_
      simp only [Act.put, List.setIfInBounds_toArray, List.set_cons_zero, List.set_cons_succ]
      refine wpAnyH_takeD 55 (i := 5) (v := .slice (some ⟨gt, 0, none⟩) ts.length capt) rfl rfl (by kernel_rfl) (by kernel_rfl) (by kernel_rfl) (fun _ _ _ h => h) (Or.inl ⟨by rfl, fun wq hSw => by have k := (HW5.out.call hSw).q2; go_simp⟩) (by assumption) ?_
      simp only [Act.put, List.setIfInBounds_toArray, List.set_cons_zero, List.set_cons_succ]
      refine wpAnyH_takeD 56 (i := 6) (v := .int .i64 (k : Int)) rfl rfl (by kernel_rfl) (by kernel_rfl) (by kernel_rfl) (fun _ _ _ h => h) (Or.inl ⟨by rfl, fun wq hSw => by go_simp⟩) (by assumption) ?_
      simp only [Act.put, List.setIfInBounds_toArray, List.set_cons_zero, List.set_cons_succ]
      refine wpAnyH_takeD 57 (i := 7) (v := .pointer (some ⟨gt, k * 7, none⟩)) rfl rfl (by kernel_rfl) (by kernel_rfl) (by kernel_rfl) (fun _ _ _ h => h) (Or.inl ⟨by rfl, fun wq hSw => by go_simp⟩) (by assumption) ?_
      simp only [Act.put, List.setIfInBounds_toArray, List.set_cons_zero, List.set_cons_succ]
      refine wpAnyH_takeD 58 (i := 8) (v := .pointer (some ⟨gt, k * 7 + 6, none⟩)) rfl rfl (by kernel_rfl) (by kernel_rfl) (by kernel_rfl) (fun _ _ _ h => h) (Or.inl ⟨by rfl, fun wq hSw => by go_simp⟩) (by assumption) ?_
      simp only [Act.put, List.setIfInBounds_toArray, List.set_cons_zero, List.set_cons_succ]
      refine wpAnyH_takeD 59 (i := 9) (v := x.hv) rfl rfl (by kernel_rfl) (by kernel_rfl) (by kernel_rfl) (fun _ _ _ h => h) (Or.inl ⟨by rfl, fun wq hSw => by have k := row_said ((HW5.out.call hSw).t_range HX.out); go_simp⟩) (by assumption) ?_
      simp only [Act.put, List.setIfInBounds_toArray, List.set_cons_zero, List.set_cons_succ]
      refine wpAnyH_ready (rs := [10]) (by kernel_rfl) (by simp) ?_
      refine AllReadyH.cons rfl (fun K hK => ?_) AllReadyH.nil
      rw [if_pos (by rfl)]
      go_simp
      (with_reducible refine (left_calls w2.heap.size (.slice (some ⟨gx, 0, none⟩) x.l.length (x.l.length + 3)) x.hv x.l _ (HLX5.out.below hHeld) ((HW5.out.call hHeld).tk x (List.mem_of_getElem? HX.out)).1.bys (by have := H33.out; omega)).mono ?_)
      rintro e w7 ⟨rfl, rfl⟩
      dsimp only
      refine hK.out _ _ hHeld (fun hHeld => ?_)
      clear hK
      refine wpAnyH_takeD 16 (i := 11) (v := .bool true) rfl rfl (by kernel_rfl) (by kernel_rfl) (by kernel_rfl) (fun _ _ _ h => h) (Or.inl ⟨by rfl, fun wq hSw => by go_simp⟩) (by assumption) ?_
      simp only [Act.put, List.setIfInBounds_toArray, List.set_cons_zero, List.set_cons_succ]
      refine wpAnyH_done (by kernel_rfl) ?_ _
      have HW6 := Lib.hid (HW5.out.call hHeld)
      have HSO6 := Lib.hid (HSO5.out.trans (SameT.of_below hHeld))
      have HLE6 := Lib.hid (HLE5.out.below hHeld)
      have HLX6 := Lib.hid (HLX5.out.below hHeld)
      have HWA6 := Lib.hid (HWA5.out.below hHeld)
      have HZ6 := Lib.hid (HZ5.out.below hHeld)
      have HU6 := Lib.hid (HU5.out.below hHeld)
      have HCY6 := Lib.hid (HCY.out.below HW6.out.r.low)
      have HWW := Lib.hid (show W0.heap.size ≤ w2.heap.size from Nat.le_trans HWB.out.r.low.size HS2.out)
      have k6 : wd.cell? ⟨xb, 6, none⟩ = some (.slice (some ⟨gx, 0, none⟩) x.l.length (x.l.length + 3)) := Blk.cell (HXB5.out.below hHeld) 6
      have HZ57 := Lib.hid (Nat.le_trans HB5.out.size hHeld.size)
      clear HW5 HLE5 HLX5 HXB5 HWA5 HZ5 HU5 hHeld HB5
      go_upto_region 11 with (go_at_call 87; (with_reducible refine (over_calls W0.heap.size w2.heap.size (.slice (some ⟨gx, 0, none⟩) x.l.length (x.l.length + 3)) cv x.l c _ HLX6.out HCY6.out HWW.out (by have := H33.out; omega)).mono ?_); rintro e w7 ⟨rfl, hlx7, hgr⟩; have HG7 := Lib.hid (show wd.grownBy w7 (some gx) from hgr); clear hlx7 hgr)
      have HW7 := Lib.hid (HW6.out.over_ HLX6.out HWW.out (HWB.out.away_new (Nat.le_trans HS2.out HGX.out)) HG7.out)
      have HSO7 := Lib.hid (HSO6.out.trans (SameO.over_ HLX6.out HG7.out))
      have HLE7 := Lib.hid (HLE6.out.kept HG7.out (by have := HGLW.out; have := HS2.out; have := HGX.out; omega))
      have HWA7 := Lib.hid (HWA6.out.kept (fun j hj => grown_at HG7.out j (HWA6.out.lt j hj).2 (fun hh => by injection hh with hh; have := HWL.out j hj; have := HGX.out; omega)))
      have HU7 := Lib.hid (HU6.out.kept (fun j hj => grown_at HG7.out j (HU6.out.lt j hj).2 (fun hh => by injection hh with hh; have := (HU6.out.lt j hj).1; have := HGX4.out; omega)))
      have HZ7 := Lib.hid (show TBlk w7 z R.t hu from Blk.grown HZ6.out HG7.out (fun hh => by obtain ⟨g', e, -, hb⟩ := HLX6.out; injection e with e; injection e with e; injection e with e; injection hh with hh; exact Blk.ne_ HZ6.out hb (by decide) (hh.trans e)))
      have HG7S := Lib.hid HG7.out.size
      clear HW6 HLE6 HLX6 HWA6 HU6 HZ6 HG7 HCY6 k6
      have HD7 := Lib.hid (HD.out.below HW7.out.r.low)
      have HZW := Lib.hid (show w4.heap.size ≤ w7.heap.size from Nat.le_trans HZ57.out HG7S.out)
      go_cut [17, 18, 19] (fun a b e wx => ∃ (z2 : Nat) (hu2 : Value), a = .pointer (some ⟨z2, 0, none⟩) ∧ b = .int .i64 R.n ∧ e = .int .i64 R.e ∧ w7.heap.size ≤ z2 ∧ TBlk wx z2 R.t hu2 ∧ OwnB wx w7.heap.size hu2 R.h ∧ Below w7.heap.size w7 wx)
      case first =>
        have HB := Lib.hid (below_drew w7)
        refine wp_region_held_drew (S := fun wx => Below w7.heap.size w7 wx) (by kernel_rfl) HB.out (fun hHeld => ?_)
        generalize w7.drew = wd at HB hHeld ⊢
        refine wpAnyH_takeD 66 (i := 0) (v := .pointer (some ⟨q, 0, none⟩)) rfl rfl (by kernel_rfl) (by kernel_rfl) (by kernel_rfl) (fun _ _ _ h => h) (Or.inl ⟨by rfl, fun wq hSw => by go_simp⟩) (by assumption) ?_
        simp only [Act.put, List.setIfInBounds_toArray, List.set_cons_zero, List.set_cons_succ]
        refine wpAnyH_takeD 67 (i := 1) (v := .pointer (some ⟨q, 0, none⟩)) rfl rfl (by kernel_rfl) (by kernel_rfl) (by kernel_rfl) (fun _ _ _ h => h) (Or.inl ⟨by rfl, fun wq hSw => by go_simp⟩) (by assumption) ?_
        simp only [Act.put, List.setIfInBounds_toArray, List.set_cons_zero, List.set_cons_succ]
        refine wpAnyH_takeD 68 (i := 2) (v := .pointer (some ⟨q, 1, none⟩)) rfl rfl (by kernel_rfl) (by kernel_rfl) (by kernel_rfl) (fun _ _ _ h => h) (Or.inl ⟨by rfl, fun wq hSw => by go_simp⟩) (by assumption) ?_
        simp only [Act.put, List.setIfInBounds_toArray, List.set_cons_zero, List.set_cons_succ]
        refine wpAnyH_takeD 69 (i := 3) (v := .pointer (some ⟨gr, 0, none⟩)) rfl rfl (by kernel_rfl) (by kernel_rfl) (by kernel_rfl) (fun _ _ _ h => h) (Or.inl ⟨by rfl, fun wq hSw => by have k := (HW7.out.call hSw).q1; go_simp⟩) (by assumption) ?_
        simp only [Act.put, List.setIfInBounds_toArray, List.set_cons_zero, List.set_cons_succ]
        refine wpAnyH_takeD 70 (i := 4) (v := .pointer (some ⟨q, 0, none⟩)) rfl rfl (by kernel_rfl) (by kernel_rfl) (by kernel_rfl) (fun _ _ _ h => h) (Or.inl ⟨by rfl, fun wq hSw => by go_simp⟩) (by assumption) ?_
        simp only [Act.put, List.setIfInBounds_toArray, List.set_cons_zero, List.set_cons_succ]
        refine wpAnyH_takeD 71 (i := 5) (v := .pointer (some ⟨q, 0, none⟩)) rfl rfl (by kernel_rfl) (by kernel_rfl) (by kernel_rfl) (fun _ _ _ h => h) (Or.inl ⟨by rfl, fun wq hSw => by go_simp⟩) (by assumption) ?_
        simp only [Act.put, List.setIfInBounds_toArray, List.set_cons_zero, List.set_cons_succ]
        refine wpAnyH_takeD 72 (i := 6) (v := .pointer (some ⟨q, 3, none⟩)) rfl rfl (by kernel_rfl) (by kernel_rfl) (by kernel_rfl) (fun _ _ _ h => h) (Or.inl ⟨by rfl, fun wq hSw => by go_simp⟩) (by assumption) ?_
        simp only [Act.put, List.setIfInBounds_toArray, List.set_cons_zero, List.set_cons_succ]
        refine wpAnyH_takeD 73 (i := 7) (v := .slice (some ⟨gw, 0, none⟩) ts.length capw) rfl rfl (by kernel_rfl) (by kernel_rfl) (by kernel_rfl) (fun _ _ _ h => h) (Or.inl ⟨by rfl, fun wq hSw => by have k := (HW7.out.call hSw).q3; go_simp⟩) (by assumption) ?_
        simp only [Act.put, List.setIfInBounds_toArray, List.set_cons_zero, List.set_cons_succ]
        refine wpAnyH_takeD 74 (i := 8) (v := .int .i64 (k : Int)) rfl rfl (by kernel_rfl) (by kernel_rfl) (by kernel_rfl) (fun _ _ _ h => h) (Or.inl ⟨by rfl, fun wq hSw => by go_simp⟩) (by assumption) ?_
        simp only [Act.put, List.setIfInBounds_toArray, List.set_cons_zero, List.set_cons_succ]
        refine wpAnyH_takeD 75 (i := 9) (v := .pointer (some ⟨gw, k * 7, none⟩)) rfl rfl (by kernel_rfl) (by kernel_rfl) (by kernel_rfl) (fun _ _ _ h => h) (Or.inl ⟨by rfl, fun wq hSw => by go_simp⟩) (by assumption) ?_
        simp only [Act.put, List.setIfInBounds_toArray, List.set_cons_zero, List.set_cons_succ]
        refine wpAnyH_takeD 76 (i := 10) rfl rfl (by kernel_rfl) (by kernel_rfl) (by kernel_rfl) (fun _ _ _ h => h) (yieldsIf_load_mid (by rfl) _ _ rfl _ _ rfl (talkL x.t x.hw) _ (fun _ hS => (HW7.out.call hS).w_range HX.out) Tryz.underlying54 rfl talk_size) (by assumption) ?_
        simp only [Act.put, List.setIfInBounds_toArray, List.set_cons_zero, List.set_cons_succ]
        refine wpAnyH_takeD 77 (i := 11) (v := .slice wA lc.length wc2) rfl rfl (by kernel_rfl) (by kernel_rfl) (by kernel_rfl) (fun _ _ _ h => h) (Or.inl ⟨by rfl, fun wq hSw => by go_simp⟩) (by assumption) ?_
        simp only [Act.put, List.setIfInBounds_toArray, List.set_cons_zero, List.set_cons_succ]
        refine wpAnyH_ready (rs := [12, 17]) (by kernel_rfl) (by simp) ?_
        refine AllReadyH.cons rfl (fun K hK => ?_) (AllReadyH.cons rfl (fun K hK => ?_) AllReadyH.nil)
        · as_aux_lemma =>
            rw [if_pos (by rfl)]
            go_simp
            (with_reducible refine (refWrite_calls gr L x.t x.hw (.slice wA lc.length wc2) x.l lc _ (HD7.out.below hHeld).rt (((HW7.out.call hHeld).tk x (List.mem_of_getElem? HX.out)).2.bys) (HWA7.out.below hHeld).bys H33.out HLC28.out HUS.out HTS.out HKS.out).mono ?_)
            rw [HRX.out]
            rintro e wy ⟨⟨hu2, rfl, hown⟩, hb⟩
            dsimp only
            have HU := Lib.hid (hown.more HB.out.size)
            replace HB := Lib.hid (HB.out.trans (hb.mono HB.out.size))
            clear hown hb hHeld
            refine hK.out _ _ HB.out (fun hHeld => ?_)
            clear hK
            refine wpAnyH_takeD 65 (i := 13) (v := .tuple #[talkV R.t hu2, .int .i64 R.n, .int .i64 R.e]) rfl rfl (by kernel_rfl) (by kernel_rfl) (by kernel_rfl) (fun _ _ _ h => h) (Or.inl ⟨by rfl, fun wq hSw => by go_simp⟩) (by assumption) ?_
            simp only [Act.put, List.setIfInBounds_toArray, List.set_cons_zero, List.set_cons_succ]
            refine wpAnyH_takeD 79 (i := 14) (v := talkV R.t hu2) rfl rfl (by kernel_rfl) (by kernel_rfl) (by kernel_rfl) (fun _ _ _ h => h) (Or.inl ⟨by rfl, fun wq hSw => by go_simp⟩) (by assumption) ?_
            simp only [Act.put, List.setIfInBounds_toArray, List.set_cons_zero, List.set_cons_succ]
            refine wpAnyH_takeD 80 (i := 15) (v := .int .i64 R.n) rfl rfl (by kernel_rfl) (by kernel_rfl) (by kernel_rfl) (fun _ _ _ h => h) (Or.inl ⟨by rfl, fun wq hSw => by go_simp⟩) (by assumption) ?_
            simp only [Act.put, List.setIfInBounds_toArray, List.set_cons_zero, List.set_cons_succ]
            refine wpAnyH_takeD 81 (i := 16) (v := .int .i64 R.e) rfl rfl (by kernel_rfl) (by kernel_rfl) (by kernel_rfl) (fun _ _ _ h => h) (Or.inl ⟨by rfl, fun wq hSw => by go_simp⟩) (by assumption) ?_
            simp only [Act.put, List.setIfInBounds_toArray, List.set_cons_zero, List.set_cons_succ]
            refine wpAnyH_ready (rs := [17]) (by kernel_rfl) (by simp) ?_
            refine AllReadyH.cons rfl (fun K hK => ?_) AllReadyH.nil
            rw [if_pos (by rfl)]
            go_simp
            have hzl := HB.out.size
            have HZ := Lib.hid (TBlk.zero wy)
            replace HU := Lib.hid (HU.out.below ((Below.refl _ _).alloc (Nat.le_refl _) (Obj.cells #[.string ⟨#[]⟩, .string ⟨#[]⟩, .int .u64 0, .int .u64 0, .int .u8 0, .int .i64 0, .slice none 0 0] 54)))
            replace HB := Lib.hid (HB.out.alloc HB.out.size (Obj.cells #[.string ⟨#[]⟩, .string ⟨#[]⟩, .int .u64 0, .int .u64 0, .int .u8 0, .int .i64 0, .slice none 0 0] 54))
            generalize wy.alloc (Obj.cells #[.string ⟨#[]⟩, .string ⟨#[]⟩, .int .u64 0, .int .u64 0, .int .u8 0, .int .i64 0, .slice none 0 0] 54) = wa at HZ HB HU ⊢
            generalize wy.heap.size = z at HZ hzl ⊢
            clear hHeld
            refine hK.out _ _ HB.out (fun hHeld => ?_)
            clear hK
            refine wpAnyH_ready (rs := [18]) (by kernel_rfl) (by simp) ?_
            refine AllReadyH.cons rfl (fun K hK => ?_) AllReadyH.nil
            rw [if_pos (by rfl)]
            refine wp_storeT HZ.out R.t hu2 HU.out.one _ _ rfl rfl rfl rfl ?_
            have HU2 := Lib.hid (HU.out.far (HU.out.blk_ne HZ.out (by decide)) (setCells_other _ z (talkL R.t hu2) 0))
            have HB2 := Lib.hid (below_setCells HB.out hzl (talkL R.t hu2) 0)
            have HZ2 := Lib.hid (setTalk (u := R.t) (hu := hu2) HZ.out)
            clear hHeld
            refine hK.out _ _ HB2.out (fun hHeld => ?_)
            clear hK
            refine wpAnyH_takeD 18 (i := 19) (v := .int .i64 R.n) rfl rfl (by kernel_rfl) (by kernel_rfl) (by kernel_rfl) (fun _ _ _ h => h) (Or.inl ⟨by rfl, fun wq hSw => by go_simp⟩) (by assumption) ?_
            simp only [Act.put, List.setIfInBounds_toArray, List.set_cons_zero, List.set_cons_succ]
            refine wpAnyH_takeD 19 (i := 20) (v := .int .i64 R.e) rfl rfl (by kernel_rfl) (by kernel_rfl) (by kernel_rfl) (fun _ _ _ h => h) (Or.inl ⟨by rfl, fun wq hSw => by go_simp⟩) (by assumption) ?_
            simp only [Act.put, List.setIfInBounds_toArray, List.set_cons_zero, List.set_cons_succ]
            refine wpAnyH_done (by kernel_rfl) ?_ _
            go_wp2_with fail
            go_meet
            case rel => exact ⟨z, hu2, rfl, rfl, rfl, hzl, HZ2.out, HU2.out, HB2.out⟩
        · as_aux_lemma =>
            rw [if_pos (by rfl)]
            go_simp
            have hzl := HB.out.size
            have HZ := Lib.hid (TBlk.zero wd)
            replace HB := Lib.hid (HB.out.alloc HB.out.size (Obj.cells #[.string ⟨#[]⟩, .string ⟨#[]⟩, .int .u64 0, .int .u64 0, .int .u8 0, .int .i64 0, .slice none 0 0] 54))
            generalize wd.alloc (Obj.cells #[.string ⟨#[]⟩, .string ⟨#[]⟩, .int .u64 0, .int .u64 0, .int .u8 0, .int .i64 0, .slice none 0 0] 54) = wa at HZ HB  ⊢
            generalize wd.heap.size = z at HZ hzl ⊢
            clear hHeld
            refine hK.out _ _ HB.out (fun hHeld => ?_)
            clear hK
            refine wpAnyH_ready (rs := [12]) (by kernel_rfl) (by simp) ?_
            refine AllReadyH.cons rfl (fun K hK => ?_) AllReadyH.nil
            rw [if_pos (by rfl)]
            go_simp
            (with_reducible refine (refWrite_calls gr L x.t x.hw (.slice wA lc.length wc2) x.l lc _ (HD7.out.below hHeld).rt (((HW7.out.call hHeld).tk x (List.mem_of_getElem? HX.out)).2.bys) (HWA7.out.below hHeld).bys H33.out HLC28.out HUS.out HTS.out HKS.out).mono ?_)
            rw [HRX.out]
            rintro e wy ⟨⟨hu2, rfl, hown⟩, hb⟩
            dsimp only
            have HU := Lib.hid (hown.more HB.out.size)
            replace HZ := Lib.hid (HZ.out.below hb)
            replace HB := Lib.hid (HB.out.trans (hb.mono HB.out.size))
            clear hown hb hHeld
            refine hK.out _ _ HB.out (fun hHeld => ?_)
            clear hK
            refine wpAnyH_takeD 65 (i := 13) (v := .tuple #[talkV R.t hu2, .int .i64 R.n, .int .i64 R.e]) rfl rfl (by kernel_rfl) (by kernel_rfl) (by kernel_rfl) (fun _ _ _ h => h) (Or.inl ⟨by rfl, fun wq hSw => by go_simp⟩) (by assumption) ?_
            simp only [Act.put, List.setIfInBounds_toArray, List.set_cons_zero, List.set_cons_succ]
            refine wpAnyH_takeD 79 (i := 14) (v := talkV R.t hu2) rfl rfl (by kernel_rfl) (by kernel_rfl) (by kernel_rfl) (fun _ _ _ h => h) (Or.inl ⟨by rfl, fun wq hSw => by go_simp⟩) (by assumption) ?_
            simp only [Act.put, List.setIfInBounds_toArray, List.set_cons_zero, List.set_cons_succ]
            refine wpAnyH_takeD 80 (i := 15) (v := .int .i64 R.n) rfl rfl (by kernel_rfl) (by kernel_rfl) (by kernel_rfl) (fun _ _ _ h => h) (Or.inl ⟨by rfl, fun wq hSw => by go_simp⟩) (by assumption) ?_
            simp only [Act.put, List.setIfInBounds_toArray, List.set_cons_zero, List.set_cons_succ]
            refine wpAnyH_takeD 81 (i := 16) (v := .int .i64 R.e) rfl rfl (by kernel_rfl) (by kernel_rfl) (by kernel_rfl) (fun _ _ _ h => h) (Or.inl ⟨by rfl, fun wq hSw => by go_simp⟩) (by assumption) ?_
            simp only [Act.put, List.setIfInBounds_toArray, List.set_cons_zero, List.set_cons_succ]
            refine wpAnyH_ready (rs := [18]) (by kernel_rfl) (by simp) ?_
            refine AllReadyH.cons rfl (fun K hK => ?_) AllReadyH.nil
            rw [if_pos (by rfl)]
            refine wp_storeT HZ.out R.t hu2 HU.out.one _ _ rfl rfl rfl rfl ?_
            have HU2 := Lib.hid (HU.out.far (HU.out.blk_ne HZ.out (by decide)) (setCells_other _ z (talkL R.t hu2) 0))
            have HB2 := Lib.hid (below_setCells HB.out hzl (talkL R.t hu2) 0)
            have HZ2 := Lib.hid (setTalk (u := R.t) (hu := hu2) HZ.out)
            clear hHeld
            refine hK.out _ _ HB2.out (fun hHeld => ?_)
            clear hK
            refine wpAnyH_takeD 18 (i := 19) (v := .int .i64 R.n) rfl rfl (by kernel_rfl) (by kernel_rfl) (by kernel_rfl) (fun _ _ _ h => h) (Or.inl ⟨by rfl, fun wq hSw => by go_simp⟩) (by assumption) ?_
            simp only [Act.put, List.setIfInBounds_toArray, List.set_cons_zero, List.set_cons_succ]
            refine wpAnyH_takeD 19 (i := 20) (v := .int .i64 R.e) rfl rfl (by kernel_rfl) (by kernel_rfl) (by kernel_rfl) (fun _ _ _ h => h) (Or.inl ⟨by rfl, fun wq hSw => by go_simp⟩) (by assumption) ?_
            simp only [Act.put, List.setIfInBounds_toArray, List.set_cons_zero, List.set_cons_succ]
            refine wpAnyH_done (by kernel_rfl) ?_ _
            go_wp2_with fail
            go_meet
            case rel => exact ⟨z, hu2, rfl, rfl, rfl, hzl, HZ2.out, HU2.out, HB2.out⟩
      obtain ⟨z2, hu2, rfl, rfl, rfl, hzl2, htz2, hou2, hb8⟩ := hcut
      have HB8 := Lib.hid hb8
      have HV8 := Lib.hid htz2
      have HX8 := Lib.hid hou2
      clear hb8 htz2 hou2 hzl2
      have HW8 := Lib.hid (HW7.out.call HB8.out)
      have HSO8 := Lib.hid (HSO7.out.trans (SameT.of_below HB8.out))
      have HLE8 := Lib.hid (HLE7.out.below HB8.out)
      have HWA8 := Lib.hid (HWA7.out.below HB8.out)
      have HU8 := Lib.hid (HU7.out.below HB8.out)
      have HZ8 := Lib.hid (HZ7.out.below HB8.out)
      have HV0 := Lib.hid (HU8.out.more (Nat.le_trans HWW.out (Nat.le_trans (Nat.le_of_lt HGX4.out) (Nat.le_refl _) |> fun h => Nat.le_trans HGX.out h)))
      have HX0 := Lib.hid (HX8.out.more HW7.out.r.low.size)
      have HFR := Lib.hid (show ∀ j, hu.ownBlock = some j → Free bl j ∧ Free cl j from fun j hj => ⟨HW4.out.ob.lt (HU8.out.lt j hj).1, HW4.out.oc.lt (HU8.out.lt j hj).1⟩)
      have HRL := Lib.hid (show R.h.length ≤ 1099511627776 from by have := HRO.out.2; omega)
      have HN1 := Lib.hid (show ts.length ≤ 536870912 from by have := HNM.out.1; omega)
      have HN2 := Lib.hid (show bl.length ≤ 1073741824 from by have := HNM.out.2.1; omega)
      have HN3 := Lib.hid (show cl.length ≤ 1073741824 from by rw [← HAG.out.len]; exact HN2.out)
      have HL47 := Lib.hid (show lc.length ≤ 1099511627776 from by have := HLC28.out; omega)
      have HWAB := Lib.hid HWA8.out.bys
      clear HW7 HLE7 HWA7 HU7 HZ7 HB8
      go_upto_region 14 with (first
        | (go_at_call 86; (with_reducible refine (left_calls W0.heap.size (.slice (some ⟨gl, 0, none⟩) nb (nb + 3)) (.slice wA lc.length wc2) lc _ HLE8.out HWAB.out HL47.out).mono ?_); rintro e w8 ⟨rfl, rfl⟩)
        | (refine wT HZ8.out rfl _ rfl rfl ?_)
        | (refine wT HV8.out rfl _ rfl rfl ?_)
        | (go_at_call 29; (with_reducible refine (takes_calls HW8.out R.t hu hu2 R.h R.e HV0.out HX0.out HFR.out HRL.out HN1.out HN2.out HN3.out).mono ?_); rintro e w9 ⟨rfl, ⟨vt9, vw9, vb9, vc9, c9, hwb9, hcn9⟩, hs9⟩; have HW9 := Lib.hid hwb9; have HC9 := Lib.hid hcn9; have HS9 := Lib.hid hs9; clear hwb9 hcn9 hs9))
      have NH := Lib.hid (show hu.ownBlock ≠ some gl from fun hh => by have h1 := (HU8.out.lt gl hh).1; have h2 := HGLW.out; have h3 := HB4.out.size; omega)
      have NH2 := Lib.hid (show hu2.ownBlock ≠ some gl from fun hh => by have h1 := (HX8.out.lt gl hh).1; have h2 := HGLW.out; have h3 := HB4.out.size; have h4 := HZW.out; omega)
      have NC := Lib.hid (show c9.ownBlock ≠ some gl from fun hh => by have h1 := HC9.out gl hh; have h2 := HLE8.out.lt_; omega)
      have HT9 := Lib.hid (talks_more (x := ⟨R.t, hu, hu2, R.h⟩) (e := R.e) HTK.out (fun he => HRO.out.1 he) (HAW.out.snoc (v := hu) (c := c9) (l := R.h) NH.out NC.out) NH.out NH2.out)
      have HLE9 := Lib.hid (HLE8.out.same8 HS9.out)
      have HSO9 := Lib.hid (HSO8.out.trans (SameT.so HS9.out))
      have HCY9 := Lib.hid (HCY.out.below HW9.out.r.low)
      clear HW8 HLE8 HWA8 HU8 HZ8 HV8 HX8
      go_upto_region 16 with (fail)
      go_upto_region 4 with (go_at_call 87; (with_reducible refine (over_calls W0.heap.size W0.heap.size (.slice (some ⟨gl, 0, none⟩) nb (nb + 3)) cv lc c _ HLE9.out HCY9.out (Nat.le_refl _) HL47.out).mono ?_); rintro e w10 ⟨rfl, hl10, hgr⟩; have HG10 := Lib.hid (show w9.grownBy w10 (some gl) from hgr); have HL10 := Lib.hid hl10; clear hl10 hgr)
      have HW10 := Lib.hid (HW9.out.over_ HLE9.out (Nat.le_refl _) HT9.out.2.2.2 HG10.out)
      have HDW := Lib.hid (show DW W0 q gu gr lo (n + (r + 1)) (m + (r + 1)) (fun x => False ∨ x = gl) w10 from ⟨vt9, vw9, vb9, vc9, _, _, _, HW10.out, HAG.out.snoc hu c9 R.h, snoc_all HLN.out (by have := HRO.out.2; omega), HT9.out.1, Nat.le_trans HNM.out.2.2 HT9.out.2.1, by have h1 := HT9.out.2.2.1; have h2 := HNM.out.1; omega, by have h2 := HNM.out.2.1; rw [List.length_append, List.length_singleton]; omega, fun g hg => hg.elim (fun h => h.elim) (fun e => e ▸ HT9.out.2.2.2)⟩)
      have HSO10 := Lib.hid (HSO9.out.trans (SameO.over_ HLE9.out HG10.out))
      clear HW9 HLE9 HCY9 HG10 HW10
      go_wp2_with fail
      go_roundw
      case rel => exact ⟨r + 1, overS lc c, by omega, by go_num, (overS_len lc c).trans HLC.out, HL10.out, HDW.out, HSO10.out⟩
      case measure => simp [intOf]; omega
    · have hr2' : ¬ (r : Int) < 2 := by omega
      have HE := Lib.hid (show DW W0 q gu gr lo (n + 2) (m + 2) (fun _ => False) wr from HWSX.out.more (by omega) (by omega) (fun g hg => hg.elim))
      go_wp2_with fail
      go_ret
      exact ⟨rfl, HE.out, HSO.out⟩
end Go.Proofs.YtlenlldiimohjaaGreatDoor
