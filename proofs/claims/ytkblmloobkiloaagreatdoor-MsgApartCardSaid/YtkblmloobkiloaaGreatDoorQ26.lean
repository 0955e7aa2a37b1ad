/-
  MPC MPD MPF MPE: what the laws of package msg need of them.
-/
import Derived.Test.YtkblmloobkiloaaGreatDoorQ25
namespace Go.Proofs.YtkblmloobkiloaaGreatDoor
open Go.RowKit

theorem pLine_none {l : List UInt8} (h : kindOf (l.takeWhile isLet) = none) : pLine l = .error l.length := by
  unfold pLine
  simp only [h]
theorem pLine_some {l : List UInt8} {k : Nat} {fs : List Fld} (h : kindOf (l.takeWhile isLet) = some k) (hf : kindF k = some fs) :
    pLine l = (pWord [32] (l.drop (l.takeWhile isLet).length) >>= fun l => pNum 65535 l >>= fun x => pAll fs (head k x.1) x.2 >>= fun y => if y.2 = [] then .ok y.1 else .error y.2.length) := by
  unfold pLine
  simp only [h, hf]
  rfl
theorem pAll_cons (f : Fld) (fs : List Fld) (m : Mg) (l : List UInt8) : pAll (f :: fs) m l = (pWord (32 :: (f.word ++ [61])) l >>= fun l => pF m l f >>= fun x => pAll fs x.1 x.2) := rfl
/-- What the message's scan gives. -/
def MesR (p : Nat) (s : ByteArray) (r : Except Nat Mg) (w : World) (e : Ending) (w' : World) : Prop :=
  Off (fun i => i = p) w w' ∧ match r with
    | .ok m => ∃ vn vq vd, e = .returned (msgV m vn vq vd) ∧ OL w' w.heap.size m vn vq vd
    | .error n => e = .panicked [{ v := .iface 111 (.int .i64 ((s.size : Int) - (n : Int))), recovered := false }]
theorem MesR.no {p : Nat} {s : ByteArray} {r : Except Nat Mg} {w w' : World} {n : Nat} {i : Int} (hr : r = .error n) (hi : i = (s.size : Int) - (n : Int)) (ho : Off (fun i => i = p) w w') : MesR p s r w (.panicked [{ v := .iface 111 (.int .i64 i), recovered := false }]) w' := by
  subst hr hi
  exact ⟨ho, rfl⟩
/-- Ahead of the message's own block. -/
structure PreSt (w0 w : World) (p z : Nat) (s : ByteArray) (a : Nat) : Prop where
  off : Off (fun i => i = p ∨ z ≤ i) w0 w
  hz : MBlk w z (head 0 0) (.slice none 0 0) (.slice none 0 0) (.slice none 0 0)
  sc : ScS w p s a
  se : SE w
  rd : Ready w
  lt : p < z
  h8 : 8 ≤ p
theorem PreSt.below {w0 w w' : World} {p z : Nat} {s : ByteArray} {a : Nat} (h : PreSt w0 w p z s a) (hb : Below w.heap.size w w') : PreSt w0 w' p z s a :=
  ⟨h.off.trans (Off.of_below hb), Blk.below h.hz hb (Blk.lt h.hz), h.sc.below hb, h.se.low hb h.rd.eight, h.rd.below hb (Nat.le_refl _), h.lt, h.h8⟩
theorem PreSt.call {w0 w w' : World} {p z : Nat} {s : ByteArray} {a a' : Nat} (h : PreSt w0 w p z s a) (ho : Off (fun i => i = p) w w') (hs : ScS w' p s a') : PreSt w0 w' p z s a' := by
  have hp := h.lt
  have h8 := h.h8
  have hb : Below 8 w w' := ho.below (fun i hi => by have hi : i = p := hi; omega) h.rd.eight
  exact ⟨h.off.trans ho.toN, ho.blk h.hz (fun hi => by have hi : z = p := hi; omega), hs, h.se.low hb (Nat.le_refl 8), h.rd.low hb (Nat.le_refl 8), hp, h8⟩
/-- While a message is scanned. -/
structure MesSt (w0 w : World) (p z h : Nat) (s : ByteArray) (a : Nat) (m : Mg) (vn vq vd : Value) : Prop where
  pre : PreSt w0 w p z s a
  hm : MBlk w h m vn vq vd
  ol : OL w z m vn vq vd
  lh : z < h
theorem MesSt.below {w0 w w' : World} {p z h : Nat} {s : ByteArray} {a : Nat} {m : Mg} {vn vq vd : Value} (t : MesSt w0 w p z h s a m vn vq vd) (hb : Below w.heap.size w w') : MesSt w0 w' p z h s a m vn vq vd :=
  ⟨t.pre.below hb, Blk.below t.hm hb (Blk.lt t.hm), t.ol.below hb, t.lh⟩
theorem MesSt.call {w0 w w' : World} {p z h : Nat} {s : ByteArray} {a a' : Nat} {m : Mg} {vn vq vd : Value} (t : MesSt w0 w p z h s a m vn vq vd) (ho : Off (fun i => i = p) w w') (hs : ScS w' p s a') : MesSt w0 w' p z h s a' m vn vq vd :=
  ⟨t.pre.call ho hs, ho.blk t.hm (fun hi => by have hi : h = p := hi; have := t.lh; have := t.pre.lt; omega), t.ol.sc t.pre.sc ho, t.lh⟩
theorem MesSt.scan {w0 w w' : World} {p z h : Nat} {s : ByteArray} {a a' : Nat} {m m' : Mg} {vn vq vd xn xq xd : Value} (t : MesSt w0 w p z h s a m vn vq vd) (ho : Off (fun i => i = p ∨ i = h) w w') (hs : ScS w' p s a') (hm : MBlk w' h m' xn xq xd) (hl : OL w' z m' xn xq xd) : MesSt w0 w' p z h s a' m' xn xq xd := by
  have hp := t.pre.lt
  have h8 := t.pre.h8
  have hlh := t.lh
  have hb : Below 8 w w' := ho.below (fun i hi => by rcases hi with hi | hi <;> omega) t.pre.rd.eight
  exact ⟨⟨t.pre.off.trans (ho.mono fun i _ hi => by rcases hi with hi | hi; exact .inl hi; exact .inr (by omega)), ho.blk t.pre.hz (fun hi => by rcases hi with hi | hi <;> omega), hs, t.pre.se.low hb (Nat.le_refl 8), t.pre.rd.low hb (Nat.le_refl 8), hp, h8⟩, hm, hl, hlh⟩
theorem MesSt.set_ {w0 w : World} {p z h : Nat} {s : ByteArray} {a : Nat} {m m' : Mg} {vn vq vd : Value} (t : MesSt w0 w p z h s a m vn vq vd) (i : Nat) (v : Value) (e : (msgL m vn vq vd).toArray.setIfInBounds i v = (msgL m' vn vq vd).toArray) (hn : m'.names = m.names) (hq : m'.qids = m.qids) (hd : m'.data = m.data) : MesSt w0 (w.setCell ⟨h, i, none⟩ v) p z h s a m' vn vq vd := by
  have ho := set_off w h i v
  have hl := t.ol.mblk t.hm ho
  exact t.scan (ho.mono fun _ _ hi => .inr hi) (t.pre.sc.off ho (fun hi => by have hi : p = h := hi; have := t.lh; have := t.pre.lt; omega)) (MBlk.set_ t.hm i v e) ⟨by rw [hn]; exact hl.n, by rw [hq]; exact hl.q, by rw [hd]; exact hl.d⟩
theorem set_tag (k n : Nat) (vn vq vd : Value) : (msgL (head k 0) vn vq vd).toArray.setIfInBounds 1 (.int .u16 (n : Int)) = (msgL (head k n) vn vq vd).toArray := by kernel_rfl
theorem kindF_len {k : Nat} {fs : List Fld} (hh : kindF k = some fs) : fs.length ≤ 20 := by
  unfold kindF at hh
  split at hh <;> first | (obtain rfl := Option.some.inj hh; decide) | (exact absurd hh (by simp))
theorem kindF_lt {k : Nat} {fs : List Fld} (hh : kindF k = some fs) : k < 256 := by
  obtain ⟨-, -, h1, h2⟩ := kindF_well hh
  omega
set_option maxRecDepth 100000 in
set_option maxHeartbeats 6400000 in
theorem message_calls {w : World} {p : Nat} {s : ByteArray} (hse : SE w) (hrd : Ready w) (h8 : 8 ≤ p) (h : ScS w p s 0) :
    Calls Tryz.prog 58 #[.pointer (some ⟨p, 0, none⟩)] w (MesR p s (pLine s.data.toList) w) := by
  have hent1 := enters_at (k := 111) Tryz.func111 (by kernel_rfl) rfl
  have hup : Below w.heap.size w (w.alloc (.cells (mgN (head 0 0)).toArray 41)) := (Below.refl _ _).alloc (Nat.le_refl _) _
  have P0 := Lib.hid (show PreSt w (w.alloc (.cells (mgN (head 0 0)).toArray 41)) p w.heap.size s 0 from ⟨Off.of_below hup, Blk.new w _ _, h.below hup, hse.low hup hrd.eight, hrd.below hup (Nat.le_refl _), Blk.lt h.1, h8⟩)
  clear h hse hrd h8 hup
  go_enter Tryz.func58, Tryz.ntmps58
  go_upto_region 1 with (fail)
  change Code.wp _ _ _ _ (w.alloc (.cells (mgN (head 0 0)).toArray 41))
  generalize w.alloc (.cells (mgN (head 0 0)).toArray 41) = w0 at P0 ⊢
  generalize hz : w.heap.size = z at P0 ⊢
  have HZZ := Lib.hid hz; clear hz
  have HRW := Lib.hid (row_calls isLet hent1 isLet_calls P0.out.sc)
  rw [List.drop_zero] at HRW
  obtain ⟨l, hl⟩ : ∃ l, l = s.data.toList := ⟨_, rfl⟩
  have HL := Lib.hid (show l.length = s.size from by rw [hl, Array.length_toList]; rfl)
  have HLL := Lib.hid hl
  rw [← hl] at HRW ⊢
  obtain ⟨n, hn⟩ : ∃ n, n = l.takeWhile isLet := ⟨_, rfl⟩
  have HNN := Lib.hid hn
  rw [← hn] at HRW
  clear hl hn
  go_wp2_with fail
  refine HRW.out.mono ?_
  rintro e w1 ⟨rfl, hs, ho⟩
  have P1 := Lib.hid (P0.out.call ho hs)
  clear hs ho P0 HRW hent1
  have HX := Lib.hid (show (ofL n).data.toList = n from by simp [ofL])
  generalize ofL n = X at HX ⊢
  go_wp2_with fail
  refine (kind_calls X w1).mono ?_
  rintro e w2 ⟨hk, hb⟩
  have P2 := Lib.hid (P1.out.below hb)
  clear hb P1
  unfold KindR at hk
  rw [HX.out] at hk
  clear HX
  cases hko : kindOf n with
  | none =>
    rw [hko] at hk
    have hk : e = .returned (.tuple #[.int .u8 0, .bool false]) := hk
    subst hk
    have HR := Lib.hid (pLine_none (l := l) (by rw [← HNN.out, hko]))
    clear hko
    go_wp2_with fail
    refine ⟨rfl, ?_⟩
    rw [← HLL.out]
    exact MesR.no HR.out (by have := HL.out; omega) (P2.out.off.toR (by have := HZZ.out; omega))
  | some kd =>
    rw [hko] at hk
    have hk : e = .returned (.tuple #[.int .u8 (kd : Int), .bool true]) := hk
    subst hk
    obtain ⟨-, -, fs, hkf⟩ := kindOf_some hko
    have HPL := Lib.hid (pLine_some (l := l) (by rw [← HNN.out, hko]) hkf)
    rw [← HNN.out] at HPL
    have HKF := Lib.hid hkf
    have hfl20 : fs.length ≤ 20 := kindF_len hkf
    have hkd : kd < 256 := kindF_lt hkf
    clear hko hkf
    go_wp2_with fail
    refine (rowOf_in kd w2).mono ?_
    rintro e w3 ⟨hb, hrow⟩
    unfold RowS at hrow
    rw [HKF.out] at hrow
    obtain ⟨fvl, rfl, hfl⟩ := hrow
    have P3 := Lib.hid (P2.out.below hb)
    have HG3 := Lib.hid (show z < w2.heap.size ∧ w2.heap.size ≤ w3.heap.size from ⟨Blk.lt P2.out.hz, hb.size⟩)
    have HF3 := Lib.hid hfl
    obtain ⟨fA, fc, rfl, hfc, hfm, -⟩ := hfl
    clear hb P2
    have hup : Below w3.heap.size w3 (w3.alloc (.cells #[.int .u8 (kd : Int), .string (ofL (kindN kd)), .slice fA fs.length fc] 79)) := (Below.refl _ _).alloc (Nat.le_refl _) _
    have HR4 := Lib.hid (Blk.new w3 79 #[.int .u8 (kd : Int), .string (ofL (kindN kd)), .slice fA fs.length fc])
    have P4 := Lib.hid (P3.out.below hup)
    have HF4 := Lib.hid (HF3.out.keep fun i _ hi => hup.block i hi)
    have HSZ4 := Lib.hid (World.size_alloc w3 (.cells #[.int .u8 (kd : Int), .string (ofL (kindN kd)), .slice fA fs.length fc] 79))
    clear hup P3 HF3
    go_upto_region 6 with (fail)
    generalize w3.alloc (.cells #[.int .u8 (kd : Int), .string (ofL (kindN kd)), .slice fA fs.length fc] 79) = w4 at HR4 P4 HF4 HSZ4 ⊢
    have HG5 := Lib.hid (show z < w2.heap.size ∧ w2.heap.size ≤ w3.heap.size ∧ w3.heap.size < w4.heap.size from ⟨HG3.out.1, HG3.out.2, by have := HSZ4.out; omega⟩)
    have hzh : z < w4.heap.size := by have := HG5.out; omega
    have HZH := Lib.hid hzh; clear hzh
    go_upto_region 7 with (change wpList _ _ _ _ _ (w4.alloc (.cells (mgN (head 0 0)).toArray 41)); have hup : Below w4.heap.size w4 (w4.alloc (.cells (mgN (head 0 0)).toArray 41)) := (Below.refl _ _).alloc (Nat.le_refl _) _; have M5 := Lib.hid (show MesSt w (w4.alloc (.cells (mgN (head 0 0)).toArray 41)) p z w4.heap.size s n.length (head 0 0) (.slice none 0 0) (.slice none 0 0) (.slice none 0 0) from ⟨(by have h := P4.out.below hup; rw [Nat.zero_add] at h; exact h), Blk.new w4 _ _, OL.nil_ .., HZH.out⟩); have HR5 := Lib.hid (Blk.below HR4.out hup (Blk.lt HR4.out)); have HF5 := Lib.hid (HF4.out.keep fun i _ hi => hup.block i (by have := HG5.out; omega)); clear hup; generalize w4.alloc (.cells (mgN (head 0 0)).toArray 41) = w5 at M5 HR5 HF5 ⊢; generalize w4.heap.size = h at M5 HG5 HZH ⊢; refine wstK M5.out.hm 0 (mgN (head kd 0)) _ (over_msg ..) (Nat.le_refl 36) (msg_one _ rfl rfl rfl) rfl _ _ _ rfl rfl rfl msg_size ?_; intro w6 hs ho; have HO6 := Lib.hid (ho (fun i => i = h) rfl w5 (Off.refl _ _)); have M6 := Lib.hid (M5.out.scan (HO6.out.mono fun _ _ hi => .inr hi) (M5.out.pre.sc.off HO6.out (fun hi => by have hi : p = h := hi; have := M5.out.lh; have := M5.out.pre.lt; omega)) (show MBlk w6 h (head kd 0) (.slice none 0 0) (.slice none 0 0) (.slice none 0 0) from hs) (OL.nil_ ..)); clear hs ho)
    have HR6 := Lib.hid (HO6.out.blk HR5.out (by have := HG5.out; omega))
    have HF6 := Lib.hid (HF5.out.keep fun i _ hi => HO6.out.block i (by have := Blk.lt HR5.out; omega) (by have := HG5.out; omega))
    clear M5 HR5 HF5 HO6 HR4 HF4 P4
    go_wp2_with fail
    refine (word_calls ⟨#[32]⟩ M6.out.pre.sc).mono ?_
    rw [show s.data.toList.drop n.length = l.drop n.length from by rw [HLL.out]]
    rintro e w7 hr
    rw [show (⟨#[32]⟩ : ByteArray).data.toList = [32] from rfl] at hr
    rcases hr.getW with ⟨ne, hp, rfl, ho⟩ | ⟨l7, a7, hp, rfl, ho, hs, hd⟩
    · have HR := Lib.hid (show pLine l = .error ne from by rw [HPL.out, hp]; rfl)
      have HO := Lib.hid (M6.out.pre.off.trans ho.toN)
      clear hp ho hr
      go_wp2_with fail
      refine ⟨rfl, ?_⟩
      rw [← HLL.out]
      exact MesR.no HR.out rfl (HO.out.toR (by have := HZZ.out; omega))
    have HPL7 := Lib.hid (show pLine l = (pNum 65535 l7 >>= fun x => pAll fs (head kd x.1) x.2 >>= fun y => if y.2 = [] then .ok y.1 else .error y.2.length) from by rw [HPL.out, hp]; rfl)
    have M7 := Lib.hid (M6.out.call ho hs)
    have HD7 := Lib.hid hd
    have HO7 := Lib.hid (show Off (fun i => i = p ∨ i = h) w6 w7 from ho.mono fun _ _ hi => .inl hi)
    clear hp ho hr hs hd M6 HPL
    go_wp2_with fail
    refine (number_calls 65535 (by decide) M7.out.pre.se M7.out.pre.h8 M7.out.pre.rd.eight M7.out.pre.sc).mono ?_
    rw [HD7.out]
    rintro e w8 hr
    rcases hr.get with ⟨ne, hp, rfl, ho⟩ | ⟨tg, l8, a8, hp, rfl, ho, hs, hd⟩
    · have HR := Lib.hid (show pLine l = .error ne from by rw [HPL7.out, hp]; rfl)
      have HO := Lib.hid (M7.out.pre.off.trans ho.toN)
      clear hp ho hr
      go_wp2_with fail
      refine ⟨rfl, ?_⟩
      rw [← HLL.out]
      exact MesR.no HR.out rfl (HO.out.toR (by have := HZZ.out; omega))
    have HPL8 := Lib.hid (show pLine l = (pAll fs (head kd tg) l8 >>= fun y => if y.2 = [] then .ok y.1 else .error y.2.length) from by rw [HPL7.out, hp]; rfl)
    have htl := pNum_le hp
    have hwv : IntKind.u16.wrap (tg : Int) = (tg : Int) := by rw [IntKind.wrap_u16]; omega
    have M8 := Lib.hid (M7.out.call ho hs)
    have HD8 := Lib.hid hd
    have HO8 := Lib.hid (HO7.out.trans (ho.mono (S' := fun i => i = p ∨ i = h) fun _ _ hi => .inl hi))
    clear hp ho hr hs hd M7 HPL7 htl HO7
    have ks : w8.cell? ⟨h, 1, none⟩ = some (.int .u16 0) := Blk.cell M8.out.hm 1
    have fs1 : w8.frozen? ⟨h, 1, none⟩ = false := Blk.frozen M8.out.hm 1
    have MA := Lib.hid (show MesSt w (w8.setCell ⟨h, 1, none⟩ (.int .u16 (tg : Int))) p z h s a8 (head kd tg) (.slice none 0 0) (.slice none 0 0) (.slice none 0 0) from M8.out.set_ 1 (.int .u16 (tg : Int)) (set_tag ..) rfl rfl rfl)
    have HOA := Lib.hid (HO8.out.trans ((set_off w8 h 1 (.int .u16 (tg : Int))).mono (S' := fun i => i = p ∨ i = h) fun _ _ hi => .inr hi))
    go_upto_region 9 with (fail)
    clear ks fs1 hwv M8 HO8
    generalize w8.setCell ⟨h, 1, none⟩ (.int .u16 (tg : Int)) = wa at MA HOA ⊢
    have HRA := Lib.hid (HOA.out.blk HR6.out (fun hi => by have := HG5.out; have := MA.out.pre.lt; omega))
    have HFA := Lib.hid (HF6.out.keep fun i hlo hi => HOA.out.block i (by have := Blk.lt HR6.out; omega) (fun hh => by have := HG5.out; have := MA.out.pre.lt; omega))
    generalize w3.heap.size = rb at HG5 HRA HFA HR6 HF6 ⊢
    clear HR6 HF6 HOA
    have k2 : wa.cell? ⟨rb, 2, none⟩ = some (.slice fA fs.length fc) := Blk.cell HRA.out 2
    go_upto_region 10 with (fail)
    clear k2
    go_loopw [10, 11, 38] (fun _ _ i wr => ∃ (k : Nat) (m : Mg) (l' : List UInt8) (a : Nat) (vn vq vd : Value), k ≤ fs.length ∧ i = .int .i64 (k : Int) ∧ MesSt w wr p z h s a m vn vq vd ∧ s.data.toList.drop a = l' ∧ pAll fs (head kd tg) l8 = pAll (fs.drop k) m l' ∧ Off (fun i => i = p ∨ i = h) wa wr) (fun _ _ i _ => fs.length - (intOf i).toNat)
    case atStart => exact ⟨0, _, l8, a8, _, _, _, by omega, rfl, MA.out, HD8.out, rfl, Off.refl _ _⟩
    case round =>
      obtain ⟨k, m, l', a, vn, vq, vd, hk, rfl, hm, hd, hq, ho⟩ := hrel
      have MR := Lib.hid hm; have HDR := Lib.hid hd; have HQR := Lib.hid hq; have HOR := Lib.hid ho
      clear hm hd hq ho
      by_cases hlt : k < fs.length
      · obtain ⟨f, hf⟩ : ∃ f, fs[k]? = some f := ⟨fs[k], List.getElem?_eq_getElem _⟩
        obtain ⟨ad, rfl, kx⟩ := (HFA.out.keep fun i hlo hi => HOR.out.block i (by have := Blk.lt HRA.out; omega) (fun hh => by have := HG5.out; have := MA.out.pre.lt; omega)).at_ hf
        have HQF := Lib.hid (show pAll fs (head kd tg) l8 = (pWord (32 :: (f.word ++ [61])) l' >>= fun l => pF m l f >>= fun x => pAll (fs.drop (k + 1)) x.1 x.2) from by
          rw [HQR.out, ← pAll_cons]
          congr 1
          obtain ⟨hh, rfl⟩ := List.getElem?_eq_some_iff.1 hf
          exact List.drop_eq_getElem_cons hh)
        clear hf HQR
        go_wp2_with fail
        refine (fieldOf_plain f wr).mono ?_
        rintro e w7_ ⟨rfl, hb, hcap⟩
        have HB9 := Lib.hid (show p < wr.heap.size + 1 from by have := Blk.lt MR.out.pre.sc.1; omega)
        generalize wr.heap.size + 1 = b9 at hcap HB9 ⊢
        have hup8 : Below w7_.heap.size w7_ (w7_.alloc (.cells #[.string f.wordS, .func (.func f.kg) #[] (f.gcap b9), .func (.func f.kp) #[] (f.cap b9), .func (.func f.kt) #[] (f.cap b9), .func (.func f.km) #[] (f.cap b9), .func (.func f.kr) #[] (f.cap b9), .func (.func f.ks) #[] (f.cap b9)] 90)) := (Below.refl _ _).alloc (Nat.le_refl _) _
        have HN8 := Lib.hid (Blk.new w7_ 90 #[.string f.wordS, .func (.func f.kg) #[] (f.gcap b9), .func (.func f.kp) #[] (f.cap b9), .func (.func f.kt) #[] (f.cap b9), .func (.func f.km) #[] (f.cap b9), .func (.func f.kr) #[] (f.cap b9), .func (.func f.ks) #[] (f.cap b9)])
        have HC8 := Lib.hid (show FCap (w7_.alloc (.cells #[.string f.wordS, .func (.func f.kg) #[] (f.gcap b9), .func (.func f.kp) #[] (f.cap b9), .func (.func f.kt) #[] (f.cap b9), .func (.func f.km) #[] (f.cap b9), .func (.func f.kr) #[] (f.cap b9), .func (.func f.ks) #[] (f.cap b9)] 90)) f b9 from ⟨fun h => (hcap.1 h).alloc _, fun h h' => (hcap.2 h h').alloc _⟩)
        have MS8 := Lib.hid ((MR.out.below hb).below hup8)
        have HO8 := Lib.hid ((HOR.out.trans (Off.of_below hb)).trans (Off.of_below hup8))
        have HPF := Lib.hid (show p < w7_.heap.size from Blk.lt (MR.out.below hb).pre.sc.1)
        have HHF := Lib.hid (show h < w7_.heap.size from Blk.lt (MR.out.below hb).hm)
        clear hb hcap kx hup8 MR HOR
        go_upto_region 13 with (fail)
        change Code.wp _ _ _ _ (w7_.alloc (.cells #[.string f.wordS, .func (.func f.kg) #[] (f.gcap b9), .func (.func f.kp) #[] (f.cap b9), .func (.func f.kt) #[] (f.cap b9), .func (.func f.km) #[] (f.cap b9), .func (.func f.kr) #[] (f.cap b9), .func (.func f.ks) #[] (f.cap b9)] 90))
        generalize w7_.alloc (.cells #[.string f.wordS, .func (.func f.kg) #[] (f.gcap b9), .func (.func f.kp) #[] (f.cap b9), .func (.func f.kt) #[] (f.cap b9), .func (.func f.km) #[] (f.cap b9), .func (.func f.kr) #[] (f.cap b9), .func (.func f.ks) #[] (f.cap b9)] 90) = w8_ at HN8 HC8 MS8 HO8 ⊢
        generalize w7_.heap.size = zf at HN8 HPF HHF ⊢
        have hws := word_len f
        obtain ⟨Q0, hQ0⟩ : ∃ P, P = (⟨#[32]⟩ : ByteArray) ++ f.wordS := ⟨_, rfl⟩
        have hs0 : Q0.size = 1 + f.wordS.size := by rw [hQ0, ByteArray.size_append]; rfl
        have ha0 : ∀ w, (Op.stringOp .add (⟨#[32]⟩ : ByteArray) f.wordS).run Tryz.prog w = .ok (.string Q0) w := fun w => by
          rw [hQ0]
          exact run_string_add_sum w _ _ (by rw [← ByteArray.size_append, ← hQ0]; omega)
        obtain ⟨Q1, hQ1⟩ : ∃ P, P = Q0 ++ (⟨#[61]⟩ : ByteArray) := ⟨_, rfl⟩
        have hs1 : Q1.size = Q0.size + 1 := by rw [hQ1, ByteArray.size_append]; rfl
        have ha1 : ∀ w, (Op.stringOp .add Q0 (⟨#[61]⟩ : ByteArray)).run Tryz.prog w = .ok (.string Q1) w := fun w => by
          rw [hQ1]
          exact run_string_add_sum w _ _ (by rw [← ByteArray.size_append, ← hQ1]; omega)
        have HQ1 := Lib.hid (show Q1.data.toList = 32 :: (f.word ++ [61]) from by
          rw [hQ1, hQ0, wordS_eq]
          simp [ofL])
        have kf0 : w8_.cell? ⟨zf, 0, none⟩ = some (.string f.wordS) := HN8.out.cell 0
        clear hws hs0 hs1 hQ0 hQ1
        go_wp2_with fail
        refine (word_calls Q1 MS8.out.pre.sc).mono ?_
        rw [HDR.out, HQ1.out]
        rintro e w9 hr
        rcases hr.getW with ⟨ne, hp, rfl, ho⟩ | ⟨l9, a9, hp, rfl, ho, hs, hd⟩
        · have HR := Lib.hid (show pLine l = .error ne from by rw [HPL8.out, HQF.out, hp]; rfl)
          have HO := Lib.hid (MS8.out.pre.off.trans ho.toN)
          clear hp ho hr
          go_wp2_with fail
          refine ⟨rfl, ?_⟩
          rw [← HLL.out]
          exact MesR.no HR.out rfl (HO.out.toR (by have := HZZ.out; omega))
        have HQ9 := Lib.hid (show pAll fs (head kd tg) l8 = (pF m l9 f >>= fun x => pAll (fs.drop (k + 1)) x.1 x.2) from by rw [HQF.out, hp]; rfl)
        have MS9 := Lib.hid (MS8.out.call ho hs)
        have HD9 := Lib.hid hd
        have HO9 := Lib.hid (HO8.out.trans (ho.mono (S' := fun i => i = p ∨ i = h) fun _ _ hi => .inl hi))
        have kf6 : w9.cell? ⟨zf, 6, none⟩ = some (.func (.func f.ks) #[] (f.cap b9)) := (ho.blk HN8.out (fun hi => by have hi : zf = p := hi; have := HPF.out; omega)).cell 6
        have HC9 := Lib.hid (show FCap w9 f b9 from ⟨fun h => ho.blk (HC8.out.1 h) (fun hi => by have hi : b9 = p := hi; have := HB9.out; omega), fun h h' => ho.blk (HC8.out.2 h h') (fun hi => by have hi : b9 = p := hi; have := HB9.out; omega)⟩)
        have hent := ks_enters f
        have HSCN := Lib.hid (fscan_calls f MS9.out.pre.se MS9.out.pre.rd MS9.out.pre.h8 MS9.out.hm MS9.out.ol (Nat.le_of_lt (Blk.lt MS9.out.pre.hz)) HC9.out MS9.out.pre.sc)
        rw [HD9.out] at HSCN
        clear hp ho hr hs hd kf0 ha0 ha1 MS8 HO8 HC8 HQF
        go_wp2_with fail
        refine HSCN.out.mono ?_
        rintro e w10 ⟨ho, hr⟩
        cases hp : pF m l9 f with
        | error ne =>
          rw [hp] at hr
          have hr : e = .panicked [{ v := .iface 111 (.int .i64 ((s.size : Int) - (ne : Int))), recovered := false }] := hr
          subst hr
          have HR := Lib.hid (show pLine l = .error ne from by rw [HPL8.out, HQ9.out, hp]; rfl)
          have HO := Lib.hid (MS9.out.pre.off.trans (ho.mono (S' := fun i => i = p ∨ z ≤ i) fun _ _ hi => by have := MS9.out.lh; omega))
          clear hp ho hent
          go_wp2_with fail
          refine ⟨rfl, ?_⟩
          rw [← HLL.out]
          exact MesR.no HR.out rfl (HO.out.toR (by have := HZZ.out; omega))
        | ok x =>
          obtain ⟨m', l10⟩ := x
          rw [hp] at hr
          obtain ⟨he, ⟨xn, xq, xd, hmm, hol⟩, a10, hs, hd⟩ := hr
          subst he
          have HQ10 := Lib.hid (show pAll fs (head kd tg) l8 = pAll (fs.drop (k + 1)) m' l10 from by rw [HQ9.out, hp]; rfl)
          have MS10 := Lib.hid (MS9.out.scan ho hs hmm hol)
          have HO10 := Lib.hid (HO9.out.trans ho)
          have HD10 := Lib.hid hd
          clear hp ho hent hs hd hmm hol kf6
          go_wp2_with fail
          go_roundw
          case rel => exact ⟨k + 1, m', l10, a10, xn, xq, xd, by omega, by go_num, MS10.out, HD10.out, HQ10.out, HO10.out⟩
          case measure => simp [intOf]; omega
      · have hkl : k = fs.length := by omega
        subst hkl
        rw [List.drop_length] at HQR
        have HPF := Lib.hid (show pLine l = (if l' = [] then .ok m else .error l'.length) from by rw [HPL8.out, HQR.out]; rfl)
        have HLEN := Lib.hid (show l'.length = s.size - a ∧ a ≤ s.size from ⟨by rw [← HDR.out, List.length_drop, Array.length_toList]; rfl, MR.out.pre.sc.2.1⟩)
        clear HPL8 HQR hlt hk
        have HRT := Lib.hid (rest_calls MR.out.pre.sc)
        rw [HDR.out] at HRT
        by_cases hne : l' = []
        · subst hne
          have HR := Lib.hid (show pLine l = .ok m from by rw [HPF.out]; rfl)
          have HON := Lib.hid (And.intro (own_one MR.out.ol.n) (And.intro (own_one MR.out.ol.q) (own_one MR.out.ol.d)))
          go_wp2_with fail
          refine HRT.out.mono ?_
          rintro e w11 ⟨rfl, hb⟩
          have MS11 := Lib.hid (MR.out.below hb)
          clear hb HRT MR HOR
          rw [show ofL ([] : List UInt8) = ⟨#[]⟩ from rfl]
          go_wp2_with (first | (refine wlw MS11.out.hm 0 (msgL m vn vq vd) rfl rfl _ _ rfl rfl _ Tryz.underlying41 rfl msg_size ?_) | (refine wstK MS11.out.pre.hz 0 (msgL m vn vq vd) _ (over_msg ..) (Nat.le_refl 36) (msg_one _ HON.out.1 HON.out.2.1 HON.out.2.2) rfl _ _ _ rfl rfl rfl msg_size ?_; intro wz hs ho; have HZF := Lib.hid hs; have HOF := Lib.hid (ho (fun i => i = p ∨ z ≤ i) (.inr (Nat.le_refl _)) w MS11.out.pre.off); have HLF := Lib.hid (MS11.out.ol.mblk MS11.out.pre.hz (ho (fun i => i = z) rfl w11 (Off.refl _ _))); clear hs ho))
          refine bodyPost_ret (results_row (l := msgL m vn vq vd) rfl Tryz.underlying41 rfl msg_size rfl HZF.out) rfl ?_
          rw [← HLL.out]
          refine ⟨HOF.out.toR (by have := HZZ.out; omega), ?_⟩
          rw [HR.out]
          have hz := HZZ.out
          exact ⟨vn, vq, vd, rfl, by rw [hz]; exact HLF.out⟩
        · have HR := Lib.hid (show pLine l = .error l'.length from by rw [HPF.out, if_neg hne])
          have hszl : (ofL l').size = l'.length := ofL_size l'
          have hpl : 0 < l'.length := List.length_pos_iff.2 hne
          generalize ofL l' = R at HRT hszl ⊢
          have hemR : R.toList.isEmpty = false := empty_f (by omega)
          have hemR2 : R.toList ≠ [] := fun h => by rw [h] at hemR; cases hemR
          clear hszl hpl hne
          go_wp2_with fail
          refine HRT.out.mono ?_
          rintro e w11 ⟨rfl, hb⟩
          have MS11 := Lib.hid (MR.out.below hb)
          have k1 : w11.cell? ⟨p, 1, none⟩ = some (.int .i64 (a : Int)) := MS11.out.pre.sc.1.cell 1
          clear hb HRT MR HOR
          go_wp2_with fail
          refine ⟨rfl, ?_⟩
          rw [← HLL.out]
          exact MesR.no HR.out (by have := HLEN.out; omega) (MS11.out.pre.off.toR (by have := HZZ.out; omega))
end Go.Proofs.YtkblmloobkiloaaGreatDoor
namespace Go.Proofs.YtkblmloobkiloaaGreatDoor
open Go.RowKit

theorem quote_low (l : List UInt8) : l.length ≤ (l.flatMap quoteC).length := by
  induction l with
  | nil => exact Nat.le_refl _
  | cons c l ih =>
    rw [List.flatMap_cons, List.length_append, List.length_cons]
    have : 1 ≤ (quoteC c).length := by
      unfold quoteC
      split
      · simp
      · split
        · simp
        · simp
    omega
theorem quoteS_low (s : ByteArray) : s.size + 2 ≤ (quoteS s).length := by
  show _ ≤ (34 :: (s.data.toList.flatMap quoteC ++ [34])).length
  have h1 := quote_low s.data.toList
  have h2 : s.data.toList.length = s.size := Array.length_toList ..
  rw [List.length_cons, List.length_append, List.length_cons, List.length_nil]
  omega
theorem join_low : ∀ l : List ByteArray, (l.map fun s => 2 + s.size).sum ≤ (joinS (l.map quoteS)).length
  | [] => Nat.zero_le _
  | x :: r => by
    have h : ∀ r : List ByteArray, (r.map fun s => 2 + s.size).sum ≤ ((r.map quoteS).flatMap fun y => 32 :: y).length := by
      intro r
      induction r with
      | nil => exact Nat.zero_le _
      | cons y r ih =>
        have := quoteS_low y
        simp only [List.map_cons, List.sum_cons, List.flatMap_cons, List.length_append, List.length_cons] at ih ⊢
        omega
    have h1 := h r
    have h2 := quoteS_low x
    show _ ≤ (quoteS x ++ (r.map quoteS).flatMap fun y => 32 :: y).length
    simp only [List.map_cons, List.sum_cons, List.length_append]
    omega
theorem hex_low : ∀ l : List UInt8, l.length ≤ (l.flatMap hexB).length
  | [] => Nat.le_refl _
  | c :: l => by
    have := hex_low l
    rw [List.flatMap_cons, List.length_append]
    show l.length + 1 ≤ 2 + _
    omega
theorem long_val (m : Mg) (f : Fld) (hg : m.good f = true) : m.long f ≤ (m.val f).length + 300 := by
  have hw : f.width ≤ 8 := by cases f <;> decide
  have hq := fun s => quoteS_low s
  cases f
  case names =>
    show 2 + (m.names.map fun s => 2 + s.size).sum ≤ (91 :: (joinS (m.names.map quoteS) ++ [93])).length + 300
    have := join_low m.names
    rw [List.length_cons, List.length_append]
    omega
  case qids =>
    have h : decide (m.qids.length ≤ 16) = true := hg
    rw [decide_eq_true_iff] at h
    show 2 + 13 * m.qids.length ≤ _
    omega
  case qid => exact Nat.le_trans (show 13 ≤ 300 by decide) (Nat.le_add_left _ _)
  case data =>
    show 4 + m.data.length ≤ (m.data.flatMap hexB).length + 300
    have := hex_low m.data
    omega
  case stat =>
    show 2 + stSize m.stat ≤ (recL m.stat).length + 300
    have h1 := hq m.stat.name
    have h2 := hq m.stat.uid
    have h3 := hq m.stat.gid
    have h4 := hq m.stat.muid
    unfold recL stSize
    simp only [List.length_append, List.length_cons, List.length_nil]
    omega
  case version => have := hq m.version; show 2 + m.version.size ≤ (quoteS m.version).length + 300; omega
  case uname => have := hq m.uname; show 2 + m.uname.size ≤ (quoteS m.uname).length + 300; omega
  case aname => have := hq m.aname; show 2 + m.aname.size ≤ (quoteS m.aname).length + 300; omega
  case ename => have := hq m.ename; show 2 + m.ename.size ≤ (quoteS m.ename).length + 300; omega
  case name => have := hq m.name; show 2 + m.name.size ≤ (quoteS m.name).length + 300; omega
  case msize => exact Nat.le_trans (show 4 ≤ 300 by decide) (Nat.le_add_left _ _)
  case afid => exact Nat.le_trans (show 4 ≤ 300 by decide) (Nat.le_add_left _ _)
  case oldtag => exact Nat.le_trans (show 2 ≤ 300 by decide) (Nat.le_add_left _ _)
  case fid => exact Nat.le_trans (show 4 ≤ 300 by decide) (Nat.le_add_left _ _)
  case newfid => exact Nat.le_trans (show 4 ≤ 300 by decide) (Nat.le_add_left _ _)
  case mode => exact Nat.le_trans (show 1 ≤ 300 by decide) (Nat.le_add_left _ _)
  case iounit => exact Nat.le_trans (show 4 ≤ 300 by decide) (Nat.le_add_left _ _)
  case perm => exact Nat.le_trans (show 4 ≤ 300 by decide) (Nat.le_add_left _ _)
  case offset => exact Nat.le_trans (show 8 ≤ 300 by decide) (Nat.le_add_left _ _)
  case count => exact Nat.le_trans (show 4 ≤ 300 by decide) (Nat.le_add_left _ _)
theorem head_long (k t : Nat) (f : Fld) : (head k t).long f ≤ 300 := by
  have h : (head k t).long f = (head 0 0).long f := by cases f <;> rfl
  rw [h]
  cases f <;> decide
theorem mem_part {f : Fld} {fs : List Fld} (m : Mg) (h : f ∈ fs) : (m.val f).length ≤ (fs.flatMap m.part).length := by
  induction fs with
  | nil => cases h
  | cons g fs ih =>
    rw [List.flatMap_cons, List.length_append]
    rcases List.mem_cons.1 h with rfl | h
    · show _ ≤ (32 :: (f.word ++ 61 :: m.val f)).length + _
      rw [List.length_cons, List.length_append, List.length_cons]
      omega
    · have := ih h
      omega
/-- What a line's message is. -/
theorem pLine_ok {l : List UInt8} {m : Mg} (h : pLine l = .ok m) : m.ok ∧ ∀ f, m.long f ≤ l.length + 300 := by
  unfold pLine at h
  dsimp only at h
  split at h
  · cases h
  rename_i k hk
  obtain ⟨hkn, -, fs, hkf⟩ := kindOf_some hk
  obtain ⟨l1, e1, hl⟩ := bind_ok h
  obtain ⟨⟨t, l2⟩, e2, hl⟩ := bind_ok hl
  obtain ⟨⟨m2, l3⟩, e3, hl⟩ := bind_ok hl
  dsimp only at e3 hl
  split at hl
  · rename_i hz
    injection hl with hl
    subst hl
    subst hz
    rw [hkf] at e3
    dsimp only [Option.getD] at e3
    obtain ⟨rfl, ht, -⟩ := pNum_ok e2
    obtain ⟨rfl, hg, hf, hok⟩ := pAll_ok fs _ _ _ _ (kindF_well hkf).2.1 e3
    have hwell := kindF_well hkf
    refine ⟨hok (head_ok (by omega) (by omega)), fun f => ?_⟩
    have hp := pWord_ok e1
    have hlen : (fs.flatMap m2.part).length ≤ l.length := by
      have h1 := congrArg List.length hp
      simp only [List.length_append, List.length_drop, List.append_nil, List.length_cons] at h1
      omega
    by_cases hm : f ∈ fs
    · have h1 := long_val m2 f (hg f hm)
      have h2 := mem_part m2 hm
      omega
    · have h1 : Alike m2 (head k t) f := by
        intro d
        have := foldl_out m2 f fs (head k t) hm d
        rwa [← hf] at this
      rw [h1.long]
      have := head_long k t f
      omega
  · cases hl
end Go.Proofs.YtkblmloobkiloaaGreatDoor
namespace Go.Proofs.YtkblmloobkiloaaGreatDoor
open Go.RowKit

/-- What a part's reading leaves is no longer than what stood there, and its wrong place lies there. -/
def PLe {β : Type} (g : β → List UInt8) (l : List UInt8) (r : Except Nat β) : Prop := (∀ x, r = .ok x → (g x).length ≤ l.length) ∧ (∀ n, r = .error n → n ≤ l.length)
theorem PLe.no {β : Type} {g : β → List UInt8} {l : List UInt8} {n : Nat} (h : n ≤ l.length) : PLe g l (.error n : Except Nat β) := ⟨fun x h => (by cases h), fun m hm => (by injection hm with hm; omega)⟩
theorem PLe.yes {β : Type} {g : β → List UInt8} {l : List UInt8} {x : β} (h : (g x).length ≤ l.length) : PLe g l (.ok x : Except Nat β) := ⟨fun y hy => (by injection hy with hy; rw [← hy]; exact h), fun m hm => (by cases hm)⟩
theorem PLe.bind {β γ : Type} {g : β → List UInt8} {g' : γ → List UInt8} {l : List UInt8} {r : Except Nat β} {f : β → Except Nat γ} (h : PLe g l r) (hf : ∀ x, PLe g' (g x) (f x)) : PLe g' l (r >>= f) := by
  cases r with
  | error n => exact PLe.no (h.2 n rfl)
  | ok x =>
    have h1 := h.1 x rfl
    exact ⟨fun y hy => Nat.le_trans ((hf x).1 y hy) h1, fun n hn => Nat.le_trans ((hf x).2 n hn) h1⟩
theorem PLe.map {β γ : Type} {g : β → List UInt8} {g' : γ → List UInt8} {l : List UInt8} {r : Except Nat β} {f : β → γ} (h : PLe g l r) (hf : ∀ x, g' (f x) = g x) : PLe g' l (r.map f) := by
  cases r with
  | error n => exact PLe.no (h.2 n rfl)
  | ok x => exact PLe.yes (by rw [hf]; exact h.1 x rfl)
theorem PLe.trans {β : Type} {g : β → List UInt8} {l l' : List UInt8} {r : Except Nat β} (h : PLe g l' r) (hl : l'.length ≤ l.length) : PLe g l r := ⟨fun y hy => Nat.le_trans (h.1 y hy) hl, fun n hn => Nat.le_trans (h.2 n hn) hl⟩
theorem le_word (w l : List UInt8) : PLe (fun r => r) l (pWord w l) := by
  unfold pWord
  split
  · exact PLe.yes (by rw [List.length_drop]; omega)
  · exact PLe.no (Nat.le_refl _)
theorem le_num (most : Nat) (l : List UInt8) : PLe (fun x : Nat × List UInt8 => x.2) l (pNum most l) := by
  unfold pNum
  dsimp only
  split
  · exact PLe.no (Nat.le_refl _)
  · exact PLe.yes (by rw [List.length_drop]; omega)
theorem le_data (l : List UInt8) : PLe (fun x : List UInt8 × List UInt8 => x.2) l (pData l) := by
  unfold pData
  dsimp only
  split
  · exact PLe.no (Nat.le_refl _)
  · exact PLe.yes (by rw [List.length_drop]; omega)
theorem le_text (l : List UInt8) : PLe (fun x : ByteArray × List UInt8 => x.2) l (pText l) := by
  refine ⟨fun x hx => ?_, fun n hn => ?_⟩
  · have h := congrArg List.length (pText_ok hx).1
    rw [List.length_append] at h
    show x.2.length ≤ _
    omega
  · unfold pText at hn
    split at hn
    · injection hn with hn; omega
    · split at hn
      · injection hn with hn; omega
      · split at hn
        · injection hn with hn; omega
        · split at hn
          · cases hn
          · injection hn with hn; omega
theorem le_qid (l : List UInt8) : PLe (fun x : Qd × List UInt8 => x.2) l (pQid l) := by
  unfold pQid
  repeat' first
    | (refine PLe.bind (le_num _ _) fun x => ?_; obtain ⟨_, _⟩ := x; dsimp only)
    | (refine PLe.bind (le_word _ _) fun x => ?_)
    | exact PLe.yes (Nat.le_refl _)
theorem le_many {α : Type} {one : List UInt8 → Except Nat (α × List UInt8)} (h : ∀ l, PLe (fun x : α × List UInt8 => x.2) l (one l)) : ∀ (n : Nat) (first : Bool) (l : List UInt8), PLe (fun x : List α × List UInt8 => x.2) l (pMany one n first l)
  | 0, first, l => by
    unfold pMany
    split
    · exact PLe.yes (by rw [List.length_drop]; omega)
    · exact PLe.no (Nat.le_refl _)
  | n + 1, first, l => by
    unfold pMany
    split
    · exact PLe.yes (by rw [List.length_drop]; omega)
    · have key : ∀ l, PLe (fun x : List α × List UInt8 => x.2) l (one l >>= fun x => pMany one n false x.2 >>= fun y => pure (x.1 :: y.1, y.2)) := fun l =>
        PLe.bind (h l) fun x => PLe.bind (le_many h n false x.2) fun y => PLe.yes (Nat.le_refl _)
      cases first with
      | true => exact key l
      | false => exact PLe.bind (le_word _ _) fun l => key l
theorem le_list {α : Type} {one : List UInt8 → Except Nat (α × List UInt8)} (h : ∀ l, PLe (fun x : α × List UInt8 => x.2) l (one l)) (l : List UInt8) : PLe (fun x : List α × List UInt8 => x.2) l (pList one l) := by
  unfold pList
  exact PLe.bind (le_word _ _) fun l => le_many h 16 true l
theorem le_rec (l : List UInt8) : PLe (fun x : Sta × List UInt8 => x.2) l (pRec l) := by
  unfold pRec
  repeat' first
    | (refine PLe.bind (le_num _ _) fun x => ?_; obtain ⟨_, _⟩ := x; dsimp only)
    | (refine PLe.bind (le_qid _) fun x => ?_; obtain ⟨_, _⟩ := x; dsimp only)
    | (refine PLe.bind (le_text _) fun x => ?_; obtain ⟨_, _⟩ := x; dsimp only)
    | (refine PLe.bind (le_word _ _) fun x => ?_)
    | exact PLe.yes (Nat.le_refl _)
theorem le_fld (m : Mg) (l : List UInt8) (f : Fld) : PLe (fun x : Mg × List UInt8 => x.2) l (pF m l f) := by
  cases f
  case names => exact (le_list le_text l).map fun _ => rfl
  case qids => exact (le_list le_qid l).map fun _ => rfl
  case qid => exact (le_qid l).map fun _ => rfl
  case data => exact (le_data l).map fun _ => rfl
  case stat => exact (le_rec l).map fun _ => rfl
  case version => exact (le_text l).map fun _ => rfl
  case uname => exact (le_text l).map fun _ => rfl
  case aname => exact (le_text l).map fun _ => rfl
  case ename => exact (le_text l).map fun _ => rfl
  case name => exact (le_text l).map fun _ => rfl
  all_goals exact (le_num _ l).map fun _ => rfl
theorem le_all : ∀ (fs : List Fld) (m : Mg) (l : List UInt8), PLe (fun x : Mg × List UInt8 => x.2) l (pAll fs m l)
  | [], m, l => PLe.yes (Nat.le_refl _)
  | f :: fs, m, l => by
    rw [pAll_cons]
    exact PLe.bind (le_word _ _) fun l => PLe.bind (le_fld m l f) fun x => le_all fs x.1 x.2
theorem pLine_le {l : List UInt8} {n : Nat} (h : pLine l = .error n) : n ≤ l.length := by
  cases hk : kindOf (l.takeWhile isLet) with
  | none =>
    rw [pLine_none hk] at h
    injection h with h
    omega
  | some k =>
    obtain ⟨-, -, fs, hf⟩ := kindOf_some hk
    rw [pLine_some hk hf] at h
    have key : PLe (fun _ : Mg => ([] : List UInt8)) (l.drop (l.takeWhile isLet).length) (pWord [32] (l.drop (l.takeWhile isLet).length) >>= fun l => pNum 65535 l >>= fun x => pAll fs (head k x.1) x.2 >>= fun y => if y.2 = [] then .ok y.1 else .error y.2.length) :=
      PLe.bind (le_word _ _) fun l => PLe.bind (le_num _ _) fun x => PLe.bind (le_all _ _ _) fun y => by
        split
        · exact PLe.yes (Nat.zero_le _)
        · exact PLe.no (Nat.le_refl _)
    have := key.2 n h
    rw [List.length_drop] at this
    omega
end Go.Proofs.YtkblmloobkiloaaGreatDoor
namespace Go.Proofs.YtkblmloobkiloaaGreatDoor
open Go.RowKit

theorem assert_wrong (n : Int) (w : World) : (Instr.typeAssert (.iface 111 (.int .i64 n)) 20 111 true).run Tryz.prog w = .ok (.tuple #[.int .i64 n, .bool true]) w := by kernel_rfl

set_option maxRecDepth 100000 in
set_option maxHeartbeats 1600000 in
theorem catchP_panicking (q q3 q4 : Nat) (d3 : q ≠ q3) (d4 : q ≠ q4) (d5 : q3 ≠ q4) (vm : Mg) (vn vq vd : Value) (x y n : Int) (older : List PanicEntry) (w : World) (h2 : MBlk w q vm vn vq vd) (h3 : Blk w (q3) 3 #[.int .i64 x]) (h4 : Blk w (q4) 42 #[.int .i64 y])
    (hov : over (msgL vm vn vq vd).toArray 0 (mgN (head 0 0)) = (mgN (head 0 0)).toArray) :
    CallsD Tryz.prog 57 #[.pointer (some ⟨q, 0, none⟩), .pointer (some ⟨q3, 0, none⟩), .pointer (some ⟨q4, 0, none⟩)] (.panicking ({ v := .iface 111 (.int .i64 n), recovered := false } :: older)) w fun e u' w' =>
      e = .returned (.tuple #[]) ∧ u' = .panicking ({ v := .iface 111 (.int .i64 n), recovered := true } :: older) ∧ MBlk w' q (head 0 0) (.slice none 0 0) (.slice none 0 0) (.slice none 0 0) ∧ Blk w' (q3) 3 #[.int .i64 n] ∧ Blk w' (q4) 42 #[.int .i64 34] ∧ Off (fun i => i = q ∨ i = q3 ∨ i = q4) w w' := by
  have H2 := Lib.hid h2
  have H3 := Lib.hid h3
  have H4 := Lib.hid h4
  have HOV := Lib.hid hov
  clear h2 h3 h4 hov
  refine callsD_of_wpS Tryz.func57 rfl fun c₀ cs hu => ?_
  apply wpS_seq
  apply wpS_region
  simp [wpOpsS, go_sem, recoverD, hu, Tryz.ntmps57, Exit.thenS]
  have key : ∀ V p1 p2 p3 : Value, #[p1, p2, p3] ++ ((Array.replicate 11 undef).setIfInBounds 3 V) = #[p1, p2, p3, undef, undef, undef, V, undef, undef, undef, undef, undef, undef, undef] := fun _ _ _ _ => rfl
  rw [key]
  clear key
  have hta := assert_wrong n
  refine wpS_of_wp ?_
  go_wp2_with (refine wstK H2.out 0 (mgN (head 0 0)) _ HOV.out (Nat.le_refl 36) (msg_one _ rfl rfl rfl) rfl _ _ _ rfl rfl rfl msg_size ?_; intro w1 hs ho; have HM := Lib.hid hs; have HO := Lib.hid (ho (fun i => i = q) rfl w (Off.refl _ _)); clear hs ho; have k3 : w1.cell? ⟨q3, 0, none⟩ = some (.int .i64 x) := Blk.cell (HO.out.blk H3.out (fun h => d3 h.symm)) 0; have f3 : w1.frozen? ⟨q3, 0, none⟩ = false := Blk.frozen (HO.out.blk H3.out (fun h => d3 h.symm)) 0; have k4 : w1.cell? ⟨q4, 0, none⟩ = some (.int .i64 y) := Blk.cell (HO.out.blk H4.out (fun h => d4 h.symm)) 0; have f4 : w1.frozen? ⟨q4, 0, none⟩ = false := Blk.frozen (HO.out.blk H4.out (fun h => d4 h.symm)) 0)
  have B3 := HO.out.blk H3.out (fun h => d3 h.symm)
  have B4 := HO.out.blk H4.out (fun h => d4 h.symm)
  have HF := Lib.hid (show MBlk ((w1.setCell ⟨q3, 0, none⟩ (.int .i64 n)).setCell ⟨q4, 0, none⟩ (.int .i64 34)) q (head 0 0) (.slice none 0 0) (.slice none 0 0) (.slice none 0 0) ∧ Blk ((w1.setCell ⟨q3, 0, none⟩ (.int .i64 n)).setCell ⟨q4, 0, none⟩ (.int .i64 34)) (q3) 3 #[.int .i64 n] ∧ Blk ((w1.setCell ⟨q3, 0, none⟩ (.int .i64 n)).setCell ⟨q4, 0, none⟩ (.int .i64 34)) (q4) 42 #[.int .i64 34] ∧ Off (fun i => i = q ∨ i = q3 ∨ i = q4) w ((w1.setCell ⟨q3, 0, none⟩ (.int .i64 n)).setCell ⟨q4, 0, none⟩ (.int .i64 34)) from
    ⟨Blk.far (Blk.far HM.out d3 _) d4 _, Blk.far (Blk.set_ B3 0 _) d5 _, Blk.set_ (Blk.far B4 (fun h => d5 h.symm) _) 0 _, ((HO.out.mono (fun i _ hi => .inl hi)).setCell (.inr (.inl rfl)) _).setCell (.inr (.inr rfl)) _⟩)
  generalize (w1.setCell ⟨q3, 0, none⟩ (.int .i64 n)).setCell ⟨q4, 0, none⟩ (.int .i64 34) = wz at HF ⊢
  clear k3 f3 k4 f4 hta B3 B4 HM HO H2 H3 H4 HOV
  cases c₀
  simp_all [bodyPostS, results, Tryz.results57]
  exact HF.out

set_option maxRecDepth 100000 in
theorem catchP_idle (p1 p2 p3 : Addr) (w : World) :
    CallsD Tryz.prog 57 #[.pointer (some p1), .pointer (some p2), .pointer (some p3)] .returning w fun e u' w' => e = .returned (.tuple #[]) ∧ u' = .returning ∧ w' = w := by
  refine callsD_of_wpS Tryz.func57 rfl fun c₀ cs hu => ?_
  apply wpS_seq
  apply wpS_region
  simp [wpOpsS, go_sem, recoverD, hu, Tryz.ntmps57, Exit.thenS]
  have key : ∀ V p1 p2 p3 : Value, #[p1, p2, p3] ++ ((Array.replicate 11 undef).setIfInBounds 3 V) = #[p1, p2, p3, undef, undef, undef, V, undef, undef, undef, undef, undef, undef, undef] := fun _ _ _ _ => rfl
  rw [key]
  clear key
  refine wpS_of_wp ?_
  go_wp2
  cases c₀
  simp_all [bodyPostS, results, Tryz.results57]

theorem OL.lists {w : World} {base : Nat} {m : Mg} {vn vq vd : Value} (h : OL w base m vn vq vd) : Lists w w.heap.size m vn vq vd := ⟨Nams.of_own h.n, Qids.of_own h.q, Bys.of_own h.d⟩
theorem OL.down {w : World} {base base' : Nat} {m : Mg} {vn vq vd : Value} (h : OL w base m vn vq vd) (hb : base' ≤ base) : OL w base' m vn vq vd := ⟨own_down h.n hb, own_down h.q hb, own_down h.d hb⟩
theorem enc_refused2 (m : Mg) : (enc m).2 = (refused m).1 := by
  unfold enc
  split
  · rename_i h
    unfold refused
    rw [h]
  · split
    · rename_i h; exact h.symm
    · rfl
theorem over_self (m : Mg) (vn vq vd : Value) : over (msgL m vn vq vd).toArray 0 (msgL m vn vq vd) = (msgL m vn vq vd).toArray := by kernel_rfl
theorem over_zero (m : Mg) (vn vq vd : Value) : over (msgL m vn vq vd).toArray 0 (mgN (head 0 0)) = (mgN (head 0 0)).toArray := by kernel_rfl
theorem own_tys {w : World} {z z1 z2 : Nat} {cm ci ce : Array Value} (hm : Blk w z 41 cm) (hi : Blk w z1 3 ci) (he : Blk w z2 42 ce) {i : Nat} {cur : Array Value} {fr : Nat × Nat} {e : TypeId} (hs : i = z ∨ i = z1 ∨ i = z2) (ht : e = 9 ∨ e = 37 ∨ e = 5) (hh : w.heap[i]? = some (Obj.cells cur e fr)) : False := by
  rcases hs with rfl | rfl | rfl
  · exact Blk.noT hm (by rcases ht with rfl | rfl | rfl <;> decide) _ _ _ rfl hh
  · exact Blk.noT hi (by rcases ht with rfl | rfl | rfl <;> decide) _ _ _ rfl hh
  · exact Blk.noT he (by rcases ht with rfl | rfl | rfl <;> decide) _ _ _ rfl hh
/-- What Parse gives. -/
def ParR (r : Mg × Nat × Nat) (w : World) (e : Ending) (w' : World) : Prop :=
  (∃ vn vq vd, e = .returned (.tuple #[msgV r.1 vn vq vd, .int .i64 (r.2.1 : Int), .int .i64 (r.2.2 : Int)]) ∧ OL w' w.heap.size r.1 vn vq vd) ∧ Below w.heap.size w w'
theorem results_msg3 {tmps : Array Value} {w : World} {q q3 q4 : Nat} {m : Mg} {vn vq vd : Value} {n er : Int} (h2 : tmps.getD 2 undef = .pointer (some ⟨q, 0, none⟩)) (h3 : tmps.getD 3 undef = .pointer (some ⟨q3, 0, none⟩)) (h4 : tmps.getD 4 undef = .pointer (some ⟨q4, 0, none⟩)) (hk : MBlk w q m vn vq vd) (k3 : Blk w q3 3 #[.int .i64 n]) (k4 : Blk w q4 42 #[.int .i64 er]) :
    (results Tryz.f20 tmps).run Tryz.prog w = .ok (.tuple #[msgV m vn vq vd, .int .i64 n, .int .i64 er]) w := by
  have h2' : tmps[2]?.getD undef = .pointer (some ⟨q, 0, none⟩) := by simpa using h2
  have h3' : tmps[3]?.getD undef = .pointer (some ⟨q3, 0, none⟩) := by simpa using h3
  have h4' : tmps[4]?.getD undef = .pointer (some ⟨q4, 0, none⟩) := by simpa using h4
  have hl7 : (loadVar 41 ⟨q, 0, none⟩).run Tryz.prog w = .ok (msgV m vn vq vd) w :=
    run_loadVar_mid w q 0 41 (msgL m vn vq vd) _ (Blk.range hk 0 _ (by simp)) Tryz.underlying41 rfl msg_size
  have c3 : w.cell? ⟨q3, 0, none⟩ = some (.int .i64 n) := k3.cell 0
  have c4 : w.cell? ⟨q4, 0, none⟩ = some (.int .i64 er) := k4.cell 0
  have l3 : (loadVar 3 ⟨q3, 0, none⟩).run Tryz.prog w = .ok (.int .i64 n) w := by go_simp
  have l4 : (loadVar 42 ⟨q4, 0, none⟩).run Tryz.prog w = .ok (.int .i64 er) w := by go_simp
  simp [results, Tryz.results20, h2', h3', h4', asAddr, hl7, l3, l4]
/-- How it goes on behind the message, in the world behind its scanner. -/
structure PaSt (w0 w : World) (z z1 z2 z3 : Nat) (s : ByteArray) : Prop where
  up : Below z w0 w
  sz : w0.heap.size = z
  e1 : z1 = z + 1
  e2 : z2 = z + 2
  e3 : z3 = z + 3
  m : MBlk w z (head 0 0) (.slice none 0 0) (.slice none 0 0) (.slice none 0 0)
  i : Blk w z1 3 #[.int .i64 0]
  e : Blk w z2 42 #[.int .i64 0]
  s : ScS w z3 s 0
  h8 : 8 ≤ z
  se : SE w
  rd : Ready w
  ws : w.heap.size = z + 4
theorem PaSt.start (s : ByteArray) (w : World) (hse : SE w) (hrd : Ready w) (hz : s.size ≤ 16000000) :
    PaSt w ((((w.alloc (.cells (mgN (head 0 0)).toArray 41)).alloc (.cells #[.int .i64 0] 3)).alloc (.cells #[.int .i64 0] 42)).alloc (.cells #[.string s, .int .i64 0] 114)) w.heap.size (w.heap.size + 1) (w.heap.size + 1 + 1) (w.heap.size + 1 + 1 + 1) s := by
  obtain ⟨w1, hw1⟩ : ∃ w1, w1 = w.alloc (.cells (mgN (head 0 0)).toArray 41) := ⟨_, rfl⟩
  obtain ⟨w2, hw2⟩ : ∃ w2, w2 = w1.alloc (.cells #[.int .i64 0] 3) := ⟨_, rfl⟩
  obtain ⟨w3, hw3⟩ : ∃ w3, w3 = w2.alloc (.cells #[.int .i64 0] 42) := ⟨_, rfl⟩
  obtain ⟨w4, hw4⟩ : ∃ w4, w4 = w3.alloc (.cells #[.string s, .int .i64 0] 114) := ⟨_, rfl⟩
  have z1 : w1.heap.size = w.heap.size + 1 := by rw [hw1]; exact World.size_alloc _ _
  have z2 : w2.heap.size = w.heap.size + 1 + 1 := by rw [hw2, World.size_alloc, z1]
  have z3 : w3.heap.size = w.heap.size + 1 + 1 + 1 := by rw [hw3, World.size_alloc, z2]
  rw [← hw1, ← hw2, ← hw3, ← hw4]
  have hup : Below w.heap.size w w4 := by
    rw [hw4, hw3, hw2, hw1]
    exact ((((Below.refl _ _).alloc (Nat.le_refl _) _).alloc (by rw [← hw1]; omega) _).alloc (by rw [← hw1, ← hw2]; omega) _).alloc (by rw [← hw1, ← hw2, ← hw3]; omega) _
  refine ⟨hup, rfl, rfl, rfl, rfl, ?_, ?_, ?_, ⟨?_, Nat.zero_le _, by omega⟩, hrd.eight, hse.low hup hrd.eight, hrd.below hup (Nat.le_refl _), by rw [hw4, World.size_alloc, z3]⟩
  · rw [hw4, hw3, hw2, hw1]; exact (((Blk.new w _ _).alloc _).alloc _).alloc _
  · rw [hw4, hw3, hw2, ← z1]; exact ((Blk.new w1 _ _).alloc _).alloc _
  · rw [hw4, hw3, ← z2]; exact (Blk.new w2 _ _).alloc _
  · rw [hw4, ← z3]; exact Blk.new w3 _ _
set_option maxRecDepth 100000 in
set_option maxHeartbeats 6400000 in
theorem parse_calls (s : ByteArray) (w : World) (hse : SE w) (hrd : Ready w) (hz : s.size ≤ 16000000) : Calls Tryz.prog 20 #[.string s] w (ParR (parseM s.data.toList) w) := by
  have hmf : ∀ (fn : Fn) (first cap : Array Value) (w : World), (Instr.makeFunc fn first cap).run Tryz.prog w = .ok (.func fn first cap) w := fun _ _ _ _ => rfl
  have P0 := Lib.hid (PaSt.start s w hse hrd hz)
  have HZ := Lib.hid hz
  clear hse hrd hz
  go_enter_defers Tryz.func20, Tryz.ntmps20
  go_upto_region 3 with (fail)
  change Code.wp _ _ _ _ ((((w.alloc (.cells (mgN (head 0 0)).toArray 41)).alloc (.cells #[.int .i64 0] 3)).alloc (.cells #[.int .i64 0] 42)).alloc (.cells #[.string s, .int .i64 0] 114))
  generalize (((w.alloc (.cells (mgN (head 0 0)).toArray 41)).alloc (.cells #[.int .i64 0] 3)).alloc (.cells #[.int .i64 0] 42)).alloc (.cells #[.string s, .int .i64 0] 114) = w4 at P0 ⊢
  generalize w.heap.size + 1 + 1 + 1 = z3 at P0 ⊢
  generalize w.heap.size + 1 + 1 = z2 at P0 ⊢
  generalize w.heap.size + 1 = z1 at P0 ⊢
  generalize hz : w.heap.size = z at P0 ⊢
  clear hz hmf
  have h8 := P0.out.h8
  have he3 := P0.out.e3
  have HMS := Lib.hid (message_calls P0.out.se P0.out.rd (show 8 ≤ z3 by omega) P0.out.s)
  clear h8 he3
  go_wp2_with fail
  refine HMS.out.mono ?_
  rintro e w5 ⟨ho, hr⟩
  have HO5 := Lib.hid ho
  clear ho HMS
  cases hp : pLine s.data.toList with
  | error ne =>
    rw [hp] at hr
    have hr : e = .panicked [{ v := .iface 111 (.int .i64 ((s.size : Int) - (ne : Int))), recovered := false }] := hr
    subst hr
    have HR := Lib.hid (show parseM s.data.toList = (head 0 0, s.data.toList.length - ne, 34) from by unfold parseM; rw [hp])
    have hne := pLine_le hp
    have HNE := Lib.hid hne
    clear hp hne
    have HM5 := Lib.hid (HO5.out.blk P0.out.m (fun h => by have h : z = z3 := h; have := P0.out.e3; omega))
    have HI5 := Lib.hid (HO5.out.blk P0.out.i (fun h => by have h : z1 = z3 := h; have := P0.out.e3; have := P0.out.e1; omega))
    have HE5 := Lib.hid (HO5.out.blk P0.out.e (fun h => by have h : z2 = z3 := h; have := P0.out.e3; have := P0.out.e2; omega))
    have HD := Lib.hid (show z ≠ z1 ∧ z ≠ z2 ∧ z1 ≠ z2 from by have := P0.out.e1; have := P0.out.e2; omega)
    show bodyPostD _ _ _ _ _ _
    refine leaves_cons (f := 57) (args := #[.pointer (some ⟨z, 0, none⟩), .pointer (some ⟨z1, 0, none⟩), .pointer (some ⟨z2, 0, none⟩)]) (by simp) (by simp [go_sem]) ?_
    refine (catchP_panicking z z1 z2 HD.out.1 HD.out.2.1 HD.out.2.2 (head 0 0) _ _ _ 0 0 _ _ w5 HM5.out HI5.out HE5.out (over_msg _ 0 0 _ _ _)).mono ?_
    rintro e u' w6 ⟨rfl, rfl, hm, hi, he, ho⟩
    refine ⟨_, results_msg3 (q := z) (q3 := z1) (q4 := z2) rfl rfl rfl hm hi he, ?_⟩
    rw [HR.out]
    have hw := P0.out.ws
    have hsz := P0.out.sz
    have hlen : s.data.toList.length = s.size := by rw [Array.length_toList]; rfl
    refine ⟨⟨_, _, _, ?_, OL.nil_ ..⟩, ?_⟩
    · have hne := HNE.out
      rw [hlen] at hne
      have hq : (s.size : Int) - (ne : Int) = ((s.data.toList.length - ne : Nat) : Int) := by rw [hlen]; omega
      rw [hq]
      rfl
    · have hb5 : Below z w4 w5 := HO5.out.below (fun k hk => by have hk : k = z3 := hk; have := P0.out.e3; omega) (by omega)
      have hb6 : Below z w5 w6 := ho.below (fun k hk => by have := P0.out.e1; have := P0.out.e2; omega) (by have := hb5.size; omega)
      rw [hsz]
      exact (P0.out.up.trans hb5).trans hb6
  | ok m =>
    rw [hp] at hr
    obtain ⟨vn, vq, vd, rfl, hol⟩ := hr
    have HPL := Lib.hid (pLine_ok hp)
    have HQ := Lib.hid (show parseM s.data.toList = (if (refused m).1 = 0 then (m, 0, 0) else (head 0 0, s.data.toList.length, (refused m).1)) from by unfold parseM; rw [hp])
    have HM5 := Lib.hid (HO5.out.blk P0.out.m (fun h => by have h : z = z3 := h; have := P0.out.e3; omega))
    have HI5 := Lib.hid (HO5.out.blk P0.out.i (fun h => by have h : z1 = z3 := h; have := P0.out.e3; have := P0.out.e1; omega))
    have HE5 := Lib.hid (HO5.out.blk P0.out.e (fun h => by have h : z2 = z3 := h; have := P0.out.e3; have := P0.out.e2; omega))
    have HOL := Lib.hid hol
    have hb5 : Below z w4 w5 := HO5.out.below (fun k hk => by have hk : k = z3 := hk; have := P0.out.e3; omega) (by have := P0.out.ws; omega)
    have HB5 := Lib.hid (P0.out.up.trans hb5)
    have HR5 := Lib.hid (P0.out.rd.low hb5 P0.out.h8)
    clear hp hol hb5
    go_upto_region 4 with (refine wstK HM5.out 0 (msgL m vn vq vd) _ (over_msg ..) (Nat.le_refl 36) (msg_one _ (own_one HOL.out.n) (own_one HOL.out.q) (own_one HOL.out.d)) rfl _ _ _ rfl rfl rfl msg_size ?_; intro w6 hs ho; have HM6 := Lib.hid (show MBlk w6 z m vn vq vd from hs); have HO6 := Lib.hid (ho (fun i => i = z) rfl w5 (Off.refl _ _)); clear hs ho)
    have HB6 := Lib.hid (show Below z w w6 from HB5.out.trans (HO6.out.below (fun k hk => by have hk : k = z := hk; omega) (by have := HB5.out.size; have := P0.out.sz; omega)))
    have HI6 := Lib.hid (HO6.out.blk HI5.out (fun h => by have h : z1 = z := h; have := P0.out.e1; omega))
    have HE6 := Lib.hid (HO6.out.blk HE5.out (fun h => by have h : z2 = z := h; have := P0.out.e2; omega))
    have HOL6 := Lib.hid (HOL.out.mblk HM5.out HO6.out)
    have HR6 := Lib.hid (HR5.out.low (HO6.out.below (B := z) (fun k hk => by have hk : k = z := hk; omega) (by have := HB5.out.size; have := P0.out.sz; omega)) P0.out.h8)
    have HSM := Lib.hid (show m.small from fun f => by have h1 := HPL.out.2 f; have h2 := HZ.out; have h3 : s.data.toList.length = s.size := by rw [Array.length_toList]; rfl
                                                       omega)
    have HEN := Lib.hid (encode_calls m vn vq vd w6 HPL.out.1 HOL6.out.lists HR6.out HSM.out)
    clear HM5 HO6 HOL HI5 HE5 HR5 HB5
    go_wp2_with (refine wlw HM6.out 0 (msgL m vn vq vd) rfl rfl _ _ rfl rfl _ Tryz.underlying41 rfl msg_size ?_)
    refine HEN.out.mono ?_
    rintro e w7 ⟨⟨v, rfl, -⟩, hb⟩
    have HM7 := Lib.hid (Blk.below HM6.out hb (Blk.lt HM6.out))
    have HI7 := Lib.hid (Blk.below HI6.out hb (Blk.lt HI6.out))
    have HE7 := Lib.hid (Blk.below HE6.out hb (Blk.lt HE6.out))
    have HOL7 := Lib.hid (HOL6.out.below hb)
    have HB7 := Lib.hid (HB6.out.trans (hb.mono (by have := Blk.lt HM6.out; omega)))
    clear hb HM6 HI6 HE6 HOL6 HB6 HR6 HEN
    rw [enc_refused2 m]
    have d12 : z1 ≠ z2 := by have := P0.out.e1; have := P0.out.e2; omega
    have d21 : z2 ≠ z1 := fun h => d12 h.symm
    by_cases hz : (refused m).1 = 0
    · rw [hz]
      have HRES := Lib.hid (show parseM s.data.toList = (m, 0, 0) from by rw [HQ.out, if_pos hz])
      clear hz
      have k3 : w7.cell? ⟨z1, 0, none⟩ = some (.int .i64 0) := Blk.cell HI7.out 0
      have f3 : w7.frozen? ⟨z1, 0, none⟩ = false := Blk.frozen HI7.out 0
      have k4 : w7.cell? ⟨z2, 0, none⟩ = some (.int .i64 0) := Blk.cell HE7.out 0
      have f4 : w7.frozen? ⟨z2, 0, none⟩ = false := Blk.frozen HE7.out 0
      go_wp2_with (first | (refine wlw HM7.out 0 (msgL m vn vq vd) rfl rfl _ _ rfl rfl _ Tryz.underlying41 rfl msg_size ?_) | (refine wstK HM7.out 0 (msgL m vn vq vd) _ (over_self ..) (Nat.le_refl 36) (msg_one _ (own_one HOL7.out.n) (own_one HOL7.out.q) (own_one HOL7.out.d)) rfl _ _ _ rfl rfl rfl msg_size ?_; intro w8 hs ho; have HM8 := Lib.hid (show MBlk w8 z m vn vq vd from hs); have HO8 := Lib.hid (ho (fun i => i = z) rfl w7 (Off.refl _ _)); clear k3 f3 k4 f4 hs ho; have HI8 := Lib.hid (HO8.out.blk HI7.out (fun h => by have h : z1 = z := h; have := P0.out.e1; omega)); have HE8 := Lib.hid (HO8.out.blk HE7.out (fun h => by have h : z2 = z := h; have := P0.out.e2; omega)); have k3 : w8.cell? ⟨z1, 0, none⟩ = some (.int .i64 0) := Blk.cell HI8.out 0; have f3 : w8.frozen? ⟨z1, 0, none⟩ = false := Blk.frozen HI8.out 0; have k4 : w8.cell? ⟨z2, 0, none⟩ = some (.int .i64 0) := Blk.cell HE8.out 0; have f4 : w8.frozen? ⟨z2, 0, none⟩ = false := Blk.frozen HE8.out 0))
      have HW := Lib.hid (show MBlk ((w8.setCell ⟨z1, 0, none⟩ (.int .i64 0)).setCell ⟨z2, 0, none⟩ (.int .i64 0)) z m vn vq vd ∧ Blk ((w8.setCell ⟨z1, 0, none⟩ (.int .i64 0)).setCell ⟨z2, 0, none⟩ (.int .i64 0)) z1 3 #[.int .i64 0] ∧ Blk ((w8.setCell ⟨z1, 0, none⟩ (.int .i64 0)).setCell ⟨z2, 0, none⟩ (.int .i64 0)) z2 42 #[.int .i64 0] ∧ Off (fun i => i = z ∨ i = z1 ∨ i = z2) w7 ((w8.setCell ⟨z1, 0, none⟩ (.int .i64 0)).setCell ⟨z2, 0, none⟩ (.int .i64 0)) from
        ⟨Blk.far (Blk.far HM8.out (by have := P0.out.e1; dsimp only; omega) _) (by have := P0.out.e2; dsimp only; omega) _, Blk.far (Blk.set_ HI8.out 0 _) d12 _, Blk.set_ (Blk.far HE8.out d21 _) 0 _, ((HO8.out.mono (fun i _ hi => .inl hi)).setCell (.inr (.inl rfl)) _).setCell (.inr (.inr rfl)) _⟩)
      generalize (w8.setCell ⟨z1, 0, none⟩ (.int .i64 0)).setCell ⟨z2, 0, none⟩ (.int .i64 0) = w9 at HW ⊢
      clear k3 f3 k4 f4 HM8 HI8 HE8 HO8
      show bodyPostD _ _ _ _ _ _
      refine leaves_cons (f := 57) (args := #[.pointer (some ⟨z, 0, none⟩), .pointer (some ⟨z1, 0, none⟩), .pointer (some ⟨z2, 0, none⟩)]) (by simp) (by simp [go_sem]) ?_
      refine (catchP_idle _ _ _ _).mono ?_
      rintro e u' w'' ⟨rfl, rfl, rfl⟩
      refine ⟨_, results_msg3 (q := z) (q3 := z1) (q4 := z2) rfl rfl rfl HW.out.1 HW.out.2.1 HW.out.2.2.1, ?_⟩
      rw [HRES.out]
      have hb8 : Below z w7 w'' := HW.out.2.2.2.below (fun k hk => by have := P0.out.e1; have := P0.out.e2; omega) (by have := Blk.lt HM7.out; omega)
      have hsz := P0.out.sz
      refine ⟨⟨_, _, _, rfl, ((HOL7.out.off HW.out.2.2.2 (fun i cur fr e hi he hh => own_tys HM7.out HI7.out HE7.out hi he hh)).down (by have := P0.out.ws; omega))⟩, by rw [hsz]; exact HB7.out.trans hb8⟩
    · have HRES := Lib.hid (show parseM s.data.toList = (head 0 0, s.data.toList.length, (refused m).1) from by rw [HQ.out, if_neg hz])
      have HLEN := Lib.hid (show (s.data.toList.length : Int) = (s.size : Int) from by rw [Array.length_toList]; rfl)
      have hbe : (((refused m).1 : Int) != 0) = true := by rw [bne_iff_ne, ne_eq]; omega
      generalize her : ((refused m).1 : Int) = er at hbe ⊢
      have HER := Lib.hid her
      clear her hz
      have k3 : w7.cell? ⟨z1, 0, none⟩ = some (.int .i64 0) := Blk.cell HI7.out 0
      have f3 : w7.frozen? ⟨z1, 0, none⟩ = false := Blk.frozen HI7.out 0
      have k4 : w7.cell? ⟨z2, 0, none⟩ = some (.int .i64 0) := Blk.cell HE7.out 0
      have f4 : w7.frozen? ⟨z2, 0, none⟩ = false := Blk.frozen HE7.out 0
      go_wp2_with (refine wstK HM7.out 0 (mgN (head 0 0)) _ (over_zero ..) (Nat.le_refl 36) (msg_one _ rfl rfl rfl) rfl _ _ _ rfl rfl rfl msg_size ?_; intro w8 hs ho; have HM8 := Lib.hid (show MBlk w8 z (head 0 0) (.slice none 0 0) (.slice none 0 0) (.slice none 0 0) from hs); have HO8 := Lib.hid (ho (fun i => i = z) rfl w7 (Off.refl _ _)); clear k3 f3 k4 f4 hs ho; have HI8 := Lib.hid (HO8.out.blk HI7.out (fun h => by have h : z1 = z := h; have := P0.out.e1; omega)); have HE8 := Lib.hid (HO8.out.blk HE7.out (fun h => by have h : z2 = z := h; have := P0.out.e2; omega)); have k3 : w8.cell? ⟨z1, 0, none⟩ = some (.int .i64 0) := Blk.cell HI8.out 0; have f3 : w8.frozen? ⟨z1, 0, none⟩ = false := Blk.frozen HI8.out 0; have k4 : w8.cell? ⟨z2, 0, none⟩ = some (.int .i64 0) := Blk.cell HE8.out 0; have f4 : w8.frozen? ⟨z2, 0, none⟩ = false := Blk.frozen HE8.out 0)
      have HW := Lib.hid (show MBlk ((w8.setCell ⟨z1, 0, none⟩ (.int .i64 (s.size : Int))).setCell ⟨z2, 0, none⟩ (.int .i64 er)) z (head 0 0) (.slice none 0 0) (.slice none 0 0) (.slice none 0 0) ∧ Blk ((w8.setCell ⟨z1, 0, none⟩ (.int .i64 (s.size : Int))).setCell ⟨z2, 0, none⟩ (.int .i64 er)) z1 3 #[.int .i64 (s.size : Int)] ∧ Blk ((w8.setCell ⟨z1, 0, none⟩ (.int .i64 (s.size : Int))).setCell ⟨z2, 0, none⟩ (.int .i64 er)) z2 42 #[.int .i64 er] ∧ Off (fun i => i = z ∨ i = z1 ∨ i = z2) w7 ((w8.setCell ⟨z1, 0, none⟩ (.int .i64 (s.size : Int))).setCell ⟨z2, 0, none⟩ (.int .i64 er)) from
        ⟨Blk.far (Blk.far HM8.out (by have := P0.out.e1; dsimp only; omega) _) (by have := P0.out.e2; dsimp only; omega) _, Blk.far (Blk.set_ HI8.out 0 _) d12 _, Blk.set_ (Blk.far HE8.out d21 _) 0 _, ((HO8.out.mono (fun i _ hi => .inl hi)).setCell (.inr (.inl rfl)) _).setCell (.inr (.inr rfl)) _⟩)
      generalize (w8.setCell ⟨z1, 0, none⟩ (.int .i64 (s.size : Int))).setCell ⟨z2, 0, none⟩ (.int .i64 er) = w9 at HW ⊢
      clear k3 f3 k4 f4 HM8 HI8 HE8 HO8
      show bodyPostD _ _ _ _ _ _
      refine leaves_cons (f := 57) (args := #[.pointer (some ⟨z, 0, none⟩), .pointer (some ⟨z1, 0, none⟩), .pointer (some ⟨z2, 0, none⟩)]) (by simp) (by simp [go_sem]) ?_
      refine (catchP_idle _ _ _ _).mono ?_
      rintro e u' w'' ⟨rfl, rfl, rfl⟩
      refine ⟨_, results_msg3 (q := z) (q3 := z1) (q4 := z2) rfl rfl rfl HW.out.1 HW.out.2.1 HW.out.2.2.1, ?_⟩
      rw [HRES.out]
      have hb8 : Below z w7 w'' := HW.out.2.2.2.below (fun k hk => by have := P0.out.e1; have := P0.out.e2; omega) (by have := Blk.lt HM7.out; omega)
      have hsz := P0.out.sz
      refine ⟨⟨_, _, _, ?_, OL.nil_ ..⟩, by rw [hsz]; exact HB7.out.trans hb8⟩
      show Ending.returned (.tuple #[_, .int .i64 (s.size : Int), .int .i64 er]) = Ending.returned (.tuple #[_, .int .i64 (s.data.toList.length : Int), .int .i64 ((refused m).1 : Int)])
      rw [HLEN.out, HER.out]
end Go.Proofs.YtkblmloobkiloaaGreatDoor
