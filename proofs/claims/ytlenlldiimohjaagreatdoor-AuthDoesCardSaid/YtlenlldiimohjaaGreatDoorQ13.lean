/-
  ADo8: what AuthDoes needs of them.
-/
import Derived.Test.YtlenlldiimohjaaGreatDoorQ12
import Derived.Test.YtlenlldiimohjaaGreatDoorQ10
namespace Go.Proofs.YtlenlldiimohjaaGreatDoor
open Go.RowKit

theorem results_rread {tmps : Array Value} {w : World} {q : Nat} {t : Tk} {hv v : Value} {e : Int} (h6 : tmps.getD 6 undef = .pointer (some ⟨q, 0, none⟩)) (h7 : tmps.getD 7 undef = v) (h8 : tmps.getD 8 undef = .int .i64 e) (hk : TBlk w q t hv) :
    (results Tryz.f88 tmps).run Tryz.prog w = .ok (.tuple #[talkV t hv, v, .int .i64 e]) w := by
  have h6' : tmps[6]?.getD undef = .pointer (some ⟨q, 0, none⟩) := by simpa using h6
  have h7' : tmps[7]?.getD undef = v := by simpa using h7
  have h8' : tmps[8]?.getD undef = .int .i64 e := by simpa using h8
  simp [results, Tryz.results88, h6', h7', h8', asAddr, loadVar_talk hk]
/-- The doc's and the program's place behind what is told. -/
theorem to_doc {said count : Int} {n f k m : Nat} (hs : said = (f : Int)) (hn : n = f + k) (hm : (m : Int) = (if (if count < (k : Int) then count else (k : Int)) < 0 then 0 else (if count < (k : Int) then count else (k : Int)))) : toN said count n = f + m ∧ fromN said n = f := by
  unfold toN fromN
  subst hs
  split at hm
  · split at hm <;> omega
  · split at hm <;> omega
theorem below_next {B : Nat} {a b c : World} (h : Below B a b) (hs : B ≤ a.heap.size) (k : Below b.heap.size b c) : Below B a c := h.trans (k.mono (Nat.le_trans hs h.size))
set_option maxRecDepth 100000 in
set_option maxHeartbeats 12800000 in
theorem refRead_calls (g : Nat) (L : List Acct) (t : Tk) (hv : Value) (l : List UInt8) (count : Int) (w : World) (hp : RTab w g L) (h : Bys w w.heap.size hv l) (ok : TalkOk t l) (hk : (keyOfUser L t.user).size ≤ 32) (hcn : -9223372036854775808 ≤ count ∧ count ≤ 9223372036854775807) :
    Calls Tryz.prog 88 #[.pointer (some ⟨g, 0, none⟩), talkV t hv, .int .i64 count] w fun e w' => (∃ hu bv, e = .returned (.tuple #[talkV (readS L t l count).t hu, bv, .int .i64 (readS L t l count).e]) ∧ OwnB w' w.heap.size hu (readS L t l count).h ∧ OwnB w' w.heap.size bv (readS L t l count).out) ∧ Below w.heap.size w w' := by
  obtain ⟨hu, ht, ho, hl, hst⟩ := ok
  have HP0 := Lib.hid hp
  have HH := Lib.hid h
  obtain ⟨A, cap, rfl, -⟩ := h
  have HKZ := Lib.hid (show (keyOfUser L t.user).size ≤ maxLen from by unfold maxLen; omega)
  have HU := Lib.hid (show t.user.size ≤ maxLen from by unfold maxLen; omega)
  have HTR := Lib.hid (show t.tree.size ≤ maxLen from by unfold maxLen; omega)
  have HOU := Lib.hid ho
  have HLL := Lib.hid hl
  have HST := Lib.hid hst
  clear hp hk hu ht ho hl hst
  have HB := Lib.hid (show Below w.heap.size w (((w.alloc (Obj.cells #[.string t.user, .string t.tree, .int .u64 t.ours, .int .u64 t.theirs, .int .u8 t.step, .int .i64 t.said, .slice A l.length cap] 54)).alloc (Obj.cells #[.string ⟨#[]⟩, .string ⟨#[]⟩, .int .u64 0, .int .u64 0, .int .u8 0, .int .i64 0, .slice none 0 0] 54)).alloc (Obj.cells #[.string ⟨#[]⟩, .string ⟨#[]⟩, .int .u64 0, .int .u64 0, .int .u8 0, .int .i64 0, .slice none 0 0] 54)) from (((Below.refl _ _).alloc (Nat.le_refl _) _).alloc (by simp) _).alloc (by simp; omega) _)
  have HT := Lib.hid (show TBlk (((w.alloc (Obj.cells #[.string t.user, .string t.tree, .int .u64 t.ours, .int .u64 t.theirs, .int .u8 t.step, .int .i64 t.said, .slice A l.length cap] 54)).alloc (Obj.cells #[.string ⟨#[]⟩, .string ⟨#[]⟩, .int .u64 0, .int .u64 0, .int .u8 0, .int .i64 0, .slice none 0 0] 54)).alloc (Obj.cells #[.string ⟨#[]⟩, .string ⟨#[]⟩, .int .u64 0, .int .u64 0, .int .u8 0, .int .i64 0, .slice none 0 0] 54)) w.heap.size t (.slice A l.length cap) from Blk.alloc (Blk.alloc (Blk.new w _ (talkL t (.slice A l.length cap)).toArray) _) _)
  have HZ := Lib.hid (show TBlk (((w.alloc (Obj.cells #[.string t.user, .string t.tree, .int .u64 t.ours, .int .u64 t.theirs, .int .u8 t.step, .int .i64 t.said, .slice A l.length cap] 54)).alloc (Obj.cells #[.string ⟨#[]⟩, .string ⟨#[]⟩, .int .u64 0, .int .u64 0, .int .u8 0, .int .i64 0, .slice none 0 0] 54)).alloc (Obj.cells #[.string ⟨#[]⟩, .string ⟨#[]⟩, .int .u64 0, .int .u64 0, .int .u8 0, .int .i64 0, .slice none 0 0] 54)) (w.heap.size + 1) Tk.none (.slice none 0 0) from by
    have h := TBlk.zero (w.alloc (Obj.cells (talkL t (.slice A l.length cap)).toArray 54))
    simp only [World.size_alloc] at h
    exact Blk.alloc h _)
  have HN := Lib.hid (show TBlk (((w.alloc (Obj.cells #[.string t.user, .string t.tree, .int .u64 t.ours, .int .u64 t.theirs, .int .u8 t.step, .int .i64 t.said, .slice A l.length cap] 54)).alloc (Obj.cells #[.string ⟨#[]⟩, .string ⟨#[]⟩, .int .u64 0, .int .u64 0, .int .u8 0, .int .i64 0, .slice none 0 0] 54)).alloc (Obj.cells #[.string ⟨#[]⟩, .string ⟨#[]⟩, .int .u64 0, .int .u64 0, .int .u8 0, .int .i64 0, .slice none 0 0] 54)) (w.heap.size + 1 + 1) Tk.none (.slice none 0 0) from by
    have h := TBlk.zero ((w.alloc (Obj.cells (talkL t (.slice A l.length cap)).toArray 54)).alloc (Obj.cells #[.string ⟨#[]⟩, .string ⟨#[]⟩, .int .u64 0, .int .u64 0, .int .u8 0, .int .i64 0, .slice none 0 0] 54))
    simp only [World.size_alloc] at h
    exact h)
  go_enter Tryz.func88, Tryz.ntmps88
  go_upto_region 2 with (fail)
  generalize ((w.alloc (Obj.cells #[.string t.user, .string t.tree, .int .u64 t.ours, .int .u64 t.theirs, .int .u8 t.step, .int .i64 t.said, .slice A l.length cap] 54)).alloc (Obj.cells #[.string ⟨#[]⟩, .string ⟨#[]⟩, .int .u64 0, .int .u64 0, .int .u8 0, .int .i64 0, .slice none 0 0] 54)).alloc (Obj.cells #[.string ⟨#[]⟩, .string ⟨#[]⟩, .int .u64 0, .int .u64 0, .int .u8 0, .int .i64 0, .slice none 0 0] 54) = w1 at HB HT HZ HN ⊢
  have HHL := Lib.hid ((HH.out.below HB.out).more HB.out.size)
  obtain ⟨b4, h4⟩ : ∃ b, w.heap.size = b := ⟨_, rfl⟩
  obtain ⟨b6, h6⟩ : ∃ b, w.heap.size + 1 = b := ⟨_, rfl⟩
  obtain ⟨b9, h9⟩ : ∃ b, w.heap.size + 1 + 1 = b := ⟨_, rfl⟩
  rw [h9] at HN
  rw [h6] at HZ
  have i64 : b4 < b6 := by omega
  have i69 : b6 < b9 := by omega
  rw [h9, h6, h4]
  rw [h4] at HT HB
  have H4 := Lib.hid h4
  have HBB := Lib.hid (show b4 ≤ w.heap.size from Nat.le_of_eq h4.symm)
  have HW1 := Lib.hid (show b4 ≤ w1.heap.size from Nat.le_trans HBB.out HB.out.size)
  clear h4 h6 h9
  go_upto_region 3 with (first
    | (refine wT HT.out rfl _ rfl rfl ?_)
    | (go_at_call 126; (with_reducible refine (refOwn_calls t _ l _ HHL.out HLL.out).mono ?_); rintro e w2 ⟨⟨hu2, rfl, hown⟩, hb⟩; have hown2 := OwnB.of_own hown; obtain ⟨A2, c2, rfl⟩ := hown2.val; have HO1 := Lib.hid (hown2.more HW1.out); have HT1 := Lib.hid (HT.out.below hb); have HZ1 := Lib.hid (HZ.out.below hb); have HN1 := Lib.hid (HN.out.below hb); have HB1 := Lib.hid (below_next HB.out HBB.out hb); clear hown hown2 hb)
    | (refine wstT HT1.out t (.slice A2 l.length c2) rfl rfl _ _ rfl rfl rfl ?_; intro w3 hs ho hbl; have HT3 := Lib.hid hs; have HZ3 := Lib.hid (show TBlk w3 b6 Tk.none (.slice none 0 0) from (ho b6 (by omega)).trans HZ1.out); have HN3 := Lib.hid (show TBlk w3 b9 Tk.none (.slice none 0 0) from (ho b9 (by omega)).trans HN1.out); have HB3 := Lib.hid (hbl _ _ HB1.out (Nat.le_refl _)); have HO3 := Lib.hid (HO1.out.far (HO1.out.blk_ne HT1.out (by decide)) ho); clear hs ho hbl))
  clear HT HZ HN HB HT1 HZ1 HN1 HB1 HO1 HHL
  have k0 : w3.cell? ⟨b4, 0, none⟩ = some (.string t.user) := Blk.cell HT3.out 0
  have k4 : w3.cell? ⟨b4, 4, none⟩ = some (.int .u8 t.step) := Blk.cell HT3.out 4
  obtain ⟨kk, hkk⟩ : ∃ z, keyOfUser L t.user = z := ⟨_, rfl⟩
  have HKK := Lib.hid hkk
  clear hkk
  go_upto_region 4 with (go_at_call 52; (with_reducible refine (refUserKey_calls g L t.user _ (HP0.out.below (by rw [H4.out]; exact HB3.out))).mono ?_); rw [HKK.out]; rintro e w4 ⟨rfl, rfl⟩)
  go_upto_region 8 with (fail)
  clear k0
  cases h1 : (t.step == 1) with
  | true =>
    have e1 : t.step = 1 := by simpa using h1
    have HSD := Lib.hid (show l = [] ∧ 0 ≤ t.said ∧ t.said < 25 from by
      rcases HST.out with ⟨_, x1, x2⟩ | ⟨x, _⟩ | ⟨x, _⟩ | ⟨x, _⟩ | ⟨x, _⟩
      · exact ⟨x1, x2⟩
      all_goals omega)
    have HRS := Lib.hid (show readS L t l count = lineRd t l (helloS t.ours.toNat).data.toList 2 count from by unfold readS; rw [if_neg (by omega), if_pos e1])
    have HHC := Lib.hid (show ∀ wx, Calls Tryz.prog 127 #[.int .u64 t.ours] wx fun e w' => e = .returned (.string (helloS t.ours.toNat)) ∧ Below wx.heap.size wx w' from fun wx => by
      have h := refHello_calls t.ours.toNat (by have := HOU.out; omega) wx
      rw [Int.toNat_of_nonneg HOU.out.1] at h
      exact h)
    have hlen : (helloS t.ours.toNat).size = 25 := by have := hello25 t.ours.toNat; rwa [Array.length_toList] at this
    obtain ⟨S, hS⟩ : ∃ z, helloS t.ours.toNat = z := ⟨_, rfl⟩
    rw [hS] at HRS hlen
    have HSS := Lib.hid hS
    clear hS e1
    have k2 : w3.cell? ⟨b4, 2, none⟩ = some (.int .u64 t.ours) := Blk.cell HT3.out 2
    go_upto_region 16 with (go_at_call 127; (with_reducible refine (HHC.out _).mono ?_); rw [HSS.out]; rintro e w4 ⟨rfl, hb⟩; have HT4 := Lib.hid (HT3.out.below hb); have HZ4 := Lib.hid (HZ3.out.below hb); have HN4 := Lib.hid (HN3.out.below hb); have HB4 := Lib.hid (below_next HB3.out HBB.out hb); have HO4 := Lib.hid (HO3.out.below hb); clear hb)
    clear k2 k4 h1 HT3 HZ3 HN3 HB3 HO3
    have HSZ := Lib.hid (show t.said < (S.size : Int) from by rw [hlen]; exact HSD.out.2.2)
    have HSM := Lib.hid (show S.size ≤ 25 from Nat.le_of_eq hlen)
    clear hlen
    obtain ⟨f, hf⟩ : ∃ f : Nat, t.said = (f : Int) := ⟨t.said.toNat, (Int.toNat_of_nonneg HSD.out.2.1).symm⟩
    obtain ⟨k, hk⟩ : ∃ k, S.size = f + k := ⟨S.size - f, by have := HSZ.out; omega⟩
    have HF := Lib.hid hf
    have HK := Lib.hid hk
    have k5 : w4.cell? ⟨b4, 5, none⟩ = some (.int .i64 (f : Int)) := by rw [← hf]; exact Blk.cell HT4.out 5
    have hk0 : 0 < k := by have := HSZ.out; omega
    have j1 : ¬ (S.size : Int) < (f : Int) := by omega
    have j2 : ¬ (f : Int) < 0 := by omega
    have hsub : (S.size : Int) - (f : Int) = (k : Int) := by omega
    have hsm : S.size ≤ 25 := HSM.out
    have HSUB := Lib.hid hsub
    clear hf hk
    go_upto_region 19 with (fail)
    clear j1 j2 hsub
    by_cases hc : count < (k : Int)
    · by_cases hc0 : count < 0
      · have HM := Lib.hid (show toN t.said count S.size = f + 0 ∧ fromN t.said S.size = f from to_doc HF.out HK.out (by rw [if_pos hc, if_pos hc0]; rfl))
        have hmk : 0 ≤ k := by omega
        go_upto_region 23 with (fail)
        clear hc hc0
        obtain ⟨hx1, hx2⟩ := ext_eq S f (f + 0) (by rw [HK.out]; omega) (Nat.le_add_right _ _)
        rw [Nat.add_sub_cancel_left] at hx2
        have HRD := Lib.hid (show readS L t l count = if f + 0 = S.size then ⟨{ t with step := 2, said := 0 }, l, (S.extract f (f + 0)).data.toList, 0⟩ else ⟨{ t with said := ((f + 0 : Nat) : Int) }, l, (S.extract f (f + 0)).data.toList, 0⟩ from HRS.out.trans (lineRd_eq t l S _ count HM.out.2 HM.out.1 hx1))
        obtain ⟨X, hX⟩ : ∃ z, S.extract f (f + 0) = z := ⟨_, rfl⟩
        rw [hX] at hx2 HRD
        obtain rfl : ByteArray.empty = X := by rw [← hX]; apply ByteArray.ext; simp
        clear hx1
        obtain ⟨e, he⟩ : ∃ e, f + 0 = e := ⟨_, rfl⟩
        rw [he] at hX HRD
        have hsum : (f : Int) + 0 = (e : Int) := by omega
        have hsum2 : (f : Int) = (e : Int) := by omega
        have i2 : (f : Int) ≤ (e : Int) := by omega
        have i3 : (e : Int) ≤ (S.size : Int) := by have := HK.out; omega
        have HEF := Lib.hid (show (e : Int) ≤ 25 from by omega)
        obtain ⟨bc, w5, hconv, hcb, hbb, hgt⟩ := bytes_own ByteArray.empty w4 (by unfold maxLen; omega)
        have HT5 := Lib.hid (HT4.out.below hbb)
        have HZ5 := Lib.hid (HZ4.out.below hbb)
        have HB5 := Lib.hid (below_next HB4.out HBB.out hbb)
        have HO5 := Lib.hid (HO4.out.below hbb)
        obtain ⟨xs, hxs⟩ : ∃ n, ByteArray.empty.size = n := ⟨_, rfl⟩
        rw [hxs] at hconv hcb
        have HBV := Lib.hid (show OwnB w5 b4 (.slice (some ⟨w4.heap.size, 0, none⟩) xs bc) ByteArray.empty.data.toList from hcb.more (Nat.le_trans HBB.out HB4.out.size))
        clear hcb hbb hgt he hx2 hxs hmk hk0
        go_upto_region 24 with (fail)
        clear k5 hconv
        have k5 : w5.cell? ⟨b4, 5, none⟩ = some (.int .i64 (f : Int)) := by rw [← HF.out]; exact Blk.cell HT5.out 5
        have z5 := Blk.frozen HT5.out 5
        go_upto_region 25 with (fail)
        have HT6 := Lib.hid (show TBlk (w5.setCell ⟨b4, 5, none⟩ (.int .i64 (e : Int))) b4 { t with said := (e : Int) } (.slice A2 l.length c2) from Blk.set_ HT5.out 5 _)
        have HZ6 := Lib.hid (show TBlk (w5.setCell ⟨b4, 5, none⟩ (.int .i64 (e : Int))) b6 Tk.none (.slice none 0 0) from Blk.far HZ5.out (by show b6 ≠ b4; omega) _)
        have HB6 := Lib.hid (HB5.out.setCell (p := ⟨b4, 5, none⟩) (Nat.le_refl _) (.int .i64 (e : Int)))
        have HO6 := Lib.hid (HO5.out.far (HO5.out.blk_ne HT5.out (by decide)) (setCell_other w5 b4 5 (.int .i64 (e : Int))))
        have HBV6 := Lib.hid (HBV.out.far (HBV.out.blk_ne HT5.out (by decide)) (setCell_other w5 b4 5 (.int .i64 (e : Int))))
        clear k5 z5 hsum i2 hsum2
        change Code.wp _ _ _ _ (w5.setCell ⟨b4, 5, none⟩ (.int .i64 (e : Int)))
        generalize w5.setCell ⟨b4, 5, none⟩ (.int .i64 (e : Int)) = w6 at HT6 HZ6 HB6 HO6 HBV6 ⊢
        have k5 : w6.cell? ⟨b4, 5, none⟩ = some (.int .i64 (e : Int)) := Blk.cell HT6.out 5
        by_cases hee : e = S.size
        · have hq : ((e : Int) == (S.size : Int)) = true := by rw [beq_iff_eq]; omega
          have HRE := Lib.hid (HRD.out.trans (if_pos hee))
          clear hee
          have z5 := Blk.frozen HT6.out 5
          go_upto_region 27 with (fail)
          clear k5 hq z5
          have HT7 := Lib.hid (show TBlk (w6.setCell ⟨b4, 5, none⟩ (.int .i64 0)) b4 { t with said := 0 } (.slice A2 l.length c2) from Blk.set_ HT6.out 5 _)
          have HZ7 := Lib.hid (show TBlk (w6.setCell ⟨b4, 5, none⟩ (.int .i64 0)) b6 Tk.none (.slice none 0 0) from Blk.far HZ6.out (by show b6 ≠ b4; omega) _)
          have HB7 := Lib.hid (HB6.out.setCell (p := ⟨b4, 5, none⟩) (Nat.le_refl _) (.int .i64 0))
          have HO7 := Lib.hid (HO6.out.far (HO6.out.blk_ne HT6.out (by decide)) (setCell_other w6 b4 5 (.int .i64 0)))
          have HBV7 := Lib.hid (HBV6.out.far (HBV6.out.blk_ne HT6.out (by decide)) (setCell_other w6 b4 5 (.int .i64 0)))
          change Code.wp _ _ _ _ (w6.setCell ⟨b4, 5, none⟩ (.int .i64 0))
          generalize w6.setCell ⟨b4, 5, none⟩ (.int .i64 0) = w7 at HT7 HZ7 HB7 HO7 HBV7 ⊢
          have k4 : w7.cell? ⟨b4, 4, none⟩ = some (.int .u8 t.step) := Blk.cell HT7.out 4
          have z4 := Blk.frozen HT7.out 4
          go_upto_region 28 with (fail)
          clear k4 z4
          have HT8 := Lib.hid (show TBlk (w7.setCell ⟨b4, 4, none⟩ (.int .u8 2)) b4 { t with step := 2, said := 0 } (.slice A2 l.length c2) from Blk.set_ HT7.out 4 _)
          have HZ8 := Lib.hid (show TBlk (w7.setCell ⟨b4, 4, none⟩ (.int .u8 2)) b6 Tk.none (.slice none 0 0) from Blk.far HZ7.out (by show b6 ≠ b4; omega) _)
          have HB8 := Lib.hid (HB7.out.setCell (p := ⟨b4, 4, none⟩) (Nat.le_refl _) (.int .u8 2))
          have HO8 := Lib.hid (HO7.out.far (HO7.out.blk_ne HT7.out (by decide)) (setCell_other w7 b4 4 (.int .u8 2)))
          have HBV8 := Lib.hid (HBV7.out.far (HBV7.out.blk_ne HT7.out (by decide)) (setCell_other w7 b4 4 (.int .u8 2)))
          change Code.wp _ _ _ _ (w7.setCell ⟨b4, 4, none⟩ (.int .u8 2))
          generalize w7.setCell ⟨b4, 4, none⟩ (.int .u8 2) = w8 at HT8 HZ8 HB8 HO8 HBV8 ⊢
          go_wp2_with (first
            | (refine wT HT8.out rfl _ rfl rfl ?_)
            | (refine wstT HZ8.out { t with step := 2, said := 0 } (.slice A2 l.length c2) rfl rfl _ _ rfl rfl rfl ?_; intro w9 hs ho hbl; have HX := Lib.hid hs; have HB9 := Lib.hid (hbl _ _ HB8.out (by omega)); have HO9 := Lib.hid (HO8.out.far (HO8.out.blk_ne HZ8.out (by decide)) ho); have HBV9 := Lib.hid (HBV8.out.far (HBV8.out.blk_ne HZ8.out (by decide)) ho); clear hs ho hbl))
          exact bodyPost_ret (results_rread rfl rfl rfl HX.out) rfl ⟨⟨_, _, by rw [HRE.out], by rw [HRE.out, H4.out]; exact HO9.out, by rw [HRE.out, H4.out]; exact HBV9.out⟩, by rw [H4.out]; exact HB9.out⟩
        · have hq : ((e : Int) == (S.size : Int)) = false := by rw [beq_eq_false_iff_ne]; omega
          have HRE := Lib.hid (HRD.out.trans (if_neg hee))
          clear hee
          go_upto_region 28 with (fail)
          clear k5 hq
          go_wp2_with (first
            | (refine wT HT6.out rfl _ rfl rfl ?_)
            | (refine wstT HZ6.out { t with said := (e : Int) } (.slice A2 l.length c2) rfl rfl _ _ rfl rfl rfl ?_; intro w9 hs ho hbl; have HX := Lib.hid hs; have HB9 := Lib.hid (hbl _ _ HB6.out (by omega)); have HO9 := Lib.hid (HO6.out.far (HO6.out.blk_ne HZ6.out (by decide)) ho); have HBV9 := Lib.hid (HBV6.out.far (HBV6.out.blk_ne HZ6.out (by decide)) ho); clear hs ho hbl))
          exact bodyPost_ret (results_rread rfl rfl rfl HX.out) rfl ⟨⟨_, _, by rw [HRE.out], by rw [HRE.out, H4.out]; exact HO9.out, by rw [HRE.out, H4.out]; exact HBV9.out⟩, by rw [H4.out]; exact HB9.out⟩
      · obtain ⟨m, hcm⟩ : ∃ m : Nat, count = (m : Int) := ⟨count.toNat, (Int.toNat_of_nonneg (by omega)).symm⟩
        have HM := Lib.hid (show toN t.said count S.size = f + m ∧ fromN t.said S.size = f from to_doc HF.out HK.out (by rw [if_pos hc, if_neg hc0]; exact hcm.symm))
        have hmk : m ≤ k := by omega
        have HCM := Lib.hid hcm
        clear hcm
        go_upto_region 23 with (fail)
        clear hc hc0
        obtain ⟨hx1, hx2⟩ := ext_eq S f (f + m) (by rw [HK.out]; omega) (Nat.le_add_right _ _)
        rw [Nat.add_sub_cancel_left] at hx2
        have HRD := Lib.hid (show readS L t l count = if f + m = S.size then ⟨{ t with step := 2, said := 0 }, l, (S.extract f (f + m)).data.toList, 0⟩ else ⟨{ t with said := ((f + m : Nat) : Int) }, l, (S.extract f (f + m)).data.toList, 0⟩ from HRS.out.trans (lineRd_eq t l S _ count HM.out.2 HM.out.1 hx1))
        obtain ⟨X, hX⟩ : ∃ z, S.extract f (f + m) = z := ⟨_, rfl⟩
        rw [hX] at hx2 HRD
        clear hx1
        obtain ⟨e, he⟩ : ∃ e, f + m = e := ⟨_, rfl⟩
        rw [he] at hX HRD
        have hsum : (f : Int) + count = (e : Int) := by have := HCM.out; omega
        have i2 : (f : Int) ≤ (e : Int) := by omega
        have i3 : (e : Int) ≤ (S.size : Int) := by have := HK.out; omega
        have HEF := Lib.hid (show (e : Int) ≤ 25 from by omega)
        obtain ⟨bc, w5, hconv, hcb, hbb, hgt⟩ := bytes_own X w4 (by unfold maxLen; omega)
        have HT5 := Lib.hid (HT4.out.below hbb)
        have HZ5 := Lib.hid (HZ4.out.below hbb)
        have HB5 := Lib.hid (below_next HB4.out HBB.out hbb)
        have HO5 := Lib.hid (HO4.out.below hbb)
        obtain ⟨xs, hxs⟩ : ∃ n, X.size = n := ⟨_, rfl⟩
        rw [hxs] at hconv hcb
        have HBV := Lib.hid (show OwnB w5 b4 (.slice (some ⟨w4.heap.size, 0, none⟩) xs bc) X.data.toList from hcb.more (Nat.le_trans HBB.out HB4.out.size))
        clear hcb hbb hgt he hx2 hxs hmk hk0
        go_upto_region 24 with (fail)
        clear k5 hconv
        have k5 : w5.cell? ⟨b4, 5, none⟩ = some (.int .i64 (f : Int)) := by rw [← HF.out]; exact Blk.cell HT5.out 5
        have z5 := Blk.frozen HT5.out 5
        go_upto_region 25 with (fail)
        have HT6 := Lib.hid (show TBlk (w5.setCell ⟨b4, 5, none⟩ (.int .i64 (e : Int))) b4 { t with said := (e : Int) } (.slice A2 l.length c2) from Blk.set_ HT5.out 5 _)
        have HZ6 := Lib.hid (show TBlk (w5.setCell ⟨b4, 5, none⟩ (.int .i64 (e : Int))) b6 Tk.none (.slice none 0 0) from Blk.far HZ5.out (by show b6 ≠ b4; omega) _)
        have HB6 := Lib.hid (HB5.out.setCell (p := ⟨b4, 5, none⟩) (Nat.le_refl _) (.int .i64 (e : Int)))
        have HO6 := Lib.hid (HO5.out.far (HO5.out.blk_ne HT5.out (by decide)) (setCell_other w5 b4 5 (.int .i64 (e : Int))))
        have HBV6 := Lib.hid (HBV.out.far (HBV.out.blk_ne HT5.out (by decide)) (setCell_other w5 b4 5 (.int .i64 (e : Int))))
        clear k5 z5 hsum i2
        change Code.wp _ _ _ _ (w5.setCell ⟨b4, 5, none⟩ (.int .i64 (e : Int)))
        generalize w5.setCell ⟨b4, 5, none⟩ (.int .i64 (e : Int)) = w6 at HT6 HZ6 HB6 HO6 HBV6 ⊢
        have k5 : w6.cell? ⟨b4, 5, none⟩ = some (.int .i64 (e : Int)) := Blk.cell HT6.out 5
        by_cases hee : e = S.size
        · have hq : ((e : Int) == (S.size : Int)) = true := by rw [beq_iff_eq]; omega
          have HRE := Lib.hid (HRD.out.trans (if_pos hee))
          clear hee
          have z5 := Blk.frozen HT6.out 5
          go_upto_region 27 with (fail)
          clear k5 hq z5
          have HT7 := Lib.hid (show TBlk (w6.setCell ⟨b4, 5, none⟩ (.int .i64 0)) b4 { t with said := 0 } (.slice A2 l.length c2) from Blk.set_ HT6.out 5 _)
          have HZ7 := Lib.hid (show TBlk (w6.setCell ⟨b4, 5, none⟩ (.int .i64 0)) b6 Tk.none (.slice none 0 0) from Blk.far HZ6.out (by show b6 ≠ b4; omega) _)
          have HB7 := Lib.hid (HB6.out.setCell (p := ⟨b4, 5, none⟩) (Nat.le_refl _) (.int .i64 0))
          have HO7 := Lib.hid (HO6.out.far (HO6.out.blk_ne HT6.out (by decide)) (setCell_other w6 b4 5 (.int .i64 0)))
          have HBV7 := Lib.hid (HBV6.out.far (HBV6.out.blk_ne HT6.out (by decide)) (setCell_other w6 b4 5 (.int .i64 0)))
          change Code.wp _ _ _ _ (w6.setCell ⟨b4, 5, none⟩ (.int .i64 0))
          generalize w6.setCell ⟨b4, 5, none⟩ (.int .i64 0) = w7 at HT7 HZ7 HB7 HO7 HBV7 ⊢
          have k4 : w7.cell? ⟨b4, 4, none⟩ = some (.int .u8 t.step) := Blk.cell HT7.out 4
          have z4 := Blk.frozen HT7.out 4
          go_upto_region 28 with (fail)
          clear k4 z4
          have HT8 := Lib.hid (show TBlk (w7.setCell ⟨b4, 4, none⟩ (.int .u8 2)) b4 { t with step := 2, said := 0 } (.slice A2 l.length c2) from Blk.set_ HT7.out 4 _)
          have HZ8 := Lib.hid (show TBlk (w7.setCell ⟨b4, 4, none⟩ (.int .u8 2)) b6 Tk.none (.slice none 0 0) from Blk.far HZ7.out (by show b6 ≠ b4; omega) _)
          have HB8 := Lib.hid (HB7.out.setCell (p := ⟨b4, 4, none⟩) (Nat.le_refl _) (.int .u8 2))
          have HO8 := Lib.hid (HO7.out.far (HO7.out.blk_ne HT7.out (by decide)) (setCell_other w7 b4 4 (.int .u8 2)))
          have HBV8 := Lib.hid (HBV7.out.far (HBV7.out.blk_ne HT7.out (by decide)) (setCell_other w7 b4 4 (.int .u8 2)))
          change Code.wp _ _ _ _ (w7.setCell ⟨b4, 4, none⟩ (.int .u8 2))
          generalize w7.setCell ⟨b4, 4, none⟩ (.int .u8 2) = w8 at HT8 HZ8 HB8 HO8 HBV8 ⊢
          go_wp2_with (first
            | (refine wT HT8.out rfl _ rfl rfl ?_)
            | (refine wstT HZ8.out { t with step := 2, said := 0 } (.slice A2 l.length c2) rfl rfl _ _ rfl rfl rfl ?_; intro w9 hs ho hbl; have HX := Lib.hid hs; have HB9 := Lib.hid (hbl _ _ HB8.out (by omega)); have HO9 := Lib.hid (HO8.out.far (HO8.out.blk_ne HZ8.out (by decide)) ho); have HBV9 := Lib.hid (HBV8.out.far (HBV8.out.blk_ne HZ8.out (by decide)) ho); clear hs ho hbl))
          exact bodyPost_ret (results_rread rfl rfl rfl HX.out) rfl ⟨⟨_, _, by rw [HRE.out], by rw [HRE.out, H4.out]; exact HO9.out, by rw [HRE.out, H4.out]; exact HBV9.out⟩, by rw [H4.out]; exact HB9.out⟩
        · have hq : ((e : Int) == (S.size : Int)) = false := by rw [beq_eq_false_iff_ne]; omega
          have HRE := Lib.hid (HRD.out.trans (if_neg hee))
          clear hee
          go_upto_region 28 with (fail)
          clear k5 hq
          go_wp2_with (first
            | (refine wT HT6.out rfl _ rfl rfl ?_)
            | (refine wstT HZ6.out { t with said := (e : Int) } (.slice A2 l.length c2) rfl rfl _ _ rfl rfl rfl ?_; intro w9 hs ho hbl; have HX := Lib.hid hs; have HB9 := Lib.hid (hbl _ _ HB6.out (by omega)); have HO9 := Lib.hid (HO6.out.far (HO6.out.blk_ne HZ6.out (by decide)) ho); have HBV9 := Lib.hid (HBV6.out.far (HBV6.out.blk_ne HZ6.out (by decide)) ho); clear hs ho hbl))
          exact bodyPost_ret (results_rread rfl rfl rfl HX.out) rfl ⟨⟨_, _, by rw [HRE.out], by rw [HRE.out, H4.out]; exact HO9.out, by rw [HRE.out, H4.out]; exact HBV9.out⟩, by rw [H4.out]; exact HB9.out⟩
    · have HM := Lib.hid (show toN t.said count S.size = f + k ∧ fromN t.said S.size = f from to_doc HF.out HK.out (by rw [if_neg hc, if_neg (by omega)]))
      have hmk : k ≤ k := by omega
      go_upto_region 23 with (fail)
      clear hc
      obtain ⟨hx1, hx2⟩ := ext_eq S f (f + k) (by rw [HK.out]; omega) (Nat.le_add_right _ _)
      rw [Nat.add_sub_cancel_left] at hx2
      have HRD := Lib.hid (show readS L t l count = if f + k = S.size then ⟨{ t with step := 2, said := 0 }, l, (S.extract f (f + k)).data.toList, 0⟩ else ⟨{ t with said := ((f + k : Nat) : Int) }, l, (S.extract f (f + k)).data.toList, 0⟩ from HRS.out.trans (lineRd_eq t l S _ count HM.out.2 HM.out.1 hx1))
      obtain ⟨X, hX⟩ : ∃ z, S.extract f (f + k) = z := ⟨_, rfl⟩
      rw [hX] at hx2 HRD
      clear hx1
      obtain ⟨e, he⟩ : ∃ e, f + k = e := ⟨_, rfl⟩
      rw [he] at hX HRD
      have hsum : (f : Int) + (k : Int) = (e : Int) := by omega
      have i2 : (f : Int) ≤ (e : Int) := by omega
      have i3 : (e : Int) ≤ (S.size : Int) := by have := HK.out; omega
      have HEF := Lib.hid (show (e : Int) ≤ 25 from by omega)
      obtain ⟨bc, w5, hconv, hcb, hbb, hgt⟩ := bytes_own X w4 (by unfold maxLen; omega)
      have HT5 := Lib.hid (HT4.out.below hbb)
      have HZ5 := Lib.hid (HZ4.out.below hbb)
      have HB5 := Lib.hid (below_next HB4.out HBB.out hbb)
      have HO5 := Lib.hid (HO4.out.below hbb)
      obtain ⟨xs, hxs⟩ : ∃ n, X.size = n := ⟨_, rfl⟩
      rw [hxs] at hconv hcb
      have HBV := Lib.hid (show OwnB w5 b4 (.slice (some ⟨w4.heap.size, 0, none⟩) xs bc) X.data.toList from hcb.more (Nat.le_trans HBB.out HB4.out.size))
      clear hcb hbb hgt he hx2 hxs hmk hk0
      go_upto_region 24 with (fail)
      clear k5 hconv
      have k5 : w5.cell? ⟨b4, 5, none⟩ = some (.int .i64 (f : Int)) := by rw [← HF.out]; exact Blk.cell HT5.out 5
      have z5 := Blk.frozen HT5.out 5
      go_upto_region 25 with (fail)
      have HT6 := Lib.hid (show TBlk (w5.setCell ⟨b4, 5, none⟩ (.int .i64 (e : Int))) b4 { t with said := (e : Int) } (.slice A2 l.length c2) from Blk.set_ HT5.out 5 _)
      have HZ6 := Lib.hid (show TBlk (w5.setCell ⟨b4, 5, none⟩ (.int .i64 (e : Int))) b6 Tk.none (.slice none 0 0) from Blk.far HZ5.out (by show b6 ≠ b4; omega) _)
      have HB6 := Lib.hid (HB5.out.setCell (p := ⟨b4, 5, none⟩) (Nat.le_refl _) (.int .i64 (e : Int)))
      have HO6 := Lib.hid (HO5.out.far (HO5.out.blk_ne HT5.out (by decide)) (setCell_other w5 b4 5 (.int .i64 (e : Int))))
      have HBV6 := Lib.hid (HBV.out.far (HBV.out.blk_ne HT5.out (by decide)) (setCell_other w5 b4 5 (.int .i64 (e : Int))))
      clear k5 z5 hsum i2
      change Code.wp _ _ _ _ (w5.setCell ⟨b4, 5, none⟩ (.int .i64 (e : Int)))
      generalize w5.setCell ⟨b4, 5, none⟩ (.int .i64 (e : Int)) = w6 at HT6 HZ6 HB6 HO6 HBV6 ⊢
      have k5 : w6.cell? ⟨b4, 5, none⟩ = some (.int .i64 (e : Int)) := Blk.cell HT6.out 5
      by_cases hee : e = S.size
      · have hq : ((e : Int) == (S.size : Int)) = true := by rw [beq_iff_eq]; omega
        have HRE := Lib.hid (HRD.out.trans (if_pos hee))
        clear hee
        have z5 := Blk.frozen HT6.out 5
        go_upto_region 27 with (fail)
        clear k5 hq z5
        have HT7 := Lib.hid (show TBlk (w6.setCell ⟨b4, 5, none⟩ (.int .i64 0)) b4 { t with said := 0 } (.slice A2 l.length c2) from Blk.set_ HT6.out 5 _)
        have HZ7 := Lib.hid (show TBlk (w6.setCell ⟨b4, 5, none⟩ (.int .i64 0)) b6 Tk.none (.slice none 0 0) from Blk.far HZ6.out (by show b6 ≠ b4; omega) _)
        have HB7 := Lib.hid (HB6.out.setCell (p := ⟨b4, 5, none⟩) (Nat.le_refl _) (.int .i64 0))
        have HO7 := Lib.hid (HO6.out.far (HO6.out.blk_ne HT6.out (by decide)) (setCell_other w6 b4 5 (.int .i64 0)))
        have HBV7 := Lib.hid (HBV6.out.far (HBV6.out.blk_ne HT6.out (by decide)) (setCell_other w6 b4 5 (.int .i64 0)))
        change Code.wp _ _ _ _ (w6.setCell ⟨b4, 5, none⟩ (.int .i64 0))
        generalize w6.setCell ⟨b4, 5, none⟩ (.int .i64 0) = w7 at HT7 HZ7 HB7 HO7 HBV7 ⊢
        have k4 : w7.cell? ⟨b4, 4, none⟩ = some (.int .u8 t.step) := Blk.cell HT7.out 4
        have z4 := Blk.frozen HT7.out 4
        go_upto_region 28 with (fail)
        clear k4 z4
        have HT8 := Lib.hid (show TBlk (w7.setCell ⟨b4, 4, none⟩ (.int .u8 2)) b4 { t with step := 2, said := 0 } (.slice A2 l.length c2) from Blk.set_ HT7.out 4 _)
        have HZ8 := Lib.hid (show TBlk (w7.setCell ⟨b4, 4, none⟩ (.int .u8 2)) b6 Tk.none (.slice none 0 0) from Blk.far HZ7.out (by show b6 ≠ b4; omega) _)
        have HB8 := Lib.hid (HB7.out.setCell (p := ⟨b4, 4, none⟩) (Nat.le_refl _) (.int .u8 2))
        have HO8 := Lib.hid (HO7.out.far (HO7.out.blk_ne HT7.out (by decide)) (setCell_other w7 b4 4 (.int .u8 2)))
        have HBV8 := Lib.hid (HBV7.out.far (HBV7.out.blk_ne HT7.out (by decide)) (setCell_other w7 b4 4 (.int .u8 2)))
        change Code.wp _ _ _ _ (w7.setCell ⟨b4, 4, none⟩ (.int .u8 2))
        generalize w7.setCell ⟨b4, 4, none⟩ (.int .u8 2) = w8 at HT8 HZ8 HB8 HO8 HBV8 ⊢
        go_wp2_with (first
          | (refine wT HT8.out rfl _ rfl rfl ?_)
          | (refine wstT HZ8.out { t with step := 2, said := 0 } (.slice A2 l.length c2) rfl rfl _ _ rfl rfl rfl ?_; intro w9 hs ho hbl; have HX := Lib.hid hs; have HB9 := Lib.hid (hbl _ _ HB8.out (by omega)); have HO9 := Lib.hid (HO8.out.far (HO8.out.blk_ne HZ8.out (by decide)) ho); have HBV9 := Lib.hid (HBV8.out.far (HBV8.out.blk_ne HZ8.out (by decide)) ho); clear hs ho hbl))
        exact bodyPost_ret (results_rread rfl rfl rfl HX.out) rfl ⟨⟨_, _, by rw [HRE.out], by rw [HRE.out, H4.out]; exact HO9.out, by rw [HRE.out, H4.out]; exact HBV9.out⟩, by rw [H4.out]; exact HB9.out⟩
      · have hq : ((e : Int) == (S.size : Int)) = false := by rw [beq_eq_false_iff_ne]; omega
        have HRE := Lib.hid (HRD.out.trans (if_neg hee))
        clear hee
        go_upto_region 28 with (fail)
        clear k5 hq
        go_wp2_with (first
          | (refine wT HT6.out rfl _ rfl rfl ?_)
          | (refine wstT HZ6.out { t with said := (e : Int) } (.slice A2 l.length c2) rfl rfl _ _ rfl rfl rfl ?_; intro w9 hs ho hbl; have HX := Lib.hid hs; have HB9 := Lib.hid (hbl _ _ HB6.out (by omega)); have HO9 := Lib.hid (HO6.out.far (HO6.out.blk_ne HZ6.out (by decide)) ho); have HBV9 := Lib.hid (HBV6.out.far (HBV6.out.blk_ne HZ6.out (by decide)) ho); clear hs ho hbl))
        exact bodyPost_ret (results_rread rfl rfl rfl HX.out) rfl ⟨⟨_, _, by rw [HRE.out], by rw [HRE.out, H4.out]; exact HO9.out, by rw [HRE.out, H4.out]; exact HBV9.out⟩, by rw [H4.out]; exact HB9.out⟩
  | false =>
    have n1 : ¬ t.step = 1 := by simpa using h1
    cases h3 : (t.step == 3) with
    | true =>
      have e3 : t.step = 3 := by simpa using h3
      have HSD := Lib.hid (show l = [] ∧ 0 ≤ t.said ∧ t.said < 17 from by
        rcases HST.out with ⟨x, _⟩ | ⟨x, _⟩ | ⟨_, x1, x2⟩ | ⟨x, _⟩ | ⟨x, _⟩
        · omega
        · omega
        · exact ⟨x1, x2⟩
        · omega
        · omega)
      have HRS := Lib.hid (show readS L t l count = lineRd t l (shownS (shN (keyOfUser L t.user) t.user t.tree 2 t.ours t.theirs)).data.toList 4 count from by unfold readS; rw [if_neg (by omega), if_neg n1, if_pos e3])
      have hlen : (shownS (shN (keyOfUser L t.user) t.user t.tree 2 t.ours t.theirs)).size = 17 := shownS_size _
      rw [HKK.out] at HRS hlen
      obtain ⟨S, hS⟩ : ∃ z, shownS (shN kk t.user t.tree 2 t.ours t.theirs) = z := ⟨_, rfl⟩
      rw [hS] at HRS hlen
      have HSS := Lib.hid hS
      have HKM := Lib.hid (show kk.size ≤ maxLen from by rw [← HKK.out]; exact HKZ.out)
      clear hS e3
      have k0 : w3.cell? ⟨b4, 0, none⟩ = some (.string t.user) := Blk.cell HT3.out 0
      have k1 : w3.cell? ⟨b4, 1, none⟩ = some (.string t.tree) := Blk.cell HT3.out 1
      have k2 : w3.cell? ⟨b4, 2, none⟩ = some (.int .u64 t.ours) := Blk.cell HT3.out 2
      have k3 : w3.cell? ⟨b4, 3, none⟩ = some (.int .u64 t.theirs) := Blk.cell HT3.out 3
      go_upto_region 16 with (go_at_call 128; (with_reducible refine (refProof_calls kk t.user t.tree t.ours t.theirs _ HKM.out HU.out HTR.out).mono ?_); rw [HSS.out]; rintro e w4 ⟨rfl, hb⟩; have HT4 := Lib.hid (HT3.out.below hb); have HZ4 := Lib.hid (HZ3.out.below hb); have HN4 := Lib.hid (HN3.out.below hb); have HB4 := Lib.hid (below_next HB3.out HBB.out hb); have HO4 := Lib.hid (HO3.out.below hb); clear hb)
      clear k0 k1 k2 k3 k4 h1 h3 n1 HT3 HZ3 HN3 HB3 HO3
      have HSZ := Lib.hid (show t.said < (S.size : Int) from by rw [hlen]; exact HSD.out.2.2)
      have HSM := Lib.hid (show S.size ≤ 25 from by omega)
      clear hlen
      obtain ⟨f, hf⟩ : ∃ f : Nat, t.said = (f : Int) := ⟨t.said.toNat, (Int.toNat_of_nonneg HSD.out.2.1).symm⟩
      obtain ⟨k, hk⟩ : ∃ k, S.size = f + k := ⟨S.size - f, by have := HSZ.out; omega⟩
      have HF := Lib.hid hf
      have HK := Lib.hid hk
      have k5 : w4.cell? ⟨b4, 5, none⟩ = some (.int .i64 (f : Int)) := by rw [← hf]; exact Blk.cell HT4.out 5
      have hk0 : 0 < k := by have := HSZ.out; omega
      have j1 : ¬ (S.size : Int) < (f : Int) := by omega
      have j2 : ¬ (f : Int) < 0 := by omega
      have hsub : (S.size : Int) - (f : Int) = (k : Int) := by omega
      have hsm : S.size ≤ 25 := HSM.out
      have HSUB := Lib.hid hsub
      clear hf hk
      go_upto_region 19 with (fail)
      clear j1 j2 hsub
      by_cases hc : count < (k : Int)
      · by_cases hc0 : count < 0
        · have HM := Lib.hid (show toN t.said count S.size = f + 0 ∧ fromN t.said S.size = f from to_doc HF.out HK.out (by rw [if_pos hc, if_pos hc0]; rfl))
          have hmk : 0 ≤ k := by omega
          go_upto_region 23 with (fail)
          clear hc hc0
          obtain ⟨hx1, hx2⟩ := ext_eq S f (f + 0) (by rw [HK.out]; omega) (Nat.le_add_right _ _)
          rw [Nat.add_sub_cancel_left] at hx2
          have HRD := Lib.hid (show readS L t l count = if f + 0 = S.size then ⟨{ t with step := 4, said := 0 }, l, (S.extract f (f + 0)).data.toList, 0⟩ else ⟨{ t with said := ((f + 0 : Nat) : Int) }, l, (S.extract f (f + 0)).data.toList, 0⟩ from HRS.out.trans (lineRd_eq t l S _ count HM.out.2 HM.out.1 hx1))
          obtain ⟨X, hX⟩ : ∃ z, S.extract f (f + 0) = z := ⟨_, rfl⟩
          rw [hX] at hx2 HRD
          obtain rfl : ByteArray.empty = X := by rw [← hX]; apply ByteArray.ext; simp
          clear hx1
          obtain ⟨e, he⟩ : ∃ e, f + 0 = e := ⟨_, rfl⟩
          rw [he] at hX HRD
          have hsum : (f : Int) + 0 = (e : Int) := by omega
          have hsum2 : (f : Int) = (e : Int) := by omega
          have i2 : (f : Int) ≤ (e : Int) := by omega
          have i3 : (e : Int) ≤ (S.size : Int) := by have := HK.out; omega
          have HEF := Lib.hid (show (e : Int) ≤ 25 from by omega)
          obtain ⟨bc, w5, hconv, hcb, hbb, hgt⟩ := bytes_own ByteArray.empty w4 (by unfold maxLen; omega)
          have HT5 := Lib.hid (HT4.out.below hbb)
          have HZ5 := Lib.hid (HZ4.out.below hbb)
          have HB5 := Lib.hid (below_next HB4.out HBB.out hbb)
          have HO5 := Lib.hid (HO4.out.below hbb)
          obtain ⟨xs, hxs⟩ : ∃ n, ByteArray.empty.size = n := ⟨_, rfl⟩
          rw [hxs] at hconv hcb
          have HBV := Lib.hid (show OwnB w5 b4 (.slice (some ⟨w4.heap.size, 0, none⟩) xs bc) ByteArray.empty.data.toList from hcb.more (Nat.le_trans HBB.out HB4.out.size))
          clear hcb hbb hgt he hx2 hxs hmk hk0
          go_upto_region 24 with (fail)
          clear k5 hconv
          have k5 : w5.cell? ⟨b4, 5, none⟩ = some (.int .i64 (f : Int)) := by rw [← HF.out]; exact Blk.cell HT5.out 5
          have z5 := Blk.frozen HT5.out 5
          go_upto_region 25 with (fail)
          have HT6 := Lib.hid (show TBlk (w5.setCell ⟨b4, 5, none⟩ (.int .i64 (e : Int))) b4 { t with said := (e : Int) } (.slice A2 l.length c2) from Blk.set_ HT5.out 5 _)
          have HZ6 := Lib.hid (show TBlk (w5.setCell ⟨b4, 5, none⟩ (.int .i64 (e : Int))) b6 Tk.none (.slice none 0 0) from Blk.far HZ5.out (by show b6 ≠ b4; omega) _)
          have HB6 := Lib.hid (HB5.out.setCell (p := ⟨b4, 5, none⟩) (Nat.le_refl _) (.int .i64 (e : Int)))
          have HO6 := Lib.hid (HO5.out.far (HO5.out.blk_ne HT5.out (by decide)) (setCell_other w5 b4 5 (.int .i64 (e : Int))))
          have HBV6 := Lib.hid (HBV.out.far (HBV.out.blk_ne HT5.out (by decide)) (setCell_other w5 b4 5 (.int .i64 (e : Int))))
          clear k5 z5 hsum i2 hsum2
          change Code.wp _ _ _ _ (w5.setCell ⟨b4, 5, none⟩ (.int .i64 (e : Int)))
          generalize w5.setCell ⟨b4, 5, none⟩ (.int .i64 (e : Int)) = w6 at HT6 HZ6 HB6 HO6 HBV6 ⊢
          have k5 : w6.cell? ⟨b4, 5, none⟩ = some (.int .i64 (e : Int)) := Blk.cell HT6.out 5
          by_cases hee : e = S.size
          · have hq : ((e : Int) == (S.size : Int)) = true := by rw [beq_iff_eq]; omega
            have HRE := Lib.hid (HRD.out.trans (if_pos hee))
            clear hee
            have z5 := Blk.frozen HT6.out 5
            go_upto_region 27 with (fail)
            clear k5 hq z5
            have HT7 := Lib.hid (show TBlk (w6.setCell ⟨b4, 5, none⟩ (.int .i64 0)) b4 { t with said := 0 } (.slice A2 l.length c2) from Blk.set_ HT6.out 5 _)
            have HZ7 := Lib.hid (show TBlk (w6.setCell ⟨b4, 5, none⟩ (.int .i64 0)) b6 Tk.none (.slice none 0 0) from Blk.far HZ6.out (by show b6 ≠ b4; omega) _)
            have HB7 := Lib.hid (HB6.out.setCell (p := ⟨b4, 5, none⟩) (Nat.le_refl _) (.int .i64 0))
            have HO7 := Lib.hid (HO6.out.far (HO6.out.blk_ne HT6.out (by decide)) (setCell_other w6 b4 5 (.int .i64 0)))
            have HBV7 := Lib.hid (HBV6.out.far (HBV6.out.blk_ne HT6.out (by decide)) (setCell_other w6 b4 5 (.int .i64 0)))
            change Code.wp _ _ _ _ (w6.setCell ⟨b4, 5, none⟩ (.int .i64 0))
            generalize w6.setCell ⟨b4, 5, none⟩ (.int .i64 0) = w7 at HT7 HZ7 HB7 HO7 HBV7 ⊢
            have k4 : w7.cell? ⟨b4, 4, none⟩ = some (.int .u8 t.step) := Blk.cell HT7.out 4
            have z4 := Blk.frozen HT7.out 4
            go_upto_region 28 with (fail)
            clear k4 z4
            have HT8 := Lib.hid (show TBlk (w7.setCell ⟨b4, 4, none⟩ (.int .u8 4)) b4 { t with step := 4, said := 0 } (.slice A2 l.length c2) from Blk.set_ HT7.out 4 _)
            have HZ8 := Lib.hid (show TBlk (w7.setCell ⟨b4, 4, none⟩ (.int .u8 4)) b6 Tk.none (.slice none 0 0) from Blk.far HZ7.out (by show b6 ≠ b4; omega) _)
            have HB8 := Lib.hid (HB7.out.setCell (p := ⟨b4, 4, none⟩) (Nat.le_refl _) (.int .u8 4))
            have HO8 := Lib.hid (HO7.out.far (HO7.out.blk_ne HT7.out (by decide)) (setCell_other w7 b4 4 (.int .u8 4)))
            have HBV8 := Lib.hid (HBV7.out.far (HBV7.out.blk_ne HT7.out (by decide)) (setCell_other w7 b4 4 (.int .u8 4)))
            change Code.wp _ _ _ _ (w7.setCell ⟨b4, 4, none⟩ (.int .u8 4))
            generalize w7.setCell ⟨b4, 4, none⟩ (.int .u8 4) = w8 at HT8 HZ8 HB8 HO8 HBV8 ⊢
            go_wp2_with (first
              | (refine wT HT8.out rfl _ rfl rfl ?_)
              | (refine wstT HZ8.out { t with step := 4, said := 0 } (.slice A2 l.length c2) rfl rfl _ _ rfl rfl rfl ?_; intro w9 hs ho hbl; have HX := Lib.hid hs; have HB9 := Lib.hid (hbl _ _ HB8.out (by omega)); have HO9 := Lib.hid (HO8.out.far (HO8.out.blk_ne HZ8.out (by decide)) ho); have HBV9 := Lib.hid (HBV8.out.far (HBV8.out.blk_ne HZ8.out (by decide)) ho); clear hs ho hbl))
            exact bodyPost_ret (results_rread rfl rfl rfl HX.out) rfl ⟨⟨_, _, by rw [HRE.out], by rw [HRE.out, H4.out]; exact HO9.out, by rw [HRE.out, H4.out]; exact HBV9.out⟩, by rw [H4.out]; exact HB9.out⟩
          · have hq : ((e : Int) == (S.size : Int)) = false := by rw [beq_eq_false_iff_ne]; omega
            have HRE := Lib.hid (HRD.out.trans (if_neg hee))
            clear hee
            go_upto_region 28 with (fail)
            clear k5 hq
            go_wp2_with (first
              | (refine wT HT6.out rfl _ rfl rfl ?_)
              | (refine wstT HZ6.out { t with said := (e : Int) } (.slice A2 l.length c2) rfl rfl _ _ rfl rfl rfl ?_; intro w9 hs ho hbl; have HX := Lib.hid hs; have HB9 := Lib.hid (hbl _ _ HB6.out (by omega)); have HO9 := Lib.hid (HO6.out.far (HO6.out.blk_ne HZ6.out (by decide)) ho); have HBV9 := Lib.hid (HBV6.out.far (HBV6.out.blk_ne HZ6.out (by decide)) ho); clear hs ho hbl))
            exact bodyPost_ret (results_rread rfl rfl rfl HX.out) rfl ⟨⟨_, _, by rw [HRE.out], by rw [HRE.out, H4.out]; exact HO9.out, by rw [HRE.out, H4.out]; exact HBV9.out⟩, by rw [H4.out]; exact HB9.out⟩
        · obtain ⟨m, hcm⟩ : ∃ m : Nat, count = (m : Int) := ⟨count.toNat, (Int.toNat_of_nonneg (by omega)).symm⟩
          have HM := Lib.hid (show toN t.said count S.size = f + m ∧ fromN t.said S.size = f from to_doc HF.out HK.out (by rw [if_pos hc, if_neg hc0]; exact hcm.symm))
          have hmk : m ≤ k := by omega
          have HCM := Lib.hid hcm
          clear hcm
          go_upto_region 23 with (fail)
          clear hc hc0
          obtain ⟨hx1, hx2⟩ := ext_eq S f (f + m) (by rw [HK.out]; omega) (Nat.le_add_right _ _)
          rw [Nat.add_sub_cancel_left] at hx2
          have HRD := Lib.hid (show readS L t l count = if f + m = S.size then ⟨{ t with step := 4, said := 0 }, l, (S.extract f (f + m)).data.toList, 0⟩ else ⟨{ t with said := ((f + m : Nat) : Int) }, l, (S.extract f (f + m)).data.toList, 0⟩ from HRS.out.trans (lineRd_eq t l S _ count HM.out.2 HM.out.1 hx1))
          obtain ⟨X, hX⟩ : ∃ z, S.extract f (f + m) = z := ⟨_, rfl⟩
          rw [hX] at hx2 HRD
          clear hx1
          obtain ⟨e, he⟩ : ∃ e, f + m = e := ⟨_, rfl⟩
          rw [he] at hX HRD
          have hsum : (f : Int) + count = (e : Int) := by have := HCM.out; omega
          have i2 : (f : Int) ≤ (e : Int) := by omega
          have i3 : (e : Int) ≤ (S.size : Int) := by have := HK.out; omega
          have HEF := Lib.hid (show (e : Int) ≤ 25 from by omega)
          obtain ⟨bc, w5, hconv, hcb, hbb, hgt⟩ := bytes_own X w4 (by unfold maxLen; omega)
          have HT5 := Lib.hid (HT4.out.below hbb)
          have HZ5 := Lib.hid (HZ4.out.below hbb)
          have HB5 := Lib.hid (below_next HB4.out HBB.out hbb)
          have HO5 := Lib.hid (HO4.out.below hbb)
          obtain ⟨xs, hxs⟩ : ∃ n, X.size = n := ⟨_, rfl⟩
          rw [hxs] at hconv hcb
          have HBV := Lib.hid (show OwnB w5 b4 (.slice (some ⟨w4.heap.size, 0, none⟩) xs bc) X.data.toList from hcb.more (Nat.le_trans HBB.out HB4.out.size))
          clear hcb hbb hgt he hx2 hxs hmk hk0
          go_upto_region 24 with (fail)
          clear k5 hconv
          have k5 : w5.cell? ⟨b4, 5, none⟩ = some (.int .i64 (f : Int)) := by rw [← HF.out]; exact Blk.cell HT5.out 5
          have z5 := Blk.frozen HT5.out 5
          go_upto_region 25 with (fail)
          have HT6 := Lib.hid (show TBlk (w5.setCell ⟨b4, 5, none⟩ (.int .i64 (e : Int))) b4 { t with said := (e : Int) } (.slice A2 l.length c2) from Blk.set_ HT5.out 5 _)
          have HZ6 := Lib.hid (show TBlk (w5.setCell ⟨b4, 5, none⟩ (.int .i64 (e : Int))) b6 Tk.none (.slice none 0 0) from Blk.far HZ5.out (by show b6 ≠ b4; omega) _)
          have HB6 := Lib.hid (HB5.out.setCell (p := ⟨b4, 5, none⟩) (Nat.le_refl _) (.int .i64 (e : Int)))
          have HO6 := Lib.hid (HO5.out.far (HO5.out.blk_ne HT5.out (by decide)) (setCell_other w5 b4 5 (.int .i64 (e : Int))))
          have HBV6 := Lib.hid (HBV.out.far (HBV.out.blk_ne HT5.out (by decide)) (setCell_other w5 b4 5 (.int .i64 (e : Int))))
          clear k5 z5 hsum i2
          change Code.wp _ _ _ _ (w5.setCell ⟨b4, 5, none⟩ (.int .i64 (e : Int)))
          generalize w5.setCell ⟨b4, 5, none⟩ (.int .i64 (e : Int)) = w6 at HT6 HZ6 HB6 HO6 HBV6 ⊢
          have k5 : w6.cell? ⟨b4, 5, none⟩ = some (.int .i64 (e : Int)) := Blk.cell HT6.out 5
          by_cases hee : e = S.size
          · have hq : ((e : Int) == (S.size : Int)) = true := by rw [beq_iff_eq]; omega
            have HRE := Lib.hid (HRD.out.trans (if_pos hee))
            clear hee
            have z5 := Blk.frozen HT6.out 5
            go_upto_region 27 with (fail)
            clear k5 hq z5
            have HT7 := Lib.hid (show TBlk (w6.setCell ⟨b4, 5, none⟩ (.int .i64 0)) b4 { t with said := 0 } (.slice A2 l.length c2) from Blk.set_ HT6.out 5 _)
            have HZ7 := Lib.hid (show TBlk (w6.setCell ⟨b4, 5, none⟩ (.int .i64 0)) b6 Tk.none (.slice none 0 0) from Blk.far HZ6.out (by show b6 ≠ b4; omega) _)
            have HB7 := Lib.hid (HB6.out.setCell (p := ⟨b4, 5, none⟩) (Nat.le_refl _) (.int .i64 0))
            have HO7 := Lib.hid (HO6.out.far (HO6.out.blk_ne HT6.out (by decide)) (setCell_other w6 b4 5 (.int .i64 0)))
            have HBV7 := Lib.hid (HBV6.out.far (HBV6.out.blk_ne HT6.out (by decide)) (setCell_other w6 b4 5 (.int .i64 0)))
            change Code.wp _ _ _ _ (w6.setCell ⟨b4, 5, none⟩ (.int .i64 0))
            generalize w6.setCell ⟨b4, 5, none⟩ (.int .i64 0) = w7 at HT7 HZ7 HB7 HO7 HBV7 ⊢
            have k4 : w7.cell? ⟨b4, 4, none⟩ = some (.int .u8 t.step) := Blk.cell HT7.out 4
            have z4 := Blk.frozen HT7.out 4
            go_upto_region 28 with (fail)
            clear k4 z4
            have HT8 := Lib.hid (show TBlk (w7.setCell ⟨b4, 4, none⟩ (.int .u8 4)) b4 { t with step := 4, said := 0 } (.slice A2 l.length c2) from Blk.set_ HT7.out 4 _)
            have HZ8 := Lib.hid (show TBlk (w7.setCell ⟨b4, 4, none⟩ (.int .u8 4)) b6 Tk.none (.slice none 0 0) from Blk.far HZ7.out (by show b6 ≠ b4; omega) _)
            have HB8 := Lib.hid (HB7.out.setCell (p := ⟨b4, 4, none⟩) (Nat.le_refl _) (.int .u8 4))
            have HO8 := Lib.hid (HO7.out.far (HO7.out.blk_ne HT7.out (by decide)) (setCell_other w7 b4 4 (.int .u8 4)))
            have HBV8 := Lib.hid (HBV7.out.far (HBV7.out.blk_ne HT7.out (by decide)) (setCell_other w7 b4 4 (.int .u8 4)))
            change Code.wp _ _ _ _ (w7.setCell ⟨b4, 4, none⟩ (.int .u8 4))
            generalize w7.setCell ⟨b4, 4, none⟩ (.int .u8 4) = w8 at HT8 HZ8 HB8 HO8 HBV8 ⊢
            go_wp2_with (first
              | (refine wT HT8.out rfl _ rfl rfl ?_)
              | (refine wstT HZ8.out { t with step := 4, said := 0 } (.slice A2 l.length c2) rfl rfl _ _ rfl rfl rfl ?_; intro w9 hs ho hbl; have HX := Lib.hid hs; have HB9 := Lib.hid (hbl _ _ HB8.out (by omega)); have HO9 := Lib.hid (HO8.out.far (HO8.out.blk_ne HZ8.out (by decide)) ho); have HBV9 := Lib.hid (HBV8.out.far (HBV8.out.blk_ne HZ8.out (by decide)) ho); clear hs ho hbl))
            exact bodyPost_ret (results_rread rfl rfl rfl HX.out) rfl ⟨⟨_, _, by rw [HRE.out], by rw [HRE.out, H4.out]; exact HO9.out, by rw [HRE.out, H4.out]; exact HBV9.out⟩, by rw [H4.out]; exact HB9.out⟩
          · have hq : ((e : Int) == (S.size : Int)) = false := by rw [beq_eq_false_iff_ne]; omega
            have HRE := Lib.hid (HRD.out.trans (if_neg hee))
            clear hee
            go_upto_region 28 with (fail)
            clear k5 hq
            go_wp2_with (first
              | (refine wT HT6.out rfl _ rfl rfl ?_)
              | (refine wstT HZ6.out { t with said := (e : Int) } (.slice A2 l.length c2) rfl rfl _ _ rfl rfl rfl ?_; intro w9 hs ho hbl; have HX := Lib.hid hs; have HB9 := Lib.hid (hbl _ _ HB6.out (by omega)); have HO9 := Lib.hid (HO6.out.far (HO6.out.blk_ne HZ6.out (by decide)) ho); have HBV9 := Lib.hid (HBV6.out.far (HBV6.out.blk_ne HZ6.out (by decide)) ho); clear hs ho hbl))
            exact bodyPost_ret (results_rread rfl rfl rfl HX.out) rfl ⟨⟨_, _, by rw [HRE.out], by rw [HRE.out, H4.out]; exact HO9.out, by rw [HRE.out, H4.out]; exact HBV9.out⟩, by rw [H4.out]; exact HB9.out⟩
      · have HM := Lib.hid (show toN t.said count S.size = f + k ∧ fromN t.said S.size = f from to_doc HF.out HK.out (by rw [if_neg hc, if_neg (by omega)]))
        have hmk : k ≤ k := by omega
        go_upto_region 23 with (fail)
        clear hc
        obtain ⟨hx1, hx2⟩ := ext_eq S f (f + k) (by rw [HK.out]; omega) (Nat.le_add_right _ _)
        rw [Nat.add_sub_cancel_left] at hx2
        have HRD := Lib.hid (show readS L t l count = if f + k = S.size then ⟨{ t with step := 4, said := 0 }, l, (S.extract f (f + k)).data.toList, 0⟩ else ⟨{ t with said := ((f + k : Nat) : Int) }, l, (S.extract f (f + k)).data.toList, 0⟩ from HRS.out.trans (lineRd_eq t l S _ count HM.out.2 HM.out.1 hx1))
        obtain ⟨X, hX⟩ : ∃ z, S.extract f (f + k) = z := ⟨_, rfl⟩
        rw [hX] at hx2 HRD
        clear hx1
        obtain ⟨e, he⟩ : ∃ e, f + k = e := ⟨_, rfl⟩
        rw [he] at hX HRD
        have hsum : (f : Int) + (k : Int) = (e : Int) := by omega
        have i2 : (f : Int) ≤ (e : Int) := by omega
        have i3 : (e : Int) ≤ (S.size : Int) := by have := HK.out; omega
        have HEF := Lib.hid (show (e : Int) ≤ 25 from by omega)
        obtain ⟨bc, w5, hconv, hcb, hbb, hgt⟩ := bytes_own X w4 (by unfold maxLen; omega)
        have HT5 := Lib.hid (HT4.out.below hbb)
        have HZ5 := Lib.hid (HZ4.out.below hbb)
        have HB5 := Lib.hid (below_next HB4.out HBB.out hbb)
        have HO5 := Lib.hid (HO4.out.below hbb)
        obtain ⟨xs, hxs⟩ : ∃ n, X.size = n := ⟨_, rfl⟩
        rw [hxs] at hconv hcb
        have HBV := Lib.hid (show OwnB w5 b4 (.slice (some ⟨w4.heap.size, 0, none⟩) xs bc) X.data.toList from hcb.more (Nat.le_trans HBB.out HB4.out.size))
        clear hcb hbb hgt he hx2 hxs hmk hk0
        go_upto_region 24 with (fail)
        clear k5 hconv
        have k5 : w5.cell? ⟨b4, 5, none⟩ = some (.int .i64 (f : Int)) := by rw [← HF.out]; exact Blk.cell HT5.out 5
        have z5 := Blk.frozen HT5.out 5
        go_upto_region 25 with (fail)
        have HT6 := Lib.hid (show TBlk (w5.setCell ⟨b4, 5, none⟩ (.int .i64 (e : Int))) b4 { t with said := (e : Int) } (.slice A2 l.length c2) from Blk.set_ HT5.out 5 _)
        have HZ6 := Lib.hid (show TBlk (w5.setCell ⟨b4, 5, none⟩ (.int .i64 (e : Int))) b6 Tk.none (.slice none 0 0) from Blk.far HZ5.out (by show b6 ≠ b4; omega) _)
        have HB6 := Lib.hid (HB5.out.setCell (p := ⟨b4, 5, none⟩) (Nat.le_refl _) (.int .i64 (e : Int)))
        have HO6 := Lib.hid (HO5.out.far (HO5.out.blk_ne HT5.out (by decide)) (setCell_other w5 b4 5 (.int .i64 (e : Int))))
        have HBV6 := Lib.hid (HBV.out.far (HBV.out.blk_ne HT5.out (by decide)) (setCell_other w5 b4 5 (.int .i64 (e : Int))))
        clear k5 z5 hsum i2
        change Code.wp _ _ _ _ (w5.setCell ⟨b4, 5, none⟩ (.int .i64 (e : Int)))
        generalize w5.setCell ⟨b4, 5, none⟩ (.int .i64 (e : Int)) = w6 at HT6 HZ6 HB6 HO6 HBV6 ⊢
        have k5 : w6.cell? ⟨b4, 5, none⟩ = some (.int .i64 (e : Int)) := Blk.cell HT6.out 5
        by_cases hee : e = S.size
        · have hq : ((e : Int) == (S.size : Int)) = true := by rw [beq_iff_eq]; omega
          have HRE := Lib.hid (HRD.out.trans (if_pos hee))
          clear hee
          have z5 := Blk.frozen HT6.out 5
          go_upto_region 27 with (fail)
          clear k5 hq z5
          have HT7 := Lib.hid (show TBlk (w6.setCell ⟨b4, 5, none⟩ (.int .i64 0)) b4 { t with said := 0 } (.slice A2 l.length c2) from Blk.set_ HT6.out 5 _)
          have HZ7 := Lib.hid (show TBlk (w6.setCell ⟨b4, 5, none⟩ (.int .i64 0)) b6 Tk.none (.slice none 0 0) from Blk.far HZ6.out (by show b6 ≠ b4; omega) _)
          have HB7 := Lib.hid (HB6.out.setCell (p := ⟨b4, 5, none⟩) (Nat.le_refl _) (.int .i64 0))
          have HO7 := Lib.hid (HO6.out.far (HO6.out.blk_ne HT6.out (by decide)) (setCell_other w6 b4 5 (.int .i64 0)))
          have HBV7 := Lib.hid (HBV6.out.far (HBV6.out.blk_ne HT6.out (by decide)) (setCell_other w6 b4 5 (.int .i64 0)))
          change Code.wp _ _ _ _ (w6.setCell ⟨b4, 5, none⟩ (.int .i64 0))
          generalize w6.setCell ⟨b4, 5, none⟩ (.int .i64 0) = w7 at HT7 HZ7 HB7 HO7 HBV7 ⊢
          have k4 : w7.cell? ⟨b4, 4, none⟩ = some (.int .u8 t.step) := Blk.cell HT7.out 4
          have z4 := Blk.frozen HT7.out 4
          go_upto_region 28 with (fail)
          clear k4 z4
          have HT8 := Lib.hid (show TBlk (w7.setCell ⟨b4, 4, none⟩ (.int .u8 4)) b4 { t with step := 4, said := 0 } (.slice A2 l.length c2) from Blk.set_ HT7.out 4 _)
          have HZ8 := Lib.hid (show TBlk (w7.setCell ⟨b4, 4, none⟩ (.int .u8 4)) b6 Tk.none (.slice none 0 0) from Blk.far HZ7.out (by show b6 ≠ b4; omega) _)
          have HB8 := Lib.hid (HB7.out.setCell (p := ⟨b4, 4, none⟩) (Nat.le_refl _) (.int .u8 4))
          have HO8 := Lib.hid (HO7.out.far (HO7.out.blk_ne HT7.out (by decide)) (setCell_other w7 b4 4 (.int .u8 4)))
          have HBV8 := Lib.hid (HBV7.out.far (HBV7.out.blk_ne HT7.out (by decide)) (setCell_other w7 b4 4 (.int .u8 4)))
          change Code.wp _ _ _ _ (w7.setCell ⟨b4, 4, none⟩ (.int .u8 4))
          generalize w7.setCell ⟨b4, 4, none⟩ (.int .u8 4) = w8 at HT8 HZ8 HB8 HO8 HBV8 ⊢
          go_wp2_with (first
            | (refine wT HT8.out rfl _ rfl rfl ?_)
            | (refine wstT HZ8.out { t with step := 4, said := 0 } (.slice A2 l.length c2) rfl rfl _ _ rfl rfl rfl ?_; intro w9 hs ho hbl; have HX := Lib.hid hs; have HB9 := Lib.hid (hbl _ _ HB8.out (by omega)); have HO9 := Lib.hid (HO8.out.far (HO8.out.blk_ne HZ8.out (by decide)) ho); have HBV9 := Lib.hid (HBV8.out.far (HBV8.out.blk_ne HZ8.out (by decide)) ho); clear hs ho hbl))
          exact bodyPost_ret (results_rread rfl rfl rfl HX.out) rfl ⟨⟨_, _, by rw [HRE.out], by rw [HRE.out, H4.out]; exact HO9.out, by rw [HRE.out, H4.out]; exact HBV9.out⟩, by rw [H4.out]; exact HB9.out⟩
        · have hq : ((e : Int) == (S.size : Int)) = false := by rw [beq_eq_false_iff_ne]; omega
          have HRE := Lib.hid (HRD.out.trans (if_neg hee))
          clear hee
          go_upto_region 28 with (fail)
          clear k5 hq
          go_wp2_with (first
            | (refine wT HT6.out rfl _ rfl rfl ?_)
            | (refine wstT HZ6.out { t with said := (e : Int) } (.slice A2 l.length c2) rfl rfl _ _ rfl rfl rfl ?_; intro w9 hs ho hbl; have HX := Lib.hid hs; have HB9 := Lib.hid (hbl _ _ HB6.out (by omega)); have HO9 := Lib.hid (HO6.out.far (HO6.out.blk_ne HZ6.out (by decide)) ho); have HBV9 := Lib.hid (HBV6.out.far (HBV6.out.blk_ne HZ6.out (by decide)) ho); clear hs ho hbl))
          exact bodyPost_ret (results_rread rfl rfl rfl HX.out) rfl ⟨⟨_, _, by rw [HRE.out], by rw [HRE.out, H4.out]; exact HO9.out, by rw [HRE.out, H4.out]; exact HBV9.out⟩, by rw [H4.out]; exact HB9.out⟩
    | false =>
      have n3 : ¬ t.step = 3 := by simpa using h3
      cases h5 : (t.step == 5) with
      | true =>
        have HRS := Lib.hid (show readS L t l count = ⟨Tk.none, [], [], 72⟩ from by unfold readS; rw [if_pos (by simpa using h5)])
        clear n1 n3
        go_wp2_with (first
          | (refine wT HN3.out rfl _ rfl rfl ?_)
          | (refine wstT HZ3.out Tk.none (.slice none 0 0) rfl rfl _ _ rfl rfl rfl ?_; intro w9 hs ho hbl; have HX := Lib.hid hs; have HB9 := Lib.hid (hbl _ _ HB3.out (by omega)); clear hs ho hbl))
        exact bodyPost_ret (results_rread rfl rfl rfl HX.out) rfl ⟨⟨_, _, by rw [HRS.out], by rw [HRS.out]; exact OwnB.nil_ _ _, by rw [HRS.out]; exact OwnB.nil_ _ _⟩, by rw [H4.out]; exact HB9.out⟩
      | false =>
        have HRS := Lib.hid (show readS L t l count = ⟨t, l, [], 0⟩ from by unfold readS; rw [if_neg (by simpa using h5), if_neg n1, if_neg n3])
        clear n1 n3
        go_wp2_with (first
          | (refine wT HT3.out rfl _ rfl rfl ?_)
          | (refine wstT HZ3.out t (.slice A2 l.length c2) rfl rfl _ _ rfl rfl rfl ?_; intro w9 hs ho hbl; have HX := Lib.hid hs; have HB9 := Lib.hid (hbl _ _ HB3.out (by omega)); have HO9 := Lib.hid (HO3.out.far (HO3.out.blk_ne HZ3.out (by decide)) ho); clear hs ho hbl))
        exact bodyPost_ret (results_rread rfl rfl rfl HX.out) rfl ⟨⟨_, _, by rw [HRS.out], by rw [HRS.out, H4.out]; exact HO9.out, by rw [HRS.out]; exact OwnB.nil_ _ _⟩, by rw [H4.out]; exact HB9.out⟩
end Go.Proofs.YtlenlldiimohjaaGreatDoor
