/-
  AWriteO ADo9: what AuthDoes needs of them.
-/
import Derived.Test.YtlenlldiimohjaaGreatDoorQ08
import Derived.Test.YtlenlldiimohjaaGreatDoorQ13
import Derived.Test.YtlenlldiimohjaaGreatDoorQ14
namespace Go.Proofs.YtlenlldiimohjaaGreatDoor
open Go.RowKit

set_option maxRecDepth 100000 in
set_option maxHeartbeats 6400000 in
theorem writeO_calls (g : Nat) (L : List Acct) (t : Tk) (hv bv : Value) (l b : List UInt8) (w : World) (hp : PTab w g L) (htz : TZ w) (hsv : SV w) (h : Bys w w.heap.size hv l) (hb : Bys w w.heap.size bv b) (hl : l.length ≤ 33) (hbl : b.length ≤ 268435456)
    (hu : t.user.size ≤ 268435456) (ht : t.tree.size ≤ 268435456) (hk : (keyOfUser L t.user).size ≤ 32) :
    Calls Tryz.prog 17 #[.pointer (some ⟨g, 0, none⟩), talkV t hv, bv] w fun e w' => (∃ hu, e = .returned (.tuple #[talkV (writeS L t l b).t hu, .int .i64 (writeS L t l b).n, .int .i64 (writeS L t l b).e]) ∧ OwnB w' w.heap.size hu (writeS L t l b).h) ∧ Below w.heap.size w w' := by
  have HP0 := Lib.hid hp
  have HTZ := Lib.hid htz
  have HSV := Lib.hid hsv
  have HBV := Lib.hid hb
  have HH := Lib.hid h
  obtain ⟨A, cap, rfl, -⟩ := h
  obtain ⟨bA, bc, rfl, -, -, hbr⟩ := hb
  have HBR := Lib.hid hbr
  obtain ⟨i0, hi0, hz0, hz1, hz2⟩ := info_parts u8_info
  have HI := Lib.hid hi0; clear hi0
  have HZ0 := Lib.hid hz0; clear hz0
  have HZ1 := Lib.hid hz1; clear hz1
  have HZ2 := Lib.hid hz2; clear hz2
  have HKZ := Lib.hid hk
  have HU := Lib.hid (show t.user.size ≤ maxLen from by unfold maxLen; omega)
  have HTR := Lib.hid (show t.tree.size ≤ maxLen from by unfold maxLen; omega)
  have HU2 := Lib.hid (show t.user.size ≤ 1099511627776 from by omega)
  clear hp htz hsv hk hu ht hbr
  have HB := Lib.hid (show Below w.heap.size w ((w.alloc (Obj.cells #[.string t.user, .string t.tree, .int .u64 t.ours, .int .u64 t.theirs, .int .u8 t.step, .int .i64 t.said, .slice A l.length cap] 54)).alloc (Obj.cells #[.string ⟨#[]⟩, .string ⟨#[]⟩, .int .u64 0, .int .u64 0, .int .u8 0, .int .i64 0, .slice none 0 0] 54)) from ((Below.refl _ _).alloc (Nat.le_refl _) _).alloc (by simp) _)
  have HT := Lib.hid (show TBlk ((w.alloc (Obj.cells #[.string t.user, .string t.tree, .int .u64 t.ours, .int .u64 t.theirs, .int .u8 t.step, .int .i64 t.said, .slice A l.length cap] 54)).alloc (Obj.cells #[.string ⟨#[]⟩, .string ⟨#[]⟩, .int .u64 0, .int .u64 0, .int .u8 0, .int .i64 0, .slice none 0 0] 54)) w.heap.size t (.slice A l.length cap) from Blk.alloc (Blk.new w _ (talkL t (.slice A l.length cap)).toArray) _)
  have HZ := Lib.hid (show TBlk ((w.alloc (Obj.cells #[.string t.user, .string t.tree, .int .u64 t.ours, .int .u64 t.theirs, .int .u8 t.step, .int .i64 t.said, .slice A l.length cap] 54)).alloc (Obj.cells #[.string ⟨#[]⟩, .string ⟨#[]⟩, .int .u64 0, .int .u64 0, .int .u8 0, .int .i64 0, .slice none 0 0] 54)) (w.heap.size + 1) Tk.none (.slice none 0 0) from by
    have h := TBlk.zero (w.alloc (Obj.cells (talkL t (.slice A l.length cap)).toArray 54))
    simp only [World.size_alloc] at h
    exact h)
  go_enter Tryz.func17, Tryz.ntmps17
  go_upto_region 1 with (fail)
  generalize (w.alloc (Obj.cells #[.string t.user, .string t.tree, .int .u64 t.ours, .int .u64 t.theirs, .int .u8 t.step, .int .i64 t.said, .slice A l.length cap] 54)).alloc (Obj.cells #[.string ⟨#[]⟩, .string ⟨#[]⟩, .int .u64 0, .int .u64 0, .int .u8 0, .int .i64 0, .slice none 0 0] 54) = w1 at HB HT HZ ⊢
  have hnb := Blk.lt HZ.out
  go_upto_region 2 with (first
    | (refine wT HT.out rfl _ rfl rfl ?_)
    | (go_at_call 57; (with_reducible refine (own_calls t _ l _ ((HH.out.below HB.out).more HB.out.size) hl).mono ?_); rintro e w2 ⟨⟨hu, rfl, hown⟩, hb2⟩; obtain ⟨A2, c2, rfl, -⟩ := Bys.of_own hown; have HO := Lib.hid hown; replace HB := Lib.hid (HB.out.trans (hb2.mono HB.out.size)); replace HT := Lib.hid (HT.out.below hb2); replace HZ := Lib.hid (HZ.out.below hb2); have hnb2 := hb2.size; clear hown hb2)
    | (refine wstT HT.out t (.slice A2 l.length c2) rfl rfl _ _ rfl rfl rfl ?_; intro w3 hs ho hbl; replace HO := Lib.hid (own_other HO.out (fun he => by have := (HO.out.lt _ he).1; omega) ho); replace HZ := Lib.hid (show TBlk w3 (w.heap.size + 1) Tk.none (.slice none 0 0) from (ho _ (by omega)).trans HZ.out); replace HT := Lib.hid hs; replace HB := Lib.hid (hbl _ _ HB.out (Nat.le_refl _)); have hnb3 := (hbl 0 _ (Below.refl _ _) (Nat.zero_le _)).size; clear hs ho hbl))
  have k4 : w3.cell? ⟨w.heap.size, 4, none⟩ = some (.int .u8 t.step) := Blk.cell HT.out 4
  have HNW := Lib.hid (Nat.le_trans hnb2 hnb3)
  clear hnb2 hnb3
  generalize w1.heap.size = nb at HO hnb HNW
  cases h1 : (t.step == 1) with
  | true =>
    have HS := Lib.hid (show writeS L t l b = ⟨Tk.none, [], 0, 70⟩ from by unfold writeS; rw [if_pos (by simpa using h1)])
    go_wp2_with (refine wstT HZ.out Tk.none (.slice none 0 0) rfl rfl _ _ rfl rfl rfl ?_; intro w4 hs ho hbl; have HX := Lib.hid hs; have HB4 := Lib.hid (hbl _ _ HB.out (by omega)); clear hs ho hbl)
    exact bodyPost_ret (results_write rfl rfl rfl HX.out) rfl ⟨⟨_, by rw [HS.out], by rw [HS.out]; exact OwnB.nil_ _ _⟩, HB4.out⟩
  | false =>
    have n1 : ¬ t.step = 1 := by simpa using h1
    cases h2 : (t.step == 2) with
    | false =>
      have HS := Lib.hid (show writeS L t l b = ⟨Tk.none, [], 0, 71⟩ from by unfold writeS; rw [if_neg n1, if_pos (by simpa using h2)])
      clear n1
      go_wp2_with (refine wstT HZ.out Tk.none (.slice none 0 0) rfl rfl _ _ rfl rfl rfl ?_; intro w4 hs ho hbl; have HX := Lib.hid hs; have HB4 := Lib.hid (hbl _ _ HB.out (by omega)); clear hs ho hbl)
      exact bodyPost_ret (results_write rfl rfl rfl HX.out) rfl ⟨⟨_, by rw [HS.out], by rw [HS.out]; exact OwnB.nil_ _ _⟩, HB4.out⟩
    | true =>
      have n2 : t.step = 2 := by simpa using h2
      have k6 : w3.cell? ⟨w.heap.size, 6, none⟩ = some (.slice A2 l.length c2) := Blk.cell HT.out 6
      by_cases h33 : 33 < l.length + b.length
      · have HS := Lib.hid (show writeS L t l b = ⟨Tk.none, [], 0, 70⟩ from by unfold writeS; rw [if_neg n1, if_neg (by rw [n2]; decide), if_pos h33])
        have h33' : (33 : Int) < (l.length : Int) + (b.length : Int) := by omega
        clear n1 n2
        go_wp2_with (refine wstT HZ.out Tk.none (.slice none 0 0) rfl rfl _ _ rfl rfl rfl ?_; intro w4 hs ho hbl; have HX := Lib.hid hs; have HB4 := Lib.hid (hbl _ _ HB.out (by omega)); clear hs ho hbl)
        exact bodyPost_ret (results_write rfl rfl rfl HX.out) rfl ⟨⟨_, by rw [HS.out], by rw [HS.out]; exact OwnB.nil_ _ _⟩, HB4.out⟩
      · have h33' : ¬ (33 : Int) < (l.length : Int) + (b.length : Int) := by omega
        have HWS := Lib.hid (show writeS L t l b = if l.length + b.length = 33 then heardS L t (l ++ b) b.length else ⟨t, l ++ b, b.length, 0⟩ from by unfold writeS; rw [if_neg n1, if_neg (by rw [n2]; decide), if_neg h33])
        clear n1 n2
        have HOB := Lib.hid (show (Value.slice A2 l.length c2).ownBlock ≠ some w.heap.size from fun he => by have := (HO.out.lt _ he).1; omega)
        have HOZ := Lib.hid (show (Value.slice A2 l.length c2).ownBlock ≠ some (w.heap.size + 1) from fun he => by have := (HO.out.lt _ he).1; omega)
        go_upto_region 10 with (at_builtin; refine wpList_append_any _ rfl (.tmp 31) (.tmp 32) _ rfl nb 5 i0 _ 1 1 Tryz.underlying47 HI.out HZ0.out HZ1.out HZ2.out rfl (by omega) (.slice A2 l.length c2) l.length (byteL l) rfl HO.out w.heap.size bA b.length bc (byteL b) rfl (HBR.out.below HB.out) (byteL_one b) (by unfold maxLen; omega) (by omega) HNW.out ?_; intro v2 w5 hown0 hgr hor; have hown : w5.ownsRow nb 5 1 v2 (l ++ b).length (byteL (l ++ b)) := (by have h := hown0; rw [← List.map_append] at h; rw [List.length_append]; exact h); clear hown0; obtain ⟨A3, c3, rfl, -⟩ := Bys.of_own hown; have HO5 := Lib.hid hown; have HT5 := Lib.hid (Blk.grown HT.out hgr (fun he => HOB.out he.symm)); have HZ5 := Lib.hid (Blk.grown HZ.out hgr (fun he => HOZ.out he.symm)); have HB5 := Lib.hid (HB.out.grown hgr HB.out.size (fun k hk => by have := (HO.out.lt _ hk).1; omega)); clear k6 hown hgr hor; have k6 := Blk.cell HT5.out 6; have z6 := Blk.frozen HT5.out 6)
        have hlen : (l ++ b).length = l.length + b.length := List.length_append
        rw [hlen] at HO5
        have HOB3 := Lib.hid (show (Value.slice A3 (l.length + b.length) c3).ownBlock ≠ some w.heap.size from fun he => by have := (HO5.out.lt _ he).1; omega)
        have HOZ3 := Lib.hid (show (Value.slice A3 (l.length + b.length) c3).ownBlock ≠ some (w.heap.size + 1) from fun he => by have := (HO5.out.lt _ he).1; omega)
        have HT6 := Lib.hid (show TBlk (w5.setCell ⟨w.heap.size, 6, none⟩ (.slice A3 (l.length + b.length) c3)) w.heap.size t (.slice A3 (l.length + b.length) c3) from Blk.set_ HT5.out 6 _)
        have HZ6 := Lib.hid (show TBlk (w5.setCell ⟨w.heap.size, 6, none⟩ (.slice A3 (l.length + b.length) c3)) (w.heap.size + 1) Tk.none (.slice none 0 0) from Blk.far HZ5.out (by show w.heap.size + 1 ≠ w.heap.size; omega) _)
        have HO6 := Lib.hid (own_other HO5.out HOB3.out (setCell_other w5 w.heap.size 6 (.slice A3 (l.length + b.length) c3)))
        have HB6 := Lib.hid (HB5.out.setCell (p := ⟨w.heap.size, 6, none⟩) (Nat.le_refl _) (.slice A3 (l.length + b.length) c3))
        clear k6 z6
        change Code.wp _ _ _ _ (w5.setCell ⟨w.heap.size, 6, none⟩ (.slice A3 (l.length + b.length) c3))
        generalize w5.setCell ⟨w.heap.size, 6, none⟩ (.slice A3 (l.length + b.length) c3) = w6 at HO6 HT6 HZ6 HB6 ⊢
        have k6 : w6.cell? ⟨w.heap.size, 6, none⟩ = some (.slice A3 (l.length + b.length) c3) := Blk.cell HT6.out 6
        by_cases he33 : l.length + b.length = 33
        · have HS := Lib.hid (HWS.out.trans (if_pos he33))
          have hne : l ++ b ≠ [] := fun h0 => by rw [h0] at hlen; simp at hlen; omega
          have hq : (l.length : Int) + (b.length : Int) = 33 := by omega
          have HLS := Lib.hid (show (l ++ b).length = 33 from hlen.trans he33)
          rw [he33] at k6 HT6 HO6 HOZ3 ⊢
          clear HOB3 he33 hlen h33 h33'
          generalize hll : l ++ b = s at HS HLS hne HO6
          have hconv : (convert 47 9 (.slice A3 33 c3)).run Tryz.prog w6 = .ok (.string (ofL s)) w6 := conv_bys (Bys.of_own HO6.out) hne
          clear hne hll
          go_upto_region 12 with (fail)
          clear hconv k6
          have k6 := Blk.cell HT6.out 6
          have z6 := Blk.frozen HT6.out 6
          have k5 := Blk.cell HT6.out 4
          have z5 := Blk.frozen HT6.out 4
          go_upto_region 13 with (fail)
          have HT7 := Lib.hid (show TBlk ((w6.setCell ⟨w.heap.size, 6, none⟩ (.slice none 0 0)).setCell ⟨w.heap.size, 4, none⟩ (.int .u8 5)) w.heap.size { t with step := 5 } (.slice none 0 0) from Blk.set_ (Blk.set_ HT6.out 6 _) 4 _)
          have HZ7 := Lib.hid (show TBlk ((w6.setCell ⟨w.heap.size, 6, none⟩ (.slice none 0 0)).setCell ⟨w.heap.size, 4, none⟩ (.int .u8 5)) (w.heap.size + 1) Tk.none (.slice none 0 0) from Blk.far (Blk.far HZ6.out (by show w.heap.size + 1 ≠ w.heap.size; omega) _) (by show w.heap.size + 1 ≠ w.heap.size; omega) _)
          have HB7 := Lib.hid ((HB6.out.setCell (p := ⟨w.heap.size, 6, none⟩) (Nat.le_refl _) (.slice none 0 0)).setCell (p := ⟨w.heap.size, 4, none⟩) (Nat.le_refl _) (.int .u8 5))
          clear k6 z6 k5 z5 k4 HO5 HO6 HO HOB HOZ HOZ3 HT5 HZ5 HB5
          change Code.wp _ _ _ _ ((w6.setCell ⟨w.heap.size, 6, none⟩ (.slice none 0 0)).setCell ⟨w.heap.size, 4, none⟩ (.int .u8 5))
          generalize (w6.setCell ⟨w.heap.size, 6, none⟩ (.slice none 0 0)).setCell ⟨w.heap.size, 4, none⟩ (.int .u8 5) = w7 at HT7 HZ7 HB7 ⊢
          have hsz : (ofL s).size = 33 := by
            show s.toArray.size = 33
            rw [List.size_toArray]
            exact HLS.out
          have HT16 := Lib.hid (show (ofL (s.take 16)).size = 16 from by
            show (s.take 16).toArray.size = 16
            rw [List.size_toArray, List.length_take, HLS.out]
            rfl)
          obtain ⟨nn, ok, hns⟩ : ∃ a b, numS (ofL (s.take 16)) = (a, b) := ⟨_, _, rfl⟩
          have HNS := Lib.hid hns
          have HHS := Lib.hid (show heardS L t s b.length = if ok = true ∧ ofL s = lineS (keyOfUser L t.user) t.user t.tree t.ours nn then ⟨{ t with theirs := nn, step := 3 }, [], b.length, 0⟩ else ⟨{ t with step := 5 }, [], b.length, 0⟩ from by unfold heardS; rw [hns])
          clear hns
          have HEX := Lib.hid (take16 s)
          go_upto_region 14 with (go_at_call 60; rw [HEX.out]; refine (number_calls (ofL (s.take 16)) (by rw [HT16.out]; decide) (by rw [HT16.out]; decide) _ (HSV.out.below HB7.out (Nat.le_refl _)) (HTZ.out.below HB7.out (Nat.le_refl _))).mono ?_; rw [HNS.out]; rintro e w8 ⟨rfl, hlt, hb⟩; have HLT := Lib.hid hlt; have HW := Lib.hid (show WS w { t with step := 5 } w8 from ⟨HT7.out.below hb, HZ7.out.below hb, HB7.out.trans (hb.mono HB7.out.size)⟩); clear hlt hb)
          clear HT7 HZ7 HB7
          try dsimp only
          cases ok with
          | false =>
            have HNO := Lib.hid (show writeS L t l b = ⟨{ t with step := 5 }, [], b.length, 0⟩ from by rw [HS.out, HHS.out, if_neg (fun hh => by cases hh.1)])
            refine wp_region_held_drew (S := WS w { t with step := 5 }) (by kernel_rfl) (HW.out.next (below_drew _)) (fun hHeld => ?_)
            generalize w8.drew = wd at hHeld ⊢
            refine wpAnyH_takeD 50 (i := 0) (v := .bool false) rfl rfl (by kernel_rfl) (by kernel_rfl) (by kernel_rfl) (fun _ _ _ h => h) (Or.inl ⟨by rfl, fun wq hSw => by go_simp⟩) (by assumption) ?_
            simp only [Act.put, List.setIfInBounds_toArray, List.set_cons_zero, List.set_cons_succ]
            refine wpAnyH_takeD 51 (i := 1) (v := .bool false) rfl rfl (by kernel_rfl) (by kernel_rfl) (by kernel_rfl) (fun _ _ _ h => h) (Or.inl ⟨by rfl, fun wq hSw => by go_simp⟩) (by assumption) ?_
            simp only [Act.put, List.setIfInBounds_toArray, List.set_cons_zero, List.set_cons_succ]
            refine wpAnyH_takeD 52 (i := 2) (v := undef) rfl rfl (by kernel_rfl) (by kernel_rfl) (by kernel_rfl) (fun _ _ _ h => h) (Or.inr ⟨by rfl, rfl⟩) (by assumption) ?_
            simp only [Act.put, List.setIfInBounds_toArray, List.set_cons_zero, List.set_cons_succ]
            refine wpAnyH_takeD 53 (i := 3) (v := undef) rfl rfl (by kernel_rfl) (by kernel_rfl) (by kernel_rfl) (fun _ _ _ h => h) (Or.inr ⟨by rfl, rfl⟩) (by assumption) ?_
            simp only [Act.put, List.setIfInBounds_toArray, List.set_cons_zero, List.set_cons_succ]
            refine wpAnyH_takeD 54 (i := 4) (v := undef) rfl rfl (by kernel_rfl) (by kernel_rfl) (by kernel_rfl) (fun _ _ _ h => h) (Or.inr ⟨by rfl, rfl⟩) (by assumption) ?_
            simp only [Act.put, List.setIfInBounds_toArray, List.set_cons_zero, List.set_cons_succ]
            refine wpAnyH_takeD 55 (i := 5) (v := undef) rfl rfl (by kernel_rfl) (by kernel_rfl) (by kernel_rfl) (fun _ _ _ h => h) (Or.inr ⟨by rfl, rfl⟩) (by assumption) ?_
            simp only [Act.put, List.setIfInBounds_toArray, List.set_cons_zero, List.set_cons_succ]
            refine wpAnyH_takeD 56 (i := 6) (v := undef) rfl rfl (by kernel_rfl) (by kernel_rfl) (by kernel_rfl) (fun _ _ _ h => h) (Or.inr ⟨by rfl, rfl⟩) (by assumption) ?_
            simp only [Act.put, List.setIfInBounds_toArray, List.set_cons_zero, List.set_cons_succ]
            refine wpAnyH_takeD 57 (i := 7) (v := undef) rfl rfl (by kernel_rfl) (by kernel_rfl) (by kernel_rfl) (fun _ _ _ h => h) (Or.inr ⟨by rfl, rfl⟩) (by assumption) ?_
            simp only [Act.put, List.setIfInBounds_toArray, List.set_cons_zero, List.set_cons_succ]
            refine wpAnyH_takeD 58 (i := 8) (v := undef) rfl rfl (by kernel_rfl) (by kernel_rfl) (by kernel_rfl) (fun _ _ _ h => h) (Or.inr ⟨by rfl, rfl⟩) (by assumption) ?_
            simp only [Act.put, List.setIfInBounds_toArray, List.set_cons_zero, List.set_cons_succ]
            refine wpAnyH_takeD 59 (i := 9) (v := undef) rfl rfl (by kernel_rfl) (by kernel_rfl) (by kernel_rfl) (fun _ _ _ h => h) (Or.inr ⟨by rfl, rfl⟩) (by assumption) ?_
            simp only [Act.put, List.setIfInBounds_toArray, List.set_cons_zero, List.set_cons_succ]
            refine wpAnyH_takeD 60 (i := 10) (v := undef) rfl rfl (by kernel_rfl) (by kernel_rfl) (by kernel_rfl) (fun _ _ _ h => h) (Or.inr ⟨by rfl, rfl⟩) (by assumption) ?_
            simp only [Act.put, List.setIfInBounds_toArray, List.set_cons_zero, List.set_cons_succ]
            refine wpAnyH_takeD 61 (i := 11) (v := .bool false) rfl rfl (by kernel_rfl) (by kernel_rfl) (by kernel_rfl) (fun _ _ _ h => h) (Or.inl ⟨by rfl, fun wq hSw => by go_simp⟩) (by assumption) ?_
            simp only [Act.put, List.setIfInBounds_toArray, List.set_cons_zero, List.set_cons_succ]
            refine wpAnyH_done (by kernel_rfl) ?_ _
            clear HW
            have HW := Lib.hid hHeld
            clear hHeld
            go_wp2_with (first
              | (refine wT HW.out.tb rfl _ rfl rfl ?_)
              | (refine wstT HW.out.zb { t with step := 5 } (.slice none 0 0) rfl rfl _ _ rfl rfl rfl ?_; intro w9 hs ho hbl; have HX := Lib.hid hs; have HB9 := Lib.hid (hbl _ _ HW.out.low (by omega)); clear hs ho hbl))
            exact bodyPost_ret (results_write rfl rfl rfl HX.out) rfl ⟨⟨_, by rw [HNO.out], by rw [HNO.out]; exact OwnB.nil_ _ _⟩, HB9.out⟩
          | true =>
            obtain ⟨ln, hln⟩ : ∃ z, lineS (keyOfUser L t.user) t.user t.tree t.ours nn = z := ⟨_, rfl⟩
            have HLN := Lib.hid (show lineS (keyOfUser L t.user) ({ t with step := 5 } : Tk).user ({ t with step := 5 } : Tk).tree ({ t with step := 5 } : Tk).ours nn = ln from hln)
            have HKM := Lib.hid (show (keyOfUser L t.user).size ≤ maxLen from by have := HKZ.out; unfold maxLen; omega)
            obtain ⟨kk, hkk⟩ : ∃ z, keyOfUser L t.user = z := ⟨_, rfl⟩
            rw [hkk] at HLN HKM
            have HKK := Lib.hid hkk
            have hbq := beq_str (ofL s) ln
            by_cases hsame : ofL s = ln
            · have HYES := Lib.hid (show writeS L t l b = ⟨{ t with theirs := nn, step := 3 }, [], b.length, 0⟩ from by rw [HS.out, HHS.out, if_pos ⟨rfl, hsame.trans hln.symm⟩])
              rw [decide_eq_true hsame] at hbq
              clear hsame hln hkk
              refine wp_region_held_drew (S := WS w { t with step := 5 }) (by kernel_rfl) (HW.out.next (below_drew _)) (fun hHeld => ?_)
              generalize w8.drew = wd at hHeld ⊢
              refine wpAnyH_takeD 50 (i := 0) (v := .bool true) rfl rfl (by kernel_rfl) (by kernel_rfl) (by kernel_rfl) (fun _ _ _ h => h) (Or.inl ⟨by rfl, fun wq hSw => by go_simp⟩) (by assumption) ?_
              simp only [Act.put, List.setIfInBounds_toArray, List.set_cons_zero, List.set_cons_succ]
              refine wpAnyH_takeD 51 (i := 1) (v := .bool true) rfl rfl (by kernel_rfl) (by kernel_rfl) (by kernel_rfl) (fun _ _ _ h => h) (Or.inl ⟨by rfl, fun wq hSw => by go_simp⟩) (by assumption) ?_
              simp only [Act.put, List.setIfInBounds_toArray, List.set_cons_zero, List.set_cons_succ]
              refine wpAnyH_takeD 52 (i := 2) (v := .string (ofL s)) rfl rfl (by kernel_rfl) (by kernel_rfl) (by kernel_rfl) (fun _ _ _ h => h) (Or.inl ⟨by rfl, fun wq hSw => by go_simp⟩) (by assumption) ?_
              simp only [Act.put, List.setIfInBounds_toArray, List.set_cons_zero, List.set_cons_succ]
              refine wpAnyH_takeD 53 (i := 3) (v := .pointer (some ⟨g, 0, none⟩)) rfl rfl (by kernel_rfl) (by kernel_rfl) (by kernel_rfl) (fun _ _ _ h => h) (Or.inl ⟨by rfl, fun wq hSw => by go_simp⟩) (by assumption) ?_
              simp only [Act.put, List.setIfInBounds_toArray, List.set_cons_zero, List.set_cons_succ]
              refine wpAnyH_takeD 54 (i := 4) (v := .pointer (some ⟨w.heap.size, 0, none⟩)) rfl rfl (by kernel_rfl) (by kernel_rfl) (by kernel_rfl) (fun _ _ _ h => h) (Or.inl ⟨by rfl, fun wq hSw => by go_simp⟩) (by assumption) ?_
              simp only [Act.put, List.setIfInBounds_toArray, List.set_cons_zero, List.set_cons_succ]
              refine wpAnyH_takeD 55 (i := 5) (v := .string t.user) rfl rfl (by kernel_rfl) (by kernel_rfl) (by kernel_rfl) (fun _ _ _ h => h) (Or.inl ⟨by rfl, fun wq hSw => by have k := hSw.k0; go_simp⟩) (by assumption) ?_
              simp only [Act.put, List.setIfInBounds_toArray, List.set_cons_zero, List.set_cons_succ]
              refine wpAnyH_takeD 57 (i := 7) rfl rfl (by kernel_rfl) (by kernel_rfl) (by kernel_rfl) (fun _ _ _ h => h) (yWT (by rfl) _ rfl rfl) (by assumption) ?_
              simp only [Act.put, List.setIfInBounds_toArray, List.set_cons_zero, List.set_cons_succ]
              refine wpAnyH_takeD 58 (i := 8) (v := .int .u64 (nn : Int)) rfl rfl (by kernel_rfl) (by kernel_rfl) (by kernel_rfl) (fun _ _ _ h => h) (Or.inl ⟨by rfl, fun wq hSw => by go_simp⟩) (by assumption) ?_
              simp only [Act.put, List.setIfInBounds_toArray, List.set_cons_zero, List.set_cons_succ]
              refine wpAnyH_ready (rs := [6]) (by kernel_rfl) (by simp) ?_
              refine AllReadyH.cons rfl (fun K hK => ?_) AllReadyH.nil
              rw [if_pos (by rfl)]
              go_simp
              (with_reducible refine (userKey_calls g L t.user _ (HP0.out.below hHeld.low) HU2.out).mono ?_)
              rw [HKK.out]
              rintro e w3a ⟨rfl, rfl⟩
              dsimp only
              refine hK.out _ _ hHeld (fun hHeld => ?_)
              clear hK
              refine wpAnyH_ready (rs := [9]) (by kernel_rfl) (by simp) ?_
              refine AllReadyH.cons rfl (fun K hK => ?_) AllReadyH.nil
              rw [if_pos (by rfl)]
              go_simp
              (with_reducible refine (answer_calls kk { t with step := 5 } (.slice none 0 0) nn HLT.out _ (HTZ.out.below hHeld.low (Nat.le_refl _)) HKM.out HU.out HTR.out).mono ?_)
              rw [HLN.out]
              rintro e w3b ⟨rfl, hb⟩
              dsimp only
              have hOld := hHeld.next hb
              clear hHeld hb
              refine hK.out _ _ hOld (fun hHeld => ?_)
              clear hK hOld
              refine wpAnyH_takeD 60 (i := 10) (v := .bool true) rfl rfl (by kernel_rfl) (by kernel_rfl) (by kernel_rfl) (fun _ _ _ h => h) (Or.inl ⟨by rfl, fun wq hSw => by go_simp⟩) (by assumption) ?_
              simp only [Act.put, List.setIfInBounds_toArray, List.set_cons_zero, List.set_cons_succ]
              refine wpAnyH_takeD 61 (i := 11) (v := .bool true) rfl rfl (by kernel_rfl) (by kernel_rfl) (by kernel_rfl) (fun _ _ _ h => h) (Or.inl ⟨by rfl, fun wq hSw => by go_simp⟩) (by assumption) ?_
              simp only [Act.put, List.setIfInBounds_toArray, List.set_cons_zero, List.set_cons_succ]
              refine wpAnyH_done (by kernel_rfl) ?_ _
              clear HW
              have HW := Lib.hid hHeld
              generalize hwe : w3b = we at hHeld HW ⊢
              clear hHeld hwe
              have k3 := Blk.cell HW.out.tb 3
              have z3 := Blk.frozen HW.out.tb 3
              have k4 := Blk.cell HW.out.tb 4
              have z4 := Blk.frozen HW.out.tb 4
              go_upto_region 16 with (fail)
              have HT9 := Lib.hid (show TBlk ((we.setCell ⟨w.heap.size, 3, none⟩ (.int .u64 (nn : Int))).setCell ⟨w.heap.size, 4, none⟩ (.int .u8 3)) w.heap.size { t with theirs := (nn : Int), step := 3 } (.slice none 0 0) from Blk.set_ (Blk.set_ HW.out.tb 3 _) 4 _)
              have HZ9 := Lib.hid (show TBlk ((we.setCell ⟨w.heap.size, 3, none⟩ (.int .u64 (nn : Int))).setCell ⟨w.heap.size, 4, none⟩ (.int .u8 3)) (w.heap.size + 1) Tk.none (.slice none 0 0) from Blk.far (Blk.far HW.out.zb (by show w.heap.size + 1 ≠ w.heap.size; omega) _) (by show w.heap.size + 1 ≠ w.heap.size; omega) _)
              have HB9 := Lib.hid ((HW.out.low.setCell (p := ⟨w.heap.size, 3, none⟩) (Nat.le_refl _) (.int .u64 (nn : Int))).setCell (p := ⟨w.heap.size, 4, none⟩) (Nat.le_refl _) (.int .u8 3))
              clear k3 z3 k4 z4
              change Code.wp _ _ _ _ ((we.setCell ⟨w.heap.size, 3, none⟩ (.int .u64 (nn : Int))).setCell ⟨w.heap.size, 4, none⟩ (.int .u8 3))
              generalize (we.setCell ⟨w.heap.size, 3, none⟩ (.int .u64 (nn : Int))).setCell ⟨w.heap.size, 4, none⟩ (.int .u8 3) = w9 at HT9 HZ9 HB9 ⊢
              go_wp2_with (first
                | (refine wT HT9.out rfl _ rfl rfl ?_)
                | (refine wstT HZ9.out { t with theirs := (nn : Int), step := 3 } (.slice none 0 0) rfl rfl _ _ rfl rfl rfl ?_; intro wA hs ho hbl; have HX := Lib.hid hs; have HBA := Lib.hid (hbl _ _ HB9.out (by omega)); clear hs ho hbl))
              exact bodyPost_ret (results_write rfl rfl rfl HX.out) rfl ⟨⟨_, by rw [HYES.out], by rw [HYES.out]; exact OwnB.nil_ _ _⟩, HBA.out⟩
            · have HNO := Lib.hid (show writeS L t l b = ⟨{ t with step := 5 }, [], b.length, 0⟩ from by rw [HS.out, HHS.out, if_neg (fun hh => hsame (hh.2.trans hln))])
              rw [decide_eq_false hsame] at hbq
              clear hsame hln hkk
              refine wp_region_held_drew (S := WS w { t with step := 5 }) (by kernel_rfl) (HW.out.next (below_drew _)) (fun hHeld => ?_)
              generalize w8.drew = wd at hHeld ⊢
              refine wpAnyH_takeD 50 (i := 0) (v := .bool true) rfl rfl (by kernel_rfl) (by kernel_rfl) (by kernel_rfl) (fun _ _ _ h => h) (Or.inl ⟨by rfl, fun wq hSw => by go_simp⟩) (by assumption) ?_
              simp only [Act.put, List.setIfInBounds_toArray, List.set_cons_zero, List.set_cons_succ]
              refine wpAnyH_takeD 51 (i := 1) (v := .bool true) rfl rfl (by kernel_rfl) (by kernel_rfl) (by kernel_rfl) (fun _ _ _ h => h) (Or.inl ⟨by rfl, fun wq hSw => by go_simp⟩) (by assumption) ?_
              simp only [Act.put, List.setIfInBounds_toArray, List.set_cons_zero, List.set_cons_succ]
              refine wpAnyH_takeD 52 (i := 2) (v := .string (ofL s)) rfl rfl (by kernel_rfl) (by kernel_rfl) (by kernel_rfl) (fun _ _ _ h => h) (Or.inl ⟨by rfl, fun wq hSw => by go_simp⟩) (by assumption) ?_
              simp only [Act.put, List.setIfInBounds_toArray, List.set_cons_zero, List.set_cons_succ]
              refine wpAnyH_takeD 53 (i := 3) (v := .pointer (some ⟨g, 0, none⟩)) rfl rfl (by kernel_rfl) (by kernel_rfl) (by kernel_rfl) (fun _ _ _ h => h) (Or.inl ⟨by rfl, fun wq hSw => by go_simp⟩) (by assumption) ?_
              simp only [Act.put, List.setIfInBounds_toArray, List.set_cons_zero, List.set_cons_succ]
              refine wpAnyH_takeD 54 (i := 4) (v := .pointer (some ⟨w.heap.size, 0, none⟩)) rfl rfl (by kernel_rfl) (by kernel_rfl) (by kernel_rfl) (fun _ _ _ h => h) (Or.inl ⟨by rfl, fun wq hSw => by go_simp⟩) (by assumption) ?_
              simp only [Act.put, List.setIfInBounds_toArray, List.set_cons_zero, List.set_cons_succ]
              refine wpAnyH_takeD 55 (i := 5) (v := .string t.user) rfl rfl (by kernel_rfl) (by kernel_rfl) (by kernel_rfl) (fun _ _ _ h => h) (Or.inl ⟨by rfl, fun wq hSw => by have k := hSw.k0; go_simp⟩) (by assumption) ?_
              simp only [Act.put, List.setIfInBounds_toArray, List.set_cons_zero, List.set_cons_succ]
              refine wpAnyH_takeD 57 (i := 7) rfl rfl (by kernel_rfl) (by kernel_rfl) (by kernel_rfl) (fun _ _ _ h => h) (yWT (by rfl) _ rfl rfl) (by assumption) ?_
              simp only [Act.put, List.setIfInBounds_toArray, List.set_cons_zero, List.set_cons_succ]
              refine wpAnyH_takeD 58 (i := 8) (v := .int .u64 (nn : Int)) rfl rfl (by kernel_rfl) (by kernel_rfl) (by kernel_rfl) (fun _ _ _ h => h) (Or.inl ⟨by rfl, fun wq hSw => by go_simp⟩) (by assumption) ?_
              simp only [Act.put, List.setIfInBounds_toArray, List.set_cons_zero, List.set_cons_succ]
              refine wpAnyH_ready (rs := [6]) (by kernel_rfl) (by simp) ?_
              refine AllReadyH.cons rfl (fun K hK => ?_) AllReadyH.nil
              rw [if_pos (by rfl)]
              go_simp
              (with_reducible refine (userKey_calls g L t.user _ (HP0.out.below hHeld.low) HU2.out).mono ?_)
              rw [HKK.out]
              rintro e w3a ⟨rfl, rfl⟩
              dsimp only
              refine hK.out _ _ hHeld (fun hHeld => ?_)
              clear hK
              refine wpAnyH_ready (rs := [9]) (by kernel_rfl) (by simp) ?_
              refine AllReadyH.cons rfl (fun K hK => ?_) AllReadyH.nil
              rw [if_pos (by rfl)]
              go_simp
              (with_reducible refine (answer_calls kk { t with step := 5 } (.slice none 0 0) nn HLT.out _ (HTZ.out.below hHeld.low (Nat.le_refl _)) HKM.out HU.out HTR.out).mono ?_)
              rw [HLN.out]
              rintro e w3b ⟨rfl, hb⟩
              dsimp only
              have hOld := hHeld.next hb
              clear hHeld hb
              refine hK.out _ _ hOld (fun hHeld => ?_)
              clear hK hOld
              refine wpAnyH_takeD 60 (i := 10) (v := .bool false) rfl rfl (by kernel_rfl) (by kernel_rfl) (by kernel_rfl) (fun _ _ _ h => h) (Or.inl ⟨by rfl, fun wq hSw => by go_simp⟩) (by assumption) ?_
              simp only [Act.put, List.setIfInBounds_toArray, List.set_cons_zero, List.set_cons_succ]
              refine wpAnyH_takeD 61 (i := 11) (v := .bool false) rfl rfl (by kernel_rfl) (by kernel_rfl) (by kernel_rfl) (fun _ _ _ h => h) (Or.inl ⟨by rfl, fun wq hSw => by go_simp⟩) (by assumption) ?_
              simp only [Act.put, List.setIfInBounds_toArray, List.set_cons_zero, List.set_cons_succ]
              refine wpAnyH_done (by kernel_rfl) ?_ _
              clear HW
              have HW := Lib.hid hHeld
              clear hHeld
              go_wp2_with (first
                | (refine wT HW.out.tb rfl _ rfl rfl ?_)
                | (refine wstT HW.out.zb { t with step := 5 } (.slice none 0 0) rfl rfl _ _ rfl rfl rfl ?_; intro w9 hs ho hbl; have HX := Lib.hid hs; have HB9 := Lib.hid (hbl _ _ HW.out.low (by omega)); clear hs ho hbl))
              exact bodyPost_ret (results_write rfl rfl rfl HX.out) rfl ⟨⟨_, by rw [HNO.out], by rw [HNO.out]; exact OwnB.nil_ _ _⟩, HB9.out⟩
        · have HS := Lib.hid (HWS.out.trans (if_neg he33))
          have hq : ((l.length : Int) + (b.length : Int) == 33) = false := by rw [beq_eq_false_iff_ne]; omega
          go_wp2_with (first
            | (refine wT HT6.out rfl _ rfl rfl ?_)
            | (refine wstT HZ6.out t (.slice A3 (l.length + b.length) c3) rfl rfl _ _ rfl rfl rfl ?_; intro w7 hs ho hbl; have HX := Lib.hid hs; have HB7 := Lib.hid (hbl _ _ HB6.out (by omega)); have HO7 := Lib.hid (own_other HO6.out HOZ3.out ho); clear hs ho hbl))
          exact bodyPost_ret (results_write rfl rfl rfl HX.out) rfl ⟨⟨_, by rw [HS.out], by rw [HS.out]; exact (OwnB.of_own HO7.out).more (by omega)⟩, HB7.out⟩
end Go.Proofs.YtlenlldiimohjaaGreatDoor
namespace Go.Proofs.YtlenlldiimohjaaGreatDoor
open Go.RowKit

theorem results_rwrite {tmps : Array Value} {w : World} {q : Nat} {t : Tk} {hv : Value} {n e : Int} (h6 : tmps.getD 6 undef = .pointer (some ⟨q, 0, none⟩)) (h7 : tmps.getD 7 undef = .int .i64 n) (h8 : tmps.getD 8 undef = .int .i64 e) (hk : TBlk w q t hv) :
    (results Tryz.f129 tmps).run Tryz.prog w = .ok (.tuple #[talkV t hv, .int .i64 n, .int .i64 e]) w := by
  have h6' : tmps[6]?.getD undef = .pointer (some ⟨q, 0, none⟩) := by simpa using h6
  have h7' : tmps[7]?.getD undef = .int .i64 n := by simpa using h7
  have h8' : tmps[8]?.getD undef = .int .i64 e := by simpa using h8
  simp [results, Tryz.results129, h6', h7', h8', asAddr, loadVar_talk hk]
set_option maxRecDepth 100000 in
set_option maxHeartbeats 12800000 in
theorem refWrite_calls (g : Nat) (L : List Acct) (t : Tk) (hv bv : Value) (l b : List UInt8) (w : World) (hp : RTab w g L) (h : Bys w w.heap.size hv l) (hb : Bys w w.heap.size bv b) (hl : l.length ≤ 33) (hbl : b.length ≤ 268435456)
    (hu : t.user.size ≤ 268435456) (ht : t.tree.size ≤ 268435456) (hk : (keyOfUser L t.user).size ≤ 32) :
    Calls Tryz.prog 129 #[.pointer (some ⟨g, 0, none⟩), talkV t hv, bv] w fun e w' => (∃ hu, e = .returned (.tuple #[talkV (writeS L t l b).t hu, .int .i64 (writeS L t l b).n, .int .i64 (writeS L t l b).e]) ∧ OwnB w' w.heap.size hu (writeS L t l b).h) ∧ Below w.heap.size w w' := by
  have HP0 := Lib.hid hp
  have HH := Lib.hid h
  obtain ⟨A, cap, rfl, -⟩ := h
  obtain ⟨bA, bc, rfl, -, -, hbr⟩ := hb
  have HBR := Lib.hid hbr
  obtain ⟨i0, hi0, hz0, hz1, hz2⟩ := info_parts u8_info
  have HI := Lib.hid hi0; clear hi0
  have HZ0 := Lib.hid hz0; clear hz0
  have HZ1 := Lib.hid hz1; clear hz1
  have HZ2 := Lib.hid hz2; clear hz2
  have HKZ := Lib.hid (show (keyOfUser L t.user).size ≤ maxLen from by unfold maxLen; omega)
  have HU := Lib.hid (show t.user.size ≤ maxLen from by unfold maxLen; omega)
  have HTR := Lib.hid (show t.tree.size ≤ maxLen from by unfold maxLen; omega)
  have HLL := Lib.hid hl
  clear hp hk hu ht hbr
  have HB := Lib.hid (show Below w.heap.size w (((w.alloc (Obj.cells #[.string t.user, .string t.tree, .int .u64 t.ours, .int .u64 t.theirs, .int .u8 t.step, .int .i64 t.said, .slice A l.length cap] 54)).alloc (Obj.cells #[.string ⟨#[]⟩, .string ⟨#[]⟩, .int .u64 0, .int .u64 0, .int .u8 0, .int .i64 0, .slice none 0 0] 54)).alloc (Obj.cells #[.string ⟨#[]⟩, .string ⟨#[]⟩, .int .u64 0, .int .u64 0, .int .u8 0, .int .i64 0, .slice none 0 0] 54)) from (((Below.refl _ _).alloc (Nat.le_refl _) _).alloc (by simp) _).alloc (by simp; omega) _)
  have HT := Lib.hid (show TBlk (((w.alloc (Obj.cells #[.string t.user, .string t.tree, .int .u64 t.ours, .int .u64 t.theirs, .int .u8 t.step, .int .i64 t.said, .slice A l.length cap] 54)).alloc (Obj.cells #[.string ⟨#[]⟩, .string ⟨#[]⟩, .int .u64 0, .int .u64 0, .int .u8 0, .int .i64 0, .slice none 0 0] 54)).alloc (Obj.cells #[.string ⟨#[]⟩, .string ⟨#[]⟩, .int .u64 0, .int .u64 0, .int .u8 0, .int .i64 0, .slice none 0 0] 54)) w.heap.size t (.slice A l.length cap) from Blk.alloc (Blk.alloc (Blk.new w _ (talkL t (.slice A l.length cap)).toArray) _) _)
  have HZ := Lib.hid (show TBlk (((w.alloc (Obj.cells #[.string t.user, .string t.tree, .int .u64 t.ours, .int .u64 t.theirs, .int .u8 t.step, .int .i64 t.said, .slice A l.length cap] 54)).alloc (Obj.cells #[.string ⟨#[]⟩, .string ⟨#[]⟩, .int .u64 0, .int .u64 0, .int .u8 0, .int .i64 0, .slice none 0 0] 54)).alloc (Obj.cells #[.string ⟨#[]⟩, .string ⟨#[]⟩, .int .u64 0, .int .u64 0, .int .u8 0, .int .i64 0, .slice none 0 0] 54)) (w.heap.size + 1) Tk.none (.slice none 0 0) from by
    have h := TBlk.zero (w.alloc (Obj.cells (talkL t (.slice A l.length cap)).toArray 54))
    simp only [World.size_alloc] at h
    exact Blk.alloc h _)
  have HN := Lib.hid (show TBlk (((w.alloc (Obj.cells #[.string t.user, .string t.tree, .int .u64 t.ours, .int .u64 t.theirs, .int .u8 t.step, .int .i64 t.said, .slice A l.length cap] 54)).alloc (Obj.cells #[.string ⟨#[]⟩, .string ⟨#[]⟩, .int .u64 0, .int .u64 0, .int .u8 0, .int .i64 0, .slice none 0 0] 54)).alloc (Obj.cells #[.string ⟨#[]⟩, .string ⟨#[]⟩, .int .u64 0, .int .u64 0, .int .u8 0, .int .i64 0, .slice none 0 0] 54)) (w.heap.size + 1 + 1) Tk.none (.slice none 0 0) from by
    have h := TBlk.zero ((w.alloc (Obj.cells (talkL t (.slice A l.length cap)).toArray 54)).alloc (Obj.cells #[.string ⟨#[]⟩, .string ⟨#[]⟩, .int .u64 0, .int .u64 0, .int .u8 0, .int .i64 0, .slice none 0 0] 54))
    simp only [World.size_alloc] at h
    exact h)
  go_enter Tryz.func129, Tryz.ntmps129
  go_upto_region 2 with (fail)
  generalize ((w.alloc (Obj.cells #[.string t.user, .string t.tree, .int .u64 t.ours, .int .u64 t.theirs, .int .u8 t.step, .int .i64 t.said, .slice A l.length cap] 54)).alloc (Obj.cells #[.string ⟨#[]⟩, .string ⟨#[]⟩, .int .u64 0, .int .u64 0, .int .u8 0, .int .i64 0, .slice none 0 0] 54)).alloc (Obj.cells #[.string ⟨#[]⟩, .string ⟨#[]⟩, .int .u64 0, .int .u64 0, .int .u8 0, .int .i64 0, .slice none 0 0] 54) = w1 at HB HT HZ HN ⊢
  have HHL := Lib.hid ((HH.out.below HB.out).more HB.out.size)
  obtain ⟨b4, h4⟩ : ∃ b, w.heap.size = b := ⟨_, rfl⟩
  obtain ⟨b6, h6⟩ : ∃ b, w.heap.size + 1 = b := ⟨_, rfl⟩
  obtain ⟨b9, h9⟩ : ∃ b, w.heap.size + 1 + 1 = b := ⟨_, rfl⟩
  rw [h9] at HN
  rw [h6] at HZ
  have i64 : b4 < b6 := by omega
  have i69 : b6 < b9 := by omega
  rw [h9, h6, h4]
  rw [h4] at HT HB
  have H4 := Lib.hid h4
  have HBB := Lib.hid (show b4 ≤ w.heap.size from Nat.le_of_eq h4.symm)
  have HW1 := Lib.hid (show b4 ≤ w1.heap.size from Nat.le_trans HBB.out HB.out.size)
  clear h4 h6 h9
  go_upto_region 3 with (first
    | (refine wT HT.out rfl _ rfl rfl ?_)
    | (go_at_call 126; (with_reducible refine (refOwn_calls t _ l _ HHL.out HLL.out).mono ?_); rintro e w2 ⟨⟨hu2, rfl, hown⟩, hb⟩; obtain ⟨A2, c2, rfl, -⟩ := Bys.of_own hown; have HO1 := Lib.hid hown; have HT1 := Lib.hid (HT.out.below hb); have HZ1 := Lib.hid (HZ.out.below hb); have HN1 := Lib.hid (HN.out.below hb); have HB1 := Lib.hid (below_next HB.out HBB.out hb); have hsz2 := hb.size; clear hown hb)
    | (refine wstT HT1.out t (.slice A2 l.length c2) rfl rfl _ _ rfl rfl rfl ?_; intro w3 hs ho hbl; have HT3 := Lib.hid hs; have HZ3 := Lib.hid (show TBlk w3 b6 Tk.none (.slice none 0 0) from (ho b6 (by omega)).trans HZ1.out); have HN3 := Lib.hid (show TBlk w3 b9 Tk.none (.slice none 0 0) from (ho b9 (by omega)).trans HN1.out); have HB3 := Lib.hid (hbl _ _ HB1.out (Nat.le_refl _)); have HO3 := Lib.hid (own_other HO1.out (own_blk_ne HO1.out HT1.out (by decide)) ho); have hsz3 := (hbl 0 _ (Below.refl _ _) (Nat.zero_le _)).size; clear hs ho hbl))
  have HNW := Lib.hid (Nat.le_trans hsz2 hsz3)
  clear HT HZ HN HB HT1 HZ1 HN1 HB1 HO1 HHL hsz2 hsz3
  obtain ⟨nb, hnb⟩ : ∃ n, w1.heap.size = n := ⟨_, rfl⟩
  rw [hnb] at HO3 HNW HW1
  clear hnb
  have k4 : w3.cell? ⟨b4, 4, none⟩ = some (.int .u8 t.step) := Blk.cell HT3.out 4
  cases h1 : (t.step == 1) with
  | true =>
    have HS := Lib.hid (show writeS L t l b = ⟨Tk.none, [], 0, 70⟩ from by unfold writeS; rw [if_pos (by simpa using h1)])
    go_wp2_with (first
      | (refine wT HN3.out rfl _ rfl rfl ?_)
      | (refine wstT HZ3.out Tk.none (.slice none 0 0) rfl rfl _ _ rfl rfl rfl ?_; intro w4 hs ho hbl; have HX := Lib.hid hs; have HB4 := Lib.hid (hbl _ _ HB3.out (by omega)); clear hs ho hbl))
    exact bodyPost_ret (results_rwrite rfl rfl rfl HX.out) rfl ⟨⟨_, by rw [HS.out], by rw [HS.out]; exact OwnB.nil_ _ _⟩, by rw [H4.out]; exact HB4.out⟩
  | false =>
    have n1 : ¬ t.step = 1 := by simpa using h1
    cases h2 : (t.step != 2) with
    | true =>
      have HS := Lib.hid (show writeS L t l b = ⟨Tk.none, [], 0, 71⟩ from by unfold writeS; rw [if_neg n1, if_pos (by simpa using h2)])
      go_wp2_with (first
        | (refine wT HN3.out rfl _ rfl rfl ?_)
        | (refine wstT HZ3.out Tk.none (.slice none 0 0) rfl rfl _ _ rfl rfl rfl ?_; intro w4 hs ho hbl; have HX := Lib.hid hs; have HB4 := Lib.hid (hbl _ _ HB3.out (by omega)); clear hs ho hbl))
      exact bodyPost_ret (results_rwrite rfl rfl rfl HX.out) rfl ⟨⟨_, by rw [HS.out], by rw [HS.out]; exact OwnB.nil_ _ _⟩, by rw [H4.out]; exact HB4.out⟩
    | false =>
      have n2 : t.step = 2 := by simpa using h2
      have k6 : w3.cell? ⟨b4, 6, none⟩ = some (.slice A2 l.length c2) := Blk.cell HT3.out 6
      by_cases h33 : 33 < l.length + b.length
      · have h33' : (33 : Int) < (l.length : Int) + (b.length : Int) := by omega
        have HS := Lib.hid (show writeS L t l b = ⟨Tk.none, [], 0, 70⟩ from by unfold writeS; rw [if_neg n1, if_neg (by rw [n2]; decide), if_pos h33])
        go_wp2_with (first
          | (refine wT HN3.out rfl _ rfl rfl ?_)
          | (refine wstT HZ3.out Tk.none (.slice none 0 0) rfl rfl _ _ rfl rfl rfl ?_; intro w4 hs ho hbl; have HX := Lib.hid hs; have HB4 := Lib.hid (hbl _ _ HB3.out (by omega)); clear hs ho hbl))
        exact bodyPost_ret (results_rwrite rfl rfl rfl HX.out) rfl ⟨⟨_, by rw [HS.out], by rw [HS.out]; exact OwnB.nil_ _ _⟩, by rw [H4.out]; exact HB4.out⟩
      · have h33' : ¬ (33 : Int) < (l.length : Int) + (b.length : Int) := by omega
        have HWS := Lib.hid (show writeS L t l b = if l.length + b.length = 33 then heardS L t (l ++ b) b.length else ⟨t, l ++ b, b.length, 0⟩ from by unfold writeS; rw [if_neg n1, if_neg (by rw [n2]; decide), if_neg h33])
        clear n1 n2
        go_upto_region 9 with (fail)
        clear k4 h1 h2
        have HBX := Lib.hid (show Reads w3 b4 1 bA b.length (byteL b) from by rw [← H4.out]; exact HBR.out.below (by rw [H4.out]; exact HB3.out))
        go_upto_region 10 with (at_builtin; refine wpList_append_any _ rfl (.tmp 33) (.tmp 34) _ rfl nb 5 i0 _ 1 1 Tryz.underlying47 HI.out HZ0.out HZ1.out HZ2.out rfl (by omega) (.slice A2 l.length c2) l.length (byteL l) rfl HO3.out b4 bA b.length bc (byteL b) rfl HBX.out (byteL_one b) (by unfold maxLen; omega) (by omega) HNW.out ?_; intro v2 w5 hown0 hgr hor; have hown : w5.ownsRow nb 5 1 v2 (l ++ b).length (byteL (l ++ b)) := (by have h := hown0; rw [← List.map_append] at h; rw [List.length_append]; exact h); clear hown0; obtain ⟨A3, c3, rfl, -⟩ := Bys.of_own hown; have HO5 := Lib.hid hown; have HT5 := Lib.hid (Blk.grown HT3.out hgr (fun hh => own_blk_ne HO3.out HT3.out (by decide) hh.symm)); have HZ5 := Lib.hid (Blk.grown HZ3.out hgr (fun hh => own_blk_ne HO3.out HZ3.out (by decide) hh.symm)); have HB5 := Lib.hid (HB3.out.grown hgr (Nat.le_trans HBB.out HB3.out.size) (fun k hk => Nat.le_trans HW1.out (HO3.out.lt k hk).1)); clear k6 hown hgr hor; have k6 := Blk.cell HT5.out 6; have z6 := Blk.frozen HT5.out 6)
        have hlen : (l ++ b).length = l.length + b.length := List.length_append
        rw [hlen] at HO5
        have HO6 := Lib.hid (own_other HO5.out (own_blk_ne HO5.out HT5.out (by decide)) (setCell_other w5 b4 6 (.slice A3 (l.length + b.length) c3)))
        have HT6 := Lib.hid (show TBlk (w5.setCell ⟨b4, 6, none⟩ (.slice A3 (l.length + b.length) c3)) b4 t (.slice A3 (l.length + b.length) c3) from Blk.set_ HT5.out 6 _)
        have HZ6 := Lib.hid (show TBlk (w5.setCell ⟨b4, 6, none⟩ (.slice A3 (l.length + b.length) c3)) b6 Tk.none (.slice none 0 0) from Blk.far HZ5.out (by show b6 ≠ b4; omega) _)
        have HB6 := Lib.hid (HB5.out.setCell (p := ⟨b4, 6, none⟩) (Nat.le_refl _) (.slice A3 (l.length + b.length) c3))
        clear k6 z6
        change Code.wp _ _ _ _ (w5.setCell ⟨b4, 6, none⟩ (.slice A3 (l.length + b.length) c3))
        generalize w5.setCell ⟨b4, 6, none⟩ (.slice A3 (l.length + b.length) c3) = w6 at HO6 HT6 HZ6 HB6 ⊢
        have k6 : w6.cell? ⟨b4, 6, none⟩ = some (.slice A3 (l.length + b.length) c3) := Blk.cell HT6.out 6
        by_cases he33 : l.length + b.length < 33
        · have hq : (l.length : Int) + (b.length : Int) < 33 := by omega
          have HS := Lib.hid (HWS.out.trans (if_neg (by omega)))
          clear h33 h33' he33
          go_wp2_with (first
            | (refine wT HT6.out rfl _ rfl rfl ?_)
            | (refine wstT HZ6.out t (.slice A3 (l.length + b.length) c3) rfl rfl _ _ rfl rfl rfl ?_; intro w7 hs ho hbl; have HX := Lib.hid hs; have HB7 := Lib.hid (hbl _ _ HB6.out (by omega)); have HO7 := Lib.hid (own_other HO6.out (own_blk_ne HO6.out HZ6.out (by decide)) ho); clear hs ho hbl))
          exact bodyPost_ret (results_rwrite rfl rfl rfl HX.out) rfl ⟨⟨_, by rw [HS.out], by rw [HS.out]; exact (OwnB.of_own HO7.out).more (by rw [H4.out]; exact HW1.out)⟩, by rw [H4.out]; exact HB7.out⟩
        · have he : l.length + b.length = 33 := by omega
          have HS := Lib.hid (HWS.out.trans (if_pos he))
          have HLS := Lib.hid (show (l ++ b).length = 33 from hlen.trans he)
          rw [he] at k6 HT6 HO6
          clear he he33 hlen h33 h33'
          generalize hll : l ++ b = s at HS HLS HO6
          clear hll
          go_upto_region 12 with (fail)
          have hconv : (convert 47 9 (.slice A3 33 c3)).run Tryz.prog w6 = .ok (.string (ofL s)) w6 := conv_any (Bys.of_own HO6.out)
          go_upto_region 13 with (fail)
          clear hconv k6
          have k6 := Blk.cell HT6.out 6
          have z6 := Blk.frozen HT6.out 6
          go_upto_region 14 with (fail)
          have HT7 := Lib.hid (show TBlk (w6.setCell ⟨b4, 6, none⟩ (.slice none 0 0)) b4 t (.slice none 0 0) from Blk.set_ HT6.out 6 _)
          have HZ7 := Lib.hid (show TBlk (w6.setCell ⟨b4, 6, none⟩ (.slice none 0 0)) b6 Tk.none (.slice none 0 0) from Blk.far HZ6.out (by show b6 ≠ b4; omega) _)
          have HB7 := Lib.hid (HB6.out.setCell (p := ⟨b4, 6, none⟩) (Nat.le_refl _) (.slice none 0 0))
          clear k6 z6 HT6 HZ6 HB6 HO6 HO5 HT5 HZ5 HB5
          change Code.wp _ _ _ _ (w6.setCell ⟨b4, 6, none⟩ (.slice none 0 0))
          generalize w6.setCell ⟨b4, 6, none⟩ (.slice none 0 0) = w7 at HT7 HZ7 HB7 ⊢
          have hsz : (ofL s).size = 33 := by
            show s.toArray.size = 33
            rw [List.size_toArray]
            exact HLS.out
          have hs16 : (ofL (s.take 16)).size = 16 := by
            show (s.take 16).toArray.size = 16
            rw [List.size_toArray, List.length_take, HLS.out]
            rfl
          obtain ⟨nn, ok, hns⟩ : ∃ a b, rnumS (ofL (s.take 16)) = (a, b) := ⟨_, _, rfl⟩
          have hrn := rnum_num hs16
          have hlt := rnum_lt (ofL (s.take 16)) (Nat.le_of_eq hs16)
          rw [hns] at hrn hlt
          have HS16 := Lib.hid (Nat.le_of_eq hs16)
          have HNS := Lib.hid hns
          have HRN := Lib.hid hrn
          have HLT := Lib.hid (show nn < 18446744073709551616 from hlt)
          have HHS := Lib.hid (show heardS L t s b.length = if ok = true ∧ ofL s = lineS (keyOfUser L t.user) t.user t.tree t.ours nn then ⟨{ t with theirs := nn, step := 3 }, [], b.length, 0⟩ else ⟨{ t with step := 5 }, [], b.length, 0⟩ from by
            unfold heardS
            rw [← hrn.1]
            by_cases hok : ok = true
            · have h1 : nn = (numS (ofL (s.take 16))).1 := hrn.2 (hrn.1.symm.trans hok)
              rw [← h1]
            · rw [if_neg (fun hh => hok hh.1), if_neg (fun hh => hok hh.1)])
          clear hns hrn hlt hs16
          have HEX := Lib.hid (take16 s)
          go_upto_region 15 with (go_at_call 153; rw [HEX.out]; (with_reducible refine (refNumber_calls (ofL (s.take 16)) HS16.out _).mono ?_); rw [HNS.out]; rintro e w8 ⟨rfl, rfl⟩)
          have k0 : w7.cell? ⟨b4, 0, none⟩ = some (.string t.user) := Blk.cell HT7.out 0
          have k1 : w7.cell? ⟨b4, 1, none⟩ = some (.string t.tree) := Blk.cell HT7.out 1
          have k2 : w7.cell? ⟨b4, 2, none⟩ = some (.int .u64 t.ours) := Blk.cell HT7.out 2
          obtain ⟨kk, hkk⟩ : ∃ z, keyOfUser L t.user = z := ⟨_, rfl⟩
          have HKK := Lib.hid hkk
          have HKM := Lib.hid (show kk.size ≤ maxLen from by rw [← hkk]; exact HKZ.out)
          rw [hkk] at HHS
          clear hkk
          have HPR := Lib.hid (HP0.out.below (show Below w.heap.size w w7 from by rw [H4.out]; exact HB7.out))
          try dsimp only
          cases ok with
          | false =>
            have HNO := Lib.hid (show writeS L t l b = ⟨{ t with step := 5 }, [], b.length, 0⟩ from by rw [HS.out, HHS.out, if_neg (fun hh => by cases hh.1)])
            go_upto_region 17 with (go_at_call 52; (with_reducible refine (refUserKey_calls g L t.user _ HPR.out).mono ?_); rw [HKK.out]; rintro e w8 ⟨rfl, rfl⟩)
            clear k0 k1 k2
            have k4 := Blk.cell HT7.out 4
            have z4 := Blk.frozen HT7.out 4
            go_upto_region 18 with (fail)
            have HT9 := Lib.hid (show TBlk (w7.setCell ⟨b4, 4, none⟩ (.int .u8 5)) b4 { t with step := 5 } (.slice none 0 0) from Blk.set_ HT7.out 4 _)
            have HZ9 := Lib.hid (show TBlk (w7.setCell ⟨b4, 4, none⟩ (.int .u8 5)) b6 Tk.none (.slice none 0 0) from Blk.far HZ7.out (by show b6 ≠ b4; omega) _)
            have HB9 := Lib.hid (HB7.out.setCell (p := ⟨b4, 4, none⟩) (Nat.le_refl _) (.int .u8 5))
            clear k4 z4
            change Code.wp _ _ _ _ (w7.setCell ⟨b4, 4, none⟩ (.int .u8 5))
            generalize w7.setCell ⟨b4, 4, none⟩ (.int .u8 5) = w9 at HT9 HZ9 HB9 ⊢
            go_wp2_with (first
              | (refine wT HT9.out rfl _ rfl rfl ?_)
              | (refine wstT HZ9.out { t with step := 5 } (.slice none 0 0) rfl rfl _ _ rfl rfl rfl ?_; intro wA hs ho hbl; have HX := Lib.hid hs; have HBA := Lib.hid (hbl _ _ HB9.out (by omega)); clear hs ho hbl))
            exact bodyPost_ret (results_rwrite rfl rfl rfl HX.out) rfl ⟨⟨_, by rw [HNO.out], by rw [HNO.out]; exact OwnB.nil_ _ _⟩, by rw [H4.out]; exact HBA.out⟩
          | true =>
            obtain ⟨ln, hln⟩ : ∃ z, lineS kk t.user t.tree t.ours nn = z := ⟨_, rfl⟩
            have HLN := Lib.hid hln
            have hbq := beq_str (ofL s) ln
            by_cases hsame : ofL s = ln
            · have HYES := Lib.hid (show writeS L t l b = ⟨{ t with theirs := nn, step := 3 }, [], b.length, 0⟩ from by rw [HS.out, HHS.out, if_pos ⟨rfl, hsame.trans hln.symm⟩])
              rw [decide_eq_true hsame] at hbq
              clear hsame hln
              have hbn : ((ofL s).toList != ln.toList) = false := by rw [bne, hbq]; rfl
              go_upto_region 19 with (first
                | (go_at_call 52; (with_reducible refine (refUserKey_calls g L t.user _ HPR.out).mono ?_); rw [HKK.out]; rintro e w8 ⟨rfl, rfl⟩)
                | (go_at_call 15; (with_reducible refine (authLine_calls kk t.user t.tree t.ours nn HLT.out _ HKM.out HU.out HTR.out).mono ?_); rw [HLN.out]; rintro e w8 ⟨rfl, hb⟩; have HT8 := Lib.hid (HT7.out.below hb); have HZ8 := Lib.hid (HZ7.out.below hb); have HB8 := Lib.hid (below_next HB7.out HBB.out hb); clear hb))
              clear k0 k1 k2 hbq hbn
              have k3 := Blk.cell HT8.out 3
              have z3 := Blk.frozen HT8.out 3
              have k4 : (w8.setCell ⟨b4, 3, none⟩ (.int .u64 (nn : Int))).cell? ⟨b4, 4, none⟩ = some (.int .u8 t.step) := Blk.cell (Blk.set_ HT8.out 3 (.int .u64 (nn : Int))) 4
              have z4 : (w8.setCell ⟨b4, 3, none⟩ (.int .u64 (nn : Int))).frozen? ⟨b4, 4, none⟩ = false := Blk.frozen (Blk.set_ HT8.out 3 (.int .u64 (nn : Int))) 4
              go_upto_region 21 with (fail)
              have HT9 := Lib.hid (show TBlk ((w8.setCell ⟨b4, 3, none⟩ (.int .u64 (nn : Int))).setCell ⟨b4, 4, none⟩ (.int .u8 3)) b4 { t with theirs := (nn : Int), step := 3 } (.slice none 0 0) from Blk.set_ (Blk.set_ HT8.out 3 _) 4 _)
              have HZ9 := Lib.hid (show TBlk ((w8.setCell ⟨b4, 3, none⟩ (.int .u64 (nn : Int))).setCell ⟨b4, 4, none⟩ (.int .u8 3)) b6 Tk.none (.slice none 0 0) from Blk.far (Blk.far HZ8.out (by show b6 ≠ b4; omega) _) (by show b6 ≠ b4; omega) _)
              have HB9 := Lib.hid ((HB8.out.setCell (p := ⟨b4, 3, none⟩) (Nat.le_refl _) (.int .u64 (nn : Int))).setCell (p := ⟨b4, 4, none⟩) (Nat.le_refl _) (.int .u8 3))
              clear k3 z3 k4 z4
              change Code.wp _ _ _ _ ((w8.setCell ⟨b4, 3, none⟩ (.int .u64 (nn : Int))).setCell ⟨b4, 4, none⟩ (.int .u8 3))
              generalize (w8.setCell ⟨b4, 3, none⟩ (.int .u64 (nn : Int))).setCell ⟨b4, 4, none⟩ (.int .u8 3) = w9 at HT9 HZ9 HB9 ⊢
              go_wp2_with (first
                | (refine wT HT9.out rfl _ rfl rfl ?_)
                | (refine wstT HZ9.out { t with theirs := (nn : Int), step := 3 } (.slice none 0 0) rfl rfl _ _ rfl rfl rfl ?_; intro wA hs ho hbl; have HX := Lib.hid hs; have HBA := Lib.hid (hbl _ _ HB9.out (by omega)); clear hs ho hbl))
              exact bodyPost_ret (results_rwrite rfl rfl rfl HX.out) rfl ⟨⟨_, by rw [HYES.out], by rw [HYES.out]; exact OwnB.nil_ _ _⟩, by rw [H4.out]; exact HBA.out⟩
            · have HNO := Lib.hid (show writeS L t l b = ⟨{ t with step := 5 }, [], b.length, 0⟩ from by rw [HS.out, HHS.out, if_neg (fun hh => hsame (hh.2.trans hln))])
              rw [decide_eq_false hsame] at hbq
              clear hsame hln
              have hbn : ((ofL s).toList != ln.toList) = true := by rw [bne, hbq]; rfl
              go_upto_region 17 with (first
                | (go_at_call 52; (with_reducible refine (refUserKey_calls g L t.user _ HPR.out).mono ?_); rw [HKK.out]; rintro e w8 ⟨rfl, rfl⟩)
                | (go_at_call 15; (with_reducible refine (authLine_calls kk t.user t.tree t.ours nn HLT.out _ HKM.out HU.out HTR.out).mono ?_); rw [HLN.out]; rintro e w8 ⟨rfl, hb⟩; have HT8 := Lib.hid (HT7.out.below hb); have HZ8 := Lib.hid (HZ7.out.below hb); have HB8 := Lib.hid (below_next HB7.out HBB.out hb); clear hb))
              clear k0 k1 k2 hbq hbn
              have k4 := Blk.cell HT8.out 4
              have z4 := Blk.frozen HT8.out 4
              go_upto_region 18 with (fail)
              have HT9 := Lib.hid (show TBlk (w8.setCell ⟨b4, 4, none⟩ (.int .u8 5)) b4 { t with step := 5 } (.slice none 0 0) from Blk.set_ HT8.out 4 _)
              have HZ9 := Lib.hid (show TBlk (w8.setCell ⟨b4, 4, none⟩ (.int .u8 5)) b6 Tk.none (.slice none 0 0) from Blk.far HZ8.out (by show b6 ≠ b4; omega) _)
              have HB9 := Lib.hid (HB8.out.setCell (p := ⟨b4, 4, none⟩) (Nat.le_refl _) (.int .u8 5))
              clear k4 z4
              change Code.wp _ _ _ _ (w8.setCell ⟨b4, 4, none⟩ (.int .u8 5))
              generalize w8.setCell ⟨b4, 4, none⟩ (.int .u8 5) = w9 at HT9 HZ9 HB9 ⊢
              go_wp2_with (first
                | (refine wT HT9.out rfl _ rfl rfl ?_)
                | (refine wstT HZ9.out { t with step := 5 } (.slice none 0 0) rfl rfl _ _ rfl rfl rfl ?_; intro wA hs ho hbl; have HX := Lib.hid hs; have HBA := Lib.hid (hbl _ _ HB9.out (by omega)); clear hs ho hbl))
              exact bodyPost_ret (results_rwrite rfl rfl rfl HX.out) rfl ⟨⟨_, by rw [HNO.out], by rw [HNO.out]; exact OwnB.nil_ _ _⟩, by rw [H4.out]; exact HBA.out⟩
end Go.Proofs.YtlenlldiimohjaaGreatDoor
