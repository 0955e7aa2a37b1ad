
/-
  auth.Read. Condition: math/bits' table (TZ).
-/
import Derived.Test.YtlenlldiimohjaaGreatDoorAWrite
import Derived.Lib.MinMax
namespace Go.Proofs.YtlenlldiimohjaaGreatDoor
open Go.RowKit

theorem own_other_b {w w' : World} {base n : Nat} {e : TypeId} {size : Nat} {v : Value} {xs : List Value} (h : w.ownsRow base e size v n xs) (hb : Below w.heap.size w w') : w'.ownsRow base e size v n xs := by
  obtain ⟨h1, h2⟩ := h
  refine ⟨h1, ?_⟩
  rcases h2 with h2 | ⟨g, cap, cur, rfl, hbs, hg, h3⟩
  · exact .inl h2
  · exact .inr ⟨g, cap, cur, rfl, hbs, (hb.block g (heap_lt hg)).trans hg, h3⟩
theorem Bys.far {w w' : World} {B q : Nat} {hv : Value} {l : List UInt8} (h : Bys w B hv l) (hne : hv.ownBlock ≠ some q) (ho : ∀ i, i ≠ q → w'.heap[i]? = w.heap[i]?) : Bys w' B hv l := by
  obtain ⟨A, cap, e, h1, h2, h3⟩ := h
  refine ⟨A, cap, e, h1, h2, h3.1, fun hn => ?_⟩
  obtain ⟨ad, rfl, hb, hc⟩ := h3.2 hn
  have hn2 : ad.block ≠ q := fun he => hne (by rw [e]; show some ad.block = _; rw [he])
  exact ⟨ad, rfl, hb, fun j u hu => (World.cell?_of_block (ho _ (by rw [block_of_add]; exact hn2))).trans (hc j u hu)⟩
/-- Where Read stands behind its own Talk. -/
def RSt (w0 : World) (t : Tk) (hv : Value) (nb n : Nat) (xs : List Value) (w : World) : Prop := TBlk w w0.heap.size t hv ∧ TBlk w (w0.heap.size + 1) Tk.none (.slice none 0 0) ∧ w.ownsRow nb 5 1 hv n xs ∧ Below w0.heap.size w0 w
theorem RSt.next {w0 w w' : World} {t : Tk} {hv : Value} {nb n : Nat} {xs : List Value} (h : RSt w0 t hv nb n xs w) (hb : Below w.heap.size w w') : RSt w0 t hv nb n xs w' := ⟨h.1.below hb, h.2.1.below hb, own_other_b h.2.2.1 hb, h.2.2.2.trans (hb.mono h.2.2.2.size)⟩
theorem RSt.k {w0 w : World} {t : Tk} {hv : Value} {nb n : Nat} {xs : List Value} (h : RSt w0 t hv nb n xs w) (i : Nat) : w.cell? ⟨w0.heap.size, i, none⟩ = (talkL t hv).toArray[i]? := Blk.cell h.1 i
theorem RSt.low {w0 w : World} {t : Tk} {hv : Value} {nb n : Nat} {xs : List Value} (h : RSt w0 t hv nb n xs w) : Below w0.heap.size w0 w := h.2.2.2
theorem results_read {tmps : Array Value} {w : World} {q : Nat} {t : Tk} {hv v : Value} {e : Int} (h6 : tmps.getD 6 undef = .pointer (some ⟨q, 0, none⟩)) (h7 : tmps.getD 7 undef = v) (h8 : tmps.getD 8 undef = .int .i64 e) (hk : TBlk w q t hv) :
    (results Tryz.f16 tmps).run Tryz.prog w = .ok (.tuple #[talkV t hv, v, .int .i64 e]) w := by
  have h6' : tmps[6]?.getD undef = .pointer (some ⟨q, 0, none⟩) := by simpa using h6
  have h7' : tmps[7]?.getD undef = v := by simpa using h7
  have h8' : tmps[8]?.getD undef = .int .i64 e := by simpa using h8
  simp [results, Tryz.results16, h6', h7', h8', asAddr, loadVar_talk hk]
/-- What Read answers: the Talk, what it has heard, what is told, the error. -/
structure Rd where
  t : Tk
  h : List UInt8
  out : List UInt8
  e : Int
def fromN (said : Int) (n : Nat) : Nat := min (max said 0).toNat n
def toN (said count : Int) (n : Nat) : Nat := min n (fromN said n + min (max count 0).toNat n)
theorem from_le (said count : Int) (n : Nat) : fromN said n ≤ toN said count n ∧ toN said count n ≤ n := by
  unfold toN fromN
  omega
theorem from_eq (said : Int) (n : Nat) : min (max said 0) (n : Int) = ((fromN said n : Nat) : Int) := by
  unfold fromN
  omega
theorem to_eq (said count : Int) (n : Nat) : min (n : Int) (((fromN said n : Nat) : Int) + min (max count 0) (n : Int)) = ((toN said count n : Nat) : Int) := by
  unfold toN
  omega
theorem ext_eq (S : ByteArray) (f e : Nat) (he : e ≤ S.size) (hf : f ≤ e) : (S.extract f e).data.toList = (S.data.toList.take e).drop f ∧ (S.extract f e).size = e - f := by
  have h1 : (S.extract f e).data.toList = (S.data.toList.take e).drop f := by
    rw [ByteArray.data_extract]
    simp
    exact List.drop_take.symm
  refine ⟨h1, ?_⟩
  have h2 := congrArg List.length h1
  rw [Array.length_toList, List.length_drop, List.length_take, Array.length_toList] at h2
  show (S.extract f e).data.size = _
  rw [h2]
  show min e S.data.size - f = e - f
  have : S.data.size = S.size := rfl
  omega
def lineRd (t : Tk) (l : List UInt8) (line : List UInt8) (next count : Int) : Rd :=
  if toN t.said count line.length = line.length then ⟨{ t with step := next, said := 0 }, l, (line.take (toN t.said count line.length)).drop (fromN t.said line.length), 0⟩
  else ⟨{ t with said := toN t.said count line.length }, l, (line.take (toN t.said count line.length)).drop (fromN t.said line.length), 0⟩
theorem lineRd_eq (t : Tk) (l : List UInt8) (S : ByteArray) (next count : Int) {f e : Nat} {x : List UInt8} (hf : fromN t.said S.size = f) (he : toN t.said count S.size = e) (hx : x = (S.data.toList.take e).drop f) :
    lineRd t l S.data.toList next count = if e = S.size then ⟨{ t with step := next, said := 0 }, l, x, 0⟩ else ⟨{ t with said := (e : Int) }, l, x, 0⟩ := by
  have hs : S.data.toList.length = S.size := Array.length_toList
  unfold lineRd
  rw [hs, hf, he, hx]
def readS (L : List Acct) (t : Tk) (l : List UInt8) (count : Int) : Rd :=
  if t.step = 5 then ⟨Tk.none, [], [], 72⟩
  else if t.step = 1 then lineRd t l (helloS t.ours.toNat).data.toList 2 count
  else if t.step = 3 then lineRd t l (shownS (shN (keyOfUser L t.user) t.user t.tree 2 t.ours t.theirs)).data.toList 4 count
  else ⟨t, l, [], 0⟩

set_option maxRecDepth 100000 in
set_option maxHeartbeats 6400000 in
theorem read_calls (g : Nat) (L : List Acct) (t : Tk) (hv : Value) (l : List UInt8) (count : Int) (w : World) (hp : PTab w g L) (htz : TZ w) (h : Bys w w.heap.size hv l) (hl : l.length ≤ 33)
    (hu : t.user.size ≤ 268435456) (ht : t.tree.size ≤ 268435456) (hk : (keyOfUser L t.user).size ≤ 32) (ho : 0 ≤ t.ours ∧ t.ours < 18446744073709551616) (hcn : -9223372036854775808 ≤ count ∧ count ≤ 9223372036854775807) :
    Calls Tryz.prog 16 #[.pointer (some ⟨g, 0, none⟩), talkV t hv, .int .i64 count] w fun e w' => (∃ hu bv, e = .returned (.tuple #[talkV (readS L t l count).t hu, bv, .int .i64 (readS L t l count).e]) ∧ Bys w' w'.heap.size hu (readS L t l count).h ∧ Bys w' w'.heap.size bv (readS L t l count).out ∧ (∀ k, hu.ownBlock = some k → w.heap.size ≤ k) ∧ (∀ k, bv.ownBlock = some k → w.heap.size ≤ k)) ∧ Below w.heap.size w w' := by
  have HP0 := Lib.hid hp
  have HTZ := Lib.hid htz
  have HH := Lib.hid h
  obtain ⟨A, cap, rfl, -⟩ := h
  have HKZ := Lib.hid hk
  have HU := Lib.hid (show t.user.size ≤ maxLen from by unfold maxLen; omega)
  have HTR := Lib.hid (show t.tree.size ≤ maxLen from by unfold maxLen; omega)
  have HU2 := Lib.hid (show t.user.size ≤ 1099511627776 from by omega)
  have HOU := Lib.hid ho
  have HCN := Lib.hid hcn
  clear hp htz hk hu ht ho hcn
  have HB := Lib.hid (show Below w.heap.size w ((w.alloc (Obj.cells #[.string t.user, .string t.tree, .int .u64 t.ours, .int .u64 t.theirs, .int .u8 t.step, .int .i64 t.said, .slice A l.length cap] 54)).alloc (Obj.cells #[.string ⟨#[]⟩, .string ⟨#[]⟩, .int .u64 0, .int .u64 0, .int .u8 0, .int .i64 0, .slice none 0 0] 54)) from ((Below.refl _ _).alloc (Nat.le_refl _) _).alloc (by simp) _)
  have HT := Lib.hid (show TBlk ((w.alloc (Obj.cells #[.string t.user, .string t.tree, .int .u64 t.ours, .int .u64 t.theirs, .int .u8 t.step, .int .i64 t.said, .slice A l.length cap] 54)).alloc (Obj.cells #[.string ⟨#[]⟩, .string ⟨#[]⟩, .int .u64 0, .int .u64 0, .int .u8 0, .int .i64 0, .slice none 0 0] 54)) w.heap.size t (.slice A l.length cap) from Blk.alloc (Blk.new w _ (talkL t (.slice A l.length cap)).toArray) _)
  have HZ := Lib.hid (show TBlk ((w.alloc (Obj.cells #[.string t.user, .string t.tree, .int .u64 t.ours, .int .u64 t.theirs, .int .u8 t.step, .int .i64 t.said, .slice A l.length cap] 54)).alloc (Obj.cells #[.string ⟨#[]⟩, .string ⟨#[]⟩, .int .u64 0, .int .u64 0, .int .u8 0, .int .i64 0, .slice none 0 0] 54)) (w.heap.size + 1) Tk.none (.slice none 0 0) from by
    have h := TBlk.zero (w.alloc (Obj.cells (talkL t (.slice A l.length cap)).toArray 54))
    simp only [World.size_alloc] at h
    exact h)
  go_enter Tryz.func16, Tryz.ntmps16
  go_upto_region 1 with (fail)
  generalize (w.alloc (Obj.cells #[.string t.user, .string t.tree, .int .u64 t.ours, .int .u64 t.theirs, .int .u8 t.step, .int .i64 t.said, .slice A l.length cap] 54)).alloc (Obj.cells #[.string ⟨#[]⟩, .string ⟨#[]⟩, .int .u64 0, .int .u64 0, .int .u8 0, .int .i64 0, .slice none 0 0] 54) = w1 at HB HT HZ ⊢
  refine wp_region_held_drew (S := fun wx => TBlk wx w.heap.size t (.slice A l.length cap)) (by kernel_rfl) HT.out (fun hHeld => ?_)
  refine wpAnyH_takeD 13 (i := 0) (v := .pointer (some ⟨w.heap.size, 4, none⟩)) rfl rfl (by kernel_rfl) (by kernel_rfl) (by kernel_rfl) (fun _ _ _ h => h) (Or.inl ⟨by rfl, fun wq hSw => by go_simp⟩) (by assumption) ?_
  simp only [Act.put, List.setIfInBounds_toArray, List.set_cons_zero, List.set_cons_succ]
  refine wpAnyH_takeD 14 (i := 1) (v := .int .u8 t.step) rfl rfl (by kernel_rfl) (by kernel_rfl) (by kernel_rfl) (fun _ _ _ h => h) (Or.inl ⟨by rfl, fun wq hSw => by have k : wq.cell? ⟨w.heap.size, 4, none⟩ = some (.int .u8 t.step) := Blk.cell hSw 4; go_simp⟩) (by assumption) ?_
  simp only [Act.put, List.setIfInBounds_toArray, List.set_cons_zero, List.set_cons_succ]
  refine wpAnyH_takeD 9 (i := 2) (v := .string ⟨#[]⟩) rfl rfl (by kernel_rfl) (by kernel_rfl) (by kernel_rfl) (fun _ _ _ h => h) (Or.inl ⟨by rfl, fun wq hSw => by go_simp⟩) (by assumption) ?_
  simp only [Act.put, List.setIfInBounds_toArray, List.set_cons_zero, List.set_cons_succ]
  refine wpAnyH_takeD 10 (i := 3) (v := .int .u8 t.step) rfl rfl (by kernel_rfl) (by kernel_rfl) (by kernel_rfl) (fun _ _ _ h => h) (Or.inl ⟨by rfl, fun wq hSw => by go_simp⟩) (by assumption) ?_
  simp only [Act.put, List.setIfInBounds_toArray, List.set_cons_zero, List.set_cons_succ]
  refine wpAnyH_done (by kernel_rfl) ?_ _
  clear hHeld
  replace HB := Lib.hid (HB.out.drew)
  replace HT := Lib.hid (show TBlk w1.drew w.heap.size t (.slice A l.length cap) from HT.out)
  replace HZ := Lib.hid (show TBlk w1.drew (w.heap.size + 1) Tk.none (.slice none 0 0) from HZ.out)
  generalize w1.drew = w1d at HB HT HZ ⊢
  have hnb := Blk.lt HZ.out
  go_upto_region 3 with (first
    | (refine wT HT.out rfl _ rfl rfl ?_)
    | (go_at_call 57; (with_reducible refine (own_calls t _ l _ ((HH.out.below HB.out).more HB.out.size) hl).mono ?_); rintro e w2 ⟨⟨hu, rfl, hown⟩, hb2⟩; obtain ⟨A2, c2, rfl, -⟩ := Bys.of_own hown; have HO := Lib.hid hown; replace HB := Lib.hid (HB.out.trans (hb2.mono HB.out.size)); replace HT := Lib.hid (HT.out.below hb2); replace HZ := Lib.hid (HZ.out.below hb2); have hnb2 := hb2.size; clear hown hb2)
    | (refine wstT HT.out t (.slice A2 l.length c2) rfl rfl _ _ rfl rfl rfl ?_; intro w3 hs ho hbl; replace HO := Lib.hid (own_other HO.out (fun he => by have := (HO.out.lt _ he).1; omega) ho); replace HZ := Lib.hid (show TBlk w3 (w.heap.size + 1) Tk.none (.slice none 0 0) from (ho _ (by omega)).trans HZ.out); replace HT := Lib.hid hs; replace HB := Lib.hid (hbl _ _ HB.out (Nat.le_refl _)); have hnb3 := (hbl 0 _ (Below.refl _ _) (Nat.zero_le _)).size; clear hs ho hbl))
  have HNW := Lib.hid (Nat.le_trans hnb2 hnb3)
  clear hnb2 hnb3
  generalize w1d.heap.size = nb at HO hnb HNW
  have k4 : w3.cell? ⟨w.heap.size, 4, none⟩ = some (.int .u8 t.step) := Blk.cell HT.out 4
  cases h5 : (t.step == 5) with
  | true =>
    have HS := Lib.hid (show readS L t l count = ⟨Tk.none, [], [], 72⟩ from by unfold readS; rw [if_pos (by simpa using h5)])
    go_wp2_with (refine wstT HZ.out Tk.none (.slice none 0 0) rfl rfl _ _ rfl rfl rfl ?_; intro w4 hs ho hbl; have HX := Lib.hid hs; have HB4 := Lib.hid (hbl _ _ HB.out (by omega)); clear hs ho hbl)
    exact bodyPost_ret (results_read rfl rfl rfl HX.out) rfl ⟨⟨_, _, by rw [HS.out], by rw [HS.out]; exact Bys.nil_ _ _, by rw [HS.out]; exact Bys.nil_ _ _, (fun k hk => by cases hk), (fun k hk => by cases hk)⟩, HB4.out⟩
  | false =>
    have n5 : ¬ t.step = 5 := by simpa using h5
    have HOB := Lib.hid (show (Value.slice A2 l.length c2).ownBlock ≠ some w.heap.size from fun he => by have := (HO.out.lt _ he).1; omega)
    have HOZ := Lib.hid (show (Value.slice A2 l.length c2).ownBlock ≠ some (w.heap.size + 1) from fun he => by have := (HO.out.lt _ he).1; omega)
    cases h1 : (t.step == 1) with
    | true =>
      have HRS := Lib.hid (show readS L t l count = lineRd t l (helloS t.ours.toNat).data.toList 2 count from by unfold readS; rw [if_neg n5, if_pos (by simpa using h1)])
      have HHC := Lib.hid (show ∀ wx, TZ wx → Calls Tryz.prog 58 #[.int .u64 t.ours] wx fun e w' => e = .returned (.string (helloS t.ours.toNat)) ∧ Below wx.heap.size wx w' from fun wx hx => by
        have h := hello_calls t.ours.toNat (by have := HOU.out; omega) wx hx
        rw [Int.toNat_of_nonneg HOU.out.1] at h
        exact h)
      obtain ⟨S, hS⟩ : ∃ z, helloS t.ours.toNat = z := ⟨_, rfl⟩
      rw [hS] at HRS
      have HSS := Lib.hid hS
      have hsz : S.size ≤ 100 := by
        rw [← hS]
        show ([118, 101, 114, 103, 101, 114, 49, 32] ++ hexN 16 _ ++ [10] : List UInt8).toArray.size ≤ 100
        rw [List.size_toArray, List.length_append, List.length_append, hexN_len]
        decide
      clear n5 hS
      have k2 : w3.cell? ⟨w.heap.size, 2, none⟩ = some (.int .u64 t.ours) := Blk.cell HT.out 2
      go_upto_region 11 with (go_at_call 58; (with_reducible refine (HHC.out _ (HTZ.out.below HB.out (Nat.le_refl _))).mono ?_); rw [HSS.out]; rintro e w4 ⟨rfl, hb⟩; have HT4 := Lib.hid (HT.out.below hb); have HZ4 := Lib.hid (HZ.out.below hb); have HB4 := Lib.hid (HB.out.trans (hb.mono HB.out.size)); have HO4 := Lib.hid (own_other_b HO.out hb); clear hb)
      clear k2 k4 h1 h5
      obtain ⟨f, hf⟩ : ∃ f, fromN t.said S.size = f := ⟨_, rfl⟩
      obtain ⟨e, he⟩ : ∃ e, toN t.said count S.size = e := ⟨_, rfl⟩
      have hfrom := from_eq t.said S.size
      have hto := to_eq t.said count S.size
      obtain ⟨hfe, hes⟩ := from_le t.said count S.size
      rw [hf] at hfrom hto hfe
      rw [he] at hto hfe hes
      obtain ⟨hx1, hx2⟩ := ext_eq S f e hes hfe
      have HRD := Lib.hid (show readS L t l count = if e = S.size then ⟨{ t with step := 2, said := 0 }, l, (S.extract f e).data.toList, 0⟩ else ⟨{ t with said := (e : Int) }, l, (S.extract f e).data.toList, 0⟩ from HRS.out.trans (lineRd_eq t l S _ count hf he hx1))
      obtain ⟨X, hX⟩ : ∃ z, S.extract f e = z := ⟨_, rfl⟩
      rw [hX] at hx2 HRD
      clear hx1 hf he HRS
      have i1 : (0 : Int) ≤ (f : Int) := by omega
      have i2 : (f : Int) ≤ (e : Int) := by omega
      have i3 : (e : Int) ≤ (S.size : Int) := by omega
      have k5 := Blk.cell HT4.out 5
      obtain ⟨bc, w5, hconv, hcb, -, hbb, hgt, hbc, hbm⟩ := bytes_of X w4
      have HCB := Lib.hid hcb
      have HT5 := Lib.hid (HT4.out.below hbb)
      have HZ5 := Lib.hid (HZ4.out.below hbb)
      have HB5 := Lib.hid (HB4.out.trans (hbb.mono HB4.out.size))
      have HO5 := Lib.hid (own_other_b HO4.out hbb)
      have HGT := Lib.hid hgt
      have HBV := Lib.hid (show Bys w5 w5.heap.size (.slice (some ⟨w4.heap.size, 0, none⟩) (e - f) bc) X.data.toList from by
        have hxl : X.data.toList.length = e - f := by rw [Array.length_toList]; exact hx2
        refine ⟨some ⟨w4.heap.size, 0, none⟩, bc, by rw [hxl], by rw [hxl, ← hx2]; exact hbc, hbm (by unfold maxLen; omega), by simp, fun _ => ⟨_, rfl, hgt, fun j u hu => ?_⟩⟩
        rw [List.getElem?_map, Option.map_eq_some_iff] at hu
        obtain ⟨c, hc1, rfl⟩ := hu
        obtain ⟨hj, rfl⟩ := List.getElem?_eq_some_iff.1 hc1
        rw [Addr.add_lit, Nat.zero_add]
        have hjx : j < X.size := by rw [Array.length_toList] at hj; exact hj
        exact hcb j hjx)
      clear hcb hbb hgt hbc hbm
      go_upto_region 13 with (fail)
      clear k5 hconv hfrom hto
      have k5 := Blk.cell HT5.out 5
      have z5 := Blk.frozen HT5.out 5
      have hsum : (f : Int) + ((e - f : Nat) : Int) = (e : Int) := by omega
      go_upto_region 14 with (fail)
      have hw4 : w.heap.size + 1 < w4.heap.size := Blk.lt HZ4.out
      have HW4 := Lib.hid hw4
      have HV1 := Lib.hid (show (Value.slice (some ⟨w4.heap.size, 0, none⟩) (e - f) bc).ownBlock ≠ some w.heap.size from fun he => by injection he with he; have h2 : w4.heap.size = w.heap.size := he; omega)
      have HV2 := Lib.hid (show (Value.slice (some ⟨w4.heap.size, 0, none⟩) (e - f) bc).ownBlock ≠ some (w.heap.size + 1) from fun he => by injection he with he; have h2 : w4.heap.size = w.heap.size + 1 := he; omega)
      have HT6 := Lib.hid (show TBlk (w5.setCell ⟨w.heap.size, 5, none⟩ (.int .i64 (e : Int))) w.heap.size { t with said := (e : Int) } (.slice A2 l.length c2) from Blk.set_ HT5.out 5 _)
      have HZ6 := Lib.hid (show TBlk (w5.setCell ⟨w.heap.size, 5, none⟩ (.int .i64 (e : Int))) (w.heap.size + 1) Tk.none (.slice none 0 0) from Blk.far HZ5.out (by show w.heap.size + 1 ≠ w.heap.size; omega) _)
      have HB6 := Lib.hid (HB5.out.setCell (p := ⟨w.heap.size, 5, none⟩) (Nat.le_refl _) (.int .i64 (e : Int)))
      have HO6 := Lib.hid (own_other HO5.out HOB.out (setCell_other w5 w.heap.size 5 (.int .i64 (e : Int))))
      have HBV6 := Lib.hid (HBV.out.far HV1.out (setCell_other w5 w.heap.size 5 (.int .i64 (e : Int))))
      have HSZ := Lib.hid (show w5.heap.size ≤ (w5.setCell ⟨w.heap.size, 5, none⟩ (.int .i64 (e : Int))).heap.size from by simp [World.setCell])
      clear k5 z5 hsum i1 i2 hw4
      change Code.wp _ _ _ _ (w5.setCell ⟨w.heap.size, 5, none⟩ (.int .i64 (e : Int)))
      generalize w5.setCell ⟨w.heap.size, 5, none⟩ (.int .i64 (e : Int)) = w6 at HT6 HZ6 HB6 HO6 HBV6 HSZ ⊢
      have k5 : w6.cell? ⟨w.heap.size, 5, none⟩ = some (.int .i64 (e : Int)) := Blk.cell HT6.out 5
      by_cases hee : e = S.size
      · have hq : ((e : Int) == (S.size : Int)) = true := by rw [beq_iff_eq]; omega
        have HRE := Lib.hid (HRD.out.trans (if_pos hee))
        clear hee
        go_upto_region 15 with (fail)
        clear k5 hq
        have k5 := Blk.cell HT6.out 5
        have z5 := Blk.frozen HT6.out 5
        have k4 := Blk.cell HT6.out 4
        have z4 := Blk.frozen HT6.out 4
        go_upto_region 16 with (fail)
        have HT7 := Lib.hid (show TBlk ((w6.setCell ⟨w.heap.size, 4, none⟩ (.int .u8 2)).setCell ⟨w.heap.size, 5, none⟩ (.int .i64 0)) w.heap.size { t with step := 2, said := 0 } (.slice A2 l.length c2) from Blk.set_ (Blk.set_ HT6.out 4 _) 5 _)
        have HZ7 := Lib.hid (show TBlk ((w6.setCell ⟨w.heap.size, 4, none⟩ (.int .u8 2)).setCell ⟨w.heap.size, 5, none⟩ (.int .i64 0)) (w.heap.size + 1) Tk.none (.slice none 0 0) from Blk.far (Blk.far HZ6.out (by show w.heap.size + 1 ≠ w.heap.size; omega) _) (by show w.heap.size + 1 ≠ w.heap.size; omega) _)
        have HB7 := Lib.hid ((HB6.out.setCell (p := ⟨w.heap.size, 4, none⟩) (Nat.le_refl _) (.int .u8 2)).setCell (p := ⟨w.heap.size, 5, none⟩) (Nat.le_refl _) (.int .i64 0))
        have HO7 := Lib.hid (own_other (own_other HO6.out HOB.out (setCell_other w6 w.heap.size 4 (.int .u8 2))) HOB.out (setCell_other _ w.heap.size 5 (.int .i64 0)))
        have HBV7 := Lib.hid ((HBV6.out.far HV1.out (setCell_other w6 w.heap.size 4 (.int .u8 2))).far HV1.out (setCell_other _ w.heap.size 5 (.int .i64 0)))
        have HSZ7 := Lib.hid (show w5.heap.size ≤ ((w6.setCell ⟨w.heap.size, 4, none⟩ (.int .u8 2)).setCell ⟨w.heap.size, 5, none⟩ (.int .i64 0)).heap.size from by have := HSZ.out; simpa [World.setCell] using this)
        clear k5 z5 k4 z4
        change Code.wp _ _ _ _ ((w6.setCell ⟨w.heap.size, 4, none⟩ (.int .u8 2)).setCell ⟨w.heap.size, 5, none⟩ (.int .i64 0))
        generalize (w6.setCell ⟨w.heap.size, 4, none⟩ (.int .u8 2)).setCell ⟨w.heap.size, 5, none⟩ (.int .i64 0) = w7 at HT7 HZ7 HB7 HO7 HBV7 HSZ7 ⊢
        go_wp2_with (first
          | (refine wT HT7.out rfl _ rfl rfl ?_)
          | (refine wstT HZ7.out { t with step := 2, said := 0 } (.slice A2 l.length c2) rfl rfl _ _ rfl rfl rfl ?_; intro w8 hs ho hbl; have HX := Lib.hid hs; have HB8 := Lib.hid (hbl _ _ HB7.out (by omega)); have HO8 := Lib.hid (own_other HO7.out HOZ.out ho); have HBV8 := Lib.hid ((HBV7.out.far HV2.out ho).more (Nat.le_trans HSZ7.out (hbl 0 _ (Below.refl _ _) (Nat.zero_le _)).size)); clear hs ho hbl))
        exact bodyPost_ret (results_read rfl rfl rfl HX.out) rfl ⟨⟨_, _, by rw [HRE.out], by rw [HRE.out]; exact Bys.of_own HO8.out, by rw [HRE.out]; exact HBV8.out, (fun k hk => by have := (HO8.out.lt _ hk).1; omega), (fun k hk => by injection hk with hk; have h2 : w4.heap.size = k := hk; have := HW4.out; omega)⟩, HB8.out⟩
      · have hq : ((e : Int) == (S.size : Int)) = false := by rw [beq_eq_false_iff_ne]; omega
        have HRE := Lib.hid (HRD.out.trans (if_neg hee))
        clear hee
        go_wp2_with (first
          | (refine wT HT6.out rfl _ rfl rfl ?_)
          | (refine wstT HZ6.out { t with said := (e : Int) } (.slice A2 l.length c2) rfl rfl _ _ rfl rfl rfl ?_; intro w8 hs ho hbl; have HX := Lib.hid hs; have HB8 := Lib.hid (hbl _ _ HB6.out (by omega)); have HO8 := Lib.hid (own_other HO6.out HOZ.out ho); have HBV8 := Lib.hid ((HBV6.out.far HV2.out ho).more (Nat.le_trans HSZ.out (hbl 0 _ (Below.refl _ _) (Nat.zero_le _)).size)); clear hs ho hbl))
        exact bodyPost_ret (results_read rfl rfl rfl HX.out) rfl ⟨⟨_, _, by rw [HRE.out], by rw [HRE.out]; exact Bys.of_own HO8.out, by rw [HRE.out]; exact HBV8.out, (fun k hk => by have := (HO8.out.lt _ hk).1; omega), (fun k hk => by injection hk with hk; have h2 : w4.heap.size = k := hk; have := HW4.out; omega)⟩, HB8.out⟩
    | false =>
      have n1 : ¬ t.step = 1 := by simpa using h1
      cases h3 : (t.step == 3) with
      | false =>
        have HRS := Lib.hid (show readS L t l count = ⟨t, l, [], 0⟩ from by unfold readS; rw [if_neg n5, if_neg n1, if_neg (by simpa using h3)])
        clear n5 n1
        go_wp2_with (first
          | (refine wT HT.out rfl _ rfl rfl ?_)
          | (refine wstT HZ.out t (.slice A2 l.length c2) rfl rfl _ _ rfl rfl rfl ?_; intro w8 hs ho hbl; have HX := Lib.hid hs; have HB8 := Lib.hid (hbl _ _ HB.out (by omega)); have HO8 := Lib.hid (own_other HO.out HOZ.out ho); clear hs ho hbl))
        exact bodyPost_ret (results_read rfl rfl rfl HX.out) rfl ⟨⟨_, _, by rw [HRS.out], by rw [HRS.out]; exact Bys.of_own HO8.out, by rw [HRS.out]; exact Bys.nil_ _ _, (fun k hk => by have := (HO8.out.lt _ hk).1; omega), (fun k hk => by cases hk)⟩, HB8.out⟩
      | true =>
      obtain ⟨S, hS⟩ : ∃ z, shownS (shN (keyOfUser L t.user) t.user t.tree 2 t.ours t.theirs) = z := ⟨_, rfl⟩
      have HRS := Lib.hid (show readS L t l count = lineRd t l S.data.toList 4 count from by unfold readS; rw [if_neg n5, if_neg n1, if_pos (by simpa using h3), hS])
      have hsz : S.size ≤ 100 := by
        rw [← hS, shownS_size]
        decide
      have HKM := Lib.hid (show (keyOfUser L t.user).size ≤ maxLen from by have := HKZ.out; unfold maxLen; omega)
      obtain ⟨kk, hkk⟩ : ∃ z, keyOfUser L t.user = z := ⟨_, rfl⟩
      rw [hkk] at HKM hS
      have HKK := Lib.hid hkk
      have HSS := Lib.hid hS
      clear n5 n1 hS hkk
      go_upto_region 10 with (fail)
      clear k4 h1 h5 h3
      have HRT := Lib.hid (show RSt w t (.slice A2 l.length c2) nb l.length (byteL l) w3 from ⟨HT.out, HZ.out, HO.out, HB.out⟩)
      refine wp_region_held_drew (S := RSt w t (.slice A2 l.length c2) nb l.length (byteL l)) (by kernel_rfl) (HRT.out.next (below_drew _)) (fun hHeld => ?_)
      generalize w3.drew = wd at hHeld ⊢
      refine wpAnyH_takeD 30 (i := 0) (v := .pointer (some ⟨g, 0, none⟩)) rfl rfl (by kernel_rfl) (by kernel_rfl) (by kernel_rfl) (fun _ _ _ h => h) (Or.inl ⟨by rfl, fun wq hSw => by go_simp⟩) (by assumption) ?_
      simp only [Act.put, List.setIfInBounds_toArray, List.set_cons_zero, List.set_cons_succ]
      refine wpAnyH_takeD 31 (i := 1) (v := .pointer (some ⟨w.heap.size, 0, none⟩)) rfl rfl (by kernel_rfl) (by kernel_rfl) (by kernel_rfl) (fun _ _ _ h => h) (Or.inl ⟨by rfl, fun wq hSw => by go_simp⟩) (by assumption) ?_
      simp only [Act.put, List.setIfInBounds_toArray, List.set_cons_zero, List.set_cons_succ]
      refine wpAnyH_takeD 32 (i := 2) (v := .string t.user) rfl rfl (by kernel_rfl) (by kernel_rfl) (by kernel_rfl) (fun _ _ _ h => h) (Or.inl ⟨by rfl, fun wq hSw => by have k : wq.cell? ⟨w.heap.size, 0, none⟩ = some (.string t.user) := hSw.k 0; go_simp⟩) (by assumption) ?_
      simp only [Act.put, List.setIfInBounds_toArray, List.set_cons_zero, List.set_cons_succ]
      refine wpAnyH_takeD 34 (i := 4) (v := .pointer (some ⟨w.heap.size, 2, none⟩)) rfl rfl (by kernel_rfl) (by kernel_rfl) (by kernel_rfl) (fun _ _ _ h => h) (Or.inl ⟨by rfl, fun wq hSw => by go_simp⟩) (by assumption) ?_
      simp only [Act.put, List.setIfInBounds_toArray, List.set_cons_zero, List.set_cons_succ]
      refine wpAnyH_takeD 35 (i := 5) (v := .int .u64 t.ours) rfl rfl (by kernel_rfl) (by kernel_rfl) (by kernel_rfl) (fun _ _ _ h => h) (Or.inl ⟨by rfl, fun wq hSw => by have k : wq.cell? ⟨w.heap.size, 2, none⟩ = some (.int .u64 t.ours) := hSw.k 2; go_simp⟩) (by assumption) ?_
      simp only [Act.put, List.setIfInBounds_toArray, List.set_cons_zero, List.set_cons_succ]
      refine wpAnyH_takeD 36 (i := 6) (v := .pointer (some ⟨w.heap.size, 3, none⟩)) rfl rfl (by kernel_rfl) (by kernel_rfl) (by kernel_rfl) (fun _ _ _ h => h) (Or.inl ⟨by rfl, fun wq hSw => by go_simp⟩) (by assumption) ?_
      simp only [Act.put, List.setIfInBounds_toArray, List.set_cons_zero, List.set_cons_succ]
      refine wpAnyH_takeD 37 (i := 7) (v := .int .u64 t.theirs) rfl rfl (by kernel_rfl) (by kernel_rfl) (by kernel_rfl) (fun _ _ _ h => h) (Or.inl ⟨by rfl, fun wq hSw => by have k : wq.cell? ⟨w.heap.size, 3, none⟩ = some (.int .u64 t.theirs) := hSw.k 3; go_simp⟩) (by assumption) ?_
      simp only [Act.put, List.setIfInBounds_toArray, List.set_cons_zero, List.set_cons_succ]
      refine wpAnyH_takeD 38 (i := 8) (v := .pointer (some ⟨w.heap.size, 0, none⟩)) rfl rfl (by kernel_rfl) (by kernel_rfl) (by kernel_rfl) (fun _ _ _ h => h) (Or.inl ⟨by rfl, fun wq hSw => by go_simp⟩) (by assumption) ?_
      simp only [Act.put, List.setIfInBounds_toArray, List.set_cons_zero, List.set_cons_succ]
      refine wpAnyH_takeD 39 (i := 9) (v := .string t.user) rfl rfl (by kernel_rfl) (by kernel_rfl) (by kernel_rfl) (fun _ _ _ h => h) (Or.inl ⟨by rfl, fun wq hSw => by have k : wq.cell? ⟨w.heap.size, 0, none⟩ = some (.string t.user) := hSw.k 0; go_simp⟩) (by assumption) ?_
      simp only [Act.put, List.setIfInBounds_toArray, List.set_cons_zero, List.set_cons_succ]
      refine wpAnyH_takeD 40 (i := 10) (v := .pointer (some ⟨w.heap.size, 1, none⟩)) rfl rfl (by kernel_rfl) (by kernel_rfl) (by kernel_rfl) (fun _ _ _ h => h) (Or.inl ⟨by rfl, fun wq hSw => by go_simp⟩) (by assumption) ?_
      simp only [Act.put, List.setIfInBounds_toArray, List.set_cons_zero, List.set_cons_succ]
      refine wpAnyH_takeD 41 (i := 11) (v := .string t.tree) rfl rfl (by kernel_rfl) (by kernel_rfl) (by kernel_rfl) (fun _ _ _ h => h) (Or.inl ⟨by rfl, fun wq hSw => by have k : wq.cell? ⟨w.heap.size, 1, none⟩ = some (.string t.tree) := hSw.k 1; go_simp⟩) (by assumption) ?_
      simp only [Act.put, List.setIfInBounds_toArray, List.set_cons_zero, List.set_cons_succ]
      refine wpAnyH_ready (rs := [3]) (by kernel_rfl) (by simp) ?_
      refine AllReadyH.cons rfl (fun K hK => ?_) AllReadyH.nil
      rw [if_pos (by rfl)]
      go_simp
      (with_reducible refine (userKey_calls g L t.user _ (HP0.out.below hHeld.low) HU2.out).mono ?_)
      rw [HKK.out]
      rintro e wk ⟨rfl, rfl⟩
      dsimp only
      refine hK.out _ _ hHeld (fun hHeld => ?_)
      clear hK
      refine wpAnyH_ready (rs := [12]) (by kernel_rfl) (by simp) ?_
      refine AllReadyH.cons rfl (fun K hK => ?_) AllReadyH.nil
      rw [if_pos (by rfl)]
      go_simp
      (with_reducible refine (shown_calls kk t.user t.tree 2 t.ours t.theirs _ (HTZ.out.below hHeld.low (Nat.le_refl _)) HKM.out HU.out HTR.out).mono ?_)
      rw [HSS.out]
      rintro e w4 ⟨rfl, hb⟩
      dsimp only
      have hOld := hHeld.next hb
      clear hHeld hb
      refine hK.out _ _ hOld (fun hHeld => ?_)
      clear hK hOld
      refine wpAnyH_takeD 9 (i := 13) (v := .string S) rfl rfl (by kernel_rfl) (by kernel_rfl) (by kernel_rfl) (fun _ _ _ h => h) (Or.inl ⟨by rfl, fun wq hSw => by go_simp⟩) (by assumption) ?_
      simp only [Act.put, List.setIfInBounds_toArray, List.set_cons_zero, List.set_cons_succ]
      refine wpAnyH_takeD 10 (i := 14) (v := .int .u8 4) rfl rfl (by kernel_rfl) (by kernel_rfl) (by kernel_rfl) (fun _ _ _ h => h) (Or.inl ⟨by rfl, fun wq hSw => by go_simp⟩) (by assumption) ?_
      simp only [Act.put, List.setIfInBounds_toArray, List.set_cons_zero, List.set_cons_succ]
      refine wpAnyH_done (by kernel_rfl) ?_ _
      have HT4 := Lib.hid hHeld.1
      have HZ4 := Lib.hid hHeld.2.1
      have HO4 := Lib.hid hHeld.2.2.1
      have HB4 := Lib.hid hHeld.2.2.2
      clear hHeld
      clear HT HZ HO HB HRT
      obtain ⟨f, hf⟩ : ∃ f, fromN t.said S.size = f := ⟨_, rfl⟩
      obtain ⟨e, he⟩ : ∃ e, toN t.said count S.size = e := ⟨_, rfl⟩
      have hfrom := from_eq t.said S.size
      have hto := to_eq t.said count S.size
      obtain ⟨hfe, hes⟩ := from_le t.said count S.size
      rw [hf] at hfrom hto hfe
      rw [he] at hto hfe hes
      obtain ⟨hx1, hx2⟩ := ext_eq S f e hes hfe
      have HRD := Lib.hid (show readS L t l count = if e = S.size then ⟨{ t with step := 4, said := 0 }, l, (S.extract f e).data.toList, 0⟩ else ⟨{ t with said := (e : Int) }, l, (S.extract f e).data.toList, 0⟩ from HRS.out.trans (lineRd_eq t l S _ count hf he hx1))
      obtain ⟨X, hX⟩ : ∃ z, S.extract f e = z := ⟨_, rfl⟩
      rw [hX] at hx2 HRD
      clear hx1 hf he HRS
      have i1 : (0 : Int) ≤ (f : Int) := by omega
      have i2 : (f : Int) ≤ (e : Int) := by omega
      have i3 : (e : Int) ≤ (S.size : Int) := by omega
      have k5 := Blk.cell HT4.out 5
      obtain ⟨bc, w5, hconv, hcb, -, hbb, hgt, hbc, hbm⟩ := bytes_of X w4
      have HCB := Lib.hid hcb
      have HT5 := Lib.hid (HT4.out.below hbb)
      have HZ5 := Lib.hid (HZ4.out.below hbb)
      have HB5 := Lib.hid (HB4.out.trans (hbb.mono HB4.out.size))
      have HO5 := Lib.hid (own_other_b HO4.out hbb)
      have HGT := Lib.hid hgt
      have HBV := Lib.hid (show Bys w5 w5.heap.size (.slice (some ⟨w4.heap.size, 0, none⟩) (e - f) bc) X.data.toList from by
        have hxl : X.data.toList.length = e - f := by rw [Array.length_toList]; exact hx2
        refine ⟨some ⟨w4.heap.size, 0, none⟩, bc, by rw [hxl], by rw [hxl, ← hx2]; exact hbc, hbm (by unfold maxLen; omega), by simp, fun _ => ⟨_, rfl, hgt, fun j u hu => ?_⟩⟩
        rw [List.getElem?_map, Option.map_eq_some_iff] at hu
        obtain ⟨c, hc1, rfl⟩ := hu
        obtain ⟨hj, rfl⟩ := List.getElem?_eq_some_iff.1 hc1
        rw [Addr.add_lit, Nat.zero_add]
        have hjx : j < X.size := by rw [Array.length_toList] at hj; exact hj
        exact hcb j hjx)
      clear hcb hbb hgt hbc hbm
      go_upto_region 13 with (fail)
      clear k5 hconv hfrom hto
      have k5 := Blk.cell HT5.out 5
      have z5 := Blk.frozen HT5.out 5
      have hsum : (f : Int) + ((e - f : Nat) : Int) = (e : Int) := by omega
      go_upto_region 14 with (fail)
      have hw4 : w.heap.size + 1 < w4.heap.size := Blk.lt HZ4.out
      have HW4 := Lib.hid hw4
      have HV1 := Lib.hid (show (Value.slice (some ⟨w4.heap.size, 0, none⟩) (e - f) bc).ownBlock ≠ some w.heap.size from fun he => by injection he with he; have h2 : w4.heap.size = w.heap.size := he; omega)
      have HV2 := Lib.hid (show (Value.slice (some ⟨w4.heap.size, 0, none⟩) (e - f) bc).ownBlock ≠ some (w.heap.size + 1) from fun he => by injection he with he; have h2 : w4.heap.size = w.heap.size + 1 := he; omega)
      have HT6 := Lib.hid (show TBlk (w5.setCell ⟨w.heap.size, 5, none⟩ (.int .i64 (e : Int))) w.heap.size { t with said := (e : Int) } (.slice A2 l.length c2) from Blk.set_ HT5.out 5 _)
      have HZ6 := Lib.hid (show TBlk (w5.setCell ⟨w.heap.size, 5, none⟩ (.int .i64 (e : Int))) (w.heap.size + 1) Tk.none (.slice none 0 0) from Blk.far HZ5.out (by show w.heap.size + 1 ≠ w.heap.size; omega) _)
      have HB6 := Lib.hid (HB5.out.setCell (p := ⟨w.heap.size, 5, none⟩) (Nat.le_refl _) (.int .i64 (e : Int)))
      have HO6 := Lib.hid (own_other HO5.out HOB.out (setCell_other w5 w.heap.size 5 (.int .i64 (e : Int))))
      have HBV6 := Lib.hid (HBV.out.far HV1.out (setCell_other w5 w.heap.size 5 (.int .i64 (e : Int))))
      have HSZ := Lib.hid (show w5.heap.size ≤ (w5.setCell ⟨w.heap.size, 5, none⟩ (.int .i64 (e : Int))).heap.size from by simp [World.setCell])
      clear k5 z5 hsum i1 i2 hw4
      change Code.wp _ _ _ _ (w5.setCell ⟨w.heap.size, 5, none⟩ (.int .i64 (e : Int)))
      generalize w5.setCell ⟨w.heap.size, 5, none⟩ (.int .i64 (e : Int)) = w6 at HT6 HZ6 HB6 HO6 HBV6 HSZ ⊢
      have k5 : w6.cell? ⟨w.heap.size, 5, none⟩ = some (.int .i64 (e : Int)) := Blk.cell HT6.out 5
      by_cases hee : e = S.size
      · have hq : ((e : Int) == (S.size : Int)) = true := by rw [beq_iff_eq]; omega
        have HRE := Lib.hid (HRD.out.trans (if_pos hee))
        clear hee
        go_upto_region 15 with (fail)
        clear k5 hq
        have k5 := Blk.cell HT6.out 5
        have z5 := Blk.frozen HT6.out 5
        have k4 := Blk.cell HT6.out 4
        have z4 := Blk.frozen HT6.out 4
        go_upto_region 16 with (fail)
        have HT7 := Lib.hid (show TBlk ((w6.setCell ⟨w.heap.size, 4, none⟩ (.int .u8 4)).setCell ⟨w.heap.size, 5, none⟩ (.int .i64 0)) w.heap.size { t with step := 4, said := 0 } (.slice A2 l.length c2) from Blk.set_ (Blk.set_ HT6.out 4 _) 5 _)
        have HZ7 := Lib.hid (show TBlk ((w6.setCell ⟨w.heap.size, 4, none⟩ (.int .u8 4)).setCell ⟨w.heap.size, 5, none⟩ (.int .i64 0)) (w.heap.size + 1) Tk.none (.slice none 0 0) from Blk.far (Blk.far HZ6.out (by show w.heap.size + 1 ≠ w.heap.size; omega) _) (by show w.heap.size + 1 ≠ w.heap.size; omega) _)
        have HB7 := Lib.hid ((HB6.out.setCell (p := ⟨w.heap.size, 4, none⟩) (Nat.le_refl _) (.int .u8 4)).setCell (p := ⟨w.heap.size, 5, none⟩) (Nat.le_refl _) (.int .i64 0))
        have HO7 := Lib.hid (own_other (own_other HO6.out HOB.out (setCell_other w6 w.heap.size 4 (.int .u8 4))) HOB.out (setCell_other _ w.heap.size 5 (.int .i64 0)))
        have HBV7 := Lib.hid ((HBV6.out.far HV1.out (setCell_other w6 w.heap.size 4 (.int .u8 4))).far HV1.out (setCell_other _ w.heap.size 5 (.int .i64 0)))
        have HSZ7 := Lib.hid (show w5.heap.size ≤ ((w6.setCell ⟨w.heap.size, 4, none⟩ (.int .u8 4)).setCell ⟨w.heap.size, 5, none⟩ (.int .i64 0)).heap.size from by have := HSZ.out; simpa [World.setCell] using this)
        clear k5 z5 k4 z4
        change Code.wp _ _ _ _ ((w6.setCell ⟨w.heap.size, 4, none⟩ (.int .u8 4)).setCell ⟨w.heap.size, 5, none⟩ (.int .i64 0))
        generalize (w6.setCell ⟨w.heap.size, 4, none⟩ (.int .u8 4)).setCell ⟨w.heap.size, 5, none⟩ (.int .i64 0) = w7 at HT7 HZ7 HB7 HO7 HBV7 HSZ7 ⊢
        go_wp2_with (first
          | (refine wT HT7.out rfl _ rfl rfl ?_)
          | (refine wstT HZ7.out { t with step := 4, said := 0 } (.slice A2 l.length c2) rfl rfl _ _ rfl rfl rfl ?_; intro w8 hs ho hbl; have HX := Lib.hid hs; have HB8 := Lib.hid (hbl _ _ HB7.out (by omega)); have HO8 := Lib.hid (own_other HO7.out HOZ.out ho); have HBV8 := Lib.hid ((HBV7.out.far HV2.out ho).more (Nat.le_trans HSZ7.out (hbl 0 _ (Below.refl _ _) (Nat.zero_le _)).size)); clear hs ho hbl))
        exact bodyPost_ret (results_read rfl rfl rfl HX.out) rfl ⟨⟨_, _, by rw [HRE.out], by rw [HRE.out]; exact Bys.of_own HO8.out, by rw [HRE.out]; exact HBV8.out, (fun k hk => by have := (HO8.out.lt _ hk).1; omega), (fun k hk => by injection hk with hk; have h2 : w4.heap.size = k := hk; have := HW4.out; omega)⟩, HB8.out⟩
      · have hq : ((e : Int) == (S.size : Int)) = false := by rw [beq_eq_false_iff_ne]; omega
        have HRE := Lib.hid (HRD.out.trans (if_neg hee))
        clear hee
        go_wp2_with (first
          | (refine wT HT6.out rfl _ rfl rfl ?_)
          | (refine wstT HZ6.out { t with said := (e : Int) } (.slice A2 l.length c2) rfl rfl _ _ rfl rfl rfl ?_; intro w8 hs ho hbl; have HX := Lib.hid hs; have HB8 := Lib.hid (hbl _ _ HB6.out (by omega)); have HO8 := Lib.hid (own_other HO6.out HOZ.out ho); have HBV8 := Lib.hid ((HBV6.out.far HV2.out ho).more (Nat.le_trans HSZ.out (hbl 0 _ (Below.refl _ _) (Nat.zero_le _)).size)); clear hs ho hbl))
        exact bodyPost_ret (results_read rfl rfl rfl HX.out) rfl ⟨⟨_, _, by rw [HRE.out], by rw [HRE.out]; exact Bys.of_own HO8.out, by rw [HRE.out]; exact HBV8.out, (fun k hk => by have := (HO8.out.lt _ hk).1; omega), (fun k hk => by injection hk with hk; have h2 : w4.heap.size = k := hk; have := HW4.out; omega)⟩, HB8.out⟩
end Go.Proofs.YtlenlldiimohjaaGreatDoor
