
/-
  strconv.FormatUint at base 16, and the program's digits. Condition: the entry 15 of math/bits' table of 64 is 4.
-/
import Derived.Test.YtlenlldiimohjaaGreatDoorAHex
namespace Go.Proofs.YtlenlldiimohjaaGreatDoor
open Go.RowKit

def TZ (w : World) : Prop := w.cell? ⟨7, 15, none⟩ = some (.int .u8 4)
theorem TZ.below {w w' : World} {B : Nat} (h : TZ w) (hb : Below B w w') (hB : w.heap.size ≤ B) : TZ w' :=
  (hb.cell (Nat.lt_of_lt_of_le (World.block_lt_of_cell? w _ h) hB)).trans h
theorem tz64_calls (w : World) (h : TZ w) : Calls Tryz.prog 207 #[.int .u64 16] w fun e w' => e = .returned (.int .i64 4) ∧ w = w' := by
  unfold TZ at h
  have h1 : bits .and .u64 16 (IntKind.u64.wrap (-16)) = 16 := by decide
  have h2 : IntKind.u64.wrap 4573923408821661840 = 4573923408821661840 := by decide
  go_enter Tryz.func207, Tryz.ntmps207
  go_wp2
  go_ret
  exact ⟨rfl, rfl⟩
theorem tz_calls (w : World) (h : TZ w) : Calls Tryz.prog 199 #[.int .u64 16] w fun e w' => e = .returned (.int .i64 4) ∧ w = w' := by
  have H := Lib.hid h; clear h
  go_enter Tryz.func199, Tryz.ntmps199
  go_wp2_with (go_at_call 207; refine (tz64_calls _ H.out).mono ?_; rintro e w' ⟨rfl, rfl⟩)
  go_ret
  exact ⟨rfl, rfl⟩
theorem two_calls (w : World) : Calls Tryz.prog 198 #[.int .i64 16] w fun e w' => e = .returned (.bool true) ∧ w = w' := by
  have h1 : bits .and .i64 16 15 = 0 := by decide
  go_enter Tryz.func198, Tryz.ntmps198
  go_wp2
  go_ret
  exact ⟨rfl, rfl⟩
/-- The row behind k digits. -/
def fmtL (n k : Nat) : List Value := (List.range 65).map fun j => if j < 65 - k then .int .u8 0 else .int .u8 ((hexC (n / 16 ^ (64 - j) % 16)).toNat : Int)
theorem fmtL_zero (n : Nat) : fmtL n 0 = List.replicate 65 (.int .u8 0) := by
  unfold fmtL
  rw [List.map_congr_left (g := fun _ => Value.int .u8 0) (fun j hj => if_pos (by have := List.mem_range.1 hj; omega))]
  rfl
theorem fmtL_len (n k : Nat) : (fmtL n k).length = 65 := by simp [fmtL]
theorem fmtL_set (n k : Nat) (hk : k < 65) : (fmtL n k).toArray.setIfInBounds (64 - k) (.int .u8 ((hexC (n / 16 ^ k % 16)).toNat : Int)) = (fmtL n (k + 1)).toArray := by
  apply Array.ext
  · simp [fmtL]
  · intro j h1 h2
    have hj : j < 65 := by simpa [fmtL] using h2
    rw [Array.getElem_setIfInBounds (by simpa [fmtL] using hj)]
    by_cases he : 64 - k = j
    · rw [if_pos he]
      subst he
      simp only [fmtL, List.getElem_toArray, List.getElem_map, List.getElem_range]
      rw [if_neg (by omega), show 64 - (64 - k) = k by omega]
    · rw [if_neg he]
      simp only [fmtL, List.getElem_toArray, List.getElem_map, List.getElem_range]
      by_cases hl : j < 65 - k
      · rw [if_pos hl, if_pos (show j < 65 - (k + 1) by omega)]
      · rw [if_neg hl, if_neg (show ¬ j < 65 - (k + 1) by omega)]
theorem fmtL_at (n k j : Nat) (hk : k ≤ 65) (hj : j < (hexN k n).length) : (fmtL n k).toArray[65 - k + j]? = some (.int .u8 ((hexN k n)[j].toNat : Int)) := by
  have hjk : j < k := by rw [hexN_len] at hj; exact hj
  have h := hexN_get k n j hjk
  rw [List.getElem?_eq_getElem hj] at h
  injection h with h
  rw [h]
  simp only [fmtL, List.getElem?_toArray, List.getElem?_map]
  rw [List.getElem?_range (by omega)]
  show some (if 65 - k + j < 65 - k then Value.int .u8 0 else .int .u8 ((hexC (n / 16 ^ (64 - (65 - k + j)) % 16)).toNat : Int)) = _
  rw [if_neg (by omega), show 64 - (65 - k + j) = k - 1 - j by omega]
theorem hexM_stop : ∀ (k f n : Nat), k < f → n / 16 ^ k < 16 → (∀ j, j < k → 16 ≤ n / 16 ^ j) → hexM f n = hexN (k + 1) n
  | 0, f, n, hf, h, _ => by
    obtain ⟨f, rfl⟩ : ∃ g, f = g + 1 := ⟨f - 1, by omega⟩
    rw [Nat.pow_zero, Nat.div_one] at h
    rw [hexM, if_pos h, hexN, hexN, Nat.mod_eq_of_lt h]
    rfl
  | k + 1, f, n, hf, h, ha => by
    obtain ⟨f, rfl⟩ : ∃ g, f = g + 1 := ⟨f - 1, by omega⟩
    have h0 := ha 0 (by omega)
    rw [Nat.pow_zero, Nat.div_one] at h0
    have e : ∀ j, n / 16 / 16 ^ j = n / 16 ^ (j + 1) := fun j => by rw [Nat.div_div_eq_div_mul, Nat.pow_succ, Nat.mul_comm]
    rw [hexM, if_neg (by omega), hexM_stop k f (n / 16) (by omega) (by rw [e]; exact h) (fun j hj => by rw [e]; exact ha (j + 1) (by omega))]
    rfl
def hexWord36 : ByteArray := ⟨#[48, 49, 50, 51, 52, 53, 54, 55, 56, 57, 97, 98, 99, 100, 101, 102, 103, 104, 105, 106, 107, 108, 109, 110, 111, 112, 113, 114, 115, 116, 117, 118, 119, 120, 121, 122]⟩
theorem hexWord36_at : ∀ (d : Nat) (h : d < 16), hexWord36[d]'(by show d < 36; omega) = hexC d := by
  have key : ∀ d : Fin 16, hexWord36.data[d.1]'(by show d.1 < 36; omega) = hexC d.1 := by decide
  exact fun d h => key ⟨d, h⟩
section
variable {ops : Array Oper} {rest : List Oper} {op : Oper} {a : Act} {w : World} {Q : Exit → Act → World → Prop}
theorem ex_hex36 {k : IntKind} {z : Int} (x y : Operand) (d : Nat) (ho : op.op = .index 9 x y) (hx : a.eval x = .string hexWord36) (hy : a.eval y = .int k z) (hz : z = (d : Int)) (hd : d < 16) : (execOp a.eval op).run Tryz.prog w = .ok (.value (.int .u8 ((hexC d).toNat : Int))) w := by
  subst hz
  rw [← hexWord36_at d hd]
  exact ex_idx x y hexWord36 d ho hx hy (by show d < 36; omega)
end
theorem slice65 (w : World) (g r : Nat) (hr : r < 65) : (Instr.sliceAt 239 (.pointer (some ⟨g, 0, none⟩)) (some (.int .i64 (r : Int))) none none).run Tryz.prog w = .ok (.slice (some ⟨g, r, none⟩) (65 - r) (65 - r)) w := by
  have ht : Tryz.prog.underlying 239 = some (.array (Tryz.prog.arrayLen 239) (Tryz.prog.elem 239)) := by kernel_rfl
  have hl : Tryz.prog.arrayLen 239 = 65 := by kernel_rfl
  have he : Tryz.prog.elem 239 = 5 := by kernel_rfl
  rw [run_sliceAt_array_l w _ _ ht .i64 r (by omega) (by rw [hl]; omega), hl, he]
  have hm : ¬ 65 = r := by omega
  simp [slicedAt, hm, Addr.add_lit]
set_option maxRecDepth 100000 in
set_option maxHeartbeats 3200000 in
theorem formatBits_calls (n : Nat) (hn : n < 18446744073709551616) (w : World) (h : TZ w) :
    Calls Tryz.prog 179 #[.slice none 0 0, .int .u64 (n : Int), .int .i64 16, .bool false, .bool false] w fun e w' => e = .returned (.tuple #[.slice none 0 0, .string (ofL (hexM 16 n))]) ∧ Below w.heap.size w w' := by
  have HT := Lib.hid h
  clear h
  go_enter Tryz.func179, Tryz.ntmps179
  go_upto_region 9 with (first
    | (go_at_call 198; refine (two_calls _).mono ?_; rintro e w' ⟨rfl, rfl⟩)
    | (go_at_call 199; refine (tz_calls _ (HT.out.below ((Below.refl _ _).alloc (Nat.le_refl _) _) (Nat.le_refl _))).mono ?_; rintro e w' ⟨rfl, rfl⟩))
  have HB := Lib.hid (show Blk (w.alloc (Obj.cells Tryz.zeroCells239 239)) w.heap.size 239 (fmtL n 0).toArray from by
    rw [fmtL_zero, show (List.replicate 65 (Value.int .u8 0)).toArray = Tryz.zeroCells239 from by kernel_rfl]
    exact Blk.new _ _ _)
  have HL := Lib.hid ((Below.refl w.heap.size w).alloc (Nat.le_refl _) (Obj.cells Tryz.zeroCells239 239))
  have HG := Lib.hid (Nat.le_refl w.heap.size)
  generalize w.alloc (Obj.cells Tryz.zeroCells239 239) = w1 at HB HL ⊢
  generalize hg : w.heap.size = g at HB
  have HG := Lib.hid hg
  clear hg HT
  go_wp2_with fail
  go_loopw [1, 13] (fun u i wr => ∃ k r : Nat, k ≤ 15 ∧ r + k = 65 ∧ u = .int .u64 ((n / 16 ^ k : Nat) : Int) ∧ i = .int .i64 (r : Int) ∧ (∀ j, j < k → 16 ≤ n / 16 ^ j) ∧ Blk wr g 239 (fmtL n k).toArray ∧ Below w.heap.size w wr) (fun u _ _ => (intOf u).toNat)
  case atStart => exact ⟨0, 65, by omega, rfl, by simp, rfl, fun j hj => absurd hj (by omega), HB.out, HL.out⟩
  case round =>
    obtain ⟨k, r, hk, hr, rfl, rfl, ha, hb, hl⟩ := hrel
    clear HB HL
    have HL := Lib.hid hl
    have HB := Lib.hid hb
    have HA := Lib.hid ha
    clear hl hb ha
    obtain ⟨r, rfl⟩ : ∃ q, r = q + 1 := ⟨r - 1, by omega⟩
    obtain ⟨m, hm⟩ : ∃ m, n / 16 ^ k = m := ⟨_, rfl⟩
    rw [hm]
    have hmb : m < 18446744073709551616 := by rw [← hm]; exact Nat.lt_of_le_of_lt (Nat.div_le_self _ _) hn
    obtain ⟨v0, hc⟩ : ∃ v, wr.cell? ⟨g, r, none⟩ = some v := by
      rw [Blk.cell HB.out r, Array.getElem?_eq_getElem (by simp [fmtL]; omega)]
      exact ⟨_, rfl⟩
    have hz := Blk.frozen HB.out r
    have HBS := Lib.hid (show (fmtL n k).toArray.setIfInBounds r (.int .u8 ((hexC (m % 16)).toNat : Int)) = (fmtL n (k + 1)).toArray from by
      have h := fmtL_set n k (by omega)
      rw [hm, show 64 - k = r by omega] at h
      exact h)
    by_cases hge : 16 ≤ m
    · have hge' : ¬ (m : Int) < 16 := by omega
      have HK := Lib.hid (show k + 1 ≤ 15 from by
        have h1 : 16 * 16 ^ k ≤ n := by
          rw [← hm] at hge
          exact (Nat.le_div_iff_mul_le (Nat.pow_pos (by omega))).1 hge
        rcases Nat.lt_or_ge k 15 with h2 | h2
        · omega
        · have : k = 15 := by omega
          subst this
          omega)
      have HA2 := Lib.hid (show ∀ j, j < k + 1 → 16 ≤ n / 16 ^ j from fun j hj => by
        rcases Nat.lt_or_ge j k with h | h
        · exact HA.out j h
        · have : j = k := by omega
          subst this
          rw [hm]
          exact hge)
      have HQ := Lib.hid (show ((m : Int) / 16) = ((n / 16 ^ (k + 1) : Nat) : Int) from by
        rw [Nat.pow_succ, ← Nat.div_div_eq_div_mul, hm]
        omega)
      have hand : bits .and .u64 (m : Int) 15 = ((m % 16 : Nat) : Int) := by
        rw [show (15 : Int) = ((15 : Nat) : Int) from rfl, u64_and_nat m 15 hmb (by omega), show 15 = 2 ^ 4 - 1 from rfl, Nat.and_two_pow_sub_one_eq_mod]
      have hd : m % 16 < 16 := Nat.mod_lt _ (by omega)
      clear hm
      obtain ⟨d, hdd⟩ : ∃ d, m % 16 = d := ⟨_, rfl⟩
      rw [hdd] at hd hand
      have HBD := Lib.hid (hdd ▸ HBS.out)
      clear hdd HBS
      go_wp2_with (refine wpl_val rfl (ex_hex36 _ _ d rfl rfl rfl (by first | rfl | exact hand) hd) ?_)
      go_roundw
      case rel => exact ⟨k + 1, r, HK.out, by omega, by rw [HQ.out], rfl, HA2.out, by rw [← HBD.out]; exact Blk.set_ HB.out r _, HL.out.setCell (by show w.heap.size ≤ g; rw [HG.out]; exact Nat.le_refl _) _⟩
      case measure => simp [intOf]; omega
    · have hlt : (m : Int) < 16 := by omega
      have hd : m < 16 := by omega
      have HS := Lib.hid (hexM_stop k 16 n (by omega) (by rw [hm]; exact hd) HA.out)
      have HBD := Lib.hid (Nat.mod_eq_of_lt hd ▸ HBS.out)
      clear hm HBS
      go_upto_region 25 with (refine wpl_val rfl (ex_hex36 _ _ m rfl rfl rfl rfl hd) ?_)
      have HB2 := Lib.hid (show Blk (wr.setCell ⟨g, r, none⟩ (.int .u8 ((hexC m).toNat : Int))) g 239 (fmtL n (k + 1)).toArray from by rw [← HBD.out]; exact Blk.set_ HB.out r _)
      have HL2 := Lib.hid (HL.out.setCell (p := ⟨g, r, none⟩) (by show w.heap.size ≤ g; rw [HG.out]; exact Nat.le_refl _) (.int .u8 ((hexC m).toNat : Int)))
      clear hc hz HB HL HBD
      change Code.wp _ _ _ _ (wr.setCell ⟨g, r, none⟩ (.int .u8 ((hexC m).toNat : Int)))
      generalize wr.setCell ⟨g, r, none⟩ (.int .u8 ((hexC m).toNat : Int)) = w2 at HB2 HL2 ⊢
      have hconv := run_convert_bytes_back (P := Tryz.prog) w2 47 9 5 ⟨g, r, none⟩ (65 - r) (hexN (k + 1) n) Tryz.underlying47 Tryz.underlying5 Tryz.underlying9 (fun j hj => by
        rw [Addr.add_lit, Blk.cell HB2.out (r + j)]
        have h := fmtL_at n (k + 1) j (by omega) hj
        rw [show 65 - (k + 1) + j = r + j by omega] at h
        exact h)
      rw [hexN_len, show k + 1 = 65 - r by omega] at hconv
      have hsl := slice65 w2 g r (by omega)
      go_wp2_with fail
      go_ret2
      exact ⟨by rw [HS.out, show k + 1 = 65 - r by omega]; rfl, HL2.out⟩
theorem fmt64_calls (n : Nat) (hn : n < 18446744073709551616) (w : World) (h : TZ w) :
    Calls Tryz.prog 157 #[.int .u64 (n : Int), .int .i64 16] w fun e w' => e = .returned (.string (ofL (hexM 16 n))) ∧ Below w.heap.size w w' := by
  have HT := Lib.hid h
  clear h
  go_enter Tryz.func157, Tryz.ntmps157
  go_wp2_with (go_at_call 179; refine (formatBits_calls n hn _ HT.out).mono ?_; rintro e w' ⟨rfl, hb⟩; have HB := Lib.hid hb; clear hb)
  go_ret
  exact ⟨rfl, HB.out⟩
theorem fmt_calls (n : Nat) (hn : n < 18446744073709551616) (w : World) (h : TZ w) :
    Calls Tryz.prog 137 #[.int .u64 (n : Int), .int .i64 16] w fun e w' => e = .returned (.string (ofL (hexM 16 n))) ∧ Below w.heap.size w w' := by
  have HT := Lib.hid h
  clear h
  go_enter Tryz.func137, Tryz.ntmps137
  go_wp2_with (go_at_call 157; refine (fmt64_calls n hn _ HT.out).mono ?_; rintro e w' ⟨rfl, hb⟩; have HB := Lib.hid hb; clear hb)
  go_ret
  exact ⟨rfl, HB.out⟩
theorem hexM_hex16 (n : Nat) (hn : n < 18446744073709551616) : (ofL (hexM 16 n)).size ≤ 16 ∧ List.replicate (16 - (ofL (hexM 16 n)).size) 48 ++ hexM 16 n = hexN 16 n := by
  have h := hexM_pad 16 n (by omega) (by omega)
  exact ⟨h.1, h.2.2⟩
theorem repeat_one (c : Nat) : Lib.repeatL [48] c = List.replicate c (48 : UInt8) := by
  induction c with
  | zero => rfl
  | succ c ih => rw [Lib.repeatL, ih, List.replicate_succ]; rfl
theorem bytes_app (a b : List UInt8) : (ofL a) ++ (ofL b) = ofL (a ++ b) := by
  apply ByteArray.ext
  rw [ByteArray.data_append]
  simp [ofL]
theorem digits_calls (n : Nat) (hn : n < 18446744073709551616) (w : World) (h : TZ w) :
    Calls Tryz.prog 114 #[.int .u64 (n : Int)] w fun e w' => e = .returned (.string (hex16 n)) ∧ Below w.heap.size w w' := by
  have HT := Lib.hid h
  clear h
  obtain ⟨hz, hx⟩ := hexM_hex16 n hn
  have HX := Lib.hid hx
  obtain ⟨t, ht⟩ : ∃ t, ofL (hexM 16 n) = t := ⟨_, rfl⟩
  rw [ht] at hz
  obtain ⟨z, hzz⟩ : ∃ z, ofL (Lib.repeatL (⟨#[48]⟩ : ByteArray).data.toList (16 - t.size)) = z := ⟨_, rfl⟩
  have hzs : z.size ≤ 16 := by
    rw [← hzz]
    show (Lib.repeatL _ _).toArray.size ≤ 16
    rw [List.size_toArray, Lib.repeatL_length]
    show (16 - t.size) * 1 ≤ 16
    omega
  have HE := Lib.hid (show z ++ t = hex16 n from by
    rw [← hzz, ← ht, bytes_app, show (⟨#[48]⟩ : ByteArray).data.toList = [48] from rfl, repeat_one, hex16, ← hx])
  have HTT := Lib.hid ht
  have HZZ := Lib.hid hzz
  clear hx ht hzz
  go_enter Tryz.func114, Tryz.ntmps114
  go_wp2_with (first
    | (go_at_call 137; refine (fmt_calls n hn _ HT.out).mono ?_; rw [HTT.out]; rintro e w' ⟨rfl, hb⟩; have HB := Lib.hid hb; clear hb)
    | (go_at_call 138; rw [show (16 : Int) - (t.size : Int) = ((16 - t.size : Nat) : Int) from by omega]; refine (Tryz.strings_Repeat ⟨#[48]⟩ (16 - t.size) _ (by omega) (by show 1 * (16 - t.size) ≤ _; omega)).mono ?_; rw [show (⟨(Lib.repeatL (⟨#[48]⟩ : ByteArray).data.toList (16 - t.size)).toArray⟩ : ByteArray) = z from HZZ.out]; rintro e w' ⟨rfl, hb⟩; replace HB := Lib.hid (HB.out.trans (hb.mono HB.out.size)); clear hb))
  go_ret
  exact ⟨by rw [HE.out]; rfl, HB.out⟩
end Go.Proofs.YtlenlldiimohjaaGreatDoor
