/-
  AFmt ASum ALine U33 AAns ANum AWrite ARead APiece: what AuthDoes needs of them.
-/
import Derived.Test.YtlenlldiimohjaaGreatDoorQ06
import Derived.Test.YtlenlldiimohjaaGreatDoorProg
import Derived.Test.YtlenlldiimohjaaGreatDoorQ01
import Derived.WalkKit
import Derived.ProofKit
import Derived.OpenShut
import Derived.Lib.Hide
import Derived.Deep.RegionHeld3
import Derived.Lib.MinMax
namespace Go.Proofs.YtlenlldiimohjaaGreatDoor
open Go.RowKit

def TZ (w : World) : Prop := w.cell? ⟨7, 15, none⟩ = some (.int .u8 4)
theorem TZ.below {w w' : World} {B : Nat} (h : TZ w) (hb : Below B w w') (hB : w.heap.size ≤ B) : TZ w' :=
  (hb.cell (Nat.lt_of_lt_of_le (World.block_lt_of_cell? w _ h) hB)).trans h
theorem tz64_calls (w : World) (h : TZ w) : Calls Tryz.prog 207 #[.int .u64 16] w fun e w' => e = .returned (.int .i64 4) ∧ w = w' := by
  unfold TZ at h
  have h1 : bits .and .u64 16 (IntKind.u64.wrap (-16)) = 16 := by decide
  have h2 : IntKind.u64.wrap 4573923408821661840 = 4573923408821661840 := by decide
  go_enter Tryz.func207, Tryz.ntmps207
  go_wp2
  go_ret
  exact ⟨rfl, rfl⟩
theorem tz_calls (w : World) (h : TZ w) : Calls Tryz.prog 199 #[.int .u64 16] w fun e w' => e = .returned (.int .i64 4) ∧ w = w' := by
  have H := Lib.hid h; clear h
  go_enter Tryz.func199, Tryz.ntmps199
  go_wp2_with (go_at_call 207; refine (tz64_calls _ H.out).mono ?_; rintro e w' ⟨rfl, rfl⟩)
  go_ret
  exact ⟨rfl, rfl⟩
theorem two_calls (w : World) : Calls Tryz.prog 198 #[.int .i64 16] w fun e w' => e = .returned (.bool true) ∧ w = w' := by
  have h1 : bits .and .i64 16 15 = 0 := by decide
  go_enter Tryz.func198, Tryz.ntmps198
  go_wp2
  go_ret
  exact ⟨rfl, rfl⟩
/-- The row behind k digits. -/
def fmtL (n k : Nat) : List Value := (List.range 65).map fun j => if j < 65 - k then .int .u8 0 else .int .u8 ((hexC (n / 16 ^ (64 - j) % 16)).toNat : Int)
theorem fmtL_zero (n : Nat) : fmtL n 0 = List.replicate 65 (.int .u8 0) := by
  unfold fmtL
  rw [List.map_congr_left (g := fun _ => Value.int .u8 0) (fun j hj => if_pos (by have := List.mem_range.1 hj; omega))]
  rfl
theorem fmtL_set (n k : Nat) (hk : k < 65) : (fmtL n k).toArray.setIfInBounds (64 - k) (.int .u8 ((hexC (n / 16 ^ k % 16)).toNat : Int)) = (fmtL n (k + 1)).toArray := by
  apply Array.ext
  · simp [fmtL]
  · intro j h1 h2
    have hj : j < 65 := by simpa [fmtL] using h2
    rw [Array.getElem_setIfInBounds (by simpa [fmtL] using hj)]
    by_cases he : 64 - k = j
    · rw [if_pos he]
      subst he
      simp only [fmtL, List.getElem_toArray, List.getElem_map, List.getElem_range]
      rw [if_neg (by omega), show 64 - (64 - k) = k by omega]
    · rw [if_neg he]
      simp only [fmtL, List.getElem_toArray, List.getElem_map, List.getElem_range]
      by_cases hl : j < 65 - k
      · rw [if_pos hl, if_pos (show j < 65 - (k + 1) by omega)]
      · rw [if_neg hl, if_neg (show ¬ j < 65 - (k + 1) by omega)]
theorem fmtL_at (n k j : Nat) (hk : k ≤ 65) (hj : j < (hexN k n).length) : (fmtL n k).toArray[65 - k + j]? = some (.int .u8 ((hexN k n)[j].toNat : Int)) := by
  have hjk : j < k := by rw [hexN_len] at hj; exact hj
  have h := hexN_get k n j hjk
  rw [List.getElem?_eq_getElem hj] at h
  injection h with h
  rw [h]
  simp only [fmtL, List.getElem?_toArray, List.getElem?_map]
  rw [List.getElem?_range (by omega)]
  show some (if 65 - k + j < 65 - k then Value.int .u8 0 else .int .u8 ((hexC (n / 16 ^ (64 - (65 - k + j)) % 16)).toNat : Int)) = _
  rw [if_neg (by omega), show 64 - (65 - k + j) = k - 1 - j by omega]
theorem hexM_stop : ∀ (k f n : Nat), k < f → n / 16 ^ k < 16 → (∀ j, j < k → 16 ≤ n / 16 ^ j) → hexM f n = hexN (k + 1) n
  | 0, f, n, hf, h, _ => by
    obtain ⟨f, rfl⟩ : ∃ g, f = g + 1 := ⟨f - 1, by omega⟩
    rw [Nat.pow_zero, Nat.div_one] at h
    rw [hexM, if_pos h, hexN, hexN, Nat.mod_eq_of_lt h]
    rfl
  | k + 1, f, n, hf, h, ha => by
    obtain ⟨f, rfl⟩ : ∃ g, f = g + 1 := ⟨f - 1, by omega⟩
    have h0 := ha 0 (by omega)
    rw [Nat.pow_zero, Nat.div_one] at h0
    have e : ∀ j, n / 16 / 16 ^ j = n / 16 ^ (j + 1) := fun j => by rw [Nat.div_div_eq_div_mul, Nat.pow_succ, Nat.mul_comm]
    rw [hexM, if_neg (by omega), hexM_stop k f (n / 16) (by omega) (by rw [e]; exact h) (fun j hj => by rw [e]; exact ha (j + 1) (by omega))]
    rfl
def hexWord36 : ByteArray := ⟨#[48, 49, 50, 51, 52, 53, 54, 55, 56, 57, 97, 98, 99, 100, 101, 102, 103, 104, 105, 106, 107, 108, 109, 110, 111, 112, 113, 114, 115, 116, 117, 118, 119, 120, 121, 122]⟩
theorem hexWord36_at : ∀ (d : Nat) (h : d < 16), hexWord36[d]'(by show d < 36; omega) = hexC d := by
  have key : ∀ d : Fin 16, hexWord36.data[d.1]'(by show d.1 < 36; omega) = hexC d.1 := by decide
  exact fun d h => key ⟨d, h⟩
section
variable {ops : Array Oper} {rest : List Oper} {op : Oper} {a : Act} {w : World} {Q : Exit → Act → World → Prop}
theorem ex_hex36 {k : IntKind} {z : Int} (x y : Operand) (d : Nat) (ho : op.op = .index 9 x y) (hx : a.eval x = .string hexWord36) (hy : a.eval y = .int k z) (hz : z = (d : Int)) (hd : d < 16) : (execOp a.eval op).run Tryz.prog w = .ok (.value (.int .u8 ((hexC d).toNat : Int))) w := by
  subst hz
  rw [← hexWord36_at d hd]
  exact ex_idx x y hexWord36 d ho hx hy (by show d < 36; omega)
end
theorem slice65 (w : World) (g r : Nat) (hr : r < 65) : (Instr.sliceAt 239 (.pointer (some ⟨g, 0, none⟩)) (some (.int .i64 (r : Int))) none none).run Tryz.prog w = .ok (.slice (some ⟨g, r, none⟩) (65 - r) (65 - r)) w := by
  have ht : Tryz.prog.underlying 239 = some (.array (Tryz.prog.arrayLen 239) (Tryz.prog.elem 239)) := by kernel_rfl
  have hl : Tryz.prog.arrayLen 239 = 65 := by kernel_rfl
  have he : Tryz.prog.elem 239 = 5 := by kernel_rfl
  rw [run_sliceAt_array_l w _ _ ht .i64 r (by omega) (by rw [hl]; omega), hl, he]
  have hm : ¬ 65 = r := by omega
  simp [slicedAt, hm, Addr.add_lit]
set_option maxRecDepth 100000 in
set_option maxHeartbeats 3200000 in
theorem formatBits_calls (n : Nat) (hn : n < 18446744073709551616) (w : World) (h : TZ w) :
    Calls Tryz.prog 179 #[.slice none 0 0, .int .u64 (n : Int), .int .i64 16, .bool false, .bool false] w fun e w' => e = .returned (.tuple #[.slice none 0 0, .string (ofL (hexM 16 n))]) ∧ Below w.heap.size w w' := by
  have HT := Lib.hid h
  clear h
  go_enter Tryz.func179, Tryz.ntmps179
  go_upto_region 9 with (first
    | (go_at_call 198; refine (two_calls _).mono ?_; rintro e w' ⟨rfl, rfl⟩)
    | (go_at_call 199; refine (tz_calls _ (HT.out.below ((Below.refl _ _).alloc (Nat.le_refl _) _) (Nat.le_refl _))).mono ?_; rintro e w' ⟨rfl, rfl⟩))
  have HB := Lib.hid (show Blk (w.alloc (Obj.cells Tryz.zeroCells239 239)) w.heap.size 239 (fmtL n 0).toArray from by
    rw [fmtL_zero, show (List.replicate 65 (Value.int .u8 0)).toArray = Tryz.zeroCells239 from by kernel_rfl]
    exact Blk.new _ _ _)
  have HL := Lib.hid ((Below.refl w.heap.size w).alloc (Nat.le_refl _) (Obj.cells Tryz.zeroCells239 239))
  have HG := Lib.hid (Nat.le_refl w.heap.size)
  generalize w.alloc (Obj.cells Tryz.zeroCells239 239) = w1 at HB HL ⊢
  generalize hg : w.heap.size = g at HB
  have HG := Lib.hid hg
  clear hg HT
  go_wp2_with fail
  go_loopw [1, 13] (fun u i wr => ∃ k r : Nat, k ≤ 15 ∧ r + k = 65 ∧ u = .int .u64 ((n / 16 ^ k : Nat) : Int) ∧ i = .int .i64 (r : Int) ∧ (∀ j, j < k → 16 ≤ n / 16 ^ j) ∧ Blk wr g 239 (fmtL n k).toArray ∧ Below w.heap.size w wr) (fun u _ _ => (intOf u).toNat)
  case atStart => exact ⟨0, 65, by omega, rfl, by simp, rfl, fun j hj => absurd hj (by omega), HB.out, HL.out⟩
  case round =>
    obtain ⟨k, r, hk, hr, rfl, rfl, ha, hb, hl⟩ := hrel
    clear HB HL
    have HL := Lib.hid hl
    have HB := Lib.hid hb
    have HA := Lib.hid ha
    clear hl hb ha
    obtain ⟨r, rfl⟩ : ∃ q, r = q + 1 := ⟨r - 1, by omega⟩
    obtain ⟨m, hm⟩ : ∃ m, n / 16 ^ k = m := ⟨_, rfl⟩
    rw [hm]
    have hmb : m < 18446744073709551616 := by rw [← hm]; exact Nat.lt_of_le_of_lt (Nat.div_le_self _ _) hn
    obtain ⟨v0, hc⟩ : ∃ v, wr.cell? ⟨g, r, none⟩ = some v := by
      rw [Blk.cell HB.out r, Array.getElem?_eq_getElem (by simp [fmtL]; omega)]
      exact ⟨_, rfl⟩
    have hz := Blk.frozen HB.out r
    have HBS := Lib.hid (show (fmtL n k).toArray.setIfInBounds r (.int .u8 ((hexC (m % 16)).toNat : Int)) = (fmtL n (k + 1)).toArray from by
      have h := fmtL_set n k (by omega)
      rw [hm, show 64 - k = r by omega] at h
      exact h)
    by_cases hge : 16 ≤ m
    · have hge' : ¬ (m : Int) < 16 := by omega
      have HK := Lib.hid (show k + 1 ≤ 15 from by
        have h1 : 16 * 16 ^ k ≤ n := by
          rw [← hm] at hge
          exact (Nat.le_div_iff_mul_le (Nat.pow_pos (by omega))).1 hge
        rcases Nat.lt_or_ge k 15 with h2 | h2
        · omega
        · have : k = 15 := by omega
          subst this
          omega)
      have HA2 := Lib.hid (show ∀ j, j < k + 1 → 16 ≤ n / 16 ^ j from fun j hj => by
        rcases Nat.lt_or_ge j k with h | h
        · exact HA.out j h
        · have : j = k := by omega
          subst this
          rw [hm]
          exact hge)
      have HQ := Lib.hid (show ((m : Int) / 16) = ((n / 16 ^ (k + 1) : Nat) : Int) from by
        rw [Nat.pow_succ, ← Nat.div_div_eq_div_mul, hm]
        omega)
      have hand : bits .and .u64 (m : Int) 15 = ((m % 16 : Nat) : Int) := by
        rw [show (15 : Int) = ((15 : Nat) : Int) from rfl, u64_and_nat m 15 hmb (by omega), show 15 = 2 ^ 4 - 1 from rfl, Nat.and_two_pow_sub_one_eq_mod]
      have hd : m % 16 < 16 := Nat.mod_lt _ (by omega)
      clear hm
      obtain ⟨d, hdd⟩ : ∃ d, m % 16 = d := ⟨_, rfl⟩
      rw [hdd] at hd hand
      have HBD := Lib.hid (hdd ▸ HBS.out)
      clear hdd HBS
      go_wp2_with (refine wpl_val rfl (ex_hex36 _ _ d rfl rfl rfl (by first | rfl | exact hand) hd) ?_)
      go_roundw
      case rel => exact ⟨k + 1, r, HK.out, by omega, by rw [HQ.out], rfl, HA2.out, by rw [← HBD.out]; exact Blk.set_ HB.out r _, HL.out.setCell (by show w.heap.size ≤ g; rw [HG.out]; exact Nat.le_refl _) _⟩
      case measure => simp [intOf]; omega
    · have hlt : (m : Int) < 16 := by omega
      have hd : m < 16 := by omega
      have HS := Lib.hid (hexM_stop k 16 n (by omega) (by rw [hm]; exact hd) HA.out)
      have HBD := Lib.hid (Nat.mod_eq_of_lt hd ▸ HBS.out)
      clear hm HBS
      go_upto_region 25 with (refine wpl_val rfl (ex_hex36 _ _ m rfl rfl rfl rfl hd) ?_)
      have HB2 := Lib.hid (show Blk (wr.setCell ⟨g, r, none⟩ (.int .u8 ((hexC m).toNat : Int))) g 239 (fmtL n (k + 1)).toArray from by rw [← HBD.out]; exact Blk.set_ HB.out r _)
      have HL2 := Lib.hid (HL.out.setCell (p := ⟨g, r, none⟩) (by show w.heap.size ≤ g; rw [HG.out]; exact Nat.le_refl _) (.int .u8 ((hexC m).toNat : Int)))
      clear hc hz HB HL HBD
      change Code.wp _ _ _ _ (wr.setCell ⟨g, r, none⟩ (.int .u8 ((hexC m).toNat : Int)))
      generalize wr.setCell ⟨g, r, none⟩ (.int .u8 ((hexC m).toNat : Int)) = w2 at HB2 HL2 ⊢
      have hconv := run_convert_bytes_back (P := Tryz.prog) w2 47 9 5 ⟨g, r, none⟩ (65 - r) (hexN (k + 1) n) Tryz.underlying47 Tryz.underlying5 Tryz.underlying9 (fun j hj => by
        rw [Addr.add_lit, Blk.cell HB2.out (r + j)]
        have h := fmtL_at n (k + 1) j (by omega) hj
        rw [show 65 - (k + 1) + j = r + j by omega] at h
        exact h)
      rw [hexN_len, show k + 1 = 65 - r by omega] at hconv
      have hsl := slice65 w2 g r (by omega)
      go_wp2_with fail
      go_ret2
      exact ⟨by rw [HS.out, show k + 1 = 65 - r by omega]; rfl, HL2.out⟩
theorem fmt64_calls (n : Nat) (hn : n < 18446744073709551616) (w : World) (h : TZ w) :
    Calls Tryz.prog 157 #[.int .u64 (n : Int), .int .i64 16] w fun e w' => e = .returned (.string (ofL (hexM 16 n))) ∧ Below w.heap.size w w' := by
  have HT := Lib.hid h
  clear h
  go_enter Tryz.func157, Tryz.ntmps157
  go_wp2_with (go_at_call 179; refine (formatBits_calls n hn _ HT.out).mono ?_; rintro e w' ⟨rfl, hb⟩; have HB := Lib.hid hb; clear hb)
  go_ret
  exact ⟨rfl, HB.out⟩
theorem fmt_calls (n : Nat) (hn : n < 18446744073709551616) (w : World) (h : TZ w) :
    Calls Tryz.prog 137 #[.int .u64 (n : Int), .int .i64 16] w fun e w' => e = .returned (.string (ofL (hexM 16 n))) ∧ Below w.heap.size w w' := by
  have HT := Lib.hid h
  clear h
  go_enter Tryz.func137, Tryz.ntmps137
  go_wp2_with (go_at_call 157; refine (fmt64_calls n hn _ HT.out).mono ?_; rintro e w' ⟨rfl, hb⟩; have HB := Lib.hid hb; clear hb)
  go_ret
  exact ⟨rfl, HB.out⟩
theorem hexM_hex16 (n : Nat) (hn : n < 18446744073709551616) : (ofL (hexM 16 n)).size ≤ 16 ∧ List.replicate (16 - (ofL (hexM 16 n)).size) 48 ++ hexM 16 n = hexN 16 n := by
  have h := hexM_pad 16 n (by omega) (by omega)
  exact ⟨h.1, h.2.2⟩
theorem repeat_one (c : Nat) : Lib.repeatL [48] c = List.replicate c (48 : UInt8) := by
  induction c with
  | zero => rfl
  | succ c ih => rw [Lib.repeatL, ih, List.replicate_succ]; rfl
theorem bytes_app (a b : List UInt8) : (ofL a) ++ (ofL b) = ofL (a ++ b) := by
  apply ByteArray.ext
  rw [ByteArray.data_append]
  simp [ofL]
theorem digits_calls (n : Nat) (hn : n < 18446744073709551616) (w : World) (h : TZ w) :
    Calls Tryz.prog 114 #[.int .u64 (n : Int)] w fun e w' => e = .returned (.string (hex16 n)) ∧ Below w.heap.size w w' := by
  have HT := Lib.hid h
  clear h
  obtain ⟨hz, hx⟩ := hexM_hex16 n hn
  have HX := Lib.hid hx
  obtain ⟨t, ht⟩ : ∃ t, ofL (hexM 16 n) = t := ⟨_, rfl⟩
  rw [ht] at hz
  obtain ⟨z, hzz⟩ : ∃ z, ofL (Lib.repeatL (⟨#[48]⟩ : ByteArray).data.toList (16 - t.size)) = z := ⟨_, rfl⟩
  have hzs : z.size ≤ 16 := by
    rw [← hzz]
    show (Lib.repeatL _ _).toArray.size ≤ 16
    rw [List.size_toArray, Lib.repeatL_length]
    show (16 - t.size) * 1 ≤ 16
    omega
  have HE := Lib.hid (show z ++ t = hex16 n from by
    rw [← hzz, ← ht, bytes_app, show (⟨#[48]⟩ : ByteArray).data.toList = [48] from rfl, repeat_one, hex16, ← hx])
  have HTT := Lib.hid ht
  have HZZ := Lib.hid hzz
  clear hx ht hzz
  go_enter Tryz.func114, Tryz.ntmps114
  go_wp2_with (first
    | (go_at_call 137; refine (fmt_calls n hn _ HT.out).mono ?_; rw [HTT.out]; rintro e w' ⟨rfl, hb⟩; have HB := Lib.hid hb; clear hb)
    | (go_at_call 138; rw [show (16 : Int) - (t.size : Int) = ((16 - t.size : Nat) : Int) from by omega]; refine (Tryz.strings_Repeat ⟨#[48]⟩ (16 - t.size) _ (by omega) (by show 1 * (16 - t.size) ≤ _; omega)).mono ?_; rw [show (⟨(Lib.repeatL (⟨#[48]⟩ : ByteArray).data.toList (16 - t.size)).toArray⟩ : ByteArray) = z from HZZ.out]; rintro e w' ⟨rfl, hb⟩; replace HB := Lib.hid (HB.out.trans (hb.mono HB.out.size)); clear hb))
  go_ret
  exact ⟨by rw [HE.out]; rfl, HB.out⟩
end Go.Proofs.YtlenlldiimohjaaGreatDoor
namespace Go.Proofs.YtlenlldiimohjaaGreatDoor.SumLaw

def mixU (h : BitVec 64) : BitVec 64 := h * 11800147728694460525#64 ^^^ (h * 11800147728694460525#64) >>> 29
def stepU (h n : BitVec 64) : BitVec 64 := mixU (h ^^^ n)

/-! ### over whole numbers -/
def stepZ (h n : Int) : Int := ((stepU (BitVec.ofInt 64 h) (BitVec.ofInt 64 n)).toNat : Int)

def U (x : Int) : Prop := 0 ≤ x ∧ x < 18446744073709551616

theorem stepZ_U (h n : Int) : U (stepZ h n) := by
  have := (stepU (BitVec.ofInt 64 h) (BitVec.ofInt 64 n)).isLt
  constructor <;> unfold stepZ <;> omega

def runZ (h : Int) (l : List Int) : Int := l.foldl stepZ h

theorem runZ_cons (h x : Int) (l : List Int) : runZ h (x :: l) = runZ (stepZ h x) l := rfl

def seedZ : Int := 7880330927811272263
def keyNums (key : List UInt8) : List Int := key.map fun c => (c.toNat : Int) + 1

def sumZ (key : List UInt8) (l : List Int) : Int :=
  stepZ (runZ (stepZ (runZ seedZ (keyNums key)) key.length) l) l.length

theorem sumZ_U (key : List UInt8) (l : List Int) : U (sumZ key l) := stepZ_U _ _

end Go.Proofs.YtlenlldiimohjaaGreatDoor.SumLaw
namespace Go.Proofs.YtlenlldiimohjaaGreatDoor
open Go.ChangeShapes Go.WideShapes Go.ChangeAt Go.RowKit SumLaw

theorem wrapU (x : Int) : IntKind.u64.wrap x = ((BitVec.ofInt 64 x).toNat : Int) := by
  rw [IntKind.wrap_u64, BitVec.toNat_ofInt]
  have := Int.emod_nonneg x (b := 18446744073709551616) (by decide)
  simp only [Nat.reducePow, Int.cast_ofNat_Int]
  omega

theorem bits_xor_ofInt (x y : Int) : bits .xor .u64 x y = ((BitVec.ofInt 64 x ^^^ BitVec.ofInt 64 y).toNat : Int) := by
  show IntKind.u64.wrap ((BitVec.ofInt 64 x ^^^ BitVec.ofInt 64 y).toNat : Int) = _
  rw [wrapU, BitVec.ofInt_natCast, BitVec.ofNat_toNat, BitVec.setWidth_eq]

theorem se2 (z : BitVec 64) : IntKind.u64.wrap ((z.toNat : Int) * 11800147728694460525) = ((z * 11800147728694460525#64).toNat : Int) := by
  rw [wrapU, BitVec.ofInt_mul, BitVec.ofInt_natCast, BitVec.ofNat_toNat, BitVec.setWidth_eq]
  have : BitVec.ofInt 64 11800147728694460525 = 11800147728694460525#64 := by decide
  rw [this]
theorem se3 (y : BitVec 64) : (y.toNat : Int) / (536870912 : Int) = ((y >>> 29).toNat : Int) := by
  rw [BitVec.toNat_ushiftRight, Nat.shiftRight_eq_div_pow]
  have : (2 : Nat) ^ 29 = 536870912 := by decide
  rw [this]
  omega
theorem xorNat (x y : BitVec 64) : bits .xor .u64 (x.toNat : Int) (y.toNat : Int) = ((x ^^^ y).toNat : Int) := by
  rw [bits_xor_ofInt, BitVec.ofInt_natCast, BitVec.ofInt_natCast, BitVec.ofNat_toNat, BitVec.ofNat_toNat, BitVec.setWidth_eq, BitVec.setWidth_eq]
theorem step_eq (h n : Int) :
    bits BinOp.xor IntKind.u64 (IntKind.u64.wrap (bits BinOp.xor IntKind.u64 h n * 11800147728694460525))
      (IntKind.u64.wrap (bits BinOp.xor IntKind.u64 h n * 11800147728694460525) / 536870912) = stepZ h n := by
  rw [bits_xor_ofInt h n]
  unfold stepZ stepU mixU
  generalize BitVec.ofInt 64 h ^^^ BitVec.ofInt 64 n = z
  rw [se2]
  generalize z * 11800147728694460525#64 = y
  rw [se3, xorNat]

theorem step_calls (h n : Int) (w : World) : Calls Tryz.prog 139 #[.int .u64 h, .int .u64 n] w fun e w' => e = .returned (.int .u64 (stepZ h n)) ∧ w = w' := by
  go_enter Tryz.func139, Tryz.ntmps139
  go_wp2
  go_ret
  exact ⟨ret_int (step_eq h n), rfl⟩

theorem stepZ_wrap (h n : Int) : stepZ h (IntKind.u64.wrap n) = stepZ h n := by
  unfold stepZ
  rw [wrapU, BitVec.ofInt_natCast, BitVec.ofNat_toNat, BitVec.setWidth_eq]

theorem stepZ_byte (h : Int) (c : UInt8) : stepZ h (IntKind.u64.wrap (IntKind.u64.wrap (c.toNat : Int) + 1)) = stepZ h ((c.toNat : Int) + 1) := by
  rw [stepZ_wrap]
  have : IntKind.u64.wrap (c.toNat : Int) = (c.toNat : Int) := by
    rw [wrapU, BitVec.ofInt_natCast, BitVec.toNat_ofNat, Nat.mod_eq_of_lt]
    have := c.toNat_lt
    omega
  rw [this]

theorem take_snoc (s : ByteArray) (k : Nat) (h : k < s.size) : s.data.toList.take (k + 1) = s.data.toList.take k ++ [s[k]] := by
  rw [List.take_succ_eq_append_getElem (by simpa using h)]; rfl

theorem runZ_key (s : ByteArray) (k : Nat) (h : k < s.size) :
    stepZ (runZ seedZ (keyNums (s.data.toList.take k))) (IntKind.u64.wrap (IntKind.u64.wrap (s[k].toNat : Int) + 1)) = runZ seedZ (keyNums (s.data.toList.take (k + 1))) := by
  rw [stepZ_byte, take_snoc s k h]
  simp only [keyNums, runZ, List.map_append, List.foldl_append, List.map_cons, List.map_nil, List.foldl_cons, List.foldl_nil]

theorem runZ_snoc (h : Int) (l : List Int) (k : Nat) (hk : k < l.length) : stepZ (runZ h (l.take k)) (l.getD k 0) = runZ h (l.take (k + 1)) := by
  rw [List.take_succ_eq_append_getElem hk]
  simp only [runZ, List.foldl_append, List.foldl_cons, List.foldl_nil]
  rw [List.getD_eq_getElem?_getD, List.getElem?_eq_getElem hk]
  rfl

theorem sum_end (key : ByteArray) (l : List Int) (k j : Nat) (hk : k = key.size) (hj : l.length ≤ j) :
    stepZ (runZ (stepZ (runZ seedZ (keyNums (key.data.toList.take k))) (key.size : Int)) (l.take j)) (l.length : Int) = sumZ key.data.toList l := by
  have e1 : key.data.toList.take k = key.data.toList := List.take_of_length_le (by subst hk; simp)
  have e2 : l.take j = l := List.take_of_length_le hj
  rw [e1, e2]
  unfold sumZ
  rfl

theorem sum_calls (key : ByteArray) (b off cap : Nat) (l : List Int) (w : World) (hk : key.size ≤ maxLen) (hl : l.length ≤ maxLen)
    (hc : ∀ j, j < l.length → w.cell? ⟨b, off + j, none⟩ = some (.int .u64 (l.getD j 0))) :
    Calls Tryz.prog 115 #[.string key, .slice (some ⟨b, off, none⟩) l.length cap] w fun e w' => e = .returned (.int .u64 (sumZ key.data.toList l)) ∧ w = w' := by
  unfold maxLen at hk hl
  have HC := Lib.hid hc; clear hc
  go_enter Tryz.func115, Tryz.ntmps115
  go_wp2
  go_loop [5, 11] (fun h i => ∃ k : Nat, k ≤ key.size ∧ i = .int .i64 k ∧ h = .int .u64 (runZ seedZ (keyNums (key.data.toList.take k)))) (fun _ i => key.size - (intOf i).toNat)
  case atStart => exact ⟨0, Nat.zero_le _, rfl, rfl⟩
  case round =>
    obtain ⟨k, hk1, rfl, rfl⟩ := hrel
    by_cases hlt : k < key.size
    · go_wp2_with (go_at_call 139; refine (step_calls _ _ _).mono ?_; rintro e w' ⟨rfl, rfl⟩)
      go_round
      case rel => exact ⟨k + 1, by omega, by go_num, by rw [runZ_key key k hlt]⟩
      case measure => simp [intOf]; omega
    · have hkk : k = key.size := by omega
      have HK := Lib.hid hkk; clear hkk
      go_wp2_with (go_at_call 139; refine (step_calls _ _ _).mono ?_; rintro e w' ⟨rfl, rfl⟩)
      go_loop [5, 29] (fun h i => ∃ j : Nat, j ≤ l.length ∧ i = .int .i64 j ∧ h = .int .u64 (runZ (stepZ (runZ seedZ (keyNums (key.data.toList.take k))) key.size) (l.take j))) (fun _ i => l.length - (intOf i).toNat)
      case atStart => exact ⟨0, Nat.zero_le _, rfl, rfl⟩
      case round =>
        obtain ⟨j, hj1, rfl, rfl⟩ := hrel
        by_cases hlj : j < l.length
        · have hcj := HC.out j hlj
          have hrz := runZ_snoc (stepZ (runZ seedZ (keyNums (key.data.toList.take k))) key.size) l j hlj
          generalize l.getD j 0 = x at hcj hrz
          have HR := Lib.hid hrz; clear hrz
          go_wp2_with (go_at_call 139; refine (step_calls _ _ _).mono ?_; rintro e w' ⟨rfl, rfl⟩)
          go_round
          case rel => exact ⟨j + 1, by omega, by go_num, by rw [← HR.out]⟩
          case measure => simp [intOf]; omega
        · go_wp2_with (go_at_call 139; refine (step_calls _ _ _).mono ?_; rintro e w' ⟨rfl, rfl⟩)
          go_ret
          refine ⟨ret_int ?_, rfl⟩
          exact sum_end key l k j HK.out (by omega)

theorem sum_nil (key : ByteArray) (w : World) (hk : key.size ≤ maxLen) :
    Calls Tryz.prog 115 #[.string key, .slice none 0 0] w fun e w' => e = .returned (.int .u64 (sumZ key.data.toList [])) ∧ w = w' := by
  unfold maxLen at hk
  go_enter Tryz.func115, Tryz.ntmps115
  go_wp2
  go_loop [5, 11] (fun h i => ∃ k : Nat, k ≤ key.size ∧ i = .int .i64 k ∧ h = .int .u64 (runZ seedZ (keyNums (key.data.toList.take k)))) (fun _ i => key.size - (intOf i).toNat)
  case atStart => exact ⟨0, Nat.zero_le _, rfl, rfl⟩
  case round =>
    obtain ⟨k, hk1, rfl, rfl⟩ := hrel
    by_cases hlt : k < key.size
    · go_wp2_with (go_at_call 139; refine (step_calls _ _ _).mono ?_; rintro e w' ⟨rfl, rfl⟩)
      go_round
      case rel => exact ⟨k + 1, by omega, by go_num, by rw [runZ_key key k hlt]⟩
      case measure => simp [intOf]; omega
    · have hkk : k = key.size := by omega
      have HK := Lib.hid hkk; clear hkk
      go_wp2_with (go_at_call 139; refine (step_calls _ _ _).mono ?_; rintro e w' ⟨rfl, rfl⟩)
      go_loop [5, 29] (fun h i => h = .int .u64 (stepZ (runZ seedZ (keyNums (key.data.toList.take k))) key.size) ∧ i = .int .i64 0) (fun _ _ => 0)
      case atStart => exact ⟨rfl, rfl⟩
      case round =>
        obtain ⟨rfl, rfl⟩ := hrel
        go_wp2_with (go_at_call 139; refine (step_calls _ _ _).mono ?_; rintro e w' ⟨rfl, rfl⟩)
        go_ret
        refine ⟨ret_int ?_, rfl⟩
        exact sum_end key [] k 0 HK.out (by simp)

theorem cells_new (w : World) (c : List Value) (t : TypeId) (j : Nat) (v : Value) (h : c[j]? = some v) :
    (w.alloc (.cells c.toArray t)).cell? ⟨w.heap.size, 0 + j, none⟩ = some v := by
  rw [World.cell?_alloc_new]
  simpa using h

theorem sumZ_wrap (key : List UInt8) (l : List Int) : sumZ key (l.map IntKind.u64.wrap) = sumZ key l := by
  unfold sumZ
  rw [List.length_map]
  congr 1
  generalize stepZ (runZ seedZ (keyNums key)) key.length = h
  induction l generalizing h with
  | nil => rfl
  | cons x l ih => simp only [List.map_cons, runZ_cons, stepZ_wrap]; exact ih _

theorem ours_calls (n a c : Int) (w : World) (hn : IntKind.u64.wrap n = n) :
    Calls Tryz.prog 83 #[.int .u64 n, .int .i64 a, .int .i64 c] w fun e w' => e = .returned (.int .u64 (sumZ [] [n, a, c])) ∧ Below w.heap.size w w' := by
  have h1 : sumZ [] [n, IntKind.u64.wrap a, IntKind.u64.wrap c] = sumZ [] [n, a, c] := by
    have := sumZ_wrap [] [n, a, c]
    simpa [hn] using this
  have H1 := Lib.hid h1; clear h1 hn
  have hs := fun key b off cap l w hk hl => sum_calls key b off cap l w hk hl
  go_enter Tryz.func83, Tryz.ntmps83
  go_wp2_with fail
  have hc : ∀ j, j < [n, IntKind.u64.wrap a, IntKind.u64.wrap c].length → (w.alloc (Obj.cells #[Value.int IntKind.u64 n, Value.int IntKind.u64 (IntKind.u64.wrap a), Value.int IntKind.u64 (IntKind.u64.wrap c)] 22)).cell? ⟨w.heap.size, 0 + j, none⟩ = some (.int .u64 ([n, IntKind.u64.wrap a, IntKind.u64.wrap c].getD j 0)) := by
    intro j hj
    refine cells_new w [Value.int IntKind.u64 n, Value.int IntKind.u64 (IntKind.u64.wrap a), Value.int IntKind.u64 (IntKind.u64.wrap c)] 22 j _ ?_
    match j, hj with
    | 0, _ => rfl
    | 1, _ => rfl
    | 2, _ => rfl
  refine (sum_calls (ByteArray.mk #[]) w.heap.size 0 3 _ _ (by decide) (by simp [maxLen]) hc).mono ?_
  rintro e w' ⟨rfl, rfl⟩
  clear hc
  go_wp2
  go_ret
  exact ⟨ret_int H1.out, (Below.refl _ _).alloc (Nat.le_refl _) _⟩

theorem ref_step_calls (h n : Int) (w : World) : Calls Tryz.prog 136 #[.int .u64 h, .int .u64 n] w fun e w' => e = .returned (.int .u64 (stepZ h n)) ∧ w = w' := by
  go_enter Tryz.func136, Tryz.ntmps136
  go_wp2
  go_ret
  exact ⟨ret_int (step_eq h n), rfl⟩

theorem ref_sum_calls (key : ByteArray) (b off cap : Nat) (l : List Int) (w : World) (hk : key.size ≤ maxLen) (hl : l.length ≤ maxLen)
    (hc : ∀ j, j < l.length → w.cell? ⟨b, off + j, none⟩ = some (.int .u64 (l.getD j 0))) :
    Calls Tryz.prog 113 #[.string key, .slice (some ⟨b, off, none⟩) l.length cap] w fun e w' => e = .returned (.int .u64 (sumZ key.data.toList l)) ∧ w = w' := by
  unfold maxLen at hk hl
  have HC := Lib.hid hc; clear hc
  go_enter Tryz.func113, Tryz.ntmps113
  go_wp2
  go_loop [5, 6] (fun h i => ∃ k : Nat, k ≤ key.size ∧ i = .int .i64 k ∧ h = .int .u64 (runZ seedZ (keyNums (key.data.toList.take k)))) (fun _ i => key.size - (intOf i).toNat)
  case atStart => exact ⟨0, Nat.zero_le _, rfl, rfl⟩
  case round =>
    obtain ⟨k, hk1, rfl, rfl⟩ := hrel
    by_cases hlt : k < key.size
    · go_wp2_with (go_at_call 136; refine (ref_step_calls _ _ _).mono ?_; rintro e w' ⟨rfl, rfl⟩)
      go_round
      case rel => exact ⟨k + 1, by omega, by go_num, by rw [runZ_key key k hlt]⟩
      case measure => simp [intOf]; omega
    · have hkk : k = key.size := by omega
      have HK := Lib.hid hkk; clear hkk
      go_wp2_with (go_at_call 136; refine (ref_step_calls _ _ _).mono ?_; rintro e w' ⟨rfl, rfl⟩)
      go_loop [5, 7] (fun h i => ∃ j : Nat, j ≤ l.length ∧ i = .int .i64 j ∧ h = .int .u64 (runZ (stepZ (runZ seedZ (keyNums (key.data.toList.take k))) key.size) (l.take j))) (fun _ i => l.length - (intOf i).toNat)
      case atStart => exact ⟨0, Nat.zero_le _, rfl, rfl⟩
      case round =>
        obtain ⟨j, hj1, rfl, rfl⟩ := hrel
        by_cases hlj : j < l.length
        · have hcj := HC.out j hlj
          have hrz := runZ_snoc (stepZ (runZ seedZ (keyNums (key.data.toList.take k))) key.size) l j hlj
          generalize l.getD j 0 = x at hcj hrz
          have HR := Lib.hid hrz; clear hrz
          go_wp2_with (go_at_call 136; refine (ref_step_calls _ _ _).mono ?_; rintro e w' ⟨rfl, rfl⟩)
          go_round
          case rel => exact ⟨j + 1, by omega, by go_num, by rw [← HR.out]⟩
          case measure => simp [intOf]; omega
        · go_wp2_with (go_at_call 136; refine (ref_step_calls _ _ _).mono ?_; rintro e w' ⟨rfl, rfl⟩)
          go_ret
          refine ⟨ret_int ?_, rfl⟩
          exact sum_end key l k j HK.out (by omega)

theorem ref_sum_nil (key : ByteArray) (w : World) (hk : key.size ≤ maxLen) :
    Calls Tryz.prog 113 #[.string key, .slice none 0 0] w fun e w' => e = .returned (.int .u64 (sumZ key.data.toList [])) ∧ w = w' := by
  unfold maxLen at hk
  go_enter Tryz.func113, Tryz.ntmps113
  go_wp2
  go_loop [5, 6] (fun h i => ∃ k : Nat, k ≤ key.size ∧ i = .int .i64 k ∧ h = .int .u64 (runZ seedZ (keyNums (key.data.toList.take k)))) (fun _ i => key.size - (intOf i).toNat)
  case atStart => exact ⟨0, Nat.zero_le _, rfl, rfl⟩
  case round =>
    obtain ⟨k, hk1, rfl, rfl⟩ := hrel
    by_cases hlt : k < key.size
    · go_wp2_with (go_at_call 136; refine (ref_step_calls _ _ _).mono ?_; rintro e w' ⟨rfl, rfl⟩)
      go_round
      case rel => exact ⟨k + 1, by omega, by go_num, by rw [runZ_key key k hlt]⟩
      case measure => simp [intOf]; omega
    · have hkk : k = key.size := by omega
      have HK := Lib.hid hkk; clear hkk
      go_wp2_with (go_at_call 136; refine (ref_step_calls _ _ _).mono ?_; rintro e w' ⟨rfl, rfl⟩)
      go_loop [5, 7] (fun h i => h = .int .u64 (stepZ (runZ seedZ (keyNums (key.data.toList.take k))) key.size) ∧ i = .int .i64 0) (fun _ _ => 0)
      case atStart => exact ⟨rfl, rfl⟩
      case round =>
        obtain ⟨rfl, rfl⟩ := hrel
        go_wp2_with (go_at_call 136; refine (ref_step_calls _ _ _).mono ?_; rintro e w' ⟨rfl, rfl⟩)
        go_ret
        refine ⟨ret_int ?_, rfl⟩
        exact sum_end key [] k 0 HK.out (by simp)

end Go.Proofs.YtlenlldiimohjaaGreatDoor
namespace Go.Proofs.YtlenlldiimohjaaGreatDoor
open Go.RowKit SumLaw

/-- The sum by which one side shows that it has the key. -/
def shN (key user tree : ByteArray) (side ours theirs : Int) : Nat := (sumZ key.data.toList [side, ours, theirs, sumZ user.data.toList [], sumZ tree.data.toList []]).toNat
theorem shN_eq (key user tree : ByteArray) (side ours theirs : Int) : sumZ key.data.toList [side, ours, theirs, sumZ user.data.toList [], sumZ tree.data.toList []] = ((shN key user tree side ours theirs : Nat) : Int) := by
  have h := (sumZ_U key.data.toList [side, ours, theirs, sumZ user.data.toList [], sumZ tree.data.toList []]).1
  unfold shN
  omega
theorem shN_lt (key user tree : ByteArray) (side ours theirs : Int) : shN key user tree side ours theirs < 18446744073709551616 := by
  have h := sumZ_U key.data.toList [side, ours, theirs, sumZ user.data.toList [], sumZ tree.data.toList []]
  unfold shN
  have := h.1
  have := h.2
  omega
def helloS (ours : Nat) : ByteArray := ofL ([118, 101, 114, 103, 101, 114, 49, 32] ++ hexN 16 ours ++ [10])
def shownS (n : Nat) : ByteArray := ofL (hexN 16 n ++ [10])
def lineS (key user tree : ByteArray) (ours : Int) (theirs : Nat) : ByteArray := ofL (hexN 16 theirs ++ hexN 16 (shN key user tree 1 ours theirs) ++ [10])
theorem cells5 (w : World) (a b c d e : Int) (t : TypeId) : ∀ j, j < [a, b, c, d, e].length → (w.alloc (Obj.cells #[.int .u64 a, .int .u64 b, .int .u64 c, .int .u64 d, .int .u64 e] t)).cell? ⟨w.heap.size, 0 + j, none⟩ = some (.int .u64 ([a, b, c, d, e].getD j 0)) := by
  intro j hj
  refine cells_new w [.int .u64 a, .int .u64 b, .int .u64 c, .int .u64 d, .int .u64 e] t j _ ?_
  match j, hj with
  | 0, _ => rfl
  | 1, _ => rfl
  | 2, _ => rfl
  | 3, _ => rfl
  | 4, _ => rfl

theorem sum5_calls (key : ByteArray) (a b c d e : Int) (w : World) (t : TypeId) (hk : key.size ≤ maxLen) :
    Calls Tryz.prog 115 #[.string key, .slice (some ⟨w.heap.size, 0, none⟩) 5 5] (w.alloc (Obj.cells #[.int .u64 a, .int .u64 b, .int .u64 c, .int .u64 d, .int .u64 e] t)) fun r w' => r = .returned (.int .u64 (sumZ key.data.toList [a, b, c, d, e])) ∧ w.alloc (Obj.cells #[.int .u64 a, .int .u64 b, .int .u64 c, .int .u64 d, .int .u64 e] t) = w' :=
  sum_calls key w.heap.size 0 5 [a, b, c, d, e] _ hk (by simp [maxLen]) (cells5 _ _ _ _ _ _ _)
theorem ref_sum5_calls (key : ByteArray) (a b c d e : Int) (w : World) (t : TypeId) (hk : key.size ≤ maxLen) :
    Calls Tryz.prog 113 #[.string key, .slice (some ⟨w.heap.size, 0, none⟩) 5 5] (w.alloc (Obj.cells #[.int .u64 a, .int .u64 b, .int .u64 c, .int .u64 d, .int .u64 e] t)) fun r w' => r = .returned (.int .u64 (sumZ key.data.toList [a, b, c, d, e])) ∧ w.alloc (Obj.cells #[.int .u64 a, .int .u64 b, .int .u64 c, .int .u64 d, .int .u64 e] t) = w' :=
  ref_sum_calls key w.heap.size 0 5 [a, b, c, d, e] _ hk (by simp [maxLen]) (cells5 _ _ _ _ _ _ _)
set_option maxHeartbeats 1600000 in
theorem hello_calls (n : Nat) (hn : n < 18446744073709551616) (w : World) (h : TZ w) :
    Calls Tryz.prog 58 #[.int .u64 (n : Int)] w fun e w' => e = .returned (.string (helloS n)) ∧ Below w.heap.size w w' := by
  have HT := Lib.hid h
  clear h
  obtain ⟨t, ht⟩ : ∃ t, hex16 n = t := ⟨_, rfl⟩
  have hts : t.size = 16 := by rw [← ht]; exact hex16_size n
  have HE := Lib.hid (show ⟨#[118, 101, 114, 103, 101, 114, 49, 32]⟩ ++ t ++ ⟨#[10]⟩ = helloS n from by
    rw [← ht]
    show ofL [118, 101, 114, 103, 101, 114, 49, 32] ++ ofL (hexN 16 n) ++ ofL [10] = _
    rw [bytes_app, bytes_app]
    rfl)
  have HTT := Lib.hid ht
  clear ht
  go_enter Tryz.func58, Tryz.ntmps58
  go_wp2_with (go_at_call 114; (with_reducible refine (digits_calls n hn _ HT.out).mono ?_); rw [HTT.out]; rintro e w' ⟨rfl, hb⟩; have HB := Lib.hid hb; clear hb)
  go_ret
  exact ⟨by rw [HE.out]; rfl, HB.out⟩
set_option maxHeartbeats 1600000 in
theorem refHello_calls (n : Nat) (hn : n < 18446744073709551616) (w : World) :
    Calls Tryz.prog 127 #[.int .u64 (n : Int)] w fun e w' => e = .returned (.string (helloS n)) ∧ Below w.heap.size w w' := by
  obtain ⟨t, ht⟩ : ∃ t, hex16 n = t := ⟨_, rfl⟩
  have hts : t.size = 16 := by rw [← ht]; exact hex16_size n
  have HE := Lib.hid (show ⟨#[118, 101, 114, 103, 101, 114, 49, 32]⟩ ++ t ++ ⟨#[10]⟩ = helloS n from by
    rw [← ht]
    show ofL [118, 101, 114, 103, 101, 114, 49, 32] ++ ofL (hexN 16 n) ++ ofL [10] = _
    rw [bytes_app, bytes_app]
    rfl)
  have HTT := Lib.hid ht
  clear ht
  go_enter Tryz.func127, Tryz.ntmps127
  go_wp2_with (go_at_call 55; (with_reducible refine (refDigits_calls n hn _).mono ?_); rw [HTT.out]; rintro e w' ⟨rfl, hb⟩; have HB := Lib.hid hb; clear hb)
  go_ret
  exact ⟨by rw [HE.out]; rfl, HB.out⟩
theorem shown_eq (n : Nat) : hex16 n ++ ⟨#[10]⟩ = shownS n := by
  show ofL (hexN 16 n) ++ ofL [10] = _
  rw [bytes_app]
  rfl
set_option maxHeartbeats 1600000 in
theorem shown_calls (key user tree : ByteArray) (side ours theirs : Int) (w : World) (h : TZ w) (hk : key.size ≤ maxLen) (hu : user.size ≤ maxLen) (ht : tree.size ≤ maxLen) :
    Calls Tryz.prog 59 #[.string key, .int .u64 side, .int .u64 ours, .int .u64 theirs, .string user, .string tree] w fun e w' => e = .returned (.string (shownS (shN key user tree side ours theirs))) ∧ Below w.heap.size w w' := by
  have HT := Lib.hid h
  clear h
  have HK := Lib.hid hk
  have HU := Lib.hid hu
  have HTR := Lib.hid ht
  clear hk hu ht
  obtain ⟨n, hn⟩ : ∃ n, shN key user tree side ours theirs = n := ⟨_, rfl⟩
  have HS := Lib.hid (show sumZ key.data.toList [side, ours, theirs, sumZ user.data.toList [], sumZ tree.data.toList []] = (n : Int) from by rw [← hn]; exact shN_eq key user tree side ours theirs)
  have HN := Lib.hid (show n < 18446744073709551616 from by rw [← hn]; exact shN_lt key user tree side ours theirs)
  have HNN := Lib.hid hn
  clear hn
  obtain ⟨t, htt⟩ : ∃ t, hex16 n = t := ⟨_, rfl⟩
  have hts : t.size = 16 := by rw [← htt]; exact hex16_size n
  have HE := Lib.hid (show t ++ ⟨#[10]⟩ = shownS n from htt ▸ shown_eq n)
  have HTT := Lib.hid htt
  clear htt
  go_enter Tryz.func59, Tryz.ntmps59
  go_wp2_with (first
    | (go_at_call 115; (with_reducible refine (sum_nil user _ HU.out).mono ?_); rintro e w' ⟨rfl, rfl⟩)
    | (go_at_call 115; (with_reducible refine (sum_nil tree _ HTR.out).mono ?_); rintro e w' ⟨rfl, rfl⟩)
    | (go_at_call 115; (with_reducible refine (sum5_calls key side ours theirs _ _ _ _ HK.out).mono ?_); rw [HS.out]; rintro e w' ⟨rfl, rfl⟩)
    | (go_at_call 114; (with_reducible refine (digits_calls n HN.out _ (HT.out.below ((Below.refl _ _).alloc (Nat.le_refl _) _) (Nat.le_refl _))).mono ?_); rw [HTT.out]; rintro e w' ⟨rfl, hb⟩; have HB := Lib.hid (((Below.refl w.heap.size w).alloc (Nat.le_refl _) _).trans (hb.mono (by simp))); clear hb))
  go_ret
  exact ⟨by rw [HE.out, HNN.out]; rfl, HB.out⟩
set_option maxHeartbeats 1600000 in
theorem refSum_calls (key user tree : ByteArray) (side ours theirs : Int) (w : World) (hk : key.size ≤ maxLen) (hu : user.size ≤ maxLen) (ht : tree.size ≤ maxLen) :
    Calls Tryz.prog 56 #[.string key, .string user, .string tree, .int .u64 side, .int .u64 ours, .int .u64 theirs] w fun e w' => e = .returned (.int .u64 ((shN key user tree side ours theirs : Nat) : Int)) ∧ Below w.heap.size w w' := by
  have HK := Lib.hid hk
  have HU := Lib.hid hu
  have HTR := Lib.hid ht
  clear hk hu ht
  have HS := Lib.hid (shN_eq key user tree side ours theirs)
  go_enter Tryz.func56, Tryz.ntmps56
  go_wp2_with (first
    | (go_at_call 113; (with_reducible refine (ref_sum_nil user _ HU.out).mono ?_); rintro e w' ⟨rfl, rfl⟩)
    | (go_at_call 113; (with_reducible refine (ref_sum_nil tree _ HTR.out).mono ?_); rintro e w' ⟨rfl, rfl⟩)
    | (go_at_call 113; (with_reducible refine (ref_sum5_calls key side ours theirs _ _ _ _ HK.out).mono ?_); rw [HS.out]; rintro e w' ⟨rfl, rfl⟩))
  go_ret
  exact ⟨rfl, (Below.refl _ _).alloc (Nat.le_refl _) _⟩
theorem line_eq (key user tree : ByteArray) (ours : Int) (theirs : Nat) : hex16 theirs ++ hex16 (shN key user tree 1 ours theirs) ++ ⟨#[10]⟩ = lineS key user tree ours theirs := by
  show ofL (hexN 16 theirs) ++ ofL (hexN 16 _) ++ ofL [10] = _
  rw [bytes_app, bytes_app]
  rfl
set_option maxHeartbeats 1600000 in
theorem authLine_calls (key user tree : ByteArray) (ours : Int) (theirs : Nat) (h64 : theirs < 18446744073709551616) (w : World) (hk : key.size ≤ maxLen) (hu : user.size ≤ maxLen) (ht : tree.size ≤ maxLen) :
    Calls Tryz.prog 15 #[.string key, .string user, .string tree, .int .u64 ours, .int .u64 (theirs : Int)] w fun e w' => e = .returned (.string (lineS key user tree ours theirs)) ∧ Below w.heap.size w w' := by
  have HK := Lib.hid hk
  have HU := Lib.hid hu
  have HTR := Lib.hid ht
  have H64 := Lib.hid h64
  clear hk hu ht
  have HLE := Lib.hid (line_eq key user tree ours theirs)
  have HN := Lib.hid (shN_lt key user tree 1 ours theirs)
  obtain ⟨n, hn⟩ : ∃ n, shN key user tree 1 ours theirs = n := ⟨_, rfl⟩
  rw [hn] at HN HLE
  have HNN := Lib.hid hn
  clear hn
  obtain ⟨t, htt⟩ : ∃ t, hex16 n = t := ⟨_, rfl⟩
  have hts : t.size = 16 := by rw [← htt]; exact hex16_size n
  obtain ⟨u, huu⟩ : ∃ t, hex16 theirs = t := ⟨_, rfl⟩
  have hus : u.size = 16 := by rw [← huu]; exact hex16_size theirs
  rw [htt, huu] at HLE
  have HTT := Lib.hid htt
  have HUU := Lib.hid huu
  have HB := Lib.hid (Below.refl w.heap.size w)
  clear htt huu
  go_enter Tryz.func15, Tryz.ntmps15
  go_wp2_with (first
    | (go_at_call 55; (with_reducible refine (refDigits_calls theirs H64.out _).mono ?_); rw [HUU.out]; rintro e w1 ⟨rfl, hb⟩; replace HB := Lib.hid (HB.out.trans (hb.mono HB.out.size)); clear hb)
    | (go_at_call 56; (with_reducible refine (refSum_calls key user tree 1 ours theirs _ HK.out HU.out HTR.out).mono ?_); rw [HNN.out]; rintro e w2 ⟨rfl, hb⟩; replace HB := Lib.hid (HB.out.trans (hb.mono HB.out.size)); clear hb)
    | (go_at_call 55; (with_reducible refine (refDigits_calls n HN.out _).mono ?_); rw [HTT.out]; rintro e w3 ⟨rfl, hb⟩; replace HB := Lib.hid (HB.out.trans (hb.mono HB.out.size)); clear hb))
  go_ret
  exact ⟨by rw [HLE.out]; rfl, HB.out⟩
set_option maxHeartbeats 1600000 in
theorem refProof_calls (key user tree : ByteArray) (ours theirs : Int) (w : World) (hk : key.size ≤ maxLen) (hu : user.size ≤ maxLen) (ht : tree.size ≤ maxLen) :
    Calls Tryz.prog 128 #[.string key, .string user, .string tree, .int .u64 ours, .int .u64 theirs] w fun e w' => e = .returned (.string (shownS (shN key user tree 2 ours theirs))) ∧ Below w.heap.size w w' := by
  have HK := Lib.hid hk
  have HU := Lib.hid hu
  have HTR := Lib.hid ht
  clear hk hu ht
  have HN := Lib.hid (shN_lt key user tree 2 ours theirs)
  obtain ⟨n, hn⟩ : ∃ n, shN key user tree 2 ours theirs = n := ⟨_, rfl⟩
  rw [hn] at HN
  have HNN := Lib.hid hn
  have HE := Lib.hid (shown_eq n)
  clear hn
  obtain ⟨t, htt⟩ : ∃ t, hex16 n = t := ⟨_, rfl⟩
  have hts : t.size = 16 := by rw [← htt]; exact hex16_size n
  rw [htt] at HE
  have HTT := Lib.hid htt
  have HB := Lib.hid (Below.refl w.heap.size w)
  clear htt
  go_enter Tryz.func128, Tryz.ntmps128
  go_wp2_with (first
    | (go_at_call 56; (with_reducible refine (refSum_calls key user tree 2 ours theirs _ HK.out HU.out HTR.out).mono ?_); rw [HNN.out]; rintro e w2 ⟨rfl, hb⟩; replace HB := Lib.hid (HB.out.trans (hb.mono HB.out.size)); clear hb)
    | (go_at_call 55; (with_reducible refine (refDigits_calls n HN.out _).mono ?_); rw [HTT.out]; rintro e w3 ⟨rfl, hb⟩; replace HB := Lib.hid (HB.out.trans (hb.mono HB.out.size)); clear hb))
  go_ret
  exact ⟨by rw [HE.out, HNN.out]; rfl, HB.out⟩
end Go.Proofs.YtlenlldiimohjaaGreatDoor
namespace Go.Proofs.YtlenlldiimohjaaGreatDoor
open Go.ChangeShapes Go.WideShapes Go.ChangeAt Go.RowKit

/-- Where a law with both tables stands. -/
def OS (w0 : World) (cs : Array Value) (g h : Nat) (L : List Acct) (w : World) : Prop := LAt w0 cs w ∧ PTab w g L ∧ RTab w h L
section
variable {w0 w w' : World} {cs : Array Value} {g h : Nat} {L : List Acct}
theorem OS.next (s : OS w0 cs g h L w) (hb : Below w.heap.size w w') : OS w0 cs g h L w' := ⟨s.1.next hb, s.2.1.below hb, s.2.2.below hb⟩
theorem OS.at_ (s : OS w0 cs g h L w) : LAt w0 cs w := s.1
theorem OS.pt (s : OS w0 cs g h L w) : PTab w g L := s.2.1
theorem OS.rt (s : OS w0 cs g h L w) : RTab w h L := s.2.2
variable {ops : Array Oper} {op : Oper} {a : Act} {text user name : ByteArray} {n p : Nd} {taken full : Bool} {perm mode : Int}
theorem wpAnyH_takeD {P : Program} {ops : Array Oper} {Q : Exit → Act → World → Prop} {md : Region.Mode} {S : World → Prop} {i : Nat} {oi : Oper} {v : Value} {fuel : Nat} {listed : Array Bool} {a : Act} {w : World} (d : Nat) (hi : ops[i]? = some oi) (hd : oi.dst = some d)
    (hs : Region.noSelect ops = true) (hf : Region.free md ops listed i = true) (hr : (Region.ready md ops listed).contains i = true)
    (hQ : ∀ c a w, Q (.panic c) (a.put (some d) v) w → Q (.panic c) a w) (hy : YieldsIf P ops S oi v a) (hS : S w)
    (h : wpAnyH P md ops Q S fuel (listed.setIfInBounds i true) (a.put (some d) v) w) : wpAnyH P md ops Q S (fuel + 1) listed a w :=
  wpAnyH_take hi hs hf hr (by rw [hd]; exact hQ) hy hS (by rw [hd]; exact h)
end

end Go.Proofs.YtlenlldiimohjaaGreatDoor
namespace Go.Proofs.YtlenlldiimohjaaGreatDoor
open Go.RowKit

/-- Where answer stands. -/
def AN (w0 : World) (t : Tk) (hv : Value) (w : World) : Prop := TBlk w w0.heap.size t hv ∧ TZ w ∧ Below w0.heap.size w0 w
theorem AN.next {w0 w w' : World} {t : Tk} {hv : Value} (h : AN w0 t hv w) (hb : Below w.heap.size w w') : AN w0 t hv w' := ⟨h.1.below hb, h.2.1.below hb (Nat.le_refl _), h.2.2.trans (hb.mono h.2.2.size)⟩
theorem AN.tz {w0 w : World} {t : Tk} {hv : Value} (h : AN w0 t hv w) : TZ w := h.2.1
theorem AN.low {w0 w : World} {t : Tk} {hv : Value} (h : AN w0 t hv w) : Below w0.heap.size w0 w := h.2.2
theorem AN.k0 {w0 w : World} {t : Tk} {hv : Value} (h : AN w0 t hv w) : w.cell? ⟨w0.heap.size, 0, none⟩ = some (.string t.user) := Blk.cell h.1 0
theorem AN.k1 {w0 w : World} {t : Tk} {hv : Value} (h : AN w0 t hv w) : w.cell? ⟨w0.heap.size, 1, none⟩ = some (.string t.tree) := Blk.cell h.1 1
theorem AN.k2 {w0 w : World} {t : Tk} {hv : Value} (h : AN w0 t hv w) : w.cell? ⟨w0.heap.size, 2, none⟩ = some (.int .u64 t.ours) := Blk.cell h.1 2
theorem AN.start {w : World} (h : TZ w) (t : Tk) (hv : Value) : AN w t hv (w.alloc (Obj.cells #[.string t.user, .string t.tree, .int .u64 t.ours, .int .u64 t.theirs, .int .u8 t.step, .int .i64 t.said, hv] 54)) :=
  ⟨Blk.new w _ (talkL t hv).toArray, h.below ((Below.refl _ _).alloc (Nat.le_refl _) _) (Nat.le_refl _), (Below.refl _ _).alloc (Nat.le_refl _) _⟩
theorem answer_eq (key user tree : ByteArray) (ours : Int) (theirs : Nat) : hex16 theirs ++ shownS (shN key user tree 1 ours theirs) = lineS key user tree ours theirs := by
  show ofL (hexN 16 theirs) ++ ofL (hexN 16 _ ++ [10]) = _
  rw [bytes_app, ← List.append_assoc]
  rfl
theorem shownS_size (n : Nat) : (shownS n).size = 17 := by
  show (hexN 16 n ++ [10]).toArray.size = 17
  rw [List.size_toArray, List.length_append, hexN_len]
  rfl

set_option maxRecDepth 100000 in
set_option maxHeartbeats 3200000 in
theorem answer_calls (key : ByteArray) (t : Tk) (hv : Value) (theirs : Nat) (h64 : theirs < 18446744073709551616) (w : World) (h : TZ w) (hk : key.size ≤ maxLen) (hu : t.user.size ≤ maxLen) (ht : t.tree.size ≤ maxLen) :
    Calls Tryz.prog 61 #[.string key, talkV t hv, .int .u64 (theirs : Int)] w fun e w' => e = .returned (.string (lineS key t.user t.tree t.ours theirs)) ∧ Below w.heap.size w w' := by
  have HS := Lib.hid (AN.start h t hv)
  have HK := Lib.hid hk
  have HU := Lib.hid hu
  have HTR := Lib.hid ht
  have H64 := Lib.hid h64
  have HLE := Lib.hid (answer_eq key t.user t.tree t.ours theirs)
  obtain ⟨a, haa⟩ : ∃ a, hex16 theirs = a := ⟨_, rfl⟩
  have has : a.size = 16 := by rw [← haa]; exact hex16_size theirs
  have HAA := Lib.hid haa
  obtain ⟨b, hbb⟩ : ∃ b, shownS (shN key t.user t.tree 1 t.ours theirs) = b := ⟨_, rfl⟩
  have hbs : b.size = 17 := by rw [← hbb]; exact shownS_size _
  have HBB := Lib.hid hbb
  clear h hk hu ht haa hbb
  go_enter Tryz.func61, Tryz.ntmps61
  go_upto_region 1 with (fail)
  generalize w.alloc (Obj.cells #[.string t.user, .string t.tree, .int .u64 t.ours, .int .u64 t.theirs, .int .u8 t.step, .int .i64 t.said, hv] 54) = w1 at HS ⊢
  refine wp_region_held_drew (S := AN w t hv) (by kernel_rfl) (HS.out.next (below_drew _)) (fun hHeld => ?_)
  generalize w1.drew = wd at hHeld ⊢
  refine wpAnyH_takeD 7 (i := 0) (v := .int .u64 (theirs : Int)) rfl rfl (by kernel_rfl) (by kernel_rfl) (by kernel_rfl) (fun _ _ _ h => h) (Or.inl ⟨by rfl, fun wq hSw => by go_simp⟩) (by assumption) ?_
  simp only [Act.put, List.setIfInBounds_toArray, List.set_cons_zero, List.set_cons_succ]
  refine wpAnyH_takeD 9 (i := 2) (v := .string key) rfl rfl (by kernel_rfl) (by kernel_rfl) (by kernel_rfl) (fun _ _ _ h => h) (Or.inl ⟨by rfl, fun wq hSw => by go_simp⟩) (by assumption) ?_
  simp only [Act.put, List.setIfInBounds_toArray, List.set_cons_zero, List.set_cons_succ]
  refine wpAnyH_takeD 10 (i := 3) (v := .pointer (some ⟨w.heap.size, 2, none⟩)) rfl rfl (by kernel_rfl) (by kernel_rfl) (by kernel_rfl) (fun _ _ _ h => h) (Or.inl ⟨by rfl, fun wq hSw => by go_simp⟩) (by assumption) ?_
  simp only [Act.put, List.setIfInBounds_toArray, List.set_cons_zero, List.set_cons_succ]
  refine wpAnyH_takeD 11 (i := 4) (v := .int .u64 t.ours) rfl rfl (by kernel_rfl) (by kernel_rfl) (by kernel_rfl) (fun _ _ _ h => h) (Or.inl ⟨by rfl, fun wq hSw => by have k := hSw.k2; go_simp⟩) (by assumption) ?_
  simp only [Act.put, List.setIfInBounds_toArray, List.set_cons_zero, List.set_cons_succ]
  refine wpAnyH_takeD 12 (i := 5) (v := .int .u64 (theirs : Int)) rfl rfl (by kernel_rfl) (by kernel_rfl) (by kernel_rfl) (fun _ _ _ h => h) (Or.inl ⟨by rfl, fun wq hSw => by go_simp⟩) (by assumption) ?_
  simp only [Act.put, List.setIfInBounds_toArray, List.set_cons_zero, List.set_cons_succ]
  refine wpAnyH_takeD 13 (i := 6) (v := .pointer (some ⟨w.heap.size, 0, none⟩)) rfl rfl (by kernel_rfl) (by kernel_rfl) (by kernel_rfl) (fun _ _ _ h => h) (Or.inl ⟨by rfl, fun wq hSw => by go_simp⟩) (by assumption) ?_
  simp only [Act.put, List.setIfInBounds_toArray, List.set_cons_zero, List.set_cons_succ]
  refine wpAnyH_takeD 14 (i := 7) (v := .string t.user) rfl rfl (by kernel_rfl) (by kernel_rfl) (by kernel_rfl) (fun _ _ _ h => h) (Or.inl ⟨by rfl, fun wq hSw => by have k := hSw.k0; go_simp⟩) (by assumption) ?_
  simp only [Act.put, List.setIfInBounds_toArray, List.set_cons_zero, List.set_cons_succ]
  refine wpAnyH_takeD 15 (i := 8) (v := .pointer (some ⟨w.heap.size, 1, none⟩)) rfl rfl (by kernel_rfl) (by kernel_rfl) (by kernel_rfl) (fun _ _ _ h => h) (Or.inl ⟨by rfl, fun wq hSw => by go_simp⟩) (by assumption) ?_
  simp only [Act.put, List.setIfInBounds_toArray, List.set_cons_zero, List.set_cons_succ]
  refine wpAnyH_takeD 16 (i := 9) (v := .string t.tree) rfl rfl (by kernel_rfl) (by kernel_rfl) (by kernel_rfl) (fun _ _ _ h => h) (Or.inl ⟨by rfl, fun wq hSw => by have k := hSw.k1; go_simp⟩) (by assumption) ?_
  simp only [Act.put, List.setIfInBounds_toArray, List.set_cons_zero, List.set_cons_succ]
  refine wpAnyH_ready (rs := [1]) (by kernel_rfl) (by simp) ?_
  refine AllReadyH.cons rfl (fun K hK => ?_) AllReadyH.nil
  rw [if_pos (by rfl)]
  go_simp
  (with_reducible refine (digits_calls theirs H64.out _ hHeld.tz).mono ?_)
  rw [HAA.out]
  rintro e w2 ⟨rfl, hb⟩
  dsimp only
  have hOld := hHeld.next hb
  clear hHeld hb
  refine hK.out _ _ hOld (fun hHeld => ?_)
  clear hK hOld
  refine wpAnyH_ready (rs := [10]) (by kernel_rfl) (by simp) ?_
  refine AllReadyH.cons rfl (fun K hK => ?_) AllReadyH.nil
  rw [if_pos (by rfl)]
  go_simp
  (with_reducible refine (shown_calls key t.user t.tree 1 t.ours theirs _ hHeld.tz HK.out HU.out HTR.out).mono ?_)
  rw [HBB.out]
  rintro e w3 ⟨rfl, hb⟩
  dsimp only
  have hOld := hHeld.next hb
  clear hHeld hb
  refine hK.out _ _ hOld (fun hHeld => ?_)
  clear hK hOld
  refine wpAnyH_takeD 18 (i := 11) (v := .string (a ++ b)) rfl rfl (by kernel_rfl) (by kernel_rfl) (by kernel_rfl) (fun _ _ _ h => h) (Or.inl ⟨by rfl, fun wq hSw => by go_simp⟩) (by assumption) ?_
  simp only [Act.put, List.setIfInBounds_toArray, List.set_cons_zero, List.set_cons_succ]
  refine wpAnyH_takeD 6 (i := 12) (v := .string (a ++ b)) rfl rfl (by kernel_rfl) (by kernel_rfl) (by kernel_rfl) (fun _ _ _ h => h) (Or.inl ⟨by rfl, fun wq hSw => by go_simp⟩) (by assumption) ?_
  simp only [Act.put, List.setIfInBounds_toArray, List.set_cons_zero, List.set_cons_succ]
  refine wpAnyH_done (by kernel_rfl) ?_ _
  go_wp2_with fail
  go_ret
  exact ⟨by rw [← HLE.out, HAA.out, HBB.out]; rfl, hHeld.low⟩
end Go.Proofs.YtlenlldiimohjaaGreatDoor
namespace Go.Proofs.YtlenlldiimohjaaGreatDoor
open Go.RowKit

/-- A digit that strconv takes. -/
def hexV (x : Nat) : Option Nat := if 48 ≤ x ∧ x ≤ 57 then some (x - 48) else if 97 ≤ (x ||| 32) ∧ (x ||| 32) ≤ 102 then some ((x ||| 32) - 87) else none
def hexP (l : List UInt8) : Option Nat := l.foldl (fun o c => o.bind fun n => (hexV c.toNat).map fun d => n * 16 + d) (some 0)
theorem hexP_snoc (l : List UInt8) (c : UInt8) : hexP (l ++ [c]) = (hexP l).bind fun n => (hexV c.toNat).map fun d => n * 16 + d := by
  unfold hexP
  rw [List.foldl_append]
  rfl
theorem hexP_none : ∀ l2 : List UInt8, l2.foldl (fun o c => o.bind fun n => (hexV c.toNat).map fun d => n * 16 + d) none = none
  | [] => rfl
  | _ :: l => hexP_none l
theorem hexP_stop (s : ByteArray) (k m : Nat) (hk : k < s.size) (h : hexP (s.data.toList.take k) = some m) (hv : hexV s[k].toNat = none) : hexP s.data.toList = none := by
  have h1 : hexP (s.data.toList.take (k + 1)) = none := by
    rw [take_snoc s k hk, hexP_snoc, h, hv]
    rfl
  have h2 : s.data.toList = s.data.toList.take (k + 1) ++ s.data.toList.drop (k + 1) := (List.take_append_drop _ _).symm
  rw [h2]
  unfold hexP at h1 ⊢
  rw [List.foldl_append, h1]
  exact hexP_none _
def SV (w : World) : Prop := ∃ ev, w.cell? ⟨0, 0, none⟩ = some ev ∧ (ev = .nilIface ∨ ∃ te pe, ev = .iface te pe)
theorem SV.below {w w' : World} {B : Nat} (h : SV w) (hb : Below B w w') (hB : w.heap.size ≤ B) : SV w' := by
  obtain ⟨ev, h1, h2⟩ := h
  exact ⟨ev, (hb.cell (Nat.lt_of_lt_of_le (World.block_lt_of_cell? w _ h1) hB)).trans h1, h2⟩
/-- What ParseUint gives. -/
def numE (s : ByteArray) (e : Ending) : Prop := match hexP s.data.toList with
  | some n => n < 18446744073709551616 ∧ e = .returned (.tuple #[.int .u64 (n : Int), .nilIface])
  | none => e = .returned (.tuple #[.int .u64 0, .iface 208 (.int .i64 2)])
theorem numE_no {s : ByteArray} (h : hexP s.data.toList = none) : numE s (.returned (.tuple #[.int .u64 0, .iface 208 (.int .i64 2)])) := by
  unfold numE
  rw [h]
theorem numE_yes {s : ByteArray} {n : Nat} (h : hexP s.data.toList = some n) (hn : n < 18446744073709551616) : numE s (.returned (.tuple #[.int .u64 (n : Int), .nilIface])) := by
  unfold numE
  rw [h]
  exact ⟨hn, rfl⟩
/-- '[]byte(s)': a new row of its bytes. -/
theorem bytes_of (s : ByteArray) (w : World) : ∃ (cap : Nat) (w1 : World), (convert 9 47 (.string s)).run Tryz.prog w = .ok (.slice (some ⟨w.heap.size, 0, none⟩) s.size cap) w1 ∧ (∀ j (hj : j < s.size), w1.cell? ⟨w.heap.size, j, none⟩ = some (.int .u8 (s[j].toNat : Int))) ∧ (∀ j, j < s.size → w1.frozen? ⟨w.heap.size, j, none⟩ = false) ∧ Below w.heap.size w w1 ∧ w.heap.size < w1.heap.size ∧ s.size ≤ cap ∧ (s.size ≤ maxLen → cap ≤ maxLen) := by
  have h := run_bytes_of_string (P := Tryz.prog) w 9 47 5 s Tryz.underlying9 Tryz.underlying47 Tryz.underlying5
  refine ⟨_, _, h, fun j hj => (World.cell?_alloc_mark w.drew _ 5 _ j).trans (bytesRow_at _ _ j hj), fun j hj => ?_, (Below.refl w.heap.size w).drew.alloc (Nat.le_refl _) _, by rw [World.size_alloc]; exact Nat.lt_succ_self _, grownCap_ge _ _ _ _, grownCap_le_maxLen _ _ _ _⟩
  · refine (World.frozen?_alloc_mark w.drew _ 5 _ _ j).trans ?_
    have h1 : s.size ≤ (bytesRow s (grownCap w s.size 0 5)).size := by show s.data.size ≤ _; simp [bytesRow]
    have h2 : decide ((bytesRow s (grownCap w s.size 0 5)).size ≤ j) = false := by
      rw [decide_eq_false_iff_not]
      omega
    rw [h2]
    rfl
theorem low_big : ∀ x : Nat, x < 256 → 97 ≤ x ||| 32 → 58 ≤ x := by
  have key : ∀ x : Fin 256, 97 ≤ x.1 ||| 32 → 58 ≤ x.1 := by decide +kernel
  exact fun x h => key ⟨x, h⟩
theorem low_256 : ∀ x : Nat, x < 256 → x ||| 32 < 256 := by
  have key : ∀ x : Fin 256, x.1 ||| 32 < 256 := by decide +kernel
  exact fun x h => key ⟨x, h⟩
set_option maxRecDepth 100000 in
set_option maxHeartbeats 6400000 in
theorem parse16_calls (s : ByteArray) (h1 : 0 < s.size) (h2 : s.size ≤ 16) (w : World) :
    Calls Tryz.prog 140 #[.string s, .int .i64 16, .int .i64 64] w fun e w' => numE s e ∧ Below w.heap.size w w' := by
  have he : s.toList.isEmpty = false := by
    rw [← Bool.not_eq_true, ByteArray.toList_eq, List.isEmpty_iff, ← List.length_eq_zero_iff]
    show ¬ s.data.toList.length = 0
    rw [Array.length_toList]
    exact Nat.ne_of_gt h1
  go_enter Tryz.func140, Tryz.ntmps140
  have hmv : IntKind.u64.wrap (IntKind.u64.wrap 18446744073709551616 - 1) = 18446744073709551615 := by decide
  go_upto_region 35 with (fail)
  clear hmv he
  obtain ⟨cap, w1, hconv, hc, -, hb, -⟩ := bytes_of s w
  have HC := Lib.hid hc
  have HB := Lib.hid hb
  clear hc hb
  go_wp2_with fail
  go_loop [12, 13, 101] (fun u n i => ∃ k m : Nat, k ≤ s.size ∧ u = .bool false ∧ n = .int .u64 (m : Int) ∧ i = .int .i64 (k : Int) ∧ hexP (s.data.toList.take k) = some m ∧ m < 16 ^ k) (fun _ _ i => s.size - (intOf i).toNat)
  case atStart => exact ⟨0, 0, Nat.zero_le _, rfl, rfl, rfl, rfl, by decide⟩
  case round =>
    obtain ⟨k, m, hk, rfl, rfl, rfl, hp, hm⟩ := hrel
    have HP := Lib.hid hp
    clear hp
    by_cases hlt : k < s.size
    · obtain ⟨x, hx⟩ : ∃ x, s[k].toNat = x := ⟨_, rfl⟩
      have hx256 : x < 256 := by rw [← hx]; exact s[k].toNat_lt
      have hcell := HC.out k hlt
      rw [hx] at hcell
      have HPN := Lib.hid (show ∀ d, hexV x = some d → hexP (s.data.toList.take (k + 1)) = some (m * 16 + d) from fun d hd => by
        rw [take_snoc s k hlt, hexP_snoc, HP.out, hx, hd]
        rfl)
      have HPE := Lib.hid (show hexV x = none → hexP s.data.toList = none from fun h => hexP_stop s k m hlt HP.out (by rw [hx]; exact h))
      clear hx
      have hcut : (m : Int) < 1152921504606846976 := by
        have h3 : 16 ^ k ≤ 16 ^ 15 := Nat.pow_le_pow_right (by omega) (by omega)
        omega
      have HMN := Lib.hid (show ∀ d, d < 16 → m * 16 + d < 16 ^ (k + 1) from fun d hd => by rw [Nat.pow_succ]; omega)
      clear hm
      by_cases hA : 48 ≤ x ∧ x ≤ 57
      · have a1 : (48 : Int) ≤ x := by omega
        have a2 : (x : Int) ≤ 57 := by omega
        have a3 : ((x : Int) == 95) = false := by rw [beq_eq_false_iff_ne]; omega
        have HD := Lib.hid (show hexV x = some (x - 48) from by unfold hexV; rw [if_pos hA])
        go_upto_region 46 with (fail)
        clear a1 a2 a3
        obtain ⟨d, hd⟩ : ∃ d, x - 48 = d := ⟨_, rfl⟩
        have hdx : (x : Int) - 48 = (d : Int) := by omega
        have hd16 : d < 16 := by omega
        have HQ := Lib.hid (HPN.out d (by rw [HD.out, hd]))
        have HR := Lib.hid (HMN.out d hd16)
        rw [hdx]
        have hd16' : ¬ (16 : Int) ≤ d := by omega
        have hn1 : IntKind.u64.wrap ((m : Int) * 16) = ((m * 16 : Nat) : Int) := by rw [IntKind.wrap_u64]; omega
        have hn2 : IntKind.u64.wrap (((m * 16 : Nat) : Int) + (d : Int)) = ((m * 16 + d : Nat) : Int) := by rw [IntKind.wrap_u64]; omega
        have hcut' : ¬ (1152921504606846976 : Int) ≤ (m : Int) := by omega
        clear hdx hd hA
        go_upto_region 52 with (fail)
        clear hn1 hn2 hcut' hd16'
        obtain ⟨q, hq⟩ : ∃ q, m * 16 + d = q := ⟨_, rfl⟩
        obtain ⟨p, hp⟩ : ∃ p, m * 16 = p := ⟨_, rfl⟩
        rw [show (m : Int) * 16 + (d : Int) = (q : Int) from by omega, show (m : Int) * 16 = (p : Int) from by omega]
        have hn3 : ¬ (q : Int) < (p : Int) := by omega
        have hn4 : ¬ (18446744073709551615 : Int) < (q : Int) := by omega
        rw [hq] at HQ HR
        clear hq hp hcut hd16
        go_wp2_with fail
        go_round
        case rel => exact ⟨k + 1, q, by omega, rfl, rfl, by go_num, HQ.out, HR.out⟩
        case measure => simp [intOf]; omega
      · obtain ⟨y, hy⟩ : ∃ y, x ||| 32 = y := ⟨_, rfl⟩
        have hy256 : y < 256 := by rw [← hy]; exact low_256 x hx256
        have hyb : 97 ≤ y → 58 ≤ x := by rw [← hy]; exact low_big x hx256
        have hor : bits .or .u8 (x : Int) 32 = (y : Int) := by
          rw [show (32 : Int) = ((32 : Nat) : Int) from rfl, u8_or_nat x 32 hx256 (by omega), hy]
        have HV := Lib.hid (show hexV x = if 97 ≤ y ∧ y ≤ 102 then some (y - 87) else none from by unfold hexV; rw [if_neg hA, hy])
        by_cases hB : 97 ≤ y ∧ y ≤ 102
        · have a1 : (48 : Int) ≤ x := by omega
          have a2 : ¬ (x : Int) ≤ 57 := by omega
          have b2 : (97 : Int) ≤ y := by omega
          have b3 : (y : Int) ≤ 122 := by omega
          have a3 : ((x : Int) == 95) = false := by
            rw [beq_eq_false_iff_ne]
            intro h
            have h95 : x = 95 := by omega
            rw [h95] at hy
            have : y = 127 := by rw [← hy]; rfl
            omega
          have HD := Lib.hid (show hexV x = some (y - 87) from by rw [HV.out, if_pos hB])
          clear hy hyb hA
          go_upto_region 46 with (go_at_call 162; refine (Tryz.internal_strconv_lower (x : Int) _).mono ?_; rw [hor]; rintro e w' ⟨rfl, rfl⟩)
          clear a1 a2 a3 b2 b3 hor
          obtain ⟨d, hd⟩ : ∃ d, y - 87 = d := ⟨_, rfl⟩
          have hdx : (y : Int) - 97 + 10 = (d : Int) := by omega
          have hd16 : d < 16 := by omega
          have HQ := Lib.hid (HPN.out d (by rw [HD.out, hd]))
          have HR := Lib.hid (HMN.out d hd16)
          rw [hdx]
          have hd16' : ¬ (16 : Int) ≤ d := by omega
          have hn1 : IntKind.u64.wrap ((m : Int) * 16) = ((m * 16 : Nat) : Int) := by rw [IntKind.wrap_u64]; omega
          have hn2 : IntKind.u64.wrap (((m * 16 : Nat) : Int) + (d : Int)) = ((m * 16 + d : Nat) : Int) := by rw [IntKind.wrap_u64]; omega
          have hcut' : ¬ (1152921504606846976 : Int) ≤ (m : Int) := by omega
          clear hdx hd hB
          go_upto_region 52 with (fail)
          clear hn1 hn2 hcut' hd16'
          obtain ⟨q, hq⟩ : ∃ q, m * 16 + d = q := ⟨_, rfl⟩
          obtain ⟨p, hp⟩ : ∃ p, m * 16 = p := ⟨_, rfl⟩
          rw [show (m : Int) * 16 + (d : Int) = (q : Int) from by omega, show (m : Int) * 16 = (p : Int) from by omega]
          have hn3 : ¬ (q : Int) < (p : Int) := by omega
          have hn4 : ¬ (18446744073709551615 : Int) < (q : Int) := by omega
          rw [hq] at HQ HR
          clear hq hp hcut hd16
          go_wp2_with fail
          go_round
          case rel => exact ⟨k + 1, q, by omega, rfl, rfl, by go_num, HQ.out, HR.out⟩
          case measure => simp [intOf]; omega
        · have HX := Lib.hid (show hexV x = none from by rw [HV.out, if_neg hB])
          clear HV HPN HMN hcut
          by_cases h95 : x = 95
          · subst h95
            obtain rfl : y = 127 := by rw [← hy]; rfl
            clear hyb hA hB hy hy256 hor
            go_wp2_with (go_at_call 162; refine (Tryz.internal_strconv_lower 95 _).mono ?_; rw [show bits .or .u8 95 32 = 127 from by decide]; rintro e w' ⟨rfl, rfl⟩)
            go_ret2
            exact ⟨numE_no (HPE.out HX.out), HB.out⟩
          · have a3 : ((x : Int) == 95) = false := by rw [beq_eq_false_iff_ne]; omega
            by_cases hC : 97 ≤ y ∧ y ≤ 122
            · have a1 : (48 : Int) ≤ x := by omega
              have a2 : ¬ (x : Int) ≤ 57 := by omega
              have b2 : (97 : Int) ≤ y := by omega
              have b3 : (y : Int) ≤ 122 := by omega
              go_upto_region 46 with (go_at_call 162; refine (Tryz.internal_strconv_lower (x : Int) _).mono ?_; rw [hor]; rintro e w' ⟨rfl, rfl⟩)
              clear a1 a2 a3 b2 b3 hor
              obtain ⟨d, hd⟩ : ∃ d, y - 87 = d := ⟨_, rfl⟩
              rw [show (y : Int) - 97 + 10 = (d : Int) from by omega]
              have hd16 : (16 : Int) ≤ d := by omega
              clear hy hyb hA hB hC hd h95
              go_wp2_with fail
              go_ret2
              exact ⟨numE_no (HPE.out HX.out), HB.out⟩
            · by_cases h58 : 58 ≤ x
              · have a1 : (48 : Int) ≤ x := by omega
                have a2 : ¬ (x : Int) ≤ 57 := by omega
                by_cases h97 : 97 ≤ y
                · have b2 : (97 : Int) ≤ y := by omega
                  have b3 : ¬ (y : Int) ≤ 122 := by omega
                  clear hy hyb hA hB hC h95 h58 h97
                  go_wp2_with (go_at_call 162; refine (Tryz.internal_strconv_lower (x : Int) _).mono ?_; rw [hor]; rintro e w' ⟨rfl, rfl⟩)
                  go_ret2
                  exact ⟨numE_no (HPE.out HX.out), HB.out⟩
                · have b2 : ¬ (97 : Int) ≤ y := by omega
                  clear hy hyb hA hB hC h95 h58 h97
                  go_wp2_with (go_at_call 162; refine (Tryz.internal_strconv_lower (x : Int) _).mono ?_; rw [hor]; rintro e w' ⟨rfl, rfl⟩)
                  go_ret2
                  exact ⟨numE_no (HPE.out HX.out), HB.out⟩
              · have a1 : ¬ (48 : Int) ≤ x := by omega
                have b2 : ¬ (97 : Int) ≤ y := by
                  have : ¬ 97 ≤ y := fun h => h58 (hyb h)
                  omega
                clear hy hyb hA hB hC h95 h58
                go_wp2_with (go_at_call 162; refine (Tryz.internal_strconv_lower (x : Int) _).mono ?_; rw [hor]; rintro e w' ⟨rfl, rfl⟩)
                go_ret2
                exact ⟨numE_no (HPE.out HX.out), HB.out⟩
    · have hkk : k = s.size := by omega
      have HE := Lib.hid (show hexP s.data.toList = some m from by
        have h := HP.out
        rw [List.take_of_length_le (by rw [Array.length_toList]; exact Nat.le_of_eq hkk.symm)] at h
        exact h)
      have HM := Lib.hid (show m < 18446744073709551616 from by
        have h3 : 16 ^ k ≤ 16 ^ 16 := Nat.pow_le_pow_right (by omega) (by omega)
        omega)
      clear hkk
      go_wp2_with fail
      go_ret2
      exact ⟨numE_yes HE.out HM.out, HB.out⟩
set_option maxHeartbeats 1600000 in
theorem parseU_yes (s : ByteArray) (h1 : 0 < s.size) (h2 : s.size ≤ 16) (n : Nat) (hn : hexP s.data.toList = some n) (w : World) :
    Calls Tryz.prog 116 #[.string s, .int .i64 16, .int .i64 64] w fun e w' => (n < 18446744073709551616 ∧ e = .returned (.tuple #[.int .u64 (n : Int), .nilIface])) ∧ Below w.heap.size w w' := by
  have HN := Lib.hid hn
  clear hn
  go_enter Tryz.func116, Tryz.ntmps116
  go_wp2_with (go_at_call 140; refine (parse16_calls s h1 h2 _).mono ?_; unfold numE; rw [HN.out]; rintro e w' ⟨⟨hlt, rfl⟩, hb⟩; have HB := Lib.hid hb; have HL := Lib.hid hlt; clear hb hlt)
  go_ret2
  exact ⟨⟨HL.out, rfl⟩, HB.out⟩
set_option maxHeartbeats 1600000 in
theorem parseU_no (s : ByteArray) (h1 : 0 < s.size) (h2 : s.size ≤ 16) (hn : hexP s.data.toList = none) (w : World) (hs : SV w) :
    Calls Tryz.prog 116 #[.string s, .int .i64 16, .int .i64 64] w fun e w' => (∃ t p, e = .returned (.tuple #[.int .u64 0, .iface t p])) ∧ Below w.heap.size w w' := by
  have HN := Lib.hid hn
  have HS := Lib.hid hs
  clear hn hs
  go_enter Tryz.func116, Tryz.ntmps116
  go_wp2_with (first
    | (go_at_call 140; refine (parse16_calls s h1 h2 _).mono ?_; unfold numE; rw [HN.out]; rintro e w1 ⟨rfl, hb⟩; have HB := Lib.hid hb; obtain ⟨ev, hev1, hev2⟩ := HS.out.below hb (Nat.le_refl _); have HE1 := Lib.hid hev1; have HE2 := Lib.hid hev2; clear hb hev1 hev2)
    | (go_at_call 141; refine (Tryz.strconv_toError_syntax ⟨#[80, 97, 114, 115, 101, 85, 105, 110, 116]⟩ s 16 64 ev _ (by omega) HE1.out HE2.out).mono ?_; rintro e w2 ⟨N, rfl, -, -, hb⟩; replace HB := Lib.hid (HB.out.trans (hb.mono HB.out.size)); clear hb))
  go_ret2
  exact ⟨⟨_, _, rfl⟩, HB.out⟩
/-- What the program's number answers. -/
def numS (s : ByteArray) : Nat × Bool := match hexP s.data.toList with
  | some n => (n, decide (hex16 n = s))
  | none => (0, false)
set_option maxHeartbeats 1600000 in
theorem number_calls (s : ByteArray) (h1 : 0 < s.size) (h2 : s.size ≤ 16) (w : World) (hs : SV w) (ht : TZ w) :
    Calls Tryz.prog 60 #[.string s] w fun e w' => e = .returned (.tuple #[.int .u64 ((numS s).1 : Int), .bool (numS s).2]) ∧ (numS s).1 < 18446744073709551616 ∧ Below w.heap.size w w' := by
  have HS := Lib.hid hs
  have HT := Lib.hid ht
  clear hs ht
  cases hp : hexP s.data.toList with
  | some n =>
    have HP := Lib.hid hp
    have HQ := Lib.hid (show numS s = (n, decide (hex16 n = s)) from by unfold numS; rw [hp])
    clear hp
    have hbeq := beq_str (hex16 n) s
    obtain ⟨t, htt⟩ : ∃ t, hex16 n = t := ⟨_, rfl⟩
    rw [htt] at hbeq
    have HTT := Lib.hid htt
    clear htt
    go_enter Tryz.func60, Tryz.ntmps60
    go_wp2_with (first
      | (go_at_call 116; refine (parseU_yes s h1 h2 n HP.out _).mono ?_; rintro e w' ⟨⟨hlt, rfl⟩, hb⟩; have HB := Lib.hid hb; have HL := Lib.hid hlt; have HT2 := Lib.hid (HT.out.below hb (Nat.le_refl _)); clear hb hlt)
      | (go_at_call 114; refine (digits_calls n HL.out _ HT2.out).mono ?_; rw [HTT.out]; rintro e w2 ⟨rfl, hb⟩; replace HB := Lib.hid (HB.out.trans (hb.mono HB.out.size)); clear hb))
    go_ret2
    exact ⟨by rw [HQ.out, HTT.out]; rfl, by rw [HQ.out]; exact HL.out, HB.out⟩
  | none =>
    have HP := Lib.hid hp
    have HQ := Lib.hid (show numS s = (0, false) from by unfold numS; rw [hp])
    clear hp
    go_enter Tryz.func60, Tryz.ntmps60
    go_wp2_with (go_at_call 116; refine (parseU_no s h1 h2 HP.out _ HS.out).mono ?_; rintro e w' ⟨⟨t, p, rfl⟩, hb⟩; have HB := Lib.hid hb; clear hb)
    go_ret2
    exact ⟨by rw [HQ.out]; rfl, by rw [HQ.out]; decide, HB.out⟩
end Go.Proofs.YtlenlldiimohjaaGreatDoor
namespace Go.Proofs.YtlenlldiimohjaaGreatDoor
open Go.RowKit

theorem conv_bys {w : World} {B : Nat} {hv : Value} {l : List UInt8} (h : Bys w B hv l) (hl : l ≠ []) : (convert 47 9 hv).run Tryz.prog w = .ok (.string (ofL l)) w := by
  obtain ⟨A, cap, rfl, _, _, hr⟩ := h
  have hp : 0 < l.length := List.length_pos_iff.2 hl
  obtain ⟨ad, rfl, _, hc⟩ := hr.2 hp
  refine run_convert_bytes_back (P := Tryz.prog) w 47 9 5 ad cap l Tryz.underlying47 Tryz.underlying5 Tryz.underlying9 (fun j hj => hc j _ ?_)
  rw [List.getElem?_map, List.getElem?_eq_getElem hj]
  rfl
theorem take16 (s : List UInt8) : (ofL s).extract 0 16 = ofL (s.take 16) := by
  apply ByteArray.ext
  rw [ByteArray.data_extract]
  apply Array.ext'
  simp [ofL]
/-- Where Write stands behind the bytes. -/
def WS (w0 : World) (t : Tk) (w : World) : Prop := TBlk w w0.heap.size t (.slice none 0 0) ∧ TBlk w (w0.heap.size + 1) Tk.none (.slice none 0 0) ∧ Below w0.heap.size w0 w
theorem WS.next {w0 w w' : World} {t : Tk} (h : WS w0 t w) (hb : Below w.heap.size w w') : WS w0 t w' := ⟨h.1.below hb, h.2.1.below hb, h.2.2.trans (hb.mono h.2.2.size)⟩
theorem WS.tb {w0 w : World} {t : Tk} (h : WS w0 t w) : TBlk w w0.heap.size t (.slice none 0 0) := h.1
theorem WS.zb {w0 w : World} {t : Tk} (h : WS w0 t w) : TBlk w (w0.heap.size + 1) Tk.none (.slice none 0 0) := h.2.1
theorem WS.low {w0 w : World} {t : Tk} (h : WS w0 t w) : Below w0.heap.size w0 w := h.2.2
theorem WS.k0 {w0 w : World} {t : Tk} (h : WS w0 t w) : w.cell? ⟨w0.heap.size, 0, none⟩ = some (.string t.user) := Blk.cell h.1 0
theorem yWT {w0 : World} {t : Tk} {ops : Array Oper} {op : Oper} {a : Act} (hw : Region.wanted op (yielded ops a.tmps) = true) (x : Operand) (ho : op.op = .load 54 x) (hx : a.eval x = .pointer (some ⟨w0.heap.size, 0, none⟩)) : YieldsIf Tryz.prog ops (WS w0 t) op (talkV t (.slice none 0 0)) a :=
  yieldsIf_load_mid hw _ x ho _ _ hx (talkL t (.slice none 0 0)) _ (fun _ hS => Blk.range hS.1 0 _ rfl) Tryz.underlying54 rfl talk_size
theorem results_write {tmps : Array Value} {w : World} {q : Nat} {t : Tk} {hv : Value} {n e : Int} (h6 : tmps.getD 6 undef = .pointer (some ⟨q, 0, none⟩)) (h7 : tmps.getD 7 undef = .int .i64 n) (h8 : tmps.getD 8 undef = .int .i64 e) (hk : TBlk w q t hv) :
    (results Tryz.f17 tmps).run Tryz.prog w = .ok (.tuple #[talkV t hv, .int .i64 n, .int .i64 e]) w := by
  have h6' : tmps[6]?.getD undef = .pointer (some ⟨q, 0, none⟩) := by simpa using h6
  have h7' : tmps[7]?.getD undef = .int .i64 n := by simpa using h7
  have h8' : tmps[8]?.getD undef = .int .i64 e := by simpa using h8
  simp [results, Tryz.results17, h6', h7', h8', asAddr, loadVar_talk hk]
/-- What Write answers: the Talk, what it has heard, how many were taken, the error. -/
structure Wr where
  t : Tk
  h : List UInt8
  n : Int
  e : Int
/-- Thirty-three bytes have been heard. -/
def heardS (L : List Acct) (t : Tk) (s : List UInt8) (n : Int) : Wr :=
  if (numS (ofL (s.take 16))).2 = true ∧ ofL s = lineS (keyOfUser L t.user) t.user t.tree t.ours (numS (ofL (s.take 16))).1 then ⟨{ t with theirs := (numS (ofL (s.take 16))).1, step := 3 }, [], n, 0⟩ else ⟨{ t with step := 5 }, [], n, 0⟩
def writeS (L : List Acct) (t : Tk) (l b : List UInt8) : Wr :=
  if t.step = 1 then ⟨Tk.none, [], 0, 70⟩ else if t.step ≠ 2 then ⟨Tk.none, [], 0, 71⟩ else if 33 < l.length + b.length then ⟨Tk.none, [], 0, 70⟩
  else if l.length + b.length = 33 then heardS L t (l ++ b) b.length else ⟨t, l ++ b, b.length, 0⟩

end Go.Proofs.YtlenlldiimohjaaGreatDoor
namespace Go.Proofs.YtlenlldiimohjaaGreatDoor
open Go.RowKit

theorem own_other_b {w w' : World} {base n : Nat} {e : TypeId} {size : Nat} {v : Value} {xs : List Value} (h : w.ownsRow base e size v n xs) (hb : Below w.heap.size w w') : w'.ownsRow base e size v n xs := by
  obtain ⟨h1, h2⟩ := h
  refine ⟨h1, ?_⟩
  rcases h2 with h2 | ⟨g, cap, cur, rfl, hbs, hg, h3⟩
  · exact .inl h2
  · exact .inr ⟨g, cap, cur, rfl, hbs, (hb.block g (heap_lt hg)).trans hg, h3⟩
theorem Bys.far {w w' : World} {B q : Nat} {hv : Value} {l : List UInt8} (h : Bys w B hv l) (hne : hv.ownBlock ≠ some q) (ho : ∀ i, i ≠ q → w'.heap[i]? = w.heap[i]?) : Bys w' B hv l := by
  obtain ⟨A, cap, e, h1, h2, h3⟩ := h
  refine ⟨A, cap, e, h1, h2, h3.1, fun hn => ?_⟩
  obtain ⟨ad, rfl, hb, hc⟩ := h3.2 hn
  have hn2 : ad.block ≠ q := fun he => hne (by rw [e]; show some ad.block = _; rw [he])
  exact ⟨ad, rfl, hb, fun j u hu => (World.cell?_of_block (ho _ (by rw [block_of_add]; exact hn2))).trans (hc j u hu)⟩
/-- Where Read stands behind its own Talk. -/
def RSt (w0 : World) (t : Tk) (hv : Value) (nb n : Nat) (xs : List Value) (w : World) : Prop := TBlk w w0.heap.size t hv ∧ TBlk w (w0.heap.size + 1) Tk.none (.slice none 0 0) ∧ w.ownsRow nb 5 1 hv n xs ∧ Below w0.heap.size w0 w
theorem RSt.next {w0 w w' : World} {t : Tk} {hv : Value} {nb n : Nat} {xs : List Value} (h : RSt w0 t hv nb n xs w) (hb : Below w.heap.size w w') : RSt w0 t hv nb n xs w' := ⟨h.1.below hb, h.2.1.below hb, own_other_b h.2.2.1 hb, h.2.2.2.trans (hb.mono h.2.2.2.size)⟩
theorem RSt.k {w0 w : World} {t : Tk} {hv : Value} {nb n : Nat} {xs : List Value} (h : RSt w0 t hv nb n xs w) (i : Nat) : w.cell? ⟨w0.heap.size, i, none⟩ = (talkL t hv).toArray[i]? := Blk.cell h.1 i
theorem RSt.low {w0 w : World} {t : Tk} {hv : Value} {nb n : Nat} {xs : List Value} (h : RSt w0 t hv nb n xs w) : Below w0.heap.size w0 w := h.2.2.2
theorem results_read {tmps : Array Value} {w : World} {q : Nat} {t : Tk} {hv v : Value} {e : Int} (h6 : tmps.getD 6 undef = .pointer (some ⟨q, 0, none⟩)) (h7 : tmps.getD 7 undef = v) (h8 : tmps.getD 8 undef = .int .i64 e) (hk : TBlk w q t hv) :
    (results Tryz.f16 tmps).run Tryz.prog w = .ok (.tuple #[talkV t hv, v, .int .i64 e]) w := by
  have h6' : tmps[6]?.getD undef = .pointer (some ⟨q, 0, none⟩) := by simpa using h6
  have h7' : tmps[7]?.getD undef = v := by simpa using h7
  have h8' : tmps[8]?.getD undef = .int .i64 e := by simpa using h8
  simp [results, Tryz.results16, h6', h7', h8', asAddr, loadVar_talk hk]
/-- What Read answers: the Talk, what it has heard, what is told, the error. -/
structure Rd where
  t : Tk
  h : List UInt8
  out : List UInt8
  e : Int
def fromN (said : Int) (n : Nat) : Nat := min (max said 0).toNat n
def toN (said count : Int) (n : Nat) : Nat := min n (fromN said n + min (max count 0).toNat n)
theorem from_le (said count : Int) (n : Nat) : fromN said n ≤ toN said count n ∧ toN said count n ≤ n := by
  unfold toN fromN
  omega
theorem from_eq (said : Int) (n : Nat) : min (max said 0) (n : Int) = ((fromN said n : Nat) : Int) := by
  unfold fromN
  omega
theorem to_eq (said count : Int) (n : Nat) : min (n : Int) (((fromN said n : Nat) : Int) + min (max count 0) (n : Int)) = ((toN said count n : Nat) : Int) := by
  unfold toN
  omega
theorem ext_eq (S : ByteArray) (f e : Nat) (he : e ≤ S.size) (hf : f ≤ e) : (S.extract f e).data.toList = (S.data.toList.take e).drop f ∧ (S.extract f e).size = e - f := by
  have h1 : (S.extract f e).data.toList = (S.data.toList.take e).drop f := by
    rw [ByteArray.data_extract]
    simp
    exact List.drop_take.symm
  refine ⟨h1, ?_⟩
  have h2 := congrArg List.length h1
  rw [Array.length_toList, List.length_drop, List.length_take, Array.length_toList] at h2
  show (S.extract f e).data.size = _
  rw [h2]
  show min e S.data.size - f = e - f
  have : S.data.size = S.size := rfl
  omega
def lineRd (t : Tk) (l : List UInt8) (line : List UInt8) (next count : Int) : Rd :=
  if toN t.said count line.length = line.length then ⟨{ t with step := next, said := 0 }, l, (line.take (toN t.said count line.length)).drop (fromN t.said line.length), 0⟩
  else ⟨{ t with said := toN t.said count line.length }, l, (line.take (toN t.said count line.length)).drop (fromN t.said line.length), 0⟩
theorem lineRd_eq (t : Tk) (l : List UInt8) (S : ByteArray) (next count : Int) {f e : Nat} {x : List UInt8} (hf : fromN t.said S.size = f) (he : toN t.said count S.size = e) (hx : x = (S.data.toList.take e).drop f) :
    lineRd t l S.data.toList next count = if e = S.size then ⟨{ t with step := next, said := 0 }, l, x, 0⟩ else ⟨{ t with said := (e : Int) }, l, x, 0⟩ := by
  have hs : S.data.toList.length = S.size := Array.length_toList
  unfold lineRd
  rw [hs, hf, he, hx]
def readS (L : List Acct) (t : Tk) (l : List UInt8) (count : Int) : Rd :=
  if t.step = 5 then ⟨Tk.none, [], [], 72⟩
  else if t.step = 1 then lineRd t l (helloS t.ours.toNat).data.toList 2 count
  else if t.step = 3 then lineRd t l (shownS (shN (keyOfUser L t.user) t.user t.tree 2 t.ours t.theirs)).data.toList 4 count
  else ⟨t, l, [], 0⟩

end Go.Proofs.YtlenlldiimohjaaGreatDoor
namespace Go.Proofs.YtlenlldiimohjaaGreatDoor
open Go.RowKit

/-- The cuts. -/
def Cuts (w : World) (B : Nat) (v : Value) (l : List Int) : Prop := (∃ A cap, v = .slice A l.length cap ∧ l.length ≤ cap ∧ Reads w B 1 A l.length (l.map fun c => .int .i64 c)) ∧ l.length ≤ 9223372036854775807 ∧ ∀ c ∈ l, -9223372036854775808 ≤ c ∧ c ≤ 9223372036854775807
theorem Cuts.below {w w' : World} {B : Nat} {v : Value} {l : List Int} (h : Cuts w B v l) (hb : Below B w w') : Cuts w' B v l := by
  obtain ⟨⟨A, cap, e, h1, h2⟩, h3⟩ := h
  exact ⟨⟨A, cap, e, h1, h2.below hb⟩, h3⟩
theorem Cuts.nil_ (w : World) (B : Nat) : Cuts w B (.slice none 0 0) [] := ⟨⟨none, 0, rfl, Nat.le_refl _, Reads.none_⟩, by simp, by simp⟩
def cutC (c : Int) : Int := if c < 0 then -(c + 1) else c
end Go.Proofs.YtlenlldiimohjaaGreatDoor
