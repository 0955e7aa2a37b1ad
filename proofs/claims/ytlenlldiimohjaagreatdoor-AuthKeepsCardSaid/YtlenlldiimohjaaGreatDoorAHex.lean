
/-
  The document's digits: sixteen hexadecimal digits.
-/
import Derived.Test.YtlenlldiimohjaaGreatDoorHexL
import Derived.Test.YtlenlldiimohjaaGreatDoorShelf2
import Derived.Test.YtlenlldiimohjaaGreatDoorG1
import Derived.Laws.IdiomStrings
import Derived.OwnWalk
import Derived.WalkKit
import Derived.Lib.Hide
namespace Go.Proofs.YtlenlldiimohjaaGreatDoor
open Go.RowKit

theorem u8_info : (Tryz.prog.info? 5).map (fun i => (i.zero, i.size, i.bytes)) = some (some (.int .u8 0), 1, 1) := by kernel_rfl
theorem Blk.of_row {w : World} {base g n : Nat} {e : TypeId} {xs : List Value} (h : w.ownsRow base e 1 (.slice (some ⟨g, 0, none⟩) n n) n xs) (hn : 0 < n) : Blk w g e xs.toArray := by
  obtain ⟨hl, ⟨hv, h0⟩ | ⟨g', cap, cur, hv, hb, hg, h1, h2, h3, h4⟩⟩ := h
  · omega
  · injection hv with hv1 hv2 hv3
    injection hv1 with hv1
    injection hv1 with hv1
    subst hv1
    subst hv3
    have : cur.toList = xs := by rw [← h4, List.take_of_length_le (by simp; omega)]
    rw [← this]
    exact hg
/-- The row behind k rounds. -/
def digL (n k : Nat) : List Value := (List.range 16).map fun j => if j < 16 - k then .int .u8 0 else .int .u8 ((hexC (n / 16 ^ (15 - j) % 16)).toNat : Int)
theorem digL_zero (n : Nat) : digL n 0 = List.replicate 16 (.int .u8 0) := by
  unfold digL
  rw [List.map_congr_left (g := fun _ => Value.int .u8 0) (fun j hj => if_pos (by have := List.mem_range.1 hj; omega))]
  rfl
theorem digL_set (n k : Nat) (hk : k < 16) : (digL n k).toArray.setIfInBounds (15 - k) (.int .u8 ((hexC (n / 16 ^ k % 16)).toNat : Int)) = (digL n (k + 1)).toArray := by
  apply Array.ext
  · simp [digL]
  · intro j h1 h2
    have hj : j < 16 := by simpa [digL] using h2
    rw [Array.getElem_setIfInBounds (by simpa [digL] using hj)]
    by_cases he : 15 - k = j
    · rw [if_pos he]
      subst he
      simp only [digL, List.getElem_toArray, List.getElem_map, List.getElem_range]
      rw [if_neg (by omega), show 15 - (15 - k) = k by omega]
    · rw [if_neg he]
      simp only [digL, List.getElem_toArray, List.getElem_map, List.getElem_range]
      by_cases hl : j < 16 - k
      · rw [if_pos hl, if_pos (show j < 16 - (k + 1) by omega)]
      · rw [if_neg hl, if_neg (show ¬ j < 16 - (k + 1) by omega)]
theorem hexN_get : ∀ (k n j : Nat), j < k → (hexN k n)[j]? = some (hexC (n / 16 ^ (k - 1 - j) % 16))
  | 0, _, _, h => absurd h (by omega)
  | k + 1, n, j, h => by
    rw [hexN]
    by_cases hj : j < k
    · rw [List.getElem?_append_left (by rw [hexN_len]; exact hj), hexN_get k _ j hj, Nat.div_div_eq_div_mul, show k + 1 - 1 - j = (k - 1 - j) + 1 by omega, Nat.pow_succ, Nat.mul_comm]
    · have : j = k := by omega
      subst this
      rw [List.getElem?_append_right (by rw [hexN_len]; exact Nat.le_refl _), hexN_len]
      simp
theorem digL_all (n j : Nat) (hj : j < (hexN 16 n).length) : (digL n 16).toArray[j]? = some (.int .u8 ((hexN 16 n)[j].toNat : Int)) := by
  have h16 : j < 16 := by rw [hexN_len] at hj; exact hj
  have h := hexN_get 16 n j h16
  rw [List.getElem?_eq_getElem hj] at h
  injection h with h
  rw [h]
  simp only [digL, List.getElem?_toArray, List.getElem?_map]
  rw [List.getElem?_range h16]
  rfl
def hexWord : ByteArray := ⟨#[48, 49, 50, 51, 52, 53, 54, 55, 56, 57, 97, 98, 99, 100, 101, 102]⟩
theorem hexWord_at : ∀ (d : Nat) (h : d < 16), hexWord[d]'(by show d < 16; exact h) = hexC d := by
  have key : ∀ d : Fin 16, hexWord.data[d.1]'(by show d.1 < 16; exact d.2) = hexC d.1 := by decide
  exact fun d h => key ⟨d, h⟩

section
variable {ops : Array Oper} {rest : List Oper} {op : Oper} {a : Act} {w : World} {Q : Exit → Act → World → Prop}
theorem wpl_val {v : Value} (hg : op.guard = none) (hy : (execOp a.eval op).run Tryz.prog w = .ok (.value v) w) (h : wpList Tryz.prog ops Q rest (a.put op.dst v) w) : wpList Tryz.prog ops Q (op :: rest) a w :=
  wpList_plain hg fun K hK => by
    unfold Oper.wp
    rw [hy, Oper.upon_value]
    exact hK _ _ h
theorem ex_idx {k : IntKind} (x y : Operand) (s : ByteArray) (d : Nat) (ho : op.op = .index 9 x y) (hx : a.eval x = .string s) (hy : a.eval y = .int k (d : Int)) (hd : d < s.size) : (execOp a.eval op).run Tryz.prog w = .ok (.value (.int .u8 (s[d].toNat : Int))) w := by
  unfold execOp
  simp only [ho, hx, hy]
  go_simp
theorem ex_hex {k : IntKind} {z : Int} (x y : Operand) (d : Nat) (ho : op.op = .index 9 x y) (hx : a.eval x = .string hexWord) (hy : a.eval y = .int k z) (hz : z = (d : Int)) (hd : d < 16) : (execOp a.eval op).run Tryz.prog w = .ok (.value (.int .u8 ((hexC d).toNat : Int))) w := by
  subst hz
  rw [← hexWord_at d hd]
  exact ex_idx x y hexWord d ho hx hy hd
end

set_option maxRecDepth 100000 in
set_option maxHeartbeats 3200000 in
theorem refDigits_calls (n : Nat) (hn : n < 18446744073709551616) (w : World) :
    Calls Tryz.prog 55 #[.int .u64 (n : Int)] w fun e w' => e = .returned (.string (hex16 n)) ∧ Below w.heap.size w w' := by
  obtain ⟨i0, hi0, hz0, hz1, hz2⟩ := info_parts u8_info
  have HI := Lib.hid hi0; clear hi0
  have HZ0 := Lib.hid hz0; clear hz0
  have HZ1 := Lib.hid hz1; clear hz1
  have HZ2 := Lib.hid hz2; clear hz2
  go_enter Tryz.func55, Tryz.ntmps55
  go_upto_region 2 with (fail)
  refine wp_region_lit ?_
  refine wpList_make_full _ rfl _ _ _ rfl w.heap.size 5 i0 _ 1 Tryz.underlying47 HI.out HZ0.out HZ1.out .i64 .i64 16 16 16 rfl rfl rfl rfl (by rw [HZ2.out]; decide) (by decide) (Nat.le_refl _) ?_
  intro w1 hown hgr
  have hb0 := Blk.of_row hown (Nat.zero_lt_succ 15)
  rw [show (madeCells (Value.int .u8 0).cells (16 * 1)).toList = List.replicate 16 (.int .u8 0) from by kernel_rfl, ← digL_zero n] at hb0
  have HB := Lib.hid hb0
  have HL := Lib.hid ((Below.refl w.heap.size w).grown hgr (Nat.le_refl _) (by simp))
  clear hown hgr hb0
  generalize hg : w.heap.size = g at HB
  have HG := Lib.hid hg
  clear hg
  go_wp2_with fail
  go_loopw [0, 5] (fun v i wr => ∃ j : Nat, j ≤ 16 ∧ v = .int .u64 ((n / 16 ^ (16 - j) : Nat) : Int) ∧ i = .int .i64 ((j : Int) - 1) ∧ Blk wr g 5 (digL n (16 - j)).toArray ∧ Below w.heap.size w wr) (fun _ i _ => (intOf i + 1).toNat)
  case atStart => exact ⟨16, by omega, by simp, rfl, HB.out, HL.out⟩
  case round =>
    obtain ⟨j, hj, rfl, rfl, hb, hl⟩ := hrel
    clear HB HL
    have HL := Lib.hid hl
    cases j with
    | zero =>
      have HB := Lib.hid hb
      clear hb hl
      have hconv := run_convert_bytes_back (P := Tryz.prog) wr 47 9 5 ⟨g, 0, none⟩ 16 (hexN 16 n) Tryz.underlying47 Tryz.underlying5 Tryz.underlying9 (fun j hj => by rw [Addr.add_lit, Nat.zero_add, Blk.cell HB.out j]; exact digL_all n j hj)
      rw [hexN_len] at hconv
      go_wp2_with fail
      go_ret
      exact ⟨rfl, HL.out⟩
    | succ t =>
      have HB := Lib.hid hb
      clear hb hl
      rw [show ((t + 1 : Nat) : Int) - 1 = (t : Int) from by omega]
      obtain ⟨m, hm⟩ : ∃ m, n / 16 ^ (16 - (t + 1)) = m := ⟨_, rfl⟩
      rw [hm]
      have hd : m % 16 < 16 := Nat.mod_lt _ (by omega)
      have hmod : (m : Int) % 16 = ((m % 16 : Nat) : Int) := by omega
      have HQ := Lib.hid (show IntKind.u64.wrap ((m : Int) / 16) = ((n / 16 ^ (16 - t) : Nat) : Int) from by
        have hmb : m < 18446744073709551616 := by rw [← hm]; exact Nat.lt_of_le_of_lt (Nat.div_le_self _ _) hn
        rw [show 16 - t = (16 - (t + 1)) + 1 by omega, Nat.pow_succ, ← Nat.div_div_eq_div_mul, hm, IntKind.wrap_u64]
        omega)
      have HBS := Lib.hid (show (digL n (16 - (t + 1))).toArray.setIfInBounds t (.int .u8 ((hexC (m % 16)).toNat : Int)) = (digL n (16 - t)).toArray from by
        have h := digL_set n (16 - (t + 1)) (by omega)
        rw [hm, show 15 - (16 - (t + 1)) = t by omega, show 16 - (t + 1) + 1 = 16 - t by omega] at h
        exact h)
      clear hm
      obtain ⟨v0, hc⟩ : ∃ v, wr.cell? ⟨g, t, none⟩ = some v := by
        rw [Blk.cell HB.out t]
        rw [Array.getElem?_eq_getElem (by simp [digL]; omega)]
        exact ⟨_, rfl⟩
      have hz := Blk.frozen HB.out t
      obtain ⟨d, hdd⟩ : ∃ d, m % 16 = d := ⟨_, rfl⟩
      rw [hdd] at hd hmod
      have HBD := Lib.hid (hdd ▸ HBS.out)
      have HD := Lib.hid hdd
      clear hdd
      go_wp2_with (refine wpl_val rfl (ex_hex _ _ d rfl rfl rfl hmod hd) ?_)
      go_roundw
      case rel => exact ⟨t, by omega, by rw [HQ.out], rfl, by rw [← HBD.out]; exact Blk.set_ HB.out t _, HL.out.setCell (by show w.heap.size ≤ g; rw [HG.out]; exact Nat.le_refl _) _⟩
      case measure => simp [intOf]
end Go.Proofs.YtlenlldiimohjaaGreatDoor
