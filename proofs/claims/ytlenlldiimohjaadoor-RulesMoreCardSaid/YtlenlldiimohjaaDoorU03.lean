/-
  Package users: name, key. Condition: the tables of utf8 lie as laid.
-/
import Derived.Test.YtlenlldiimohjaaDoorU02
import Derived.Test.YtlenlldiimohjaaDoorR06d
namespace Go.Proofs.YtlenlldiimohjaaDoor
open Go.ChangeShapes Go.WideShapes Go.ChangeAt Go.RowKit

theorem get_eq (s : ByteArray) (i : Nat) (h : i < s.size) : s.get! i = s[i] := by
  have := get_at s i h
  simpa using this

theorem all_piece {s : ByteArray} {pos : Nat} : ∀ k, pos + k ≤ s.size → (∀ j, j < k → byteOk (s.get! (pos + j)) = true) → (s.data.toList.take pos).all byteOk = true → (s.data.toList.take (pos + k)).all byteOk = true
  | 0, _, _, h => h
  | k + 1, hk, hj, h => by
    have ih := all_piece k (by omega) (fun j hjk => hj j (by omega)) h
    have hl : pos + k < s.size := by omega
    rw [show pos + (k + 1) = pos + k + 1 from rfl, all_step hl ih, ← get_eq s _ hl]
    exact hj k (by omega)

/-- The tests on a byte, as the program makes them on its rune. -/
theorem byteOk_eq (c : UInt8) : byteOk c = (!(decide ((c.toNat : Int) < 33)) && !((c.toNat : Int) == 127) && !decide (0 ≤ Lib.indexByte [58, 44, 35, 47] c)) := by
  have key : ∀ n : Fin 256, byteOk (UInt8.ofNat n.val) = (!(decide (((UInt8.ofNat n.val).toNat : Int) < 33)) && !(((UInt8.ofNat n.val).toNat : Int) == 127) && !decide (0 ≤ Lib.indexByte [58, 44, 35, 47] (UInt8.ofNat n.val))) := by decide +kernel
  have := key ⟨c.toNat, UInt8.toNat_lt c⟩
  simpa using this
theorem byteOk_high (c : UInt8) (h : 128 ≤ c.toNat) : byteOk c = true := by
  unfold byteOk
  rw [decide_eq_false (by omega : ¬ c.toNat < 33), decide_eq_false (by omega : ¬ c.toNat = 127), decide_eq_false (by omega : ¬ c.toNat = 58), decide_eq_false (by omega : ¬ c.toNat = 44), decide_eq_false (by omega : ¬ c.toNat = 35), decide_eq_false (by omega : ¬ c.toNat = 47)]
  rfl

theorem goodFrom_ok {s : ByteArray} {f pos : Nat} (h : pos < s.size) (hf : s.size ≤ pos + f) (hg : goodFrom s f pos = true) : ¬ ((Utf8.decode s pos).1 = 0 ∨ ((Utf8.decode s pos).1 = 65533 ∧ (Utf8.decode s pos).2 = 1)) := by
  intro hb
  rw [goodFrom_bad h hf hb] at hg
  cases hg

set_option maxHeartbeats 1600000 in
theorem name_calls (s : ByteArray) (w : World) (hr : Ready w) :
    Calls Tryd.prog 97 #[.string s] w fun e w' => e = .returned (.bool (isName s)) ∧ Below w.heap.size w w' := by
  have HR := Lib.hid hr; clear hr
  by_cases h0 : s.size < 1
  · have HX := Lib.hid (show isName s = false from by unfold isName; rw [decide_eq_false (by omega : ¬ 1 ≤ s.size)]; rfl)
    have hem := empty_t (s := s) (by omega)
    go_enter Tryd.func97, Tryd.ntmps97
    go_wp2_with fail
    go_ret
    exact ⟨ret_bool HX.out.symm, Below.refl _ _⟩
  · have hem := empty_f (s := s) (by omega)
    by_cases h1 : 32 < s.size
    · have HX := Lib.hid (show isName s = false from by unfold isName; rw [decide_eq_false (by omega : ¬ s.size ≤ 32), Bool.and_false]; rfl)
      go_enter Tryd.func97, Tryd.ntmps97
      go_wp2_with fail
      go_ret
      exact ⟨ret_bool HX.out.symm, Below.refl _ _⟩
    · have HX := Lib.hid (show isName s = (good s && s.data.toList.all byteOk) from by unfold isName; rw [decide_eq_true (by omega : 1 ≤ s.size), decide_eq_true (by omega : s.size ≤ 32)]; rfl)
      cases hg : good s with
      | false =>
        have HG := Lib.hid hg; clear hg
        go_enter Tryd.func97, Tryd.ntmps97
        go_wp2_with fail
        refine (wireGood_calls s _ HR.out).mono ?_
        rintro e w1 ⟨rfl, hb⟩
        have HB := Lib.hid hb; clear hb
        rw [HG.out]
        go_wp2_with fail
        go_ret
        exact ⟨ret_bool (by rw [HX.out, HG.out]; rfl), HB.out⟩
      | true =>
        have HG := Lib.hid hg; clear hg
        go_enter Tryd.func97, Tryd.ntmps97
        go_wp2_with fail
        refine (wireGood_calls s _ HR.out).mono ?_
        rintro e w1 ⟨rfl, hb⟩
        have HR1 := Lib.hid (HR.out.below hb (Nat.le_refl _))
        have HB := Lib.hid hb; clear hb
        rw [HG.out]
        go_wp2_with fail
        go_loopw [] (fun wr => ∃ (pos f : Nat), wr.heap[w1.heap.size]? = some (.stringIter s pos) ∧ Below w1.heap.size w1 wr ∧ goodFrom s f pos = true ∧ s.size ≤ pos + f ∧ (s.data.toList.take pos).all byteOk = true) (fun wr => s.size - wr.iterPos w1.heap.size)
        case atStart => exact ⟨0, s.size, World.iter_heap w1 s 0, (Below.refl _ w1).alloc (Nat.le_refl _) _, HG.out, by omega, rfl⟩
        case round =>
          obtain ⟨pos, f, hit, hb2, hg, hf, hall⟩ := hrel
          have hsz : w1.heap.size < wr.heap.size := (Array.getElem?_eq_some_iff.1 hit).1
          have HB2 := Lib.hid hb2; clear hb2
          have HA := Lib.hid hall; clear hall
          by_cases hp : pos < s.size
          · have hnx : ∀ ty, (Instr.next (.pointer (some ⟨w1.heap.size, 0, none⟩)) true ty).run Tryd.prog wr = _ := fun ty => Lib.run_next_any_at wr w1.heap.size s pos ty hit hp
            have hok := goodFrom_ok hp hf hg
            have HWD := Lib.hid (width_pos s pos hp)
            have hpc := piece s pos hp (fun h => hok (.inr h))
            have hgn := goodFrom_next hp hf hok
            rw [hg] at hgn
            have hd1 := decode_le s pos
            have HIT2 := Lib.hid (Lib.iterAt_heap wr w1.heap.size s pos (pos + (Utf8.decode s pos).2) hit)
            have HB3 := Lib.hid (Lib.below_iterAt HB2.out (k := w1.heap.size) (Nat.le_refl _) s (pos + (Utf8.decode s pos).2))
            have HPOS := Lib.hid (show wr.iterPos w1.heap.size = pos from by simp [World.iterPos, hit])
            clear hit hok hg
            generalize hdec : Utf8.decode s pos = d at HWD HIT2 HB3 hnx hpc hgn hd1
            obtain ⟨r, k⟩ := d
            dsimp only at hnx HWD HIT2 HB3 hpc hgn hd1
            clear hdec
            obtain ⟨hpk, hlow, hhigh⟩ := hpc
            have HGN := Lib.hid hgn; clear hgn
            have hfk : s.size ≤ pos + k + (f - 1) := by have := HWD.out; omega
            by_cases h128 : r < 128
            · obtain ⟨hk1, hby⟩ := hlow h128
              clear hlow hhigh
              subst hk1
              rw [get_eq s pos hp] at hby
              have hbo := byteOk_eq s[pos]
              rw [hby] at hbo
              have HBO := Lib.hid hbo; clear hbo
              have HBY := Lib.hid hby; clear hby
              have hu8 : (r : Int).toNat.toUInt8 = s[pos] := by
                rw [← HBY.out]; simp
              have HU8 := Lib.hid hu8; clear hu8
              have hx1 : ∀ b, byteOk s[pos] = b → b = false → isName s = false := fun b h1 h2 => by
                rw [HX.out, all_no hp (h1.trans h2), Bool.and_false]
              have HX1 := Lib.hid hx1; clear hx1
              by_cases h33 : r < 33
              · have HBF := Lib.hid (show byteOk s[pos] = false from by rw [HBO.out, decide_eq_true (by omega : (r : Int) < 33)]; rfl)
                go_wp2_with fail
                go_ret
                exact ⟨ret_bool (HX1.out _ HBF.out rfl).symm, HB.out.trans (HB3.out.mono HB.out.size)⟩
              · by_cases h127 : r = 127
                · have h127i : ((r : Int) == 127) = true := by rw [beq_iff_eq]; omega
                  have HBF := Lib.hid (show byteOk s[pos] = false from by rw [HBO.out, h127i]; simp)
                  go_wp2_with fail
                  go_ret
                  exact ⟨ret_bool (HX1.out _ HBF.out rfl).symm, HB.out.trans (HB3.out.mono HB.out.size)⟩
                · have h127i : ((r : Int) == 127) = false := by rw [beq_eq_false_iff_ne]; omega
                  have HBF := Lib.hid (show byteOk s[pos] = !decide (0 ≤ Lib.indexByte [58, 44, 35, 47] s[pos]) from by
                    rw [HBO.out, h127i, decide_eq_false (by omega : ¬ (r : Int) < 33)]; rfl)
                  clear h127
                  cases hin : decide (0 ≤ Lib.indexByte [58, 44, 35, 47] s[pos]) with
                  | true =>
                    have HIN := Lib.hid hin; clear hin
                    go_wp2_with fail
                    refine (Tryd.strings_ContainsRune_ascii ⟨#[58, 44, 35, 47]⟩ (r : Int) _ (by omega) (by omega)).mono ?_
                    rintro e w2 ⟨rfl, rfl⟩
                    rw [HU8.out, HIN.out]
                    go_wp2_with fail
                    go_ret
                    exact ⟨ret_bool (HX1.out _ HBF.out (by rw [HIN.out]; rfl)).symm, HB.out.trans (HB3.out.mono HB.out.size)⟩
                  | false =>
                    have HIN := Lib.hid hin; clear hin
                    go_wp2_with fail
                    refine (Tryd.strings_ContainsRune_ascii ⟨#[58, 44, 35, 47]⟩ (r : Int) _ (by omega) (by omega)).mono ?_
                    rintro e w2 ⟨rfl, hw2⟩
                    subst hw2
                    rw [HU8.out, HIN.out]
                    go_wp2_with fail
                    go_roundw
                    case rel => exact ⟨pos + 1, f - 1, HIT2.out, HB3.out, HGN.out.symm, hfk, by rw [all_step hp HA.out, HBF.out, HIN.out]; rfl⟩
                    case measure => rw [HPOS.out]; simp only [World.iterPos, HIT2.out]; omega
            · have hal := all_piece k hpk (fun j hj => byteOk_high _ (hhigh (by omega) j hj)) HA.out
              have HAL := Lib.hid hal; clear hal hlow hhigh
              have h127i : ((r : Int) == 127) = false := by rw [beq_eq_false_iff_ne]; omega
              go_wp2_with fail
              refine (contains_high ⟨#[58, 44, 35, 47]⟩ rfl (by intro b hb; simp at hb; rcases hb with rfl | rfl | rfl | rfl <;> decide) (r : Int) (by omega) (by omega) _).mono ?_
              rintro e w2 ⟨rfl, hb2⟩
              have HB4 := Lib.hid (HB3.out.trans (hb2.mono HB3.out.size))
              have HIT3 := Lib.hid ((hb2.block w1.heap.size (by rw [Lib.iterAt_size]; exact hsz)).trans HIT2.out)
              clear hb2
              go_wp2_with fail
              go_roundw
              case rel => exact ⟨pos + k, f - 1, HIT3.out, HB4.out, HGN.out.symm, hfk, HAL.out⟩
              case measure => have := HWD.out; rw [HPOS.out]; simp only [World.iterPos, HIT3.out]; omega
          · have hnx : ∀ ty, (Instr.next (.pointer (some ⟨w1.heap.size, 0, none⟩)) true ty).run Tryd.prog wr = _ := fun ty => Lib.run_next_end_at wr w1.heap.size s pos ty hit hp
            go_wp2_with fail
            go_ret
            exact ⟨ret_bool (by rw [HX.out, HG.out, all_end (by omega) HA.out]; rfl), HB.out.trans (HB2.out.mono HB.out.size)⟩
end Go.Proofs.YtlenlldiimohjaaDoor
