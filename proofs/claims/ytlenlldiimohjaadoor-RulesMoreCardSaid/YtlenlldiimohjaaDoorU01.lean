/-
  Package wire: Good. Condition: the tables of utf8 lie as laid, a text of at most 2^40 bytes.
-/
import Derived.Test.YtlenlldiimohjaaDoorShelf
import Derived.Test.YtlenlldiimohjaaDoorUOwn
import Derived.Test.YtlenlldiimohjaaDoorR06a
import Derived.Lib.OthersKept
import Derived.Lib.RuneCountTail
import Derived.Laws.RangeAny
namespace Go.Proofs.YtlenlldiimohjaaDoor
open Go.ChangeShapes Go.WideShapes Go.ChangeAt Go.RowKit

/-- What the program's own calls want of the world: the tables of utf8, and bytealg's number. -/
def Ready (w : World) : Prop := Lib.Utf8Tabs 1 2 w ∧ ∃ m, w.cell? ⟨0, 0, none⟩ = some (.int .i64 m)

theorem Ready.below {w w' : World} {B : Nat} (h : Ready w) (hb : Below B w w') (hB : w.heap.size ≤ B) : Ready w' := by
  obtain ⟨⟨h1, h2⟩, m, h3⟩ := h
  have key : ∀ (a : Addr) u, w.cell? a = some u → w'.cell? a = some u := fun a u hu => (hb.cell (Nat.lt_of_lt_of_le (World.block_lt_of_cell? w a hu) hB)).trans hu
  exact ⟨⟨fun c hc => key _ _ (h1 c hc), fun i hi => ⟨key _ _ (h2 i hi).1, key _ _ (h2 i hi).2⟩⟩, m, key _ _ h3⟩
theorem Ready.alloc {w : World} (h : Ready w) (x : Obj) : Ready (w.alloc x) := h.below ((Below.refl _ _).alloc (Nat.le_refl _) x) (Nat.le_refl _)
theorem Ready.drawn {w w' : World} (h : Ready w) (d : Drawn w w') : Ready w' := h.below (d.below _) (Nat.le_refl _)

theorem width_pos (s : ByteArray) (pos : Nat) (h : pos < s.size) : 1 ≤ (Utf8.decode s pos).2 := by
  by_cases ha : (s[pos]'h).toNat < 128
  · rw [decode_ascii s pos h ha]
    exact Nat.le_refl _
  · exact (decode_high s pos h (by omega)).2

theorem goodFrom_end {s : ByteArray} {f pos : Nat} (h : ¬ pos < s.size) : goodFrom s f pos = true := by
  cases f with
  | zero => rfl
  | succ f => rw [goodFrom, if_neg h]
theorem goodFrom_bad {s : ByteArray} {f pos : Nat} (h : pos < s.size) (hf : s.size ≤ pos + f) (hb : (Utf8.decode s pos).1 = 0 ∨ ((Utf8.decode s pos).1 = 65533 ∧ (Utf8.decode s pos).2 = 1)) : goodFrom s f pos = false := by
  cases f with
  | zero => omega
  | succ f => rw [goodFrom, if_pos h, if_pos hb]
theorem goodFrom_next {s : ByteArray} {f pos : Nat} (h : pos < s.size) (hf : s.size ≤ pos + f) (hb : ¬ ((Utf8.decode s pos).1 = 0 ∨ ((Utf8.decode s pos).1 = 65533 ∧ (Utf8.decode s pos).2 = 1))) : goodFrom s f pos = goodFrom s (f - 1) (pos + (Utf8.decode s pos).2) := by
  cases f with
  | zero => omega
  | succ f => rw [goodFrom, if_pos h, if_neg hb]; rfl

theorem wireBad_calls (s : ByteArray) (w : World) (hr : Ready w) :
    Calls Tryd.prog 75 #[.string s] w fun e w' => (∃ i : Int, e = .returned (.int .i64 i) ∧ (decide (i < 0)) = good s) ∧ Below w.heap.size w w' := by
  have HR := Lib.hid hr; clear hr
  go_enter Tryd.func75, Tryd.ntmps75
  go_wp2_with fail
  go_loopw [] (fun wr => ∃ (pos f : Nat), wr.heap[w.heap.size]? = some (.stringIter s pos) ∧ Below w.heap.size w wr ∧ Ready wr ∧ goodFrom s f pos = good s ∧ s.size ≤ pos + f) (fun wr => s.size - wr.iterPos w.heap.size)
  case atStart =>
    refine ⟨0, s.size, World.iter_heap w s 0, (Below.refl _ w).alloc (Nat.le_refl _) _, HR.out.alloc _, rfl, by omega⟩
  case round =>
    obtain ⟨pos, f, hit, hb, hr, hg, hf⟩ := hrel
    have hsz : w.heap.size < wr.heap.size := (Array.getElem?_eq_some_iff.1 hit).1
    have HB := Lib.hid hb; clear hb
    have HRR := Lib.hid hr; clear hr
    have HG := Lib.hid hg; clear hg
    by_cases hp : pos < s.size
    · have hnx : ∀ ty, (Instr.next (.pointer (some ⟨w.heap.size, 0, none⟩)) true ty).run Tryd.prog wr = _ := fun ty => Lib.run_next_any_at wr w.heap.size s pos ty hit hp
      have HWD := Lib.hid (width_pos s pos hp)
      have HIT2 := Lib.hid (Lib.iterAt_heap wr w.heap.size s pos (pos + (Utf8.decode s pos).2) hit)
      have HB2 := Lib.hid (Lib.below_iterAt HB.out (k := w.heap.size) (Nat.le_refl _) s (pos + (Utf8.decode s pos).2))
      have HPOS := Lib.hid (show wr.iterPos w.heap.size = pos from by simp [World.iterPos, hit])
      have HIT := Lib.hid hit
      clear hit
      have HR2 := Lib.hid (show Ready (wr.iterAt w.heap.size s (pos + (Utf8.decode s pos).2)) from HR.out.below HB2.out (Nat.le_refl _))
      generalize hdec : Utf8.decode s pos = d at HWD HIT2 HB2 HR2 hnx
      obtain ⟨r, k⟩ := d
      have HD := Lib.hid hdec; clear hdec
      dsimp only at hnx HWD HIT2 HB2 HR2
      rcases Nat.eq_zero_or_pos r with h0 | h0
      · have HX := Lib.hid (show goodFrom s f pos = false from goodFrom_bad hp hf (.inl (by rw [HD.out]; exact h0)))
        have h0i : ((r : Int) == 0) = true := by rw [beq_iff_eq]; omega
        clear h0
        go_wp2_with fail
        go_ret
        exact ⟨⟨pos, rfl, by rw [← HG.out, HX.out]; exact decide_eq_false (by omega)⟩, HB2.out⟩
      · have h0i : ((r : Int) == 0) = false := by rw [beq_eq_false_iff_ne]; omega
        have HPS := Lib.hid h0; clear h0
        by_cases h6 : r = 65533
        · have h6i : ((r : Int) == 65533) = true := by rw [beq_iff_eq]; omega
          have HDG := Lib.hid (show Lib.decodeGo (s.extract pos s.size) = (r, k) from by
            unfold Lib.decodeGo
            rw [if_neg (by simp; omega), Lib.tail_decode, Nat.add_zero]
            exact HD.out)
          have H6 := Lib.hid h6; clear h6
          by_cases hk : k = 1
          · have hki : ((k : Int) == 1) = true := by rw [beq_iff_eq]; omega
            have HX := Lib.hid (show goodFrom s f pos = false from goodFrom_bad hp hf (.inr (by rw [HD.out]; exact ⟨H6.out, hk⟩)))
            clear hk
            go_wp2_with fail
            refine (Tryd.utf8_DecodeRuneInString (s.extract pos s.size) _ HR2.out.1).mono ?_
            rintro e w2 ⟨rfl, hb2⟩
            have HB3 := Lib.hid (HB2.out.trans (hb2.mono HB2.out.size)); clear hb2
            rw [HDG.out]
            go_wp2_with fail
            go_ret
            exact ⟨⟨pos, rfl, by rw [← HG.out, HX.out]; exact decide_eq_false (by omega)⟩, HB3.out⟩
          · have hki : ((k : Int) == 1) = false := by rw [beq_eq_false_iff_ne]; omega
            have HX := Lib.hid (goodFrom_next hp hf (show ¬ ((Utf8.decode s pos).1 = 0 ∨ ((Utf8.decode s pos).1 = 65533 ∧ (Utf8.decode s pos).2 = 1)) from by
              rw [HD.out]; rintro (h | ⟨_, h⟩)
              · have := HPS.out; dsimp only at h; omega
              · exact hk h))
            clear hk
            have hit3 := HIT2.out
            go_wp2_with fail
            refine (Tryd.utf8_DecodeRuneInString (s.extract pos s.size) _ HR2.out.1).mono ?_
            rintro e w2 ⟨rfl, hb2⟩
            have HB3 := Lib.hid (HB2.out.trans (hb2.mono HB2.out.size))
            have HIT3 := Lib.hid ((hb2.block w.heap.size (by rw [Lib.iterAt_size]; exact hsz)).trans HIT2.out)
            have HR3 := Lib.hid (HR2.out.below hb2 (Nat.le_refl _))
            clear hb2 hit3
            rw [HDG.out]
            go_wp2_with fail
            go_roundw
            case rel => exact ⟨pos + k, f - 1, HIT3.out, HB3.out, HR3.out, by rw [← HG.out, HX.out, HD.out], by have := HWD.out; omega⟩
            case measure => have := HWD.out; rw [HPOS.out]; simp only [World.iterPos, HIT3.out]; omega
        · have h6i : ((r : Int) == 65533) = false := by rw [beq_eq_false_iff_ne]; omega
          have HX := Lib.hid (goodFrom_next hp hf (show ¬ ((Utf8.decode s pos).1 = 0 ∨ ((Utf8.decode s pos).1 = 65533 ∧ (Utf8.decode s pos).2 = 1)) from by
              rw [HD.out]; rintro (h | ⟨h, _⟩)
              · have := HPS.out; dsimp only at h; omega
              · exact h6 h))
          clear h6
          go_wp2_with fail
          go_roundw
          case rel => exact ⟨pos + k, f - 1, HIT2.out, HB2.out, HR2.out, by rw [← HG.out, HX.out, HD.out], by have := HWD.out; omega⟩
          case measure => have := HWD.out; rw [HPOS.out]; simp only [World.iterPos, HIT2.out]; omega
    · have hnx : ∀ ty, (Instr.next (.pointer (some ⟨w.heap.size, 0, none⟩)) true ty).run Tryd.prog wr = _ := fun ty => Lib.run_next_end_at wr w.heap.size s pos ty hit hp
      go_wp2_with fail
      go_ret
      exact ⟨⟨-1, rfl, by rw [← HG.out, goodFrom_end hp]; rfl⟩, HB.out⟩

theorem wireGood_calls (s : ByteArray) (w : World) (hr : Ready w) :
    Calls Tryd.prog 47 #[.string s] w fun e w' => e = .returned (.bool (good s)) ∧ Below w.heap.size w w' := by
  have HR := Lib.hid hr; clear hr
  go_enter Tryd.func47, Tryd.ntmps47
  go_wp2_with fail
  refine (wireBad_calls s _ HR.out).mono ?_
  rintro e w2 ⟨⟨i, rfl, hi⟩, hb⟩
  have HB := Lib.hid hb; clear hb
  have HI := Lib.hid hi; clear hi
  go_wp2_with fail
  go_ret
  exact ⟨ret_bool HI.out, HB.out⟩
end Go.Proofs.YtlenlldiimohjaaDoor
