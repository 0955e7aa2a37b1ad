/-
  G2: what AuthDoes needs of them.
-/
import Derived.Test.YtlenlldiimohjaaGreatDoorQ02
import Derived.Test.YtlenlldiimohjaaGreatDoorQ01
import Derived.Test.YtlenlldiimohjaaGreatDoorQ03
import Derived.Lib.OthersKept
import Derived.Lib.RuneCountTail
import Derived.Laws.RangeAny
import Derived.Laws.Runes
import Derived.WalkMore
import Derived.WalkLawsBesides
namespace Go.Proofs.YtlenlldiimohjaaGreatDoor
open Go.ChangeShapes Go.WideShapes Go.ChangeAt Go.RowKit

/-- What the program's own calls want of the world: the tables of utf8, and bytealg's number. -/
def Ready (w : World) : Prop := Lib.Utf8Tabs 4 5 w ∧ ∃ m, w.cell? ⟨2, 0, none⟩ = some (.int .i64 m)

theorem Ready.below {w w' : World} {B : Nat} (h : Ready w) (hb : Below B w w') (hB : w.heap.size ≤ B) : Ready w' := by
  obtain ⟨⟨h1, h2⟩, m, h3⟩ := h
  have key : ∀ (a : Addr) u, w.cell? a = some u → w'.cell? a = some u := fun a u hu => (hb.cell (Nat.lt_of_lt_of_le (World.block_lt_of_cell? w a hu) hB)).trans hu
  exact ⟨⟨fun c hc => key _ _ (h1 c hc), fun i hi => ⟨key _ _ (h2 i hi).1, key _ _ (h2 i hi).2⟩⟩, m, key _ _ h3⟩
theorem Ready.alloc {w : World} (h : Ready w) (x : Obj) : Ready (w.alloc x) := h.below ((Below.refl _ _).alloc (Nat.le_refl _) x) (Nat.le_refl _)
theorem Ready.drawn {w w' : World} (h : Ready w) (d : Drawn w w') : Ready w' := h.below (d.below _) (Nat.le_refl _)

theorem width_pos (s : ByteArray) (pos : Nat) (h : pos < s.size) : 1 ≤ (Utf8.decode s pos).2 := by
  by_cases ha : (s[pos]'h).toNat < 128
  · rw [decode_ascii s pos h ha]
    exact Nat.le_refl _
  · exact (decode_high s pos h (by omega)).2

theorem goodFrom_end {s : ByteArray} {f pos : Nat} (h : ¬ pos < s.size) : goodFrom s f pos = true := by
  cases f with
  | zero => rfl
  | succ f => rw [goodFrom, if_neg h]
theorem goodFrom_bad {s : ByteArray} {f pos : Nat} (h : pos < s.size) (hf : s.size ≤ pos + f) (hb : (Utf8.decode s pos).1 = 0 ∨ ((Utf8.decode s pos).1 = 65533 ∧ (Utf8.decode s pos).2 = 1)) : goodFrom s f pos = false := by
  cases f with
  | zero => omega
  | succ f => rw [goodFrom, if_pos h, if_pos hb]
theorem goodFrom_next {s : ByteArray} {f pos : Nat} (h : pos < s.size) (hf : s.size ≤ pos + f) (hb : ¬ ((Utf8.decode s pos).1 = 0 ∨ ((Utf8.decode s pos).1 = 65533 ∧ (Utf8.decode s pos).2 = 1))) : goodFrom s f pos = goodFrom s (f - 1) (pos + (Utf8.decode s pos).2) := by
  cases f with
  | zero => omega
  | succ f => rw [goodFrom, if_pos h, if_neg hb]; rfl

theorem wireBad_calls (s : ByteArray) (w : World) (hr : Ready w) :
    Calls Tryz.prog 155 #[.string s] w fun e w' => (∃ i : Int, e = .returned (.int .i64 i) ∧ (decide (i < 0)) = good s) ∧ Below w.heap.size w w' := by
  have HR := Lib.hid hr; clear hr
  go_enter Tryz.func155, Tryz.ntmps155
  go_wp2_with fail
  go_loopw [] (fun wr => ∃ (pos f : Nat), wr.heap[w.heap.size]? = some (.stringIter s pos) ∧ Below w.heap.size w wr ∧ Ready wr ∧ goodFrom s f pos = good s ∧ s.size ≤ pos + f) (fun wr => s.size - wr.iterPos w.heap.size)
  case atStart =>
    refine ⟨0, s.size, World.iter_heap w s 0, (Below.refl _ w).alloc (Nat.le_refl _) _, HR.out.alloc _, rfl, by omega⟩
  case round =>
    obtain ⟨pos, f, hit, hb, hr, hg, hf⟩ := hrel
    have hsz : w.heap.size < wr.heap.size := (Array.getElem?_eq_some_iff.1 hit).1
    have HB := Lib.hid hb; clear hb
    have HRR := Lib.hid hr; clear hr
    have HG := Lib.hid hg; clear hg
    by_cases hp : pos < s.size
    · have hnx : ∀ ty, (Instr.next (.pointer (some ⟨w.heap.size, 0, none⟩)) true ty).run Tryz.prog wr = _ := fun ty => Lib.run_next_any_at wr w.heap.size s pos ty hit hp
      have HWD := Lib.hid (width_pos s pos hp)
      have HIT2 := Lib.hid (Lib.iterAt_heap wr w.heap.size s pos (pos + (Utf8.decode s pos).2) hit)
      have HB2 := Lib.hid (Lib.below_iterAt HB.out (k := w.heap.size) (Nat.le_refl _) s (pos + (Utf8.decode s pos).2))
      have HPOS := Lib.hid (show wr.iterPos w.heap.size = pos from by simp [World.iterPos, hit])
      have HIT := Lib.hid hit
      clear hit
      have HR2 := Lib.hid (show Ready (wr.iterAt w.heap.size s (pos + (Utf8.decode s pos).2)) from HR.out.below HB2.out (Nat.le_refl _))
      generalize hdec : Utf8.decode s pos = d at HWD HIT2 HB2 HR2 hnx
      obtain ⟨r, k⟩ := d
      have HD := Lib.hid hdec; clear hdec
      dsimp only at hnx HWD HIT2 HB2 HR2
      rcases Nat.eq_zero_or_pos r with h0 | h0
      · have HX := Lib.hid (show goodFrom s f pos = false from goodFrom_bad hp hf (.inl (by rw [HD.out]; exact h0)))
        have h0i : ((r : Int) == 0) = true := by rw [beq_iff_eq]; omega
        clear h0
        go_wp2_with fail
        go_ret
        exact ⟨⟨pos, rfl, by rw [← HG.out, HX.out]; exact decide_eq_false (by omega)⟩, HB2.out⟩
      · have h0i : ((r : Int) == 0) = false := by rw [beq_eq_false_iff_ne]; omega
        have HPS := Lib.hid h0; clear h0
        by_cases h6 : r = 65533
        · have h6i : ((r : Int) == 65533) = true := by rw [beq_iff_eq]; omega
          have HDG := Lib.hid (show Lib.decodeGo (s.extract pos s.size) = (r, k) from by
            unfold Lib.decodeGo
            rw [if_neg (by simp; omega), Lib.tail_decode, Nat.add_zero]
            exact HD.out)
          have H6 := Lib.hid h6; clear h6
          by_cases hk : k = 1
          · have hki : ((k : Int) == 1) = true := by rw [beq_iff_eq]; omega
            have HX := Lib.hid (show goodFrom s f pos = false from goodFrom_bad hp hf (.inr (by rw [HD.out]; exact ⟨H6.out, hk⟩)))
            clear hk
            go_wp2_with fail
            refine (Tryz.utf8_DecodeRuneInString (s.extract pos s.size) _ HR2.out.1).mono ?_
            rintro e w2 ⟨rfl, hb2⟩
            have HB3 := Lib.hid (HB2.out.trans (hb2.mono HB2.out.size)); clear hb2
            rw [HDG.out]
            go_wp2_with fail
            go_ret
            exact ⟨⟨pos, rfl, by rw [← HG.out, HX.out]; exact decide_eq_false (by omega)⟩, HB3.out⟩
          · have hki : ((k : Int) == 1) = false := by rw [beq_eq_false_iff_ne]; omega
            have HX := Lib.hid (goodFrom_next hp hf (show ¬ ((Utf8.decode s pos).1 = 0 ∨ ((Utf8.decode s pos).1 = 65533 ∧ (Utf8.decode s pos).2 = 1)) from by
              rw [HD.out]; rintro (h | ⟨_, h⟩)
              · have := HPS.out; dsimp only at h; omega
              · exact hk h))
            clear hk
            have hit3 := HIT2.out
            go_wp2_with fail
            refine (Tryz.utf8_DecodeRuneInString (s.extract pos s.size) _ HR2.out.1).mono ?_
            rintro e w2 ⟨rfl, hb2⟩
            have HB3 := Lib.hid (HB2.out.trans (hb2.mono HB2.out.size))
            have HIT3 := Lib.hid ((hb2.block w.heap.size (by rw [Lib.iterAt_size]; exact hsz)).trans HIT2.out)
            have HR3 := Lib.hid (HR2.out.below hb2 (Nat.le_refl _))
            clear hb2 hit3
            rw [HDG.out]
            go_wp2_with fail
            go_roundw
            case rel => exact ⟨pos + k, f - 1, HIT3.out, HB3.out, HR3.out, by rw [← HG.out, HX.out, HD.out], by have := HWD.out; omega⟩
            case measure => have := HWD.out; rw [HPOS.out]; simp only [World.iterPos, HIT3.out]; omega
        · have h6i : ((r : Int) == 65533) = false := by rw [beq_eq_false_iff_ne]; omega
          have HX := Lib.hid (goodFrom_next hp hf (show ¬ ((Utf8.decode s pos).1 = 0 ∨ ((Utf8.decode s pos).1 = 65533 ∧ (Utf8.decode s pos).2 = 1)) from by
              rw [HD.out]; rintro (h | ⟨h, _⟩)
              · have := HPS.out; dsimp only at h; omega
              · exact h6 h))
          clear h6
          go_wp2_with fail
          go_roundw
          case rel => exact ⟨pos + k, f - 1, HIT2.out, HB2.out, HR2.out, by rw [← HG.out, HX.out, HD.out], by have := HWD.out; omega⟩
          case measure => have := HWD.out; rw [HPOS.out]; simp only [World.iterPos, HIT2.out]; omega
    · have hnx : ∀ ty, (Instr.next (.pointer (some ⟨w.heap.size, 0, none⟩)) true ty).run Tryz.prog wr = _ := fun ty => Lib.run_next_end_at wr w.heap.size s pos ty hit hp
      go_wp2_with fail
      go_ret
      exact ⟨⟨-1, rfl, by rw [← HG.out, goodFrom_end hp]; rfl⟩, HB.out⟩

theorem wireGood_calls (s : ByteArray) (w : World) (hr : Ready w) :
    Calls Tryz.prog 133 #[.string s] w fun e w' => e = .returned (.bool (good s)) ∧ Below w.heap.size w w' := by
  have HR := Lib.hid hr; clear hr
  go_enter Tryz.func133, Tryz.ntmps133
  go_wp2_with fail
  refine (wireBad_calls s _ HR.out).mono ?_
  rintro e w2 ⟨⟨i, rfl, hi⟩, hb⟩
  have HB := Lib.hid hb; clear hb
  have HI := Lib.hid hi; clear hi
  go_wp2_with fail
  go_ret
  exact ⟨ret_bool HI.out, HB.out⟩
end Go.Proofs.YtlenlldiimohjaaGreatDoor

namespace Go.Proofs.YtlenlldiimohjaaGreatDoor
open Go.ChangeShapes Go.WideShapes Go.ChangeAt Go.RowKit

theorem indexByte_none (l : List UInt8) (c : UInt8) (h : ∀ b ∈ l, b ≠ c) : Lib.indexByte l c = -1 := by
  induction l with
  | nil => rfl
  | cons b l ih =>
    rw [Lib.indexByte, if_neg (by simpa using h b List.mem_cons_self), ih (fun x hx => h x (List.mem_cons_of_mem _ hx))]
    rfl
theorem low_at {S : ByteArray} (hA : ∀ b ∈ S.data.toList, b.toNat < 128) {k : Nat} (h : k < S.size) : (S[k]).toNat < 128 :=
  hA _ (Array.getElem_mem_toList (xs := S.data) h)

set_option maxRecDepth 100000 in
set_option maxHeartbeats 1600000 in
theorem indexRune_high (S : ByteArray) (hS : S.size = 4) (hA : ∀ b ∈ S.data.toList, b.toNat < 128) (r : Int) (h0 : 128 ≤ r) (h1 : r ≤ 2147483647) (w : World) :
    Calls Tryz.prog 192 #[.string S, .int .i32 r] w fun e w' => e = .returned (.int .i64 (-1)) ∧ Below w.heap.size w w' := by
  have HA := Lib.hid hA; clear hA
  by_cases h6 : r = 65533
  · subst h6
    go_enter Tryz.func192, Tryz.ntmps192
    go_wp2_with fail
    go_loopw [] (fun wr => ∃ (pos : Nat), wr.heap[w.heap.size]? = some (.stringIter S pos) ∧ Below w.heap.size w wr) (fun wr => S.size - wr.iterPos w.heap.size)
    case atStart => exact ⟨0, World.iter_heap w S 0, (Below.refl _ w).alloc (Nat.le_refl _) _⟩
    case round =>
      obtain ⟨pos, hit, hb⟩ := hrel
      have hsz : w.heap.size < wr.heap.size := (Array.getElem?_eq_some_iff.1 hit).1
      have HB := Lib.hid hb; clear hb
      by_cases hp : pos < S.size
      · have hlo := low_at HA.out hp
        have hnx : ∀ ty, (Instr.next (.pointer (some ⟨w.heap.size, 0, none⟩)) true ty).run Tryz.prog wr = _ := fun ty => Lib.run_next_ascii_at wr w.heap.size S pos ty hit hp hlo
        have HIT2 := Lib.hid (Lib.iterAt_heap wr w.heap.size S pos (pos + 1) hit)
        have HB2 := Lib.hid (Lib.below_iterAt HB.out (k := w.heap.size) (Nat.le_refl _) S (pos + 1))
        have HPOS := Lib.hid (show wr.iterPos w.heap.size = pos from by simp [World.iterPos, hit])
        have hne : ((S[pos].toNat : Int) == 65533) = false := by rw [beq_eq_false_iff_ne]; omega
        clear hit
        go_wp2_with fail
        go_roundw
        case rel => exact ⟨pos + 1, HIT2.out, HB2.out⟩
        case measure => rw [HPOS.out]; simp only [World.iterPos, HIT2.out]; omega
      · have hnx : ∀ ty, (Instr.next (.pointer (some ⟨w.heap.size, 0, none⟩)) true ty).run Tryz.prog wr = _ := fun ty => Lib.run_next_end_at wr w.heap.size S pos ty hit hp
        go_wp2_with fail
        go_ret
        exact ⟨rfl, HB.out⟩
  · have h6i : (r == 65533) = false := by rw [beq_eq_false_iff_ne]; exact h6
    clear h6
    cases hv : Lib.validRune r with
    | false =>
      have HV := Lib.hid hv; clear hv
      go_enter Tryz.func192, Tryz.ntmps192
      go_wp2_with fail
      refine (Tryz.utf8_ValidRune r _).mono ?_
      rintro e w1 ⟨rfl, rfl⟩
      rw [HV.out]
      go_wp2_with fail
      go_ret
      exact ⟨rfl, Below.refl _ _⟩
    | true =>
      obtain ⟨e1, e2, e3⟩ := encode_facts r (by rw [validRune_eq]; exact hv) h0
      have HV := Lib.hid hv; clear hv
      generalize hE : Utf8.encode r = E at e1 e2 e3
      have hcs : E.size = 2 ∨ E.size = 3 ∨ E.size = 4 := by omega
      clear e1 e2
      rcases hcs with hc | hc | hc
      all_goals
        simp only [hc, Nat.reduceSub] at e3
        have e4 := e3 (by omega)
        have e5 := low_at HA.out (S := S) (k := E.size - 1) (by omega)
        simp only [hc, Nat.reduceSub] at e5
      case inl =>
        have hne : ((S[1].toNat : Int) != (E[1].toNat : Int)) = true := by rw [bne_iff_ne]; omega
        clear e3
        go_enter Tryz.func192, Tryz.ntmps192
        go_wp2_with fail
        refine (Tryz.utf8_ValidRune r _).mono ?_
        rintro e w1 ⟨rfl, rfl⟩
        rw [HV.out]
        go_wp2_with fail
        go_step3
        have HE := Lib.hid hE
        go_wp2_with fail
        go_loopw [9] (fun i wr => i = .int .i64 1 ∧ Drawn w1 wr) (fun _ _ => 0)
        case atStart => exact ⟨rfl, Drawn.refl _⟩
        case round =>
          obtain ⟨rfl, hd⟩ := hrel
          have HD := Lib.hid hd; clear hd
          have HIX := Lib.hid (show Lib.indexByte (S.extract 2 4).data.toList ((E[1].toNat : Int)).toNat.toUInt8 = -1 from indexByte_none _ _ fun b hb he => by
            have h1 := HA.out b (mem_extract hb)
            have h2 : ((E[1].toNat : Int)).toNat.toUInt8 = E[1] := by simp
            rw [he, h2] at h1
            omega)
          go_wp2_with fail
          go_step3
          go_wp2_with fail
          go_region
          have HD2 := Lib.hid (show Drawn w1 wr.drew from HD.out.next 1)
          generalize wr.drew = w2 at HD2 ⊢
          go_wp2_with fail
          go_quiet ((go_at_call 204; exact Calls.quiet_of_same (Tryz.strings_IndexByte _ _ _)))
          rw [HIX.out]
          have HD3 := Lib.hid (HD2.out.next nq)
          generalize w2.drewN nq = w3 at HD3 ⊢
          go_wp2_with fail
          simp +zetaDelta only [Exit.noGoto, Exit.inBlock, Exit.then]
          go_ret
          exact ⟨rfl, HD3.out.below _⟩
      case inr.inl =>
        have hne : ((S[2].toNat : Int) != (E[2].toNat : Int)) = true := by rw [bne_iff_ne]; omega
        clear e3
        go_enter Tryz.func192, Tryz.ntmps192
        go_wp2_with fail
        refine (Tryz.utf8_ValidRune r _).mono ?_
        rintro e w1 ⟨rfl, rfl⟩
        rw [HV.out]
        go_wp2_with fail
        go_step3
        have HE := Lib.hid hE
        go_wp2_with fail
        go_loopw [9] (fun i wr => i = .int .i64 2 ∧ Drawn w1 wr) (fun _ _ => 0)
        case atStart => exact ⟨rfl, Drawn.refl _⟩
        case round =>
          obtain ⟨rfl, hd⟩ := hrel
          have HD := Lib.hid hd; clear hd
          have HIX := Lib.hid (show Lib.indexByte (S.extract 3 4).data.toList ((E[2].toNat : Int)).toNat.toUInt8 = -1 from indexByte_none _ _ fun b hb he => by
            have h1 := HA.out b (mem_extract hb)
            have h2 : ((E[2].toNat : Int)).toNat.toUInt8 = E[2] := by simp
            rw [he, h2] at h1
            omega)
          go_wp2_with fail
          go_step3
          go_wp2_with fail
          go_region
          have HD2 := Lib.hid (show Drawn w1 wr.drew from HD.out.next 1)
          generalize wr.drew = w2 at HD2 ⊢
          go_wp2_with fail
          go_quiet ((go_at_call 204; exact Calls.quiet_of_same (Tryz.strings_IndexByte _ _ _)))
          rw [HIX.out]
          have HD3 := Lib.hid (HD2.out.next nq)
          generalize w2.drewN nq = w3 at HD3 ⊢
          go_wp2_with fail
          simp +zetaDelta only [Exit.noGoto, Exit.inBlock, Exit.then]
          go_ret
          exact ⟨rfl, HD3.out.below _⟩
      case inr.inr =>
        have hne : ((S[3].toNat : Int) != (E[3].toNat : Int)) = true := by rw [bne_iff_ne]; omega
        clear e3
        go_enter Tryz.func192, Tryz.ntmps192
        go_wp2_with fail
        refine (Tryz.utf8_ValidRune r _).mono ?_
        rintro e w1 ⟨rfl, rfl⟩
        rw [HV.out]
        go_wp2_with fail
        go_step3
        have HE := Lib.hid hE
        go_wp2_with fail
        go_loopw [9] (fun i wr => i = .int .i64 3 ∧ Drawn w1 wr) (fun _ _ => 0)
        case atStart => exact ⟨rfl, Drawn.refl _⟩
        case round =>
          obtain ⟨rfl, hd⟩ := hrel
          have HD := Lib.hid hd; clear hd
          have HIX := Lib.hid (show Lib.indexByte ByteArray.empty.data.toList ((E[3].toNat : Int)).toNat.toUInt8 = -1 from rfl)
          go_wp2_with fail
          go_step3
          go_wp2_with fail
          go_region
          have HD2 := Lib.hid (show Drawn w1 wr.drew from HD.out.next 1)
          generalize wr.drew = w2 at HD2 ⊢
          go_wp2_with fail
          go_quiet ((go_at_call 204; exact Calls.quiet_of_same (Tryz.strings_IndexByte _ _ _)))
          rw [HIX.out]
          have HD3 := Lib.hid (HD2.out.next nq)
          generalize w2.drewN nq = w3 at HD3 ⊢
          go_wp2_with fail
          simp +zetaDelta only [Exit.noGoto, Exit.inBlock, Exit.then]
          go_ret
          exact ⟨rfl, HD3.out.below _⟩

theorem contains_high (S : ByteArray) (hS : S.size = 4) (hA : ∀ b ∈ S.data.toList, b.toNat < 128) (r : Int) (h0 : 128 ≤ r) (h1 : r ≤ 2147483647) (w : World) :
    Calls Tryz.prog 172 #[.string S, .int .i32 r] w fun e w' => e = .returned (.bool false) ∧ Below w.heap.size w w' := by
  have HA := Lib.hid hA; clear hA
  go_enter Tryz.func172, Tryz.ntmps172
  go_wp2_with fail
  refine (indexRune_high S hS HA.out r h0 h1 _).mono ?_
  rintro e w2 ⟨rfl, hb⟩
  have HB := Lib.hid hb; clear hb
  go_wp2_with fail
  go_ret
  exact ⟨rfl, HB.out⟩
end Go.Proofs.YtlenlldiimohjaaGreatDoor

namespace Go.Proofs.YtlenlldiimohjaaGreatDoor
open Go.ChangeShapes Go.WideShapes Go.ChangeAt Go.RowKit

theorem get_eq (s : ByteArray) (i : Nat) (h : i < s.size) : s.get! i = s[i] := by
  have := get_at s i h
  simpa using this

theorem all_piece {s : ByteArray} {pos : Nat} : ∀ k, pos + k ≤ s.size → (∀ j, j < k → byteOk (s.get! (pos + j)) = true) → (s.data.toList.take pos).all byteOk = true → (s.data.toList.take (pos + k)).all byteOk = true
  | 0, _, _, h => h
  | k + 1, hk, hj, h => by
    have ih := all_piece k (by omega) (fun j hjk => hj j (by omega)) h
    have hl : pos + k < s.size := by omega
    rw [show pos + (k + 1) = pos + k + 1 from rfl, all_step hl ih, ← get_eq s _ hl]
    exact hj k (by omega)

/-- The tests on a byte, as the program makes them on its rune. -/
theorem byteOk_eq (c : UInt8) : byteOk c = (!(decide ((c.toNat : Int) < 33)) && !((c.toNat : Int) == 127) && !decide (0 ≤ Lib.indexByte [58, 44, 35, 47] c)) := by
  have key : ∀ n : Fin 256, byteOk (UInt8.ofNat n.val) = (!(decide (((UInt8.ofNat n.val).toNat : Int) < 33)) && !(((UInt8.ofNat n.val).toNat : Int) == 127) && !decide (0 ≤ Lib.indexByte [58, 44, 35, 47] (UInt8.ofNat n.val))) := by decide +kernel
  have := key ⟨c.toNat, UInt8.toNat_lt c⟩
  simpa using this
theorem byteOk_high (c : UInt8) (h : 128 ≤ c.toNat) : byteOk c = true := by
  unfold byteOk
  rw [decide_eq_false (by omega : ¬ c.toNat < 33), decide_eq_false (by omega : ¬ c.toNat = 127), decide_eq_false (by omega : ¬ c.toNat = 58), decide_eq_false (by omega : ¬ c.toNat = 44), decide_eq_false (by omega : ¬ c.toNat = 35), decide_eq_false (by omega : ¬ c.toNat = 47)]
  rfl

theorem goodFrom_ok {s : ByteArray} {f pos : Nat} (h : pos < s.size) (hf : s.size ≤ pos + f) (hg : goodFrom s f pos = true) : ¬ ((Utf8.decode s pos).1 = 0 ∨ ((Utf8.decode s pos).1 = 65533 ∧ (Utf8.decode s pos).2 = 1)) := by
  intro hb
  rw [goodFrom_bad h hf hb] at hg
  cases hg

set_option maxHeartbeats 1600000 in
theorem name_calls (s : ByteArray) (w : World) (hr : Ready w) :
    Calls Tryz.prog 147 #[.string s] w fun e w' => e = .returned (.bool (isName s)) ∧ Below w.heap.size w w' := by
  have HR := Lib.hid hr; clear hr
  by_cases h0 : s.size < 1
  · have HX := Lib.hid (show isName s = false from by unfold isName; rw [decide_eq_false (by omega : ¬ 1 ≤ s.size)]; rfl)
    have hem := empty_t (s := s) (by omega)
    go_enter Tryz.func147, Tryz.ntmps147
    go_wp2_with fail
    go_ret
    exact ⟨ret_bool HX.out.symm, Below.refl _ _⟩
  · have hem := empty_f (s := s) (by omega)
    by_cases h1 : 32 < s.size
    · have HX := Lib.hid (show isName s = false from by unfold isName; rw [decide_eq_false (by omega : ¬ s.size ≤ 32), Bool.and_false]; rfl)
      go_enter Tryz.func147, Tryz.ntmps147
      go_wp2_with fail
      go_ret
      exact ⟨ret_bool HX.out.symm, Below.refl _ _⟩
    · have HX := Lib.hid (show isName s = (good s && s.data.toList.all byteOk) from by unfold isName; rw [decide_eq_true (by omega : 1 ≤ s.size), decide_eq_true (by omega : s.size ≤ 32)]; rfl)
      cases hg : good s with
      | false =>
        have HG := Lib.hid hg; clear hg
        go_enter Tryz.func147, Tryz.ntmps147
        go_wp2_with fail
        refine (wireGood_calls s _ HR.out).mono ?_
        rintro e w1 ⟨rfl, hb⟩
        have HB := Lib.hid hb; clear hb
        rw [HG.out]
        go_wp2_with fail
        go_ret
        exact ⟨ret_bool (by rw [HX.out, HG.out]; rfl), HB.out⟩
      | true =>
        have HG := Lib.hid hg; clear hg
        go_enter Tryz.func147, Tryz.ntmps147
        go_wp2_with fail
        refine (wireGood_calls s _ HR.out).mono ?_
        rintro e w1 ⟨rfl, hb⟩
        have HR1 := Lib.hid (HR.out.below hb (Nat.le_refl _))
        have HB := Lib.hid hb; clear hb
        rw [HG.out]
        go_wp2_with fail
        go_loopw [] (fun wr => ∃ (pos f : Nat), wr.heap[w1.heap.size]? = some (.stringIter s pos) ∧ Below w1.heap.size w1 wr ∧ goodFrom s f pos = true ∧ s.size ≤ pos + f ∧ (s.data.toList.take pos).all byteOk = true) (fun wr => s.size - wr.iterPos w1.heap.size)
        case atStart => exact ⟨0, s.size, World.iter_heap w1 s 0, (Below.refl _ w1).alloc (Nat.le_refl _) _, HG.out, by omega, rfl⟩
        case round =>
          obtain ⟨pos, f, hit, hb2, hg, hf, hall⟩ := hrel
          have hsz : w1.heap.size < wr.heap.size := (Array.getElem?_eq_some_iff.1 hit).1
          have HB2 := Lib.hid hb2; clear hb2
          have HA := Lib.hid hall; clear hall
          by_cases hp : pos < s.size
          · have hnx : ∀ ty, (Instr.next (.pointer (some ⟨w1.heap.size, 0, none⟩)) true ty).run Tryz.prog wr = _ := fun ty => Lib.run_next_any_at wr w1.heap.size s pos ty hit hp
            have hok := goodFrom_ok hp hf hg
            have HWD := Lib.hid (width_pos s pos hp)
            have hpc := piece s pos hp (fun h => hok (.inr h))
            have hgn := goodFrom_next hp hf hok
            rw [hg] at hgn
            have hd1 := decode_le s pos
            have HIT2 := Lib.hid (Lib.iterAt_heap wr w1.heap.size s pos (pos + (Utf8.decode s pos).2) hit)
            have HB3 := Lib.hid (Lib.below_iterAt HB2.out (k := w1.heap.size) (Nat.le_refl _) s (pos + (Utf8.decode s pos).2))
            have HPOS := Lib.hid (show wr.iterPos w1.heap.size = pos from by simp [World.iterPos, hit])
            clear hit hok hg
            generalize hdec : Utf8.decode s pos = d at HWD HIT2 HB3 hnx hpc hgn hd1
            obtain ⟨r, k⟩ := d
            dsimp only at hnx HWD HIT2 HB3 hpc hgn hd1
            clear hdec
            obtain ⟨hpk, hlow, hhigh⟩ := hpc
            have HGN := Lib.hid hgn; clear hgn
            have hfk : s.size ≤ pos + k + (f - 1) := by have := HWD.out; omega
            by_cases h128 : r < 128
            · obtain ⟨hk1, hby⟩ := hlow h128
              clear hlow hhigh
              subst hk1
              rw [get_eq s pos hp] at hby
              have hbo := byteOk_eq s[pos]
              rw [hby] at hbo
              have HBO := Lib.hid hbo; clear hbo
              have HBY := Lib.hid hby; clear hby
              have hu8 : (r : Int).toNat.toUInt8 = s[pos] := by
                rw [← HBY.out]; simp
              have HU8 := Lib.hid hu8; clear hu8
              have hx1 : ∀ b, byteOk s[pos] = b → b = false → isName s = false := fun b h1 h2 => by
                rw [HX.out, all_no hp (h1.trans h2), Bool.and_false]
              have HX1 := Lib.hid hx1; clear hx1
              by_cases h33 : r < 33
              · have HBF := Lib.hid (show byteOk s[pos] = false from by rw [HBO.out, decide_eq_true (by omega : (r : Int) < 33)]; rfl)
                go_wp2_with fail
                go_ret
                exact ⟨ret_bool (HX1.out _ HBF.out rfl).symm, HB.out.trans (HB3.out.mono HB.out.size)⟩
              · by_cases h127 : r = 127
                · have h127i : ((r : Int) == 127) = true := by rw [beq_iff_eq]; omega
                  have HBF := Lib.hid (show byteOk s[pos] = false from by rw [HBO.out, h127i]; simp)
                  go_wp2_with fail
                  go_ret
                  exact ⟨ret_bool (HX1.out _ HBF.out rfl).symm, HB.out.trans (HB3.out.mono HB.out.size)⟩
                · have h127i : ((r : Int) == 127) = false := by rw [beq_eq_false_iff_ne]; omega
                  have HBF := Lib.hid (show byteOk s[pos] = !decide (0 ≤ Lib.indexByte [58, 44, 35, 47] s[pos]) from by
                    rw [HBO.out, h127i, decide_eq_false (by omega : ¬ (r : Int) < 33)]; rfl)
                  clear h127
                  cases hin : decide (0 ≤ Lib.indexByte [58, 44, 35, 47] s[pos]) with
                  | true =>
                    have HIN := Lib.hid hin; clear hin
                    go_wp2_with fail
                    refine (Tryz.strings_ContainsRune_ascii ⟨#[58, 44, 35, 47]⟩ (r : Int) _ (by omega) (by omega)).mono ?_
                    rintro e w2 ⟨rfl, rfl⟩
                    rw [HU8.out, HIN.out]
                    go_wp2_with fail
                    go_ret
                    exact ⟨ret_bool (HX1.out _ HBF.out (by rw [HIN.out]; rfl)).symm, HB.out.trans (HB3.out.mono HB.out.size)⟩
                  | false =>
                    have HIN := Lib.hid hin; clear hin
                    go_wp2_with fail
                    refine (Tryz.strings_ContainsRune_ascii ⟨#[58, 44, 35, 47]⟩ (r : Int) _ (by omega) (by omega)).mono ?_
                    rintro e w2 ⟨rfl, hw2⟩
                    subst hw2
                    rw [HU8.out, HIN.out]
                    go_wp2_with fail
                    go_roundw
                    case rel => exact ⟨pos + 1, f - 1, HIT2.out, HB3.out, HGN.out.symm, hfk, by rw [all_step hp HA.out, HBF.out, HIN.out]; rfl⟩
                    case measure => rw [HPOS.out]; simp only [World.iterPos, HIT2.out]; omega
            · have hal := all_piece k hpk (fun j hj => byteOk_high _ (hhigh (by omega) j hj)) HA.out
              have HAL := Lib.hid hal; clear hal hlow hhigh
              have h127i : ((r : Int) == 127) = false := by rw [beq_eq_false_iff_ne]; omega
              go_wp2_with fail
              refine (contains_high ⟨#[58, 44, 35, 47]⟩ rfl (by intro b hb; simp at hb; rcases hb with rfl | rfl | rfl | rfl <;> decide) (r : Int) (by omega) (by omega) _).mono ?_
              rintro e w2 ⟨rfl, hb2⟩
              have HB4 := Lib.hid (HB3.out.trans (hb2.mono HB3.out.size))
              have HIT3 := Lib.hid ((hb2.block w1.heap.size (by rw [Lib.iterAt_size]; exact hsz)).trans HIT2.out)
              clear hb2
              go_wp2_with fail
              go_roundw
              case rel => exact ⟨pos + k, f - 1, HIT3.out, HB4.out, HGN.out.symm, hfk, HAL.out⟩
              case measure => have := HWD.out; rw [HPOS.out]; simp only [World.iterPos, HIT3.out]; omega
          · have hnx : ∀ ty, (Instr.next (.pointer (some ⟨w1.heap.size, 0, none⟩)) true ty).run Tryz.prog wr = _ := fun ty => Lib.run_next_end_at wr w1.heap.size s pos ty hit hp
            go_wp2_with fail
            go_ret
            exact ⟨ret_bool (by rw [HX.out, HG.out, all_end (by omega) HA.out]; rfl), HB.out.trans (HB2.out.mono HB.out.size)⟩
end Go.Proofs.YtlenlldiimohjaaGreatDoor

namespace Go.Proofs.YtlenlldiimohjaaGreatDoor
open Go.ChangeShapes Go.WideShapes Go.ChangeAt Go.RowKit

theorem key_calls (s : ByteArray) (w : World) (hs : s.size ≤ 1099511627776) :
    Calls Tryz.prog 148 #[.string s] w fun e w' => e = .returned (.bool (isKey s)) ∧ w = w' := by
  go_enter Tryz.func148, Tryz.ntmps148
  go_wp2_with fail
  go_loop [6] (fun c => ∃ k : Nat, k ≤ s.size ∧ c = .int .i64 k ∧ (s.data.toList.take k).all keyByte = true) (fun c => s.size - (intOf c).toNat)
  case atStart => exact ⟨0, by omega, rfl, rfl⟩
  case round =>
    obtain ⟨k, hk, rfl, hall⟩ := hrel
    have HA := Lib.hid hall; clear hall
    by_cases hlt : k < s.size
    · rcases keyByte_cases s[k] with ⟨hok, f1, f2, f3⟩ | ⟨hok, hf⟩
      · have HK := Lib.hid hok; clear hok
        go_wp2_with fail
        go_round
        case rel => exact ⟨k + 1, by omega, by go_num, by rw [all_step hlt HA.out]; exact HK.out⟩
        case measure => simp [intOf]; omega
      · have HK := Lib.hid hok; clear hok
        rcases hf with f1 | ⟨f1, f2⟩ | ⟨f1, f2, f3⟩
        all_goals
          go_wp2_with fail
          go_ret
          exact ⟨ret_bool (by unfold isKey; rw [all_no hlt HK.out, Bool.and_false]), rfl⟩
    · go_wp2_with fail
      go_ret
      refine ⟨ret_bool ?_, rfl⟩
      unfold isKey
      rw [all_end (by omega) HA.out, Bool.and_true, Bool.eq_iff_iff, decide_eq_true_iff, decide_eq_true_iff]
      omega

/-- How the program gives up. -/
def gaveUp (err : Int) : Ending := .panicked [{ v := .iface 182 (.agg #[.int .i64 err]), recovered := false }]

theorem need_calls (b : Bool) (err : Int) (w : World) :
    Calls Tryz.prog 74 #[.bool b, .int .i64 err] w fun e w' => e = (if b then .returned (.tuple #[]) else gaveUp err) ∧ w = w' := by
  cases b with
  | true =>
    go_enter Tryz.func74, Tryz.ntmps74
    go_wp2_with fail
    go_end0
    exact ⟨rfl, rfl⟩
  | false =>
    go_enter Tryz.func74, Tryz.ntmps74
    go_wp2_with fail
    exact ⟨rfl, rfl, rfl⟩

theorem need_t (err : Int) (w : World) : Calls Tryz.prog 74 #[.bool true, .int .i64 err] w fun e w' => e = .returned (.tuple #[]) ∧ w = w' := need_calls true err w
theorem need_f (err : Int) (w : World) : Calls Tryz.prog 74 #[.bool false, .int .i64 err] w fun e w' => e = gaveUp err ∧ w = w' := need_calls false err w

/-- Nothing handed back; or given up. -/
def said (b : Bool) (err : Int) : Ending := if b then .returned (.tuple #[]) else gaveUp err
theorem said_t {b : Bool} (h : b = true) (err : Int) : Ending.returned (.tuple #[]) = said b err := by rw [h]; rfl
theorem said_f {b : Bool} (h : b = false) (err : Int) : gaveUp err = said b err := by rw [h]; rfl

/-- The account a lies in a block of the call's own. -/
def FAt (a : Acct) (mv : Value) (w w' : World) : Prop := Below w.heap.size w w' ∧ Blk w' w.heap.size 127 #[.string a.name, .string a.leader, mv, .string a.key] ∧ Strs w' mv a.members ∧ Ready w'
section
variable {a : Acct} {mv : Value} {w w' w'' : World}
theorem FAt.start (hm : Strs w mv a.members) (hr : Ready w) : FAt a mv w (w.alloc (Obj.cells #[.string a.name, .string a.leader, mv, .string a.key] 127)) :=
  ⟨(Below.refl _ _).alloc (Nat.le_refl _) _, Blk.new _ _ _, hm.alloc _, hr.alloc _⟩
theorem FAt.next (h : FAt a mv w w') (hb : Below w'.heap.size w' w'') : FAt a mv w w'' :=
  ⟨h.1.trans (hb.mono h.1.size), h.2.1.below hb h.2.1.lt, h.2.2.1.below hb (Nat.le_refl _), h.2.2.2.below hb (Nat.le_refl _)⟩
theorem FAt.c0 (h : FAt a mv w w') : w'.cell? ⟨w.heap.size, 0, none⟩ = some (.string a.name) := h.2.1.cell 0
theorem FAt.c1 (h : FAt a mv w w') : w'.cell? ⟨w.heap.size, 1, none⟩ = some (.string a.leader) := h.2.1.cell 1
theorem FAt.c2 (h : FAt a mv w w') : w'.cell? ⟨w.heap.size, 2, none⟩ = some mv := h.2.1.cell 2
theorem FAt.c3 (h : FAt a mv w w') : w'.cell? ⟨w.heap.size, 3, none⟩ = some (.string a.key) := h.2.1.cell 3
end

set_option maxRecDepth 100000 in
set_option maxHeartbeats 1600000 in
theorem formed_calls (a : Acct) (mv : Value) (w : World) (hm : Strs w mv a.members) (hr : Ready w) (hk : a.key.size ≤ 1099511627776) :
    Calls Tryz.prog 122 #[acctV a mv] w fun e w' => e = said (formed a) 60 ∧ Below w.heap.size w w' := by
  obtain ⟨A, c, rfl, hlc, hcm, -⟩ := id hm
  unfold maxLen at hcm
  have HF := Lib.hid (FAt.start (a := a) hm hr); clear hm hr
  unfold acctV
  cases hn : isName a.name with
  | false =>
    have HN := Lib.hid hn; clear hn
    have HX := Lib.hid (show formed a = false from by unfold formed; rw [HN.out]; rfl)
    go_enter Tryz.func122, Tryz.ntmps122
    go_wp2_with fail
    refine (name_calls _ _ HF.out.2.2.2).mono ?_
    rintro e w1 ⟨rfl, hb⟩
    have HF1 := Lib.hid (HF.out.next hb); clear hb
    rw [HN.out]
    go_wp2_with fail
    refine (need_f 60 _).mono ?_
    rintro e w2 ⟨rfl, rfl⟩
    exact ⟨rfl, said_f HX.out 60, HF1.out.1⟩
  | true =>
    have HN := Lib.hid hn; clear hn
    have hlc2 : (a.leader.toList.isEmpty = true ∧ a.leader.toList = [] ∧ Hid (formed a = (a.members.all isName && isKey a.key))) ∨
        (a.leader.toList.isEmpty = false ∧ Hid (isName a.leader = true) ∧ Hid (formed a = (a.members.all isName && isKey a.key))) ∨
        (a.leader.toList.isEmpty = false ∧ Hid (isName a.leader = false) ∧ Hid (formed a = false)) := by
      by_cases h0 : a.leader.size = 0
      · refine .inl ⟨empty_t h0, List.isEmpty_iff.1 (empty_t h0), ?_⟩
        show formed a = _
        unfold formed; rw [HN.out, decide_eq_true h0]; rfl
      · cases hl : isName a.leader with
        | true =>
          refine .inr (.inl ⟨empty_f h0, rfl, ?_⟩)
          show formed a = _
          unfold formed; rw [HN.out, hl, Bool.or_true]; rfl
        | false =>
          refine .inr (.inr ⟨empty_f h0, rfl, ?_⟩)
          show formed a = _
          unfold formed; rw [HN.out, hl, decide_eq_false h0]; rfl
    rcases hlc2 with ⟨he, he2, HX⟩ | ⟨he, HL, HX⟩ | ⟨he, HL, HX⟩
    case inr.inr =>
      go_enter Tryz.func122, Tryz.ntmps122
      go_wp2_with (first
        | (go_at_call 147; refine (name_calls _ _ HF.out.2.2.2).mono ?_; (first | rw [HN.out] | rw [HL.out]); rintro e w1 ⟨rfl, hb⟩; replace HF := Lib.hid (HF.out.next hb); clear hb; have d1 := HF.out.c1)
        | (go_at_call 74; refine (need_t 60 _).mono ?_; rintro e w' ⟨rfl, rfl⟩))
      refine (need_f 60 _).mono ?_
      rintro e w2 ⟨rfl, rfl⟩
      exact ⟨rfl, said_f HX.out 60, HF.out.1⟩
    all_goals
      go_enter Tryz.func122, Tryz.ntmps122
      go_wp2_with (first
        | (go_at_call 147; refine (name_calls _ _ HF.out.2.2.2).mono ?_; (first | rw [HN.out] | rw [HL.out]); rintro e w1 ⟨rfl, hb⟩; replace HF := Lib.hid (HF.out.next hb); clear hb; have d1 := HF.out.c1; have d2 := HF.out.c2)
        | (go_at_call 74; refine (need_t 60 _).mono ?_; rintro e w' ⟨rfl, rfl⟩))
      go_loopw [20] (fun i wr => ∃ k : Nat, k ≤ a.members.length ∧ i = .int .i64 k ∧ (a.members.take k).all isName = true ∧ FAt a (.slice A a.members.length c) w wr) (fun i _ => a.members.length - (intOf i).toNat)
      case atStart => exact ⟨0, by omega, rfl, rfl, HF.out⟩
      case round =>
        obtain ⟨k, hk, rfl, hall, hf⟩ := hrel
        have HA := Lib.hid hall; clear hall
        have HG := Lib.hid hf; clear hf
        by_cases hlt : k < a.members.length
        · obtain ⟨x, hkx⟩ : ∃ x, a.members[k]? = some x := ⟨a.members[k], List.getElem?_eq_getElem hlt⟩
          obtain ⟨g, o, c', hv, _, h0⟩ := HG.out.2.2.1.at_ hkx
          injection hv with e1 _ e3
          subst e1; subst e3
          have HKX := Lib.hid hkx; clear hkx
          cases hnx : isName x with
          | false =>
            have HNX := Lib.hid hnx; clear hnx
            go_wp2_with (go_at_call 147; refine (name_calls _ _ HG.out.2.2.2).mono ?_; rw [HNX.out]; rintro e w1 ⟨rfl, hb⟩; replace HG := Lib.hid (HG.out.next hb); clear hb)
            refine (need_f 60 _).mono ?_
            rintro e w2 ⟨rfl, rfl⟩
            exact ⟨rfl, said_f (by rw [HX.out, lall_no HKX.out HNX.out]; rfl) 60, HG.out.1⟩
          | true =>
            have HNX := Lib.hid hnx; clear hnx
            go_wp2_with (first
              | (go_at_call 147; refine (name_calls _ _ HG.out.2.2.2).mono ?_; rw [HNX.out]; rintro e w1 ⟨rfl, hb⟩; replace HG := Lib.hid (HG.out.next hb); clear hb)
              | (go_at_call 74; refine (need_t 60 _).mono ?_; rintro e w' ⟨rfl, rfl⟩))
            go_roundw
            case rel => exact ⟨k + 1, by omega, by go_num, by rw [lall_step HKX.out HA.out]; exact HNX.out, HG.out⟩
            case measure => simp [intOf]; omega
        · have d3 := HG.out.c3
          cases hkk : isKey a.key with
          | false =>
            have HK := Lib.hid hkk; clear hkk
            go_wp2_with fail
            refine (key_calls _ _ (by assumption)).mono ?_
            rw [HK.out]
            rintro e w1 ⟨rfl, rfl⟩
            go_wp2_with fail
            refine (need_f 60 _).mono ?_
            rintro e w2 ⟨rfl, rfl⟩
            exact ⟨rfl, said_f (by rw [HX.out, HK.out, Bool.and_false]) 60, HG.out.1⟩
          | true =>
            have HK := Lib.hid hkk; clear hkk
            go_wp2_with fail
            refine (key_calls _ _ (by assumption)).mono ?_
            rw [HK.out]
            rintro e w1 ⟨rfl, rfl⟩
            go_wp2_with fail
            refine (need_t 60 _).mono ?_
            rintro e w2 ⟨rfl, rfl⟩
            go_wp2_with fail
            go_end0
            exact ⟨said_t (by rw [HX.out, HK.out, lall_end (by omega) HA.out]; rfl) 60, HG.out.1⟩
end Go.Proofs.YtlenlldiimohjaaGreatDoor

namespace Go.Proofs.YtlenlldiimohjaaGreatDoor
open Go.ChangeShapes Go.WideShapes Go.ChangeAt Go.RowKit

theorem cut_size_le (c : UInt8) (s : ByteArray) : (cut c s).length ≤ s.size + 1 := by
  have h := cutL_sum c s.data.toList
  have key : ∀ l : List (List UInt8), l.length ≤ (l.map (fun x => x.length + 1)).sum := by
    intro l
    induction l with
    | nil => simp
    | cons a l ih => simp; omega
  have := key (cutL c s.data.toList)
  rw [h] at this
  unfold cut
  simpa using this

theorem split_calls (s : ByteArray) (c : UInt8) (w : World) (hr : Ready w) (hs : s.size ≤ 16777216) :
    Calls Tryz.prog 72 #[.string s, .string ⟨#[c]⟩] w fun e w' => ∃ v, e = .returned v ∧ Strs w' v (cut c s) ∧ Below w.heap.size w w' := by
  obtain ⟨-, m, hm⟩ := hr
  refine (Tryz.strings_Split s ⟨#[c]⟩ m w (by omega) hm (Nat.le_refl _)).mono ?_
  rintro e w' ⟨rfl, rfl⟩
  have hl : (cut c s).length = Lib.countB s ⟨#[c]⟩ + 1 := by
    rw [← splitB_cut, Lib.splitB_all _ (Nat.le_refl _) 0 _ s rfl]
  refine ⟨_, rfl, ?_, (Below.refl _ _).alloc (Nat.le_refl _) _⟩
  rw [← hl, splitB_cut]
  have hc := cut_size_le c s
  refine Strs.new w _ _ _ _ (Nat.le_refl _) (by unfold maxLen; omega) ?_
  intro j u hu
  simpa using hu

/-- What the program's reader of a line does. -/
def UAns (line : ByteArray) (w : World) (e : Ending) (w' : World) : Prop :=
  Below w.heap.size w w' ∧ match account line with
    | none => e = gaveUp 60
    | some a => ∃ mv, e = .returned (acctV a mv) ∧ Strs w' mv a.members
theorem UAns.none_ {line : ByteArray} {w w' : World} (h : account line = none) (hb : Below w.heap.size w w') : UAns line w (gaveUp 60) w' := by
  refine ⟨hb, ?_⟩
  rw [h]

set_option maxRecDepth 100000 in
set_option maxHeartbeats 1600000 in
theorem account_calls (line : ByteArray) (w : World) (hr : Ready w) (hs : line.size ≤ 16777216) :
    Calls Tryz.prog 73 #[.string line] w (UAns line w) := by
  have HR := Lib.hid hr; clear hr
  go_enter Tryz.func73, Tryz.ntmps73
  go_wp2_with fail
  refine (split_calls line 58 _ (HR.out.alloc _) hs).mono ?_
  rintro e w1 ⟨v, rfl, hv, hb⟩
  rw [World.size_alloc] at hb
  have hb1 : Below w.heap.size w w1 := ((Below.refl _ _).alloc (Nat.le_refl _) _).trans (hb.mono (by omega))
  have hr0 : Blk w1 w.heap.size 127 #[.string ⟨#[]⟩, .string ⟨#[]⟩, .slice none 0 0, .string ⟨#[]⟩] := (hb.block _ (by omega)).trans (Blk.new _ _ _)
  have hz1 : w.heap.size + 1 ≤ w1.heap.size := by have := hb.size; simpa using this
  clear hb
  have HB1 := Lib.hid hb1; clear hb1
  have HR0 := Lib.hid hr0; clear hr0
  have HV := Lib.hid hv; clear hv
  have HRY1 := Lib.hid (HR.out.below HB1.out (Nat.le_refl _))
  generalize hcut : cut 58 line = l at HV
  have HCUT := Lib.hid hcut; clear hcut
  obtain ⟨A, c, rfl, hlc, hcm, -⟩ := HV.out
  unfold maxLen at hcm
  by_cases h4 : l.length = 4
  · obtain ⟨x0, x1, x2, x3, rfl⟩ : ∃ x0 x1 x2 x3, l = [x0, x1, x2, x3] := by
      match l, h4 with
      | [a, b, c, d], _ => exact ⟨a, b, c, d, rfl⟩
    clear h4
    obtain ⟨g, o, c', hv, _, c0⟩ := HV.out.at_ (k := 0) rfl
    injection hv with e1 _ e3
    subst e1; subst e3
    obtain ⟨g', o', c', hv, _, c1⟩ := HV.out.at_ (k := 1) rfl
    injection hv with e1 _ e3
    injection e1 with e1
    injection e1 with e1 e2
    subst e1; subst e2; clear e3
    obtain ⟨g', o', c', hv, _, c2⟩ := HV.out.at_ (k := 2) rfl
    injection hv with e1 _ e3
    injection e1 with e1
    injection e1 with e1 e2
    subst e1; subst e2; clear e3
    obtain ⟨g', o', c', hv, _, c3⟩ := HV.out.at_ (k := 3) rfl
    injection hv with e1 _ e3
    injection e1 with e1
    injection e1 with e1 e2
    subst e1; subst e2; clear e3
    simp only [List.length_cons, List.length_nil, Nat.zero_add, Nat.reduceAdd, Nat.add_zero] at hlc c0 ⊢
    have hgl : g < w1.heap.size := World.block_lt_of_cell? w1 _ c0
    go_wp2_with (go_at_call 74; refine (need_t 60 _).mono ?_; rintro e w' ⟨rfl, rfl⟩)
    go_region
    have hb2 : Below w.heap.size w (w1.alloc (Obj.cells #[.string x0, .string x1, .slice none 0 0, .string x3] 127)).drew := (HB1.out.alloc HB1.out.size _).drew
    have ha2 : Blk (w1.alloc (Obj.cells #[.string x0, .string x1, .slice none 0 0, .string x3] 127)).drew w1.heap.size 127 #[.string x0, .string x1, .slice none 0 0, .string x3] := Blk.new w1 _ _
    have hr2 : Blk (w1.alloc (Obj.cells #[.string x0, .string x1, .slice none 0 0, .string x3] 127)).drew w.heap.size 127 #[.string ⟨#[]⟩, .string ⟨#[]⟩, .slice none 0 0, .string ⟨#[]⟩] := HR0.out.alloc _
    have hc2 : (w1.alloc (Obj.cells #[.string x0, .string x1, .slice none 0 0, .string x3] 127)).drew.cell? ⟨g, o + 2, none⟩ = some (.string x2) := (World.cell?_alloc_lt _ _ _ hgl).trans c2
    have HRY2 := Lib.hid (show Ready (w1.alloc (Obj.cells #[.string x0, .string x1, .slice none 0 0, .string x3] 127)).drew from HRY1.out.alloc _)
    clear c0 c1 c2 c3 HR0 HV HRY1
    generalize (w1.alloc (Obj.cells #[.string x0, .string x1, .slice none 0 0, .string x3] 127)).drew = w2 at hb2 ha2 hr2 hc2 HRY2 ⊢
    generalize hB1 : w1.heap.size = b1 at ha2 hgl hz1 ⊢
    have hwb : w.heap.size < b1 := hz1
    clear hB1 HB1 hz1 hgl
    have HB2 := Lib.hid hb2; clear hb2
    have HA2 := Lib.hid ha2; clear ha2
    have HR2 := Lib.hid hr2; clear hr2
    have hx2s : x2.size ≤ 16777216 := Nat.le_trans (cut_size (c := 58) (s := line) (by rw [HCUT.out]; simp)) hs
    go_upto_if 24 with (fail)
    go_cut [] (fun wx => ∃ mv, Blk wx b1 127 #[.string x0, .string x1, mv, .string x3] ∧ Strs wx mv (if x2.size = 0 then [] else cut 44 x2) ∧ Blk wx w.heap.size 127 #[.string ⟨#[]⟩, .string ⟨#[]⟩, .slice none 0 0, .string ⟨#[]⟩] ∧ Below w.heap.size w wx)
    case first =>
      by_cases hz : x2.size = 0
      · have he := empty_t hz
        have HZ := Lib.hid hz; clear hz
        rw [he]
        clear he
        go_wp2_with fail
        go_meet
        case rel => exact ⟨.slice none 0 0, HA2.out, by rw [if_pos HZ.out]; exact Strs.nil_ _, HR2.out, HB2.out⟩
      · have he := empty_f hz
        have HZ := Lib.hid hz; clear hz
        rw [he]
        clear he
        go_wp2_with fail
        refine (split_calls x2 44 _ HRY2.out hx2s).mono ?_
        rintro e w3 ⟨v3, rfl, hv3, hb3⟩
        have HA3 := Lib.hid (HA2.out.below hb3 HA2.out.lt)
        have HR3 := Lib.hid (HR2.out.below hb3 HR2.out.lt)
        have HB3 := Lib.hid (HB2.out.trans (hb3.mono HB2.out.size))
        clear hb3 hc2 HA2 HR2 HB2
        obtain ⟨A3, c3, rfl, -⟩ := id hv3
        have HV3 := Lib.hid hv3; clear hv3
        have d2 : w3.cell? ⟨b1, 2, none⟩ = some (.slice none 0 0) := HA3.out.cell 2
        have f2 := HA3.out.frozen 2
        go_wp2_with fail
        go_meet
        case rel =>
          refine ⟨_, HA3.out.set_ 2 _, ?_, HR3.out.far (by show w.heap.size ≠ b1; omega) _, HB3.out.setCell (Nat.le_of_lt hwb) _⟩
          rw [if_neg HZ.out]
          exact HV3.out.set_acct HA3.out _ _
    case rest =>
      obtain ⟨mv, ha3, hm3, hr3, hb3⟩ := hcut
      clear HB2 HA2 HR2 hc2
      generalize hms : (if x2.size = 0 then [] else cut 44 x2) = ms at hm3
      have hacc : account line = if formed ⟨x0, x1, ms, x3⟩ then some ⟨x0, x1, ms, x3⟩ else none := by
        unfold account
        rw [HCUT.out, ← hms]
      have hx3s : x3.size ≤ 1099511627776 := by
        have := cut_size (c := 58) (s := line) (x := x3) (by rw [HCUT.out]; simp)
        omega
      have HACC := Lib.hid hacc; clear hacc
      clear hms HCUT
      have hwc : b1 < wc.heap.size := ha3.lt
      have HA3 := Lib.hid ha3; clear ha3
      have HR3 := Lib.hid hr3; clear hr3
      have HB3 := Lib.hid hb3; clear hb3
      obtain ⟨Am, cm, hmv, -⟩ := id hm3
      subst hmv
      have HM3 := Lib.hid hm3; clear hm3
      have HRYC := Lib.hid (HR.out.below HB3.out (Nat.le_refl _))
      have a0 : wc.cell? ⟨b1, 0, none⟩ = some (.string x0) := HA3.out.cell 0
      have a1 : wc.cell? ⟨b1, 1, none⟩ = some (.string x1) := HA3.out.cell 1
      have a2 : wc.cell? ⟨b1, 2, none⟩ = some (.slice Am ms.length cm) := HA3.out.cell 2
      have a3 : wc.cell? ⟨b1, 3, none⟩ = some (.string x3) := HA3.out.cell 3
      go_wp2_with fail
      refine (formed_calls ⟨x0, x1, ms, x3⟩ (.slice Am ms.length cm) _ HM3.out HRYC.out hx3s).mono ?_
      rintro e w4 ⟨rfl, hb4⟩
      clear a0 a1 a2 a3
      have HA4 := Lib.hid (HA3.out.below hb4 HA3.out.lt)
      have HR4 := Lib.hid (HR3.out.below hb4 HR3.out.lt)
      have HM4 := Lib.hid (HM3.out.below hb4 (Nat.le_refl _))
      have HB4 := Lib.hid (HB3.out.trans (hb4.mono HB3.out.size))
      clear hb4 HA3 HR3 HM3 HB3
      have a0 : w4.cell? ⟨b1, 0, none⟩ = some (.string x0) := HA4.out.cell 0
      have a1 : w4.cell? ⟨b1, 1, none⟩ = some (.string x1) := HA4.out.cell 1
      have a2 : w4.cell? ⟨b1, 2, none⟩ = some (.slice Am ms.length cm) := HA4.out.cell 2
      have a3 : w4.cell? ⟨b1, 3, none⟩ = some (.string x3) := HA4.out.cell 3
      have r0 : w4.cell? ⟨w.heap.size, 0, none⟩ = some (.string ⟨#[]⟩) := HR4.out.cell 0
      have r1 : w4.cell? ⟨w.heap.size, 1, none⟩ = some (.string ⟨#[]⟩) := HR4.out.cell 1
      have r2 : w4.cell? ⟨w.heap.size, 2, none⟩ = some (.slice none 0 0) := HR4.out.cell 2
      have r3 : w4.cell? ⟨w.heap.size, 3, none⟩ = some (.string ⟨#[]⟩) := HR4.out.cell 3
      have f0 := HR4.out.frozen 0
      have f1 := HR4.out.frozen 1
      have f2 := HR4.out.frozen 2
      have f3 := HR4.out.frozen 3
      cases hfm : formed ⟨x0, x1, ms, x3⟩ with
      | false =>
        have HN := Lib.hid (show account line = none from by rw [HACC.out, hfm]; rfl)
        clear hfm HACC
        exact ⟨rfl, UAns.none_ HN.out HB4.out⟩
      | true =>
        have HN := Lib.hid (show account line = some ⟨x0, x1, ms, x3⟩ from by rw [HACC.out, hfm]; rfl)
        clear hfm HACC
        rw [← said_t (b := true) rfl 60]
        go_wp2_with fail
        refine bodyPost_ret (v := .agg #[.string x0, .string x1, .slice Am ms.length cm, .string x3]) (by simp [results, Tryz.results73, go_sem, r0, r1, r2, r3]) rfl ?_
        refine ⟨(((HB4.out.setCell (Nat.le_refl _) _).setCell (Nat.le_refl _) _).setCell (Nat.le_refl _) _).setCell (Nat.le_refl _) _, ?_⟩
        rw [HN.out]
        exact ⟨_, rfl, (((HM4.out.set_acct HR4.out _ _).set_acct (HR4.out.set_ _ _) _ _).set_acct ((HR4.out.set_ _ _).set_ _ _) _ _).set_acct (((HR4.out.set_ _ _).set_ _ _).set_ _ _) _ _⟩
  · have hacc : account line = none := by
      unfold account
      rw [HCUT.out]
      match l, h4 with
      | [], _ => rfl
      | [_], _ => rfl
      | [_, _], _ => rfl
      | [_, _, _], _ => rfl
      | [_, _, _, _], h => exact absurd rfl h
      | _ :: _ :: _ :: _ :: _ :: _, _ => rfl
    have HACC := Lib.hid hacc; clear hacc
    have hne : ((l.length : Int) == 4) = false := by rw [beq_eq_false_iff_ne]; omega
    clear HCUT
    go_wp2_with fail
    refine (need_f 60 _).mono ?_
    rintro e w2 ⟨rfl, rfl⟩
    exact ⟨rfl, UAns.none_ HACC.out HB1.out⟩
end Go.Proofs.YtlenlldiimohjaaGreatDoor
