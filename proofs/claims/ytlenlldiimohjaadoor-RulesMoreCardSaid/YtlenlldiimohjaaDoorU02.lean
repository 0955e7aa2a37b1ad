/-
  strings.ContainsRune over four low bytes, at a high rune: it is not there.
-/
import Derived.Test.YtlenlldiimohjaaDoorU01
import Derived.Laws.Runes
import Derived.WalkMore
namespace Go.Proofs.YtlenlldiimohjaaDoor
open Go.ChangeShapes Go.WideShapes Go.ChangeAt Go.RowKit

theorem indexByte_none (l : List UInt8) (c : UInt8) (h : ∀ b ∈ l, b ≠ c) : Lib.indexByte l c = -1 := by
  induction l with
  | nil => rfl
  | cons b l ih =>
    rw [Lib.indexByte, if_neg (by simpa using h b List.mem_cons_self), ih (fun x hx => h x (List.mem_cons_of_mem _ hx))]
    rfl
theorem low_at {S : ByteArray} (hA : ∀ b ∈ S.data.toList, b.toNat < 128) {k : Nat} (h : k < S.size) : (S[k]).toNat < 128 :=
  hA _ (Array.getElem_mem_toList (xs := S.data) h)

set_option maxRecDepth 100000 in
set_option maxHeartbeats 1600000 in
theorem indexRune_high (S : ByteArray) (hS : S.size = 4) (hA : ∀ b ∈ S.data.toList, b.toNat < 128) (r : Int) (h0 : 128 ≤ r) (h1 : r ≤ 2147483647) (w : World) :
    Calls Tryd.prog 119 #[.string S, .int .i32 r] w fun e w' => e = .returned (.int .i64 (-1)) ∧ Below w.heap.size w w' := by
  have HA := Lib.hid hA; clear hA
  by_cases h6 : r = 65533
  · subst h6
    go_enter Tryd.func119, Tryd.ntmps119
    go_wp2_with fail
    go_loopw [] (fun wr => ∃ (pos : Nat), wr.heap[w.heap.size]? = some (.stringIter S pos) ∧ Below w.heap.size w wr) (fun wr => S.size - wr.iterPos w.heap.size)
    case atStart => exact ⟨0, World.iter_heap w S 0, (Below.refl _ w).alloc (Nat.le_refl _) _⟩
    case round =>
      obtain ⟨pos, hit, hb⟩ := hrel
      have hsz : w.heap.size < wr.heap.size := (Array.getElem?_eq_some_iff.1 hit).1
      have HB := Lib.hid hb; clear hb
      by_cases hp : pos < S.size
      · have hlo := low_at HA.out hp
        have hnx : ∀ ty, (Instr.next (.pointer (some ⟨w.heap.size, 0, none⟩)) true ty).run Tryd.prog wr = _ := fun ty => Lib.run_next_ascii_at wr w.heap.size S pos ty hit hp hlo
        have HIT2 := Lib.hid (Lib.iterAt_heap wr w.heap.size S pos (pos + 1) hit)
        have HB2 := Lib.hid (Lib.below_iterAt HB.out (k := w.heap.size) (Nat.le_refl _) S (pos + 1))
        have HPOS := Lib.hid (show wr.iterPos w.heap.size = pos from by simp [World.iterPos, hit])
        have hne : ((S[pos].toNat : Int) == 65533) = false := by rw [beq_eq_false_iff_ne]; omega
        clear hit
        go_wp2_with fail
        go_roundw
        case rel => exact ⟨pos + 1, HIT2.out, HB2.out⟩
        case measure => rw [HPOS.out]; simp only [World.iterPos, HIT2.out]; omega
      · have hnx : ∀ ty, (Instr.next (.pointer (some ⟨w.heap.size, 0, none⟩)) true ty).run Tryd.prog wr = _ := fun ty => Lib.run_next_end_at wr w.heap.size S pos ty hit hp
        go_wp2_with fail
        go_ret
        exact ⟨rfl, HB.out⟩
  · have h6i : (r == 65533) = false := by rw [beq_eq_false_iff_ne]; exact h6
    clear h6
    cases hv : Lib.validRune r with
    | false =>
      have HV := Lib.hid hv; clear hv
      go_enter Tryd.func119, Tryd.ntmps119
      go_wp2_with fail
      refine (Tryd.utf8_ValidRune r _).mono ?_
      rintro e w1 ⟨rfl, rfl⟩
      rw [HV.out]
      go_wp2_with fail
      go_ret
      exact ⟨rfl, Below.refl _ _⟩
    | true =>
      obtain ⟨e1, e2, e3⟩ := encode_facts r (by rw [validRune_eq]; exact hv) h0
      have HV := Lib.hid hv; clear hv
      generalize hE : Utf8.encode r = E at e1 e2 e3
      have hcs : E.size = 2 ∨ E.size = 3 ∨ E.size = 4 := by omega
      clear e1 e2
      rcases hcs with hc | hc | hc
      all_goals
        simp only [hc, Nat.reduceSub] at e3
        have e4 := e3 (by omega)
        have e5 := low_at HA.out (S := S) (k := E.size - 1) (by omega)
        simp only [hc, Nat.reduceSub] at e5
      case inl =>
        have hne : ((S[1].toNat : Int) != (E[1].toNat : Int)) = true := by rw [bne_iff_ne]; omega
        clear e3
        go_enter Tryd.func119, Tryd.ntmps119
        go_wp2_with fail
        refine (Tryd.utf8_ValidRune r _).mono ?_
        rintro e w1 ⟨rfl, rfl⟩
        rw [HV.out]
        go_wp2_with fail
        go_step3
        have HE := Lib.hid hE
        go_wp2_with fail
        go_loopw [9] (fun i wr => i = .int .i64 1 ∧ Drawn w1 wr) (fun _ _ => 0)
        case atStart => exact ⟨rfl, Drawn.refl _⟩
        case round =>
          obtain ⟨rfl, hd⟩ := hrel
          have HD := Lib.hid hd; clear hd
          have HIX := Lib.hid (show Lib.indexByte (S.extract 2 4).data.toList ((E[1].toNat : Int)).toNat.toUInt8 = -1 from indexByte_none _ _ fun b hb he => by
            have h1 := HA.out b (mem_extract hb)
            have h2 : ((E[1].toNat : Int)).toNat.toUInt8 = E[1] := by simp
            rw [he, h2] at h1
            omega)
          go_wp2_with fail
          go_step3
          go_wp2_with fail
          go_region
          have HD2 := Lib.hid (show Drawn w1 wr.drew from HD.out.next 1)
          generalize wr.drew = w2 at HD2 ⊢
          go_wp2_with fail
          go_quiet ((go_at_call 123; exact Calls.quiet_of_same (Tryd.strings_IndexByte _ _ _)))
          rw [HIX.out]
          have HD3 := Lib.hid (HD2.out.next nq)
          generalize w2.drewN nq = w3 at HD3 ⊢
          go_wp2_with fail
          simp +zetaDelta only [Exit.noGoto, Exit.inBlock, Exit.then]
          go_ret
          exact ⟨rfl, HD3.out.below _⟩
      case inr.inl =>
        have hne : ((S[2].toNat : Int) != (E[2].toNat : Int)) = true := by rw [bne_iff_ne]; omega
        clear e3
        go_enter Tryd.func119, Tryd.ntmps119
        go_wp2_with fail
        refine (Tryd.utf8_ValidRune r _).mono ?_
        rintro e w1 ⟨rfl, rfl⟩
        rw [HV.out]
        go_wp2_with fail
        go_step3
        have HE := Lib.hid hE
        go_wp2_with fail
        go_loopw [9] (fun i wr => i = .int .i64 2 ∧ Drawn w1 wr) (fun _ _ => 0)
        case atStart => exact ⟨rfl, Drawn.refl _⟩
        case round =>
          obtain ⟨rfl, hd⟩ := hrel
          have HD := Lib.hid hd; clear hd
          have HIX := Lib.hid (show Lib.indexByte (S.extract 3 4).data.toList ((E[2].toNat : Int)).toNat.toUInt8 = -1 from indexByte_none _ _ fun b hb he => by
            have h1 := HA.out b (mem_extract hb)
            have h2 : ((E[2].toNat : Int)).toNat.toUInt8 = E[2] := by simp
            rw [he, h2] at h1
            omega)
          go_wp2_with fail
          go_step3
          go_wp2_with fail
          go_region
          have HD2 := Lib.hid (show Drawn w1 wr.drew from HD.out.next 1)
          generalize wr.drew = w2 at HD2 ⊢
          go_wp2_with fail
          go_quiet ((go_at_call 123; exact Calls.quiet_of_same (Tryd.strings_IndexByte _ _ _)))
          rw [HIX.out]
          have HD3 := Lib.hid (HD2.out.next nq)
          generalize w2.drewN nq = w3 at HD3 ⊢
          go_wp2_with fail
          simp +zetaDelta only [Exit.noGoto, Exit.inBlock, Exit.then]
          go_ret
          exact ⟨rfl, HD3.out.below _⟩
      case inr.inr =>
        have hne : ((S[3].toNat : Int) != (E[3].toNat : Int)) = true := by rw [bne_iff_ne]; omega
        clear e3
        go_enter Tryd.func119, Tryd.ntmps119
        go_wp2_with fail
        refine (Tryd.utf8_ValidRune r _).mono ?_
        rintro e w1 ⟨rfl, rfl⟩
        rw [HV.out]
        go_wp2_with fail
        go_step3
        have HE := Lib.hid hE
        go_wp2_with fail
        go_loopw [9] (fun i wr => i = .int .i64 3 ∧ Drawn w1 wr) (fun _ _ => 0)
        case atStart => exact ⟨rfl, Drawn.refl _⟩
        case round =>
          obtain ⟨rfl, hd⟩ := hrel
          have HD := Lib.hid hd; clear hd
          have HIX := Lib.hid (show Lib.indexByte ByteArray.empty.data.toList ((E[3].toNat : Int)).toNat.toUInt8 = -1 from rfl)
          go_wp2_with fail
          go_step3
          go_wp2_with fail
          go_region
          have HD2 := Lib.hid (show Drawn w1 wr.drew from HD.out.next 1)
          generalize wr.drew = w2 at HD2 ⊢
          go_wp2_with fail
          go_quiet ((go_at_call 123; exact Calls.quiet_of_same (Tryd.strings_IndexByte _ _ _)))
          rw [HIX.out]
          have HD3 := Lib.hid (HD2.out.next nq)
          generalize w2.drewN nq = w3 at HD3 ⊢
          go_wp2_with fail
          simp +zetaDelta only [Exit.noGoto, Exit.inBlock, Exit.then]
          go_ret
          exact ⟨rfl, HD3.out.below _⟩

theorem contains_high (S : ByteArray) (hS : S.size = 4) (hA : ∀ b ∈ S.data.toList, b.toNat < 128) (r : Int) (h0 : 128 ≤ r) (h1 : r ≤ 2147483647) (w : World) :
    Calls Tryd.prog 113 #[.string S, .int .i32 r] w fun e w' => e = .returned (.bool false) ∧ Below w.heap.size w w' := by
  have HA := Lib.hid hA; clear hA
  go_enter Tryd.func113, Tryd.ntmps113
  go_wp2_with fail
  refine (indexRune_high S hS HA.out r h0 h1 _).mono ?_
  rintro e w2 ⟨rfl, hb⟩
  have HB := Lib.hid hb; clear hb
  go_wp2_with fail
  go_ret
  exact ⟨rfl, HB.out⟩
end Go.Proofs.YtlenlldiimohjaaDoor
