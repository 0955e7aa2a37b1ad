/-
  The reference of layer 6: length. Condition: each line is short, the list lies in memory.
-/
import Derived.Test.YtlenlldiimohjaaDoorR06f
namespace Go.Proofs.YtlenlldiimohjaaDoor
open Go.ChangeShapes Go.WideShapes Go.ChangeAt Go.RowKit

/-- Each account's line is short. -/
def Shorts (L : List Acct) : Prop := ∀ a ∈ L, (lineL a).length ≤ 1099511627776

theorem length_calls (v : Value) (L : List Acct) (w : World) (hL : Accts w v L) (hs : Shorts L) :
    Calls Tryd.prog 72 #[v] w fun e w' => (∃ n : Nat, e = .returned (.int .i64 n) ∧ (65536 < n ↔ 65536 < (textL L).length)) ∧ Below w.heap.size w w' := by
  obtain ⟨A, c, rfl, hlc, hcm⟩ := hL.len
  unfold maxLen at hcm
  have HL := Lib.hid hL; clear hL
  have HS := Lib.hid hs; clear hs
  go_enter Tryd.func72, Tryd.ntmps72
  go_wp2_with fail
  go_loopw [3, 4] (fun n i wr => ∃ k m : Nat, k ≤ L.length ∧ i = .int .i64 k ∧ n = .int .i64 m ∧ m = (textL (L.take k)).length ∧ m ≤ 65536 + 1099511627776 ∧ Below w.heap.size w wr) (fun _ i _ => L.length - (intOf i).toNat)
  case atStart => exact ⟨0, 0, by omega, rfl, rfl, rfl, by omega, Below.refl _ _⟩
  case round =>
    obtain ⟨k, m, hk, rfl, rfl, hm, hm2, hb⟩ := hrel
    have HM := Lib.hid hm; clear hm
    have HB := Lib.hid hb; clear hb
    by_cases hlt : k < L.length
    · by_cases hle : m ≤ 65536
      · obtain ⟨a, hka⟩ : ∃ a, L[k]? = some a := ⟨L[k], List.getElem?_eq_getElem hlt⟩
        have hsa : (lineL a).length ≤ 1099511627776 := HS.out a (List.mem_of_getElem? hka)
        have HL2 := Lib.hid (HL.out.below HB.out (Nat.le_refl _))
        obtain ⟨g, o, c', mv, hv, _, hms, h0, h1, h2, h3, _⟩ := HL2.out.at_ hka
        injection hv with e1 _ e3
        subst e1; subst e3
        have HMS := Lib.hid hms; clear hms
        have HKA := Lib.hid hka; clear hka
        have hbig : (ofL (lineL a)).size = (lineL a).length := ofL_size _
        go_wp2_with (go_at_call 91; refine (line_calls a mv _ HMS.out (by assumption)).mono ?_; rintro e w2 ⟨rfl, hb2⟩; have HB2 := Lib.hid hb2; clear hb2)
        go_roundw
        case rel =>
          refine ⟨k + 1, m + (lineL a).length, by omega, by go_num, by go_num, ?_, by omega, HB.out.trans (HB2.out.mono HB.out.size)⟩
          rw [textL_take_succ HKA.out, List.length_append, ← HM.out]
        case measure => simp [intOf]; omega
      · go_wp2_with fail
        go_ret
        refine ⟨⟨m, rfl, ?_⟩, HB.out⟩
        have := textL_take_le L k
        have := HM.out
        omega
    · go_wp2_with fail
      go_ret
      refine ⟨⟨m, rfl, ?_⟩, HB.out⟩
      have := HM.out
      rw [List.take_of_length_le (by omega)] at this
      rw [this]
end Go.Proofs.YtlenlldiimohjaaDoor
