/-
  Package users: once.
-/
import Derived.Test.YtlenlldiimohjaaDoorU05
namespace Go.Proofs.YtlenlldiimohjaaDoor
open Go.ChangeShapes Go.WideShapes Go.ChangeAt Go.RowKit

theorem contains_has (l : List ByteArray) (x : ByteArray) : Lib.containsS l x = has l x := by
  rw [Bool.eq_iff_iff, Lib.containsS_iff]
  unfold has
  rw [List.any_eq_true]
  constructor
  · intro h; exact ⟨x, h, decide_eq_true rfl⟩
  · rintro ⟨y, hy, he⟩
    rw [← of_decide_eq_true he]
    exact hy

set_option maxRecDepth 100000 in
theorem once_calls (a : Acct) (mv : Value) (w : World) (hm : Strs w mv a.members) (hr : Ready w) :
    Calls Tryd.prog 63 #[acctV a mv] w fun e w' => e = said (!twice a.members) 61 ∧ Below w.heap.size w w' := by
  obtain ⟨A, c, rfl, hlc, hcm, -⟩ := id hm
  unfold maxLen at hcm
  have HF := Lib.hid (FAt.start (a := a) hm hr); clear hm hr
  unfold acctV
  go_enter Tryd.func63, Tryd.ntmps63
  go_wp2_with fail
  have hb2 := HF.out.c2
  generalize w.alloc (Obj.cells #[.string a.name, .string a.leader, .slice A a.members.length c, .string a.key] 104) = w1 at HF hb2 ⊢
  go_loop [7] (fun i => ∃ k : Nat, k ≤ a.members.length ∧ i = .int .i64 k ∧ twiceFrom a.members (a.members.drop k) k = twice a.members) (fun i => a.members.length - (intOf i).toNat)
  case atStart => exact ⟨0, by omega, rfl, rfl⟩
  case round =>
    obtain ⟨k, hk, rfl, htw⟩ := hrel
    have HT := Lib.hid htw; clear htw
    by_cases hlt : k < a.members.length
    · obtain ⟨x, hkx⟩ : ∃ x, a.members[k]? = some x := ⟨a.members[k], List.getElem?_eq_getElem hlt⟩
      obtain ⟨g, o, c', hv, _, h0⟩ := HF.out.2.2.1.at_ hkx
      injection hv with e1 _ e3
      subst e1; subst e3
      have HKX := Lib.hid hkx; clear hkx
      have HC := Lib.hid (show ∀ j, j < a.members.length → w1.cell? ⟨g, o + j, none⟩ = some (.string (a.members.getD j ByteArray.empty)) from by
        intro j hj
        obtain ⟨g', o', c', hv, _, h0⟩ := HF.out.2.2.1.at_ (List.getElem?_eq_getElem hj)
        injection hv with e1 _ e3
        injection e1 with e1
        injection e1 with e1 e2
        subst e1; subst e2
        rw [h0, List.getD_eq_getElem?_getD, List.getElem?_eq_getElem hj]
        rfl)
      have i1 : (k : Int) < (a.members.length : Int) := by omega
      have i2 : (k : Int) ≤ (c : Int) := by omega
      have i3 : k ≤ c := by omega
      cases hh : has (a.members.take k) x with
      | true =>
        have HZ := Lib.hid (twice_hit HKX.out HT.out hh)
        have HH := Lib.hid hh; clear hh
        go_wp2_with fail
        refine (Tryd.slices_Contains_string g o k c a.members x w1 (by omega) (by omega) HC.out).mono ?_
        rw [contains_has, HH.out]
        rintro e w2 ⟨rfl, hw2⟩
        subst hw2
        go_wp2_with fail
        refine (need_f 61 _).mono ?_
        rintro e w2 ⟨rfl, rfl⟩
        exact ⟨rfl, said_f (by rw [HZ.out]; rfl) 61, HF.out.1⟩
      | false =>
        have HZ := Lib.hid (twice_miss HKX.out HT.out hh)
        have HH := Lib.hid hh; clear hh
        go_wp2_with fail
        refine (Tryd.slices_Contains_string g o k c a.members x w1 (by omega) (by omega) HC.out).mono ?_
        rw [contains_has, HH.out]
        rintro e w2 ⟨rfl, hw2⟩
        subst hw2
        go_wp2_with fail
        refine (need_t 61 _).mono ?_
        rintro e w2 ⟨rfl, rfl⟩
        go_wp2_with fail
        go_round
        case rel => exact ⟨k + 1, by omega, by go_num, HZ.out⟩
        case measure => simp [intOf]; omega
    · have HZ := Lib.hid (twice_end HT.out (by omega))
      go_wp2_with fail
      go_end0
      exact ⟨said_t (by rw [HZ.out]; rfl) 61, HF.out.1⟩
end Go.Proofs.YtlenlldiimohjaaDoor
