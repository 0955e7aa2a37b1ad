/-
  The reference of layer 6: right, account. Conditions: texts of at most 16777216 bytes.
-/
import Derived.Test.YtlenlldiimohjaaDoorR06b
import Derived.Test.YtlenlldiimohjaaDoorR06c
namespace Go.Proofs.YtlenlldiimohjaaDoor
open Go.ChangeShapes Go.WideShapes Go.ChangeAt Go.RowKit

theorem empty_t {s : ByteArray} (h : s.size = 0) : s.toList.isEmpty = true := by
  rw [ByteArray.toList_eq, List.isEmpty_iff, Array.toList_eq_nil_iff, ← Array.size_eq_zero_iff]; exact h
theorem empty_f {s : ByteArray} (h : ¬ s.size = 0) : s.toList.isEmpty = false := by
  rw [← Bool.not_eq_true]
  intro e
  rw [ByteArray.toList_eq, List.isEmpty_iff, Array.toList_eq_nil_iff, ← Array.size_eq_zero_iff] at e
  exact h e

theorem lall_step {α : Type} {l : List α} {k : Nat} {x : α} {p : α → Bool} (hk : l[k]? = some x) (h : (l.take k).all p = true) : (l.take (k + 1)).all p = p x := by
  obtain ⟨hl, rfl⟩ := List.getElem?_eq_some_iff.1 hk
  rw [List.take_succ_eq_append_getElem hl, List.all_append, h, Bool.true_and, List.all_cons, List.all_nil, Bool.and_true]
theorem lall_no {α : Type} {l : List α} {k : Nat} {x : α} {p : α → Bool} (hk : l[k]? = some x) (h : p x = false) : l.all p = false := by
  rw [List.all_eq_false]
  exact ⟨x, List.mem_of_getElem? hk, by rw [h]; exact Bool.false_ne_true⟩
theorem lall_end {α : Type} {l : List α} {k : Nat} {p : α → Bool} (hk : l.length ≤ k) (h : (l.take k).all p = true) : l.all p = true := by
  rwa [List.take_of_length_le hk] at h

/-- The sizes of an account's texts. -/
def Small (a : Acct) : Prop := a.name.size ≤ 16777216 ∧ a.leader.size ≤ 16777216 ∧ a.key.size ≤ 16777216 ∧ ∀ m ∈ a.members, m.size ≤ 16777216

def acctV (a : Acct) (mv : Value) : Value := .agg #[.string a.name, .string a.leader, mv, .string a.key]

theorem right_calls (a : Acct) (mv : Value) (w : World) (hm : Strs w mv a.members) (hs : Small a) :
    Calls Tryd.prog 90 #[acctV a mv] w fun e w' => e = .returned (.bool (formed a)) ∧ Below w.heap.size w w' := by
  obtain ⟨A, c, rfl, hlc, hcm, -⟩ := id hm
  unfold maxLen at hcm
  have HM := Lib.hid hm; clear hm
  obtain ⟨s1, s2, s3, s4⟩ := hs
  have S4 := Lib.hid s4; clear s4
  unfold acctV
  cases hn : isName a.name with
  | false =>
    have HN := Lib.hid hn; clear hn
    have HR := Lib.hid (show formed a = false from by unfold formed; rw [HN.out]; rfl)
    go_enter Tryd.func90, Tryd.ntmps90
    go_wp2_with (go_at_call 103; refine (refName_calls _ _ (by assumption)).mono ?_; rw [HN.out]; rintro e w' ⟨rfl, rfl⟩)
    go_ret
    exact ⟨ret_bool HR.out.symm, (Below.refl _ _).alloc (Nat.le_refl _) _⟩
  | true =>
    have HN := Lib.hid hn; clear hn
    have hlc2 : (a.leader.toList.isEmpty = true ∧ a.leader.toList = [] ∧ Hid (formed a = (a.members.all isName && isKey a.key))) ∨
        (a.leader.toList.isEmpty = false ∧ Hid (isName a.leader = true) ∧ Hid (formed a = (a.members.all isName && isKey a.key))) ∨
        (a.leader.toList.isEmpty = false ∧ Hid (isName a.leader = false) ∧ Hid (formed a = false)) := by
      by_cases h0 : a.leader.size = 0
      · refine .inl ⟨empty_t h0, List.isEmpty_iff.1 (empty_t h0), ?_⟩
        show formed a = _
        unfold formed; rw [HN.out, decide_eq_true h0]; rfl
      · cases hl : isName a.leader with
        | true =>
          refine .inr (.inl ⟨empty_f h0, rfl, ?_⟩)
          show formed a = _
          unfold formed; rw [HN.out, hl, Bool.or_true]; rfl
        | false =>
          refine .inr (.inr ⟨empty_f h0, rfl, ?_⟩)
          show formed a = _
          unfold formed; rw [HN.out, hl, decide_eq_false h0]; rfl
    rcases hlc2 with ⟨he, he2, HF⟩ | ⟨he, HL, HF⟩ | ⟨he, HL, HF⟩
    case inr.inr =>
      go_enter Tryd.func90, Tryd.ntmps90
      go_wp2_with (go_at_call 103; refine (refName_calls _ _ (by assumption)).mono ?_; (first | rw [HN.out] | rw [HL.out]); rintro e w' ⟨rfl, rfl⟩)
      go_ret
      exact ⟨ret_bool HF.out.symm, (Below.refl _ _).alloc (Nat.le_refl _) _⟩
    all_goals
      cases hk : isKey a.key with
      | false =>
        have HK := Lib.hid hk; clear hk
        go_enter Tryd.func90, Tryd.ntmps90
        go_wp2_with (first | (go_at_call 103; refine (refName_calls _ _ (by assumption)).mono ?_; (first | rw [HN.out] | rw [HL.out]); rintro e w' ⟨rfl, rfl⟩) | (go_at_call 104; refine (refKey_calls _ _).mono ?_; rw [HK.out]; rintro e w' ⟨rfl, rfl⟩))
        go_ret
        exact ⟨ret_bool (by rw [HF.out, HK.out, Bool.and_false]), (Below.refl _ _).alloc (Nat.le_refl _) _⟩
      | true =>
        have HK := Lib.hid hk; clear hk
        go_enter Tryd.func90, Tryd.ntmps90
        go_wp2_with (first | (go_at_call 103; refine (refName_calls _ _ (by assumption)).mono ?_; (first | rw [HN.out] | rw [HL.out]); rintro e w' ⟨rfl, rfl⟩) | (go_at_call 104; refine (refKey_calls _ _).mono ?_; rw [HK.out]; rintro e w' ⟨rfl, rfl⟩))
        have hb : Below w.heap.size w (w.alloc (Obj.cells #[.string a.name, .string a.leader, .slice A a.members.length c, .string a.key] 104)) := (Below.refl _ _).alloc (Nat.le_refl _) _
        have hc2 : (w.alloc (Obj.cells #[.string a.name, .string a.leader, .slice A a.members.length c, .string a.key] 104)).cell? ⟨w.heap.size, 2, none⟩ = some (.slice A a.members.length c) := (Blk.new w _ _).cell 2
        have HM2 := Lib.hid (HM.out.alloc (Obj.cells #[.string a.name, .string a.leader, .slice A a.members.length c, .string a.key] 104))
        generalize w.alloc (Obj.cells #[.string a.name, .string a.leader, .slice A a.members.length c, .string a.key] 104) = w1 at hb hc2 HM2 ⊢
        have HB := Lib.hid hb; clear hb
        clear HM he
        go_loop [3] (fun i => ∃ k : Nat, k ≤ a.members.length ∧ i = .int .i64 k ∧ (a.members.take k).all isName = true) (fun i => a.members.length - (intOf i).toNat)
        case atStart => exact ⟨0, by omega, rfl, rfl⟩
        case round =>
          obtain ⟨k, hk, rfl, hall⟩ := hrel
          have HA := Lib.hid hall; clear hall
          by_cases hlt : k < a.members.length
          · obtain ⟨x, hkx⟩ : ∃ x, a.members[k]? = some x := ⟨a.members[k], List.getElem?_eq_getElem hlt⟩
            obtain ⟨g, o, c', hv, _, h0⟩ := HM2.out.at_ hkx
            injection hv with e1 _ e3
            subst e1; subst e3
            have hxs := S4.out x (List.mem_of_getElem? hkx)
            have HKX := Lib.hid hkx; clear hkx
            cases hnx : isName x with
            | false =>
              have HNX := Lib.hid hnx; clear hnx
              go_wp2_with (go_at_call 103; refine (refName_calls _ _ (by assumption)).mono ?_; rw [HNX.out]; rintro e w' ⟨rfl, rfl⟩)
              go_ret
              exact ⟨ret_bool (by rw [HF.out, lall_no HKX.out HNX.out]; rfl), HB.out⟩
            | true =>
              have HNX := Lib.hid hnx; clear hnx
              go_wp2_with (go_at_call 103; refine (refName_calls _ _ (by assumption)).mono ?_; rw [HNX.out]; rintro e w' ⟨rfl, rfl⟩)
              go_round
              case rel => exact ⟨k + 1, by omega, by go_num, by rw [lall_step HKX.out HA.out]; exact HNX.out⟩
              case measure => simp [intOf]; omega
          · go_wp2_with fail
            go_ret
            exact ⟨ret_bool (by rw [HF.out, HK.out, lall_end (by omega) HA.out]; rfl), HB.out⟩
end Go.Proofs.YtlenlldiimohjaaDoor
