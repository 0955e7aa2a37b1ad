/-
  Package users: key, need, formed.
-/
import Derived.Test.YtlenlldiimohjaaDoorU03
import Derived.WalkLawsBesides
namespace Go.Proofs.YtlenlldiimohjaaDoor
open Go.ChangeShapes Go.WideShapes Go.ChangeAt Go.RowKit

theorem key_calls (s : ByteArray) (w : World) (hs : s.size ≤ 1099511627776) :
    Calls Tryd.prog 98 #[.string s] w fun e w' => e = .returned (.bool (isKey s)) ∧ w = w' := by
  go_enter Tryd.func98, Tryd.ntmps98
  go_wp2_with fail
  go_loop [6] (fun c => ∃ k : Nat, k ≤ s.size ∧ c = .int .i64 k ∧ (s.data.toList.take k).all keyByte = true) (fun c => s.size - (intOf c).toNat)
  case atStart => exact ⟨0, by omega, rfl, rfl⟩
  case round =>
    obtain ⟨k, hk, rfl, hall⟩ := hrel
    have HA := Lib.hid hall; clear hall
    by_cases hlt : k < s.size
    · rcases keyByte_cases s[k] with ⟨hok, f1, f2, f3⟩ | ⟨hok, hf⟩
      · have HK := Lib.hid hok; clear hok
        go_wp2_with fail
        go_round
        case rel => exact ⟨k + 1, by omega, by go_num, by rw [all_step hlt HA.out]; exact HK.out⟩
        case measure => simp [intOf]; omega
      · have HK := Lib.hid hok; clear hok
        rcases hf with f1 | ⟨f1, f2⟩ | ⟨f1, f2, f3⟩
        all_goals
          go_wp2_with fail
          go_ret
          exact ⟨ret_bool (by unfold isKey; rw [all_no hlt HK.out, Bool.and_false]), rfl⟩
    · go_wp2_with fail
      go_ret
      refine ⟨ret_bool ?_, rfl⟩
      unfold isKey
      rw [all_end (by omega) HA.out, Bool.and_true, Bool.eq_iff_iff, decide_eq_true_iff, decide_eq_true_iff]
      omega

/-- How the program gives up. -/
def gaveUp (err : Int) : Ending := .panicked [{ v := .iface 130 (.agg #[.int .i64 err]), recovered := false }]

theorem need_calls (b : Bool) (err : Int) (w : World) :
    Calls Tryd.prog 62 #[.bool b, .int .i64 err] w fun e w' => e = (if b then .returned (.tuple #[]) else gaveUp err) ∧ w = w' := by
  cases b with
  | true =>
    go_enter Tryd.func62, Tryd.ntmps62
    go_wp2_with fail
    go_end0
    exact ⟨rfl, rfl⟩
  | false =>
    go_enter Tryd.func62, Tryd.ntmps62
    go_wp2_with fail
    exact ⟨rfl, rfl, rfl⟩

theorem need_t (err : Int) (w : World) : Calls Tryd.prog 62 #[.bool true, .int .i64 err] w fun e w' => e = .returned (.tuple #[]) ∧ w = w' := need_calls true err w
theorem need_f (err : Int) (w : World) : Calls Tryd.prog 62 #[.bool false, .int .i64 err] w fun e w' => e = gaveUp err ∧ w = w' := need_calls false err w

/-- Nothing handed back; or given up. -/
def said (b : Bool) (err : Int) : Ending := if b then .returned (.tuple #[]) else gaveUp err
theorem said_t {b : Bool} (h : b = true) (err : Int) : Ending.returned (.tuple #[]) = said b err := by rw [h]; rfl
theorem said_f {b : Bool} (h : b = false) (err : Int) : gaveUp err = said b err := by rw [h]; rfl

/-- The account a lies in a block of the call's own. -/
def FAt (a : Acct) (mv : Value) (w w' : World) : Prop := Below w.heap.size w w' ∧ Blk w' w.heap.size 104 #[.string a.name, .string a.leader, mv, .string a.key] ∧ Strs w' mv a.members ∧ Ready w'
section
variable {a : Acct} {mv : Value} {w w' w'' : World}
theorem FAt.start (hm : Strs w mv a.members) (hr : Ready w) : FAt a mv w (w.alloc (Obj.cells #[.string a.name, .string a.leader, mv, .string a.key] 104)) :=
  ⟨(Below.refl _ _).alloc (Nat.le_refl _) _, Blk.new _ _ _, hm.alloc _, hr.alloc _⟩
theorem FAt.next (h : FAt a mv w w') (hb : Below w'.heap.size w' w'') : FAt a mv w w'' :=
  ⟨h.1.trans (hb.mono h.1.size), h.2.1.below hb h.2.1.lt, h.2.2.1.below hb (Nat.le_refl _), h.2.2.2.below hb (Nat.le_refl _)⟩
theorem FAt.c0 (h : FAt a mv w w') : w'.cell? ⟨w.heap.size, 0, none⟩ = some (.string a.name) := h.2.1.cell 0
theorem FAt.c1 (h : FAt a mv w w') : w'.cell? ⟨w.heap.size, 1, none⟩ = some (.string a.leader) := h.2.1.cell 1
theorem FAt.c2 (h : FAt a mv w w') : w'.cell? ⟨w.heap.size, 2, none⟩ = some mv := h.2.1.cell 2
theorem FAt.c3 (h : FAt a mv w w') : w'.cell? ⟨w.heap.size, 3, none⟩ = some (.string a.key) := h.2.1.cell 3
end

set_option maxRecDepth 100000 in
set_option maxHeartbeats 1600000 in
theorem formed_calls (a : Acct) (mv : Value) (w : World) (hm : Strs w mv a.members) (hr : Ready w) (hk : a.key.size ≤ 1099511627776) :
    Calls Tryd.prog 87 #[acctV a mv] w fun e w' => e = said (formed a) 60 ∧ Below w.heap.size w w' := by
  obtain ⟨A, c, rfl, hlc, hcm, -⟩ := id hm
  unfold maxLen at hcm
  have HF := Lib.hid (FAt.start (a := a) hm hr); clear hm hr
  unfold acctV
  cases hn : isName a.name with
  | false =>
    have HN := Lib.hid hn; clear hn
    have HX := Lib.hid (show formed a = false from by unfold formed; rw [HN.out]; rfl)
    go_enter Tryd.func87, Tryd.ntmps87
    go_wp2_with fail
    refine (name_calls _ _ HF.out.2.2.2).mono ?_
    rintro e w1 ⟨rfl, hb⟩
    have HF1 := Lib.hid (HF.out.next hb); clear hb
    rw [HN.out]
    go_wp2_with fail
    refine (need_f 60 _).mono ?_
    rintro e w2 ⟨rfl, rfl⟩
    exact ⟨rfl, said_f HX.out 60, HF1.out.1⟩
  | true =>
    have HN := Lib.hid hn; clear hn
    have hlc2 : (a.leader.toList.isEmpty = true ∧ a.leader.toList = [] ∧ Hid (formed a = (a.members.all isName && isKey a.key))) ∨
        (a.leader.toList.isEmpty = false ∧ Hid (isName a.leader = true) ∧ Hid (formed a = (a.members.all isName && isKey a.key))) ∨
        (a.leader.toList.isEmpty = false ∧ Hid (isName a.leader = false) ∧ Hid (formed a = false)) := by
      by_cases h0 : a.leader.size = 0
      · refine .inl ⟨empty_t h0, List.isEmpty_iff.1 (empty_t h0), ?_⟩
        show formed a = _
        unfold formed; rw [HN.out, decide_eq_true h0]; rfl
      · cases hl : isName a.leader with
        | true =>
          refine .inr (.inl ⟨empty_f h0, rfl, ?_⟩)
          show formed a = _
          unfold formed; rw [HN.out, hl, Bool.or_true]; rfl
        | false =>
          refine .inr (.inr ⟨empty_f h0, rfl, ?_⟩)
          show formed a = _
          unfold formed; rw [HN.out, hl, decide_eq_false h0]; rfl
    rcases hlc2 with ⟨he, he2, HX⟩ | ⟨he, HL, HX⟩ | ⟨he, HL, HX⟩
    case inr.inr =>
      go_enter Tryd.func87, Tryd.ntmps87
      go_wp2_with (first
        | (go_at_call 97; refine (name_calls _ _ HF.out.2.2.2).mono ?_; (first | rw [HN.out] | rw [HL.out]); rintro e w1 ⟨rfl, hb⟩; replace HF := Lib.hid (HF.out.next hb); clear hb; have d1 := HF.out.c1)
        | (go_at_call 62; refine (need_t 60 _).mono ?_; rintro e w' ⟨rfl, rfl⟩))
      refine (need_f 60 _).mono ?_
      rintro e w2 ⟨rfl, rfl⟩
      exact ⟨rfl, said_f HX.out 60, HF.out.1⟩
    all_goals
      go_enter Tryd.func87, Tryd.ntmps87
      go_wp2_with (first
        | (go_at_call 97; refine (name_calls _ _ HF.out.2.2.2).mono ?_; (first | rw [HN.out] | rw [HL.out]); rintro e w1 ⟨rfl, hb⟩; replace HF := Lib.hid (HF.out.next hb); clear hb; have d1 := HF.out.c1; have d2 := HF.out.c2)
        | (go_at_call 62; refine (need_t 60 _).mono ?_; rintro e w' ⟨rfl, rfl⟩))
      go_loopw [20] (fun i wr => ∃ k : Nat, k ≤ a.members.length ∧ i = .int .i64 k ∧ (a.members.take k).all isName = true ∧ FAt a (.slice A a.members.length c) w wr) (fun i _ => a.members.length - (intOf i).toNat)
      case atStart => exact ⟨0, by omega, rfl, rfl, HF.out⟩
      case round =>
        obtain ⟨k, hk, rfl, hall, hf⟩ := hrel
        have HA := Lib.hid hall; clear hall
        have HG := Lib.hid hf; clear hf
        by_cases hlt : k < a.members.length
        · obtain ⟨x, hkx⟩ : ∃ x, a.members[k]? = some x := ⟨a.members[k], List.getElem?_eq_getElem hlt⟩
          obtain ⟨g, o, c', hv, _, h0⟩ := HG.out.2.2.1.at_ hkx
          injection hv with e1 _ e3
          subst e1; subst e3
          have HKX := Lib.hid hkx; clear hkx
          cases hnx : isName x with
          | false =>
            have HNX := Lib.hid hnx; clear hnx
            go_wp2_with (go_at_call 97; refine (name_calls _ _ HG.out.2.2.2).mono ?_; rw [HNX.out]; rintro e w1 ⟨rfl, hb⟩; replace HG := Lib.hid (HG.out.next hb); clear hb)
            refine (need_f 60 _).mono ?_
            rintro e w2 ⟨rfl, rfl⟩
            exact ⟨rfl, said_f (by rw [HX.out, lall_no HKX.out HNX.out]; rfl) 60, HG.out.1⟩
          | true =>
            have HNX := Lib.hid hnx; clear hnx
            go_wp2_with (first
              | (go_at_call 97; refine (name_calls _ _ HG.out.2.2.2).mono ?_; rw [HNX.out]; rintro e w1 ⟨rfl, hb⟩; replace HG := Lib.hid (HG.out.next hb); clear hb)
              | (go_at_call 62; refine (need_t 60 _).mono ?_; rintro e w' ⟨rfl, rfl⟩))
            go_roundw
            case rel => exact ⟨k + 1, by omega, by go_num, by rw [lall_step HKX.out HA.out]; exact HNX.out, HG.out⟩
            case measure => simp [intOf]; omega
        · have d3 := HG.out.c3
          cases hkk : isKey a.key with
          | false =>
            have HK := Lib.hid hkk; clear hkk
            go_wp2_with fail
            refine (key_calls _ _ (by assumption)).mono ?_
            rw [HK.out]
            rintro e w1 ⟨rfl, rfl⟩
            go_wp2_with fail
            refine (need_f 60 _).mono ?_
            rintro e w2 ⟨rfl, rfl⟩
            exact ⟨rfl, said_f (by rw [HX.out, HK.out, Bool.and_false]) 60, HG.out.1⟩
          | true =>
            have HK := Lib.hid hkk; clear hkk
            go_wp2_with fail
            refine (key_calls _ _ (by assumption)).mono ?_
            rw [HK.out]
            rintro e w1 ⟨rfl, rfl⟩
            go_wp2_with fail
            refine (need_t 60 _).mono ?_
            rintro e w2 ⟨rfl, rfl⟩
            go_wp2_with fail
            go_end0
            exact ⟨said_t (by rw [HX.out, HK.out, lall_end (by omega) HA.out]; rfl) 60, HG.out.1⟩
end Go.Proofs.YtlenlldiimohjaaDoor
