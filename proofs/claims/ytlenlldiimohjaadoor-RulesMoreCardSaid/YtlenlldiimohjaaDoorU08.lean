/-
  Package users: named.
-/
import Derived.Test.YtlenlldiimohjaaDoorU07
namespace Go.Proofs.YtlenlldiimohjaaDoor
open Go.ChangeShapes Go.WideShapes Go.ChangeAt Go.RowKit

/-- The program's table of the accounts L lies at g, whatever its third field. -/
def UTab (w : World) (g b : Nat) (L : List Acct) : Prop :=
  ∃ vl iv, Blk w g 99 #[vl, .map (some b), iv] ∧ Accts w vl L ∧ AtMap w b L.length L
theorem UTab.below {w w' : World} {g b : Nat} {L : List Acct} (h : UTab w g b L) (hb : Below w.heap.size w w') : UTab w' g b L := by
  obtain ⟨vl, iv, h1, h2, h3⟩ := h
  exact ⟨vl, iv, h1.below hb h1.lt, h2.below hb (Nat.le_refl _), h3.below hb⟩
theorem Build.tab {w : World} {base g b : Nat} {L : List Acct} (h : Build w base g b L) : UTab w g b L := by
  obtain ⟨vl, h1, h2, h3, _⟩ := h
  exact ⟨vl, _, h1, h2.accts, h3⟩

set_option maxRecDepth 100000 in
set_option maxHeartbeats 1600000 in
theorem named_calls (g b : Nat) (L : List Acct) (a : Acct) (mv : Value) (w : World) (hT : UTab w g b L) (hm : Strs w mv a.members) (hs : Small a) :
    Calls Tryd.prog 65 #[.pointer (some ⟨g, 0, none⟩), acctV a mv] w fun e w' => e = said (knows L a) 62 ∧ Below w.heap.size w w' := by
  obtain ⟨A, c, rfl, hlc, hcm, -⟩ := id hm
  unfold maxLen at hcm
  obtain ⟨-, hs2, -, hs4⟩ := hs
  have HS4 := Lib.hid hs4; clear hs4
  unfold acctV
  have hpre : Below w.heap.size w (w.alloc (Obj.cells #[.string a.name, .string a.leader, .slice A a.members.length c, .string a.key] 104)) := (Below.refl _ _).alloc (Nat.le_refl _) _
  have HP := Lib.hid hpre
  have HT := Lib.hid (hT.below hpre); clear hT
  have HM := Lib.hid (hm.below hpre (Nat.le_refl _)); clear hm
  have HA := Lib.hid (Blk.new w 104 #[.string a.name, .string a.leader, .slice A a.members.length c, .string a.key])
  clear hpre
  have hcase : (known L a.leader = true ∧ Hid (knows L a = a.members.all (known L))) ∨
      (known L a.leader = false ∧ a.leader.toList.isEmpty = true ∧ a.leader.toList = [] ∧ Hid (knows L a = a.members.all (known L))) ∨
      (known L a.leader = false ∧ a.leader.toList.isEmpty = false ∧ Hid (knows L a = false)) := by
    cases hk : known L a.leader with
    | true => exact .inl ⟨rfl, by show knows L a = _; unfold knows; rw [hk, Bool.or_true]; rfl⟩
    | false =>
      by_cases h0 : a.leader.size = 0
      · exact .inr (.inl ⟨rfl, empty_t h0, List.isEmpty_iff.1 (empty_t h0), by show knows L a = _; unfold knows; rw [decide_eq_true h0]; rfl⟩)
      · exact .inr (.inr ⟨rfl, empty_f h0, by show knows L a = _; unfold knows; rw [hk, decide_eq_false h0]; rfl⟩)
  go_enter Tryd.func65, Tryd.ntmps65
  go_wp2_with fail
  generalize w.alloc (Obj.cells #[.string a.name, .string a.leader, .slice A a.members.length c, .string a.key] 104) = w1 at HP HT HM HA ⊢
  obtain ⟨vl, iv, t1, t2, t3⟩ := HT.out
  have hlook := (t3.below (below_drew w1)).look a.leader (by unfold maxLen; omega)
  have g1 : w1.drew.cell? ⟨g, 1, none⟩ = some (.map (some b)) := t1.cell 1
  have a1 : w1.drew.cell? ⟨w.heap.size, 1, none⟩ = some (.string a.leader) := HA.out.cell 1
  have a2 : w1.drew.cell? ⟨w.heap.size, 2, none⟩ = some (.slice A a.members.length c) := HA.out.cell 2
  have HLOOK := Lib.hid (fun (x : ByteArray) (hx : x.size ≤ 16777216) => (t3.below (below_drew w1)).look x (by unfold maxLen; omega))
  clear t1 t2 t3
  go_region
  have HP1 := Lib.hid HP.out.drew
  have HM1 := Lib.hid (show Strs w1.drew (.slice A a.members.length c) a.members from HM.out)
  generalize w1.drew = w2 at HP1 HM1 HLOOK a1 a2 g1 ⊢
  clear HP HT HM HA hlook
  rcases hcase with ⟨hk, HX⟩ | ⟨hk, he, he2, HX⟩ | ⟨hk, he, HX⟩
  case inr.inr =>
    rw [hk]
    go_wp2_with fail
    refine (need_f 62 _).mono ?_
    rintro e w3 ⟨rfl, rfl⟩
    exact ⟨rfl, said_f HX.out 62, HP1.out⟩
  all_goals
    rw [hk]
    have HKL := Lib.hid hk; clear hk
    go_wp2_with (go_at_call 62; refine (need_t 62 _).mono ?_; rintro e w' ⟨rfl, rfl⟩)
    go_loop [30] (fun i => ∃ k : Nat, k ≤ a.members.length ∧ i = .int .i64 k ∧ (a.members.take k).all (known L) = true) (fun i => a.members.length - (intOf i).toNat)
    case atStart => exact ⟨0, by omega, rfl, rfl⟩
    case round =>
      obtain ⟨k, hk, rfl, hall⟩ := hrel
      have HAL := Lib.hid hall; clear hall
      by_cases hlt : k < a.members.length
      · obtain ⟨x, hkx⟩ : ∃ x, a.members[k]? = some x := ⟨a.members[k], List.getElem?_eq_getElem hlt⟩
        obtain ⟨gg, o, c', hv, _, h0⟩ := HM1.out.at_ hkx
        injection hv with e1 _ e3
        subst e1; subst e3
        have hlx := HLOOK.out x (HS4.out x (List.mem_of_getElem? hkx))
        have HKX := Lib.hid hkx; clear hkx
        cases hn : known L x with
        | false =>
          rw [hn] at hlx
          have HN := Lib.hid hn; clear hn
          go_wp2_with fail
          refine (need_f 62 _).mono ?_
          rintro e w3 ⟨rfl, rfl⟩
          exact ⟨rfl, said_f (by rw [HX.out, lall_no HKX.out HN.out]) 62, HP1.out⟩
        | true =>
          rw [hn] at hlx
          have HN := Lib.hid hn; clear hn
          go_wp2_with (go_at_call 62; refine (need_t 62 _).mono ?_; rintro e w' ⟨rfl, rfl⟩)
          go_round
          case rel => exact ⟨k + 1, by omega, by go_num, by rw [lall_step HKX.out HAL.out]; exact HN.out⟩
          case measure => simp [intOf]; omega
      · go_wp2_with fail
        go_end0
        exact ⟨said_t (by rw [HX.out, lall_end (by omega) HAL.out]) 62, HP1.out⟩
end Go.Proofs.YtlenlldiimohjaaDoor
