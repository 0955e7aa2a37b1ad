
/-
  The document's Known and Leads; they are the program's.
-/
import Derived.Test.YtlenlldiimohjaaGreatDoorW1
namespace Go.Proofs.YtlenlldiimohjaaGreatDoor
open Go.ChangeShapes Go.WideShapes Go.ChangeAt Go.RowKit

theorem size_empty {s : ByteArray} : s.toList.isEmpty = true ↔ s.size = 0 := by
  rw [ByteArray.toList_eq, List.isEmpty_iff, ← List.length_eq_zero_iff]
  show s.data.toList.length = 0 ↔ s.data.size = 0
  simp
theorem refKnown_calls (p : Nat) (L : List Acct) (u : ByteArray) (w : World) (h : RTab w p L) :
    Calls Tryz.prog 26 #[.pointer (some ⟨p, 0, none⟩), .string u] w fun e w' => e = .returned (.bool (known L u)) ∧ w = w' := by
  obtain ⟨v, hb, ha⟩ := h
  obtain ⟨A, c, rfl, hlc, hcm⟩ := ha.len
  have hcell : w.cell? ⟨p, 0, none⟩ = some (.slice A L.length c) := hb.cell 0
  have HA := Lib.hid ha; clear ha hb
  rcases findZ_parts L u with ⟨i, a, hz, -, -, hku, -⟩ | ⟨hz, hku, -⟩
  all_goals
    have HZ := Lib.hid hz; clear hz
    have HK := Lib.hid hku; clear hku
    go_enter Tryz.func26, Tryz.ntmps26
    go_wp2_with fail
    refine (find_calls _ L _ _ HA.out).mono ?_
    rintro e w1 ⟨rfl, rfl⟩
    rw [HZ.out]
    go_wp2_with fail
    go_ret
    exact ⟨by rw [HK.out]; simp, rfl⟩

/-- Leads, with the document's membership. -/
def rleads (L : List Acct) (u g : ByteArray) : Bool :=
  match L.find? (fun a => decide (a.name = g)) with
  | none => false
  | some a => known L u && (if a.leader.size = 0 then member L u g else decide (a.leader = u))
theorem table_leads (text u g : ByteArray) : rleads (tableL text) u g = leads (tableL text) u g := by
  unfold rleads leads
  rw [table_member]
  cases List.find? (fun a => decide (a.name = g)) (tableL text) <;> rfl

theorem refLeads_calls (p : Nat) (L : List Acct) (u g : ByteArray) (w : World) (h : RTab w p L) :
    Calls Tryz.prog 48 #[.pointer (some ⟨p, 0, none⟩), .string u, .string g] w fun e w' => e = .returned (.bool (rleads L u g)) ∧ w = w' := by
  have HR := Lib.hid h
  obtain ⟨v, hb, ha⟩ := h
  obtain ⟨A, c, rfl, hlc, hcm⟩ := ha.len
  unfold maxLen at hcm
  have hcell : w.cell? ⟨p, 0, none⟩ = some (.slice A L.length c) := hb.cell 0
  have HA := Lib.hid ha; clear ha hb
  rcases findZ_parts L u with ⟨i, a, hz, -, -, hku, -⟩ | ⟨hz, hku, -⟩
  · have HKU := Lib.hid hku; clear hku
    rcases findZ_parts L g with ⟨j, b, hz2, hjb, -, -, hfd⟩ | ⟨hz2, -, hfd⟩
    · have HHZ := Lib.hid hz; clear hz
      have HHZ2 := Lib.hid hz2; clear hz2
      obtain ⟨gg, o, c', mv, hv, _, hms, h0, h1, h2, h3, _⟩ := HA.out.at_ hjb
      injection hv with e1 _ e3
      subst e1; subst e3
      have hjl : j < L.length := (List.getElem?_eq_some_iff.1 hjb).1
      cases he : b.leader.toList.isEmpty
      · have hs : ¬ b.leader.size = 0 := by
          intro h0
          rw [size_empty.2 h0] at he
          cases he
        have HX := Lib.hid (show rleads L u g = decide (b.leader = u) from by unfold rleads; rw [hfd]; simp only [HKU.out, if_neg hs, Bool.true_and])
        clear hs hfd hjb hms
        go_enter Tryz.func48, Tryz.ntmps48
        go_wp2_with fail
        refine (find_calls _ L _ _ HA.out).mono ?_
        rintro e w1 ⟨rfl, rfl⟩
        rw [HHZ.out]
        go_wp2_with fail
        refine (find_calls _ L _ _ HA.out).mono ?_
        rintro e w1 ⟨rfl, rfl⟩
        rw [HHZ2.out]
        go_wp2_with fail
        go_ret
        exact ⟨by rw [HX.out, ← beq_str]; rfl, rfl⟩
      · have hs : b.leader.size = 0 := size_empty.1 he
        have HX := Lib.hid (show rleads L u g = member L u g from by unfold rleads; rw [hfd]; simp only [HKU.out, if_pos hs, Bool.true_and])
        clear hs hfd hjb hms
        go_enter Tryz.func48, Tryz.ntmps48
        go_wp2_with fail
        refine (find_calls _ L _ _ HA.out).mono ?_
        rintro e w1 ⟨rfl, rfl⟩
        rw [HHZ.out]
        go_wp2_with fail
        refine (find_calls _ L _ _ HA.out).mono ?_
        rintro e w1 ⟨rfl, rfl⟩
        rw [HHZ2.out]
        go_wp2_with fail
        refine (refMember_calls p L u g _ HR.out).mono ?_
        rintro e w1 ⟨rfl, rfl⟩
        go_wp2_with fail
        go_ret
        exact ⟨by rw [HX.out]; rfl, rfl⟩
    · have HHZ := Lib.hid hz; clear hz
      have HHZ2 := Lib.hid hz2; clear hz2
      have HX := Lib.hid (show rleads L u g = false from by unfold rleads; rw [hfd])
      clear hfd
      go_enter Tryz.func48, Tryz.ntmps48
      go_wp2_with fail
      refine (find_calls _ L _ _ HA.out).mono ?_
      rintro e w1 ⟨rfl, rfl⟩
      rw [HHZ.out]
      go_wp2_with fail
      refine (find_calls _ L _ _ HA.out).mono ?_
      rintro e w1 ⟨rfl, rfl⟩
      rw [HHZ2.out]
      go_wp2_with fail
      go_ret
      exact ⟨by rw [HX.out]; rfl, rfl⟩
  · have HHZ := Lib.hid hz; clear hz
    have HX := Lib.hid (show rleads L u g = false from by unfold rleads; rw [hku]; cases L.find? (fun a => decide (a.name = g)) <;> rfl)
    clear hku
    go_enter Tryz.func48, Tryz.ntmps48
    go_wp2_with fail
    refine (find_calls _ L _ _ HA.out).mono ?_
    rintro e w1 ⟨rfl, rfl⟩
    rw [HHZ.out]
    go_wp2_with fail
    refine (find_calls _ L _ _ HA.out).mono ?_
    rintro e w1 ⟨rfl, rfl⟩
    go_wp2_with fail
    go_ret
    exact ⟨by rw [HX.out]; rfl, rfl⟩
end Go.Proofs.YtlenlldiimohjaaGreatDoor
