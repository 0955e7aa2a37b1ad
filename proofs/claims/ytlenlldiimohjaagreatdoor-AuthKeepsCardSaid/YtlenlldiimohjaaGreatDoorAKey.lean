
/-
  A user's key, in the program's table and in the document's.
-/
import Derived.Test.YtlenlldiimohjaaGreatDoorG3
namespace Go.Proofs.YtlenlldiimohjaaGreatDoor
open Go.ChangeShapes Go.WideShapes Go.ChangeAt Go.RowKit

theorem refUserKey_calls (p : Nat) (L : List Acct) (u : ByteArray) (w : World) (h : RTab w p L) :
    Calls Tryz.prog 52 #[.pointer (some ⟨p, 0, none⟩), .string u] w fun e w' => e = .returned (.string (keyOfUser L u)) ∧ w = w' := by
  obtain ⟨v, hb, ha⟩ := h
  obtain ⟨A, c, rfl, hlc, hcm⟩ := ha.len
  unfold maxLen at hcm
  have hcell : w.cell? ⟨p, 0, none⟩ = some (.slice A L.length c) := hb.cell 0
  have HA := Lib.hid ha; clear ha hb
  rcases findZ_parts L u with ⟨i, a, hz, hia, -, -, hfd⟩ | ⟨hz, -, hfd⟩
  · have HZ := Lib.hid hz; clear hz
    have HX := Lib.hid (show keyOfUser L u = a.key from by unfold keyOfUser; rw [hfd]); clear hfd
    obtain ⟨gg, o, c', mv, hv, _, hms, h0, h1, h2, h3, _⟩ := HA.out.at_ hia
    injection hv with e1 _ e3
    subst e1; subst e3
    have hjl : i < L.length := (List.getElem?_eq_some_iff.1 hia).1
    clear hia hms h0 h1 h2
    go_enter Tryz.func52, Tryz.ntmps52
    go_wp2_with fail
    refine (find_calls _ L _ _ HA.out).mono ?_
    rintro e w1 ⟨rfl, rfl⟩
    rw [HZ.out]
    go_wp2_with fail
    go_ret
    exact ⟨by rw [HX.out]; rfl, rfl⟩
  · have HZ := Lib.hid hz; clear hz
    have HX := Lib.hid (show keyOfUser L u = ⟨#[]⟩ from by unfold keyOfUser; rw [hfd]); clear hfd
    go_enter Tryz.func52, Tryz.ntmps52
    go_wp2_with fail
    refine (find_calls _ L _ _ HA.out).mono ?_
    rintro e w1 ⟨rfl, rfl⟩
    rw [HZ.out]
    go_wp2_with fail
    go_ret
    exact ⟨by rw [HX.out]; rfl, rfl⟩
theorem userKey_calls (g : Nat) (L : List Acct) (u : ByteArray) (w : World) (h : PTab w g L) (hu : u.size ≤ 1099511627776) :
    Calls Tryz.prog 54 #[.pointer (some ⟨g, 0, none⟩), .string u] w fun e w' => e = .returned (.string (keyOfUser L u)) ∧ w = w' := by
  obtain ⟨b, m, n, vl, h1, h2, h3, -⟩ := h
  have g1 : w.cell? ⟨g, 1, none⟩ = some (.map (some b)) := h1.cell 1
  have g0 : w.cell? ⟨g, 0, none⟩ = some vl := h1.cell 0
  have hlook := h3.look u (by unfold maxLen; omega)
  clear h1 h3
  cases hk : known L u with
  | false =>
    rw [hk] at hlook
    have HX := Lib.hid (show keyOfUser L u = ⟨#[]⟩ from by
      unfold keyOfUser
      rcases findZ_parts L u with ⟨i, a, -, -, -, hk2, -⟩ | ⟨-, -, hfd⟩
      · rw [hk] at hk2; cases hk2
      · rw [hfd])
    clear hk
    go_enter Tryz.func54, Tryz.ntmps54
    go_wp2_with fail
    go_ret
    exact ⟨by rw [HX.out]; rfl, rfl⟩
  | true =>
    rw [hk] at hlook
    obtain ⟨a, hia, hfd⟩ := ix_find hk
    have HX := Lib.hid (show keyOfUser L u = a.key from by unfold keyOfUser; rw [hfd]); clear hk hfd
    obtain ⟨gg, o, c, mv, rfl, hlc, -, -, -, -, k3, -⟩ := h2.at_ hia
    obtain ⟨Al, cl, hvl, -, hcm⟩ := h2.len
    injection hvl with e1 _ e3
    subst e1; subst e3
    unfold maxLen at hcm
    clear h2
    have hil : ix L u < L.length := (List.getElem?_eq_some_iff.1 hia).1
    clear hia
    generalize ix L u = i at hlook k3 hil
    go_enter Tryz.func54, Tryz.ntmps54
    go_wp2_with fail
    go_ret
    exact ⟨by rw [HX.out]; rfl, rfl⟩
end Go.Proofs.YtlenlldiimohjaaGreatDoor
