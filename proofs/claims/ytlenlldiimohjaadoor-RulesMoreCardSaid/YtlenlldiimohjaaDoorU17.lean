/-
  Package users: Known, Member, Leads.
-/
import Derived.Test.YtlenlldiimohjaaDoorU16
import Derived.Test.YtlenlldiimohjaaDoorR06i
namespace Go.Proofs.YtlenlldiimohjaaDoor
open Go.ChangeShapes Go.WideShapes Go.ChangeAt Go.RowKit

theorem known_calls (g : Nat) (L : List Acct) (s : ByteArray) (w : World) (h : PTab w g L) (hs : s.size ≤ 1099511627776) :
    Calls Tryd.prog 83 #[.pointer (some ⟨g, 0, none⟩), .string s] w fun e w' => e = .returned (.bool (known L s)) ∧ w = w' := by
  obtain ⟨b, m, n, vl, h1, -, h3, -⟩ := h
  have g1 : w.cell? ⟨g, 1, none⟩ = some (.map (some b)) := h1.cell 1
  have hlook := h3.look s (by unfold maxLen; omega)
  clear h1 h3
  go_enter Tryd.func83, Tryd.ntmps83
  go_wp2_with fail
  go_ret
  exact ⟨rfl, rfl⟩

theorem member_calls (g : Nat) (L : List Acct) (u z : ByteArray) (w : World) (h : PTab w g L) (hu : u.size ≤ 1099511627776) (hz : z.size ≤ 1099511627776) :
    Calls Tryd.prog 49 #[.pointer (some ⟨g, 0, none⟩), .string u, .string z] w fun e w' => e = .returned (.bool (isMember L u z)) ∧ w = w' := by
  obtain ⟨b, m, n, vl, h1, -, -, h4, -⟩ := h
  have g2 : w.cell? ⟨g, 2, none⟩ = some (.map (some m)) := h1.cell 2
  obtain ⟨c, hlook⟩ := h4.look u z hu hz
  clear h1 h4
  go_enter Tryd.func49, Tryd.ntmps49
  go_wp2_with fail
  go_ret
  exact ⟨rfl, rfl⟩

theorem ix_find {L : List Acct} {s : ByteArray} (h : known L s = true) : ∃ a, L[ix L s]? = some a ∧ L.find? (fun a => decide (a.name = s)) = some a := by
  rcases findZ_parts L s with ⟨i, a, hz, hia, -, -, hfd⟩ | ⟨-, hk, -⟩
  · refine ⟨a, ?_, hfd⟩
    unfold findZ at hz
    unfold ix
    cases hf : findIx L s with
    | none => rw [hf] at hz; simp at hz
    | some j =>
      rw [hf] at hz
      simp only [Option.getD_some]
      have : j = i := by
        have : (j : Int) = (i : Int) := by simpa using hz
        omega
      rw [this]
      exact hia
  · rw [hk] at h; cases h
theorem leads_none {L : List Acct} {u z : ByteArray} (h : known L z = false) : leads L u z = false := by
  unfold leads
  rcases findZ_parts L z with ⟨i, a, -, -, -, hk, -⟩ | ⟨-, -, hfd⟩
  · rw [hk] at h; cases h
  · rw [hfd]
theorem leads_some {L : List Acct} {u z : ByteArray} {a : Acct} (h : L.find? (fun a => decide (a.name = z)) = some a) : leads L u z = (known L u && (if a.leader.size = 0 then isMember L u z else decide (a.leader = u))) := by
  unfold leads
  rw [h]

set_option maxRecDepth 100000 in
theorem leads_calls (g : Nat) (L : List Acct) (u z : ByteArray) (w : World) (h : PTab w g L) (hu : u.size ≤ 1099511627776) (hz : z.size ≤ 1099511627776) :
    Calls Tryd.prog 84 #[.pointer (some ⟨g, 0, none⟩), .string u, .string z] w fun e w' => e = .returned (.bool (leads L u z)) ∧ w = w' := by
  have HP := Lib.hid h
  obtain ⟨b, m, n, vl, h1, h2, h3, -⟩ := h
  have g1 : w.cell? ⟨g, 1, none⟩ = some (.map (some b)) := h1.cell 1
  have g0 : w.cell? ⟨g, 0, none⟩ = some vl := h1.cell 0
  have hlook := h3.look z (by unfold maxLen; omega)
  clear h1 h3
  cases hk : known L z with
  | false =>
    rw [hk] at hlook
    have HX := Lib.hid (leads_none (u := u) hk); clear hk
    go_enter Tryd.func84, Tryd.ntmps84
    go_wp2_with fail
    go_ret
    exact ⟨ret_bool HX.out.symm, rfl⟩
  | true =>
    rw [hk] at hlook
    obtain ⟨a, hia, hfd⟩ := ix_find hk
    have HX := Lib.hid (leads_some (u := u) hfd); clear hk hfd
    obtain ⟨gg, o, c, mv, rfl, hlc, -, k0, k1, -, -, -⟩ := h2.at_ hia
    obtain ⟨Al, cl, hvl, -, hcm⟩ := h2.len
    injection hvl with e1 _ e3
    subst e1; subst e3
    unfold maxLen at hcm
    clear h2 k0
    have hil : ix L z < L.length := (List.getElem?_eq_some_iff.1 hia).1
    clear hia
    generalize ix L z = i at hlook k1 hil
    cases hku : known L u with
    | false =>
      have HK := Lib.hid hku; clear hku
      go_enter Tryd.func84, Tryd.ntmps84
      go_wp2_with (go_at_call 83; refine (known_calls g L u _ HP.out hu).mono ?_; rw [HK.out]; rintro e w' ⟨rfl, rfl⟩)
      go_ret
      exact ⟨ret_bool (by rw [HX.out, HK.out]; rfl), rfl⟩
    | true =>
      have HK := Lib.hid hku; clear hku
      by_cases hls : a.leader.size = 0
      · have he := empty_t hls
        have he2 := List.isEmpty_iff.1 he
        have HLS := Lib.hid hls; clear hls
        go_enter Tryd.func84, Tryd.ntmps84
        go_wp2_with (first
          | (go_at_call 83; refine (known_calls g L u _ HP.out hu).mono ?_; rw [HK.out]; rintro e w' ⟨rfl, rfl⟩)
          | (go_at_call 49; refine (member_calls g L u z _ HP.out hu hz).mono ?_; rintro e w' ⟨rfl, rfl⟩))
        go_ret
        exact ⟨ret_bool (by rw [HX.out, HK.out, if_pos HLS.out]; rfl), rfl⟩
      · have he := empty_f hls
        have HLS := Lib.hid hls; clear hls
        go_enter Tryd.func84, Tryd.ntmps84
        go_wp2_with (go_at_call 83; refine (known_calls g L u _ HP.out hu).mono ?_; rw [HK.out]; rintro e w' ⟨rfl, rfl⟩)
        go_ret
        exact ⟨ret_bool (by rw [HX.out, HK.out, if_neg HLS.out, beq_str]; rfl), rfl⟩
end Go.Proofs.YtlenlldiimohjaaDoor
