/-
  The reference of layer 6: Member. Condition: the table lies in memory.
-/
import Derived.Test.YtlenlldiimohjaaDoorR06h
namespace Go.Proofs.YtlenlldiimohjaaDoor
open Go.ChangeShapes Go.WideShapes Go.ChangeAt Go.RowKit

/-- Does u belong to g? -/
def member (L : List Acct) (u g : ByteArray) : Bool :=
  match L.find? (fun a => decide (a.name = g)) with
  | none => false
  | some a => known L u && (decide (u = g) || has a.members u)

theorem findZ_parts (L : List Acct) (s : ByteArray) : (∃ (i : Nat) (a : Acct), findZ L s = (i : Int) ∧ L[i]? = some a ∧ a.name = s ∧ known L s = true ∧ L.find? (fun a => decide (a.name = s)) = some a) ∨
    (findZ L s = -1 ∧ known L s = false ∧ L.find? (fun a => decide (a.name = s)) = none) := by
  unfold findZ
  cases h : findIx L s with
  | none =>
    unfold findIx at h
    rw [List.findIdx?_eq_none_iff] at h
    refine .inr ⟨rfl, ?_, ?_⟩
    · unfold known
      rw [List.any_eq_false]
      intro x hx
      rw [h x hx]
      exact Bool.false_ne_true
    · rw [List.find?_eq_none]
      intro x hx
      rw [h x hx]
      exact Bool.false_ne_true
  | some i =>
    unfold findIx at h
    rw [List.findIdx?_eq_some_iff_getElem] at h
    obtain ⟨hl, hp, hno⟩ := h
    refine .inl ⟨i, L[i], rfl, List.getElem?_eq_getElem hl, of_decide_eq_true hp, ?_, ?_⟩
    · unfold known
      rw [List.any_eq_true]
      exact ⟨L[i], List.getElem_mem hl, hp⟩
    · rw [List.find?_eq_some_iff_getElem]
      exact ⟨hp, i, hl, rfl, fun j hj => by have := hno j hj; simpa using this⟩

theorem RTab.below {w w' : World} {g : Nat} {L : List Acct} (h : RTab w g L) (hb : Below w.heap.size w w') : RTab w' g L := by
  obtain ⟨v, h1, h2⟩ := h
  exact ⟨v, h1.below hb h1.lt, h2.below hb (Nat.le_refl _)⟩

theorem refMember_calls (p : Nat) (L : List Acct) (u g : ByteArray) (w : World) (h : RTab w p L) :
    Calls Tryd.prog 50 #[.pointer (some ⟨p, 0, none⟩), .string u, .string g] w fun e w' => e = .returned (.bool (member L u g)) ∧ w = w' := by
  obtain ⟨v, hb, ha⟩ := h
  obtain ⟨A, c, rfl, hlc, hcm⟩ := ha.len
  unfold maxLen at hcm
  have hcell : w.cell? ⟨p, 0, none⟩ = some (.slice A L.length c) := hb.cell 0
  have HA := Lib.hid ha; clear ha hb
  rcases findZ_parts L u with ⟨i, a, hz, hia, hau, hku, -⟩ | ⟨hz, hku, -⟩
  · have HKU := Lib.hid hku; clear hku
    rcases findZ_parts L g with ⟨j, b, hz2, hjb, hbg, -, hfd⟩ | ⟨hz2, -, hfd⟩
    · have HFD := Lib.hid hfd; clear hfd
      have HHZ := Lib.hid hz; clear hz
      have HHZ2 := Lib.hid hz2; clear hz2
      obtain ⟨gg, o, c', mv, hv, _, hms, h0, h1, h2, h3, _⟩ := HA.out.at_ hjb
      injection hv with e1 _ e3
      subst e1; subst e3
      have hjl : j < L.length := (List.getElem?_eq_some_iff.1 hjb).1
      have hM : member L u g = (decide (u = g) || has b.members u) := by unfold member; rw [HFD.out, HKU.out]; simp only [Bool.true_and]
      have HM := Lib.hid hM; clear hM
      have HMS := Lib.hid hms; clear hms
      by_cases hij : i = j
      · have hij2 : ((i : Int) == (j : Int)) = true := by rw [beq_iff_eq]; omega
        have hug : u = g := by
          subst hij
          rw [hia] at hjb
          injection hjb with hjb
          subst hjb
          rw [← hau, ← hbg]
        have HUG := Lib.hid hug; clear hug
        clear hia hjb hau hbg
        go_enter Tryd.func50, Tryd.ntmps50
        go_wp2_with fail
        refine (find_calls _ L _ _ HA.out).mono ?_
        rintro e w1 ⟨rfl, rfl⟩
        rw [HHZ.out]
        go_wp2_with fail
        refine (find_calls _ L _ _ HA.out).mono ?_
        rintro e w1 ⟨rfl, rfl⟩
        rw [HHZ2.out]
        go_wp2_with fail
        go_ret
        exact ⟨ret_bool (by rw [HM.out, decide_eq_true HUG.out]; rfl), rfl⟩
      · have hij2 : ((i : Int) == (j : Int)) = false := by rw [beq_eq_false_iff_ne]; omega
        have hug : ¬ u = g := by
          intro he
          have h1 := HHZ.out
          rw [he, HHZ2.out] at h1
          omega
        have HUG := Lib.hid hug; clear hug
        clear hia hjb hau hbg
        go_enter Tryd.func50, Tryd.ntmps50
        go_wp2_with fail
        refine (find_calls _ L _ _ HA.out).mono ?_
        rintro e w1 ⟨rfl, rfl⟩
        rw [HHZ.out]
        go_wp2_with fail
        refine (find_calls _ L _ _ HA.out).mono ?_
        rintro e w1 ⟨rfl, rfl⟩
        rw [HHZ2.out]
        go_wp2_with fail
        refine (has_calls _ b.members _ _ HMS.out).mono ?_
        rintro e w1 ⟨rfl, rfl⟩
        go_wp2_with fail
        go_ret
        exact ⟨ret_bool (by rw [HM.out, decide_eq_false HUG.out]; rfl), rfl⟩
    · have HFD := Lib.hid hfd; clear hfd
      have HHZ := Lib.hid hz; clear hz
      have HHZ2 := Lib.hid hz2; clear hz2
      clear hia hau
      go_enter Tryd.func50, Tryd.ntmps50
      go_wp2_with fail
      refine (find_calls _ L _ _ HA.out).mono ?_
      rintro e w1 ⟨rfl, rfl⟩
      rw [HHZ.out]
      go_wp2_with fail
      refine (find_calls _ L _ _ HA.out).mono ?_
      rintro e w1 ⟨rfl, rfl⟩
      rw [HHZ2.out]
      go_wp2_with fail
      go_ret
      exact ⟨ret_bool (by unfold member; rw [HFD.out]), rfl⟩
  · have HKU := Lib.hid hku; clear hku
    have HHZ := Lib.hid hz; clear hz
    go_enter Tryd.func50, Tryd.ntmps50
    go_wp2_with fail
    refine (find_calls _ L _ _ HA.out).mono ?_
    rintro e w1 ⟨rfl, rfl⟩
    rw [HHZ.out]
    go_wp2_with fail
    refine (find_calls _ L _ _ HA.out).mono ?_
    rintro e w1 ⟨rfl, rfl⟩
    go_wp2_with fail
    go_ret
    exact ⟨ret_bool (by unfold member; split <;> simp [HKU.out]), rfl⟩
end Go.Proofs.YtlenlldiimohjaaDoor
