/-
  Package users: written.
-/
import Derived.Test.YtlenlldiimohjaaDoorU09
import Derived.Deep.RegionHeld3
namespace Go.Proofs.YtlenlldiimohjaaDoor
open Go.ChangeShapes Go.WideShapes Go.ChangeAt Go.RowKit

theorem join_eq (sep : List UInt8) : ∀ l : List ByteArray, Lib.join (l.map (·.data.toList)) sep = joinL sep l
  | [] => rfl
  | [x] => by simp [Lib.join, joinL]
  | x :: y :: l => by
    have ih := join_eq sep (y :: l)
    simp only [List.map_cons] at ih ⊢
    rw [joinL, ← ih]
    simp [Lib.join, List.intercalate, List.intersperse]

theorem join_calls (v : Value) (l : List ByteArray) (sep : ByteArray) (w : World) (h : Strs w v l) (hl : (joinL sep.data.toList l).length ≤ 140737488355328) (hn : l.length ≤ 140737488355328) :
    Calls Tryd.prog 115 #[v, .string sep] w fun e w' => e = .returned (.string (ofL (joinL sep.data.toList l))) ∧ Below w.heap.size w w' := by
  obtain ⟨A, c, rfl, hlc, hcm, hr⟩ := id h
  rcases Nat.eq_zero_or_pos l.length with h0 | h0
  · have hl0 : l = [] := List.eq_nil_of_length_eq_zero h0
    subst hl0
    refine (Tryd.strings_Join_none A c sep w).mono ?_
    rintro e w' ⟨rfl, rfl⟩
    exact ⟨rfl, Below.refl _ _⟩
  · obtain ⟨g, o, rfl, hg⟩ := hr.form h0
    refine (Tryd.strings_Join g o c l sep w ?_ hg hn hlc (by rw [join_eq]; exact hl)).mono ?_
    · intro j x hj
      obtain ⟨g', o', c', hv, _, hc⟩ := h.at_ hj
      injection hv with e1 _ e3
      injection e1 with e1
      injection e1 with e1 e2
      subst e1; subst e2
      exact hc
    · rintro e w' ⟨rfl, hb⟩
      rw [join_eq]
      exact ⟨rfl, hb⟩

set_option maxRecDepth 100000 in
set_option maxHeartbeats 1600000 in
theorem written_calls (a : Acct) (mv : Value) (w : World) (hm : Strs w mv a.members) (hll : (lineL a).length ≤ 1099511627776) (hmem : a.members.length ≤ 16777216) :
    Calls Tryd.prog 101 #[acctV a mv] w fun e w' => e = .returned (.string (ofL (lineL a))) ∧ Below w.heap.size w w' := by
  obtain ⟨A, c, rfl, hlc, hcm, -⟩ := id hm
  unfold maxLen at hcm
  have hpre : Below w.heap.size w (w.alloc (Obj.cells #[.string a.name, .string a.leader, .slice A a.members.length c, .string a.key] 104)) := (Below.refl _ _).alloc (Nat.le_refl _) _
  have HP := Lib.hid hpre
  have HM := Lib.hid (hm.below hpre (Nat.le_refl _)); clear hm
  have HA := Lib.hid (Blk.new w 104 #[.string a.name, .string a.leader, .slice A a.members.length c, .string a.key])
  clear hpre
  have HLL := Lib.hid hll; clear hll
  unfold acctV
  go_enter Tryd.func101, Tryd.ntmps101
  go_wp2_with fail
  generalize w.alloc (Obj.cells #[.string a.name, .string a.leader, .slice A a.members.length c, .string a.key] 104) = w1 at HP HM HA ⊢
  have a0 : w1.drew.cell? ⟨w.heap.size, 0, none⟩ = some (.string a.name) := HA.out.cell 0
  have a1 : w1.drew.cell? ⟨w.heap.size, 1, none⟩ = some (.string a.leader) := HA.out.cell 1
  have a2 : w1.drew.cell? ⟨w.heap.size, 2, none⟩ = some (.slice A a.members.length c) := HA.out.cell 2
  have a3 : w1.drew.cell? ⟨w.heap.size, 3, none⟩ = some (.string a.key) := HA.out.cell 3
  have HM1 := Lib.hid (show Strs w1.drew (.slice A a.members.length c) a.members from HM.out)
  have HP1 := Lib.hid HP.out.drew
  have HL1 := Lib.hid (show (joinL [44] a.members).length ≤ 140737488355328 from by have := HLL.out; rw [lineL_len] at this; omega)
  have HL2 := Lib.hid (show (joinL [58] [a.name, a.leader, ofL (joinL [44] a.members), a.key]).length ≤ 140737488355328 from by
    have := HLL.out
    rw [lineL_len] at this
    simp [joinL, ofL]
    omega)
  have hsz : (ofL (joinL [58] [a.name, a.leader, ofL (joinL [44] a.members), a.key])).size ≤ 140737488355328 := by rw [ofL_size]; exact HL2.out
  have HEQ := Lib.hid (show ofL (joinL [58] [a.name, a.leader, ofL (joinL [44] a.members), a.key]) ++ ⟨#[10]⟩ = ofL (lineL a) from by
    apply ByteArray.ext
    simp [ofL, lineL, joinL, ByteArray.data_append])
  generalize hM : ofL (joinL [44] a.members) = M at hsz HEQ HL2
  have HMM := Lib.hid hM; clear hM
  generalize hJ : ofL (joinL [58] [a.name, a.leader, M, a.key]) = J at hsz HEQ
  have HJ := Lib.hid hJ; clear hJ
  have hadd : ∀ w' : World, (Op.stringOp .add J ⟨#[10]⟩).run Tryd.prog w' = .ok (.string (J ++ ⟨#[10]⟩)) w' := fun w' => run_string_add_sum w' _ _ (by
    have h1 : (⟨#[10]⟩ : ByteArray).size = 1 := rfl
    rw [h1]
    omega)
  go_region_held3 (fun w' => w'.cell? ⟨w.heap.size, 0, none⟩ = some (.string a.name) ∧ w'.cell? ⟨w.heap.size, 1, none⟩ = some (.string a.leader) ∧ w'.cell? ⟨w.heap.size, 2, none⟩ = some (.slice A a.members.length c) ∧ w'.cell? ⟨w.heap.size, 3, none⟩ = some (.string a.key))
    (first | exact ⟨a0, a1, a2, a3⟩ | exact ⟨b0, b1, b2, b3⟩ | exact ⟨c0, c1, c2, c3⟩ | go_keep)
    (first
    | (go_at_call_of 115 (ByteArray.mk #[44]); refine (join_calls (.slice A a.members.length c) a.members ⟨#[44]⟩ w1.drew HM1.out HL1.out (by omega)).mono ?_; rw [show ofL (joinL (ByteArray.mk #[44]).data.toList a.members) = M from HMM.out]; rintro e w2 ⟨rfl, hb2⟩
       have HA2 := Lib.hid (Blk.below (w := w1.drew) HA.out hb2 HA.out.lt)
       have HP2 := Lib.hid (HP1.out.trans (hb2.mono HP1.out.size))
       clear hb2
       have b0 : w2.cell? ⟨w.heap.size, 0, none⟩ = some (.string a.name) := HA2.out.cell 0
       have b1 : w2.cell? ⟨w.heap.size, 1, none⟩ = some (.string a.leader) := HA2.out.cell 1
       have b2 : w2.cell? ⟨w.heap.size, 2, none⟩ = some (.slice A a.members.length c) := HA2.out.cell 2
       have b3 : w2.cell? ⟨w.heap.size, 3, none⟩ = some (.string a.key) := HA2.out.cell 3
       have HS2 := Lib.hid (Strs.new w2 #[.string a.name, .string a.leader, .string M, .string a.key] (0, 0) [a.name, a.leader, M, a.key] 4 (Nat.le_refl 4) (by unfold maxLen; omega) (by intro j u hu; simpa using hu)))
    | (go_at_call_of 115 (ByteArray.mk #[58]); refine (join_calls (.slice (some ⟨w2.heap.size, 0, none⟩) 4 4) [a.name, a.leader, M, a.key] ⟨#[58]⟩ _ HS2.out HL2.out (by show (4 : Nat) ≤ _; omega)).mono ?_; rw [show ofL (joinL (ByteArray.mk #[58]).data.toList [a.name, a.leader, M, a.key]) = J from HJ.out]; rintro e w3 ⟨rfl, hb3⟩
       have HP3 := Lib.hid ((HP2.out.alloc HP2.out.size _).trans (hb3.mono (by have := HP2.out.size; simp; omega)))
       have HA3 := Lib.hid ((HA2.out.alloc (Obj.cells #[.string a.name, .string a.leader, .string M, .string a.key] 9)).below hb3 (by have := HA2.out.lt; simp; omega))
       clear hb3
       have c0 : w3.cell? ⟨w.heap.size, 0, none⟩ = some (.string a.name) := HA3.out.cell 0
       have c1 : w3.cell? ⟨w.heap.size, 1, none⟩ = some (.string a.leader) := HA3.out.cell 1
       have c2 : w3.cell? ⟨w.heap.size, 2, none⟩ = some (.slice A a.members.length c) := HA3.out.cell 2
       have c3 : w3.cell? ⟨w.heap.size, 3, none⟩ = some (.string a.key) := HA3.out.cell 3))
  go_wp2_with fail
  rw [HEQ.out]
  go_ret
  exact ⟨rfl, HP3.out⟩
end Go.Proofs.YtlenlldiimohjaaDoor
