/-
  The reference of layer 6: knows, line, length. Condition: the lists lie in memory.
-/
import Derived.Test.YtlenlldiimohjaaDoorR06e
import Derived.Test.YtlenlldiimohjaaDoorULaw2
namespace Go.Proofs.YtlenlldiimohjaaDoor
open Go.ChangeShapes Go.WideShapes Go.ChangeAt Go.RowKit

theorem findZ_known (L : List Acct) (s : ByteArray) : (known L s = true ∧ 0 ≤ findZ L s) ∨ (known L s = false ∧ findZ L s < 0) := by
  unfold findZ
  cases h : findIx L s with
  | none =>
    refine .inr ⟨?_, by simp⟩
    unfold findIx at h
    rw [List.findIdx?_eq_none_iff] at h
    unfold known
    rw [List.any_eq_false]
    intro x hx
    rw [h x hx]
    exact Bool.false_ne_true
  | some i =>
    refine .inl ⟨?_, by simp⟩
    unfold findIx at h
    rw [List.findIdx?_eq_some_iff_getElem] at h
    obtain ⟨hl, hp, _⟩ := h
    unfold known
    rw [List.any_eq_true]
    exact ⟨L[i], List.getElem_mem hl, hp⟩

theorem knows_calls (v : Value) (L : List Acct) (a : Acct) (mv : Value) (w : World) (hL : Accts w v L) (hm : Strs w mv a.members) :
    Calls Tryd.prog 71 #[v, acctV a mv] w fun e w' => e = .returned (.bool (knows L a)) ∧ Below w.heap.size w w' := by
  obtain ⟨A, c, rfl, hlc, hcm, -⟩ := id hm
  unfold maxLen at hcm
  have HM := Lib.hid hm; clear hm
  have HL := Lib.hid hL; clear hL
  unfold acctV
  have hcase : (a.leader.toList.isEmpty = true ∧ a.leader.toList = [] ∧ Hid (knows L a = a.members.all (known L))) ∨
      (a.leader.toList.isEmpty = false ∧ 0 ≤ findZ L a.leader ∧ Hid (knows L a = a.members.all (known L))) ∨
      (a.leader.toList.isEmpty = false ∧ findZ L a.leader < 0 ∧ Hid (knows L a = false)) := by
    by_cases h0 : a.leader.size = 0
    · exact .inl ⟨empty_t h0, List.isEmpty_iff.1 (empty_t h0), by show knows L a = _; unfold knows; rw [decide_eq_true h0]; rfl⟩
    · rcases findZ_known L a.leader with ⟨h1, h2⟩ | ⟨h1, h2⟩
      · exact .inr (.inl ⟨empty_f h0, h2, by show knows L a = _; unfold knows; rw [h1, Bool.or_true]; rfl⟩)
      · exact .inr (.inr ⟨empty_f h0, h2, by show knows L a = _; unfold knows; rw [h1, decide_eq_false h0]; rfl⟩)
  have hb : Below w.heap.size w (w.alloc (Obj.cells #[.string a.name, .string a.leader, .slice A a.members.length c, .string a.key] 104)) := (Below.refl _ _).alloc (Nat.le_refl _) _
  have HB := Lib.hid hb; clear hb
  rcases hcase with ⟨he, he2, HF⟩ | ⟨he, hz, HF⟩ | ⟨he, hz, HF⟩
  case inr.inr =>
    go_enter Tryd.func71, Tryd.ntmps71
    go_wp2_with (go_at_call 69; refine (find_calls _ L _ _ (HL.out.alloc _)).mono ?_; rintro e w' ⟨rfl, rfl⟩)
    go_ret
    exact ⟨ret_bool HF.out.symm, HB.out⟩
  all_goals
    go_enter Tryd.func71, Tryd.ntmps71
    go_wp2_with (go_at_call 69; refine (find_calls _ L _ _ (HL.out.alloc _)).mono ?_; rintro e w' ⟨rfl, rfl⟩)
    have hc2 : (w.alloc (Obj.cells #[.string a.name, .string a.leader, .slice A a.members.length c, .string a.key] 104)).cell? ⟨w.heap.size, 2, none⟩ = some (.slice A a.members.length c) := (Blk.new w _ _).cell 2
    have HM2 := Lib.hid (HM.out.alloc (Obj.cells #[.string a.name, .string a.leader, .slice A a.members.length c, .string a.key] 104))
    have HL2 := Lib.hid (HL.out.alloc (Obj.cells #[.string a.name, .string a.leader, .slice A a.members.length c, .string a.key] 104))
    generalize w.alloc (Obj.cells #[.string a.name, .string a.leader, .slice A a.members.length c, .string a.key] 104) = w1 at HB hc2 HM2 HL2 ⊢
    clear HM HL he
    go_loop [5] (fun i => ∃ k : Nat, k ≤ a.members.length ∧ i = .int .i64 k ∧ (a.members.take k).all (known L) = true) (fun i => a.members.length - (intOf i).toNat)
    case atStart => exact ⟨0, by omega, rfl, rfl⟩
    case round =>
      obtain ⟨k, hk, rfl, hall⟩ := hrel
      have HA := Lib.hid hall; clear hall
      by_cases hlt : k < a.members.length
      · obtain ⟨x, hkx⟩ : ∃ x, a.members[k]? = some x := ⟨a.members[k], List.getElem?_eq_getElem hlt⟩
        obtain ⟨g, o, c', hv, _, h0⟩ := HM2.out.at_ hkx
        injection hv with e1 _ e3
        subst e1; subst e3
        have HKX := Lib.hid hkx; clear hkx
        rcases findZ_known L x with ⟨hn, hzx⟩ | ⟨hn, hzx⟩
        · have HNX := Lib.hid hn; clear hn
          go_wp2_with (go_at_call 69; refine (find_calls _ L _ _ HL2.out).mono ?_; rintro e w' ⟨rfl, rfl⟩)
          go_round
          case rel => exact ⟨k + 1, by omega, by go_num, by rw [lall_step HKX.out HA.out]; exact HNX.out⟩
          case measure => simp [intOf]; omega
        · have HNX := Lib.hid hn; clear hn
          go_wp2_with (go_at_call 69; refine (find_calls _ L _ _ HL2.out).mono ?_; rintro e w' ⟨rfl, rfl⟩)
          go_ret
          exact ⟨ret_bool (by rw [HF.out, lall_no HKX.out HNX.out]), HB.out⟩
      · go_wp2_with fail
        go_ret
        exact ⟨ret_bool (by rw [HF.out, lall_end (by omega) HA.out]), HB.out⟩

theorem line_calls (a : Acct) (mv : Value) (w : World) (hm : Strs w mv a.members) (hll : (lineL a).length ≤ 1099511627776) :
    Calls Tryd.prog 91 #[acctV a mv] w fun e w' => e = .returned (.string (ofL (lineL a))) ∧ Below w.heap.size w w' := by
  obtain ⟨A, c, rfl, hlc, hcm, -⟩ := id hm
  unfold maxLen at hcm
  have HM := Lib.hid hm; clear hm
  rw [lineL_len] at hll
  have hn1 : a.name.size + a.leader.size + 2 ≤ 1099511627776 := by omega
  have HLL := Lib.hid hll; clear hll
  unfold acctV
  go_enter Tryd.func91, Tryd.ntmps91
  go_wp2_with fail
  have hb : Below w.heap.size w (w.alloc (Obj.cells #[.string a.name, .string a.leader, .slice A a.members.length c, .string a.key] 104)) := (Below.refl _ _).alloc (Nat.le_refl _) _
  have HB := Lib.hid hb; clear hb
  have hc2 : (w.alloc (Obj.cells #[.string a.name, .string a.leader, .slice A a.members.length c, .string a.key] 104)).cell? ⟨w.heap.size, 2, none⟩ = some (.slice A a.members.length c) := (Blk.new w _ _).cell 2
  have hc3 : (w.alloc (Obj.cells #[.string a.name, .string a.leader, .slice A a.members.length c, .string a.key] 104)).cell? ⟨w.heap.size, 3, none⟩ = some (.string a.key) := (Blk.new w _ _).cell 3
  have HM2 := Lib.hid (HM.out.alloc (Obj.cells #[.string a.name, .string a.leader, .slice A a.members.length c, .string a.key] 104))
  generalize w.alloc (Obj.cells #[.string a.name, .string a.leader, .slice A a.members.length c, .string a.key] 104) = w1 at HB hc2 hc3 HM2 ⊢
  clear HM
  go_loop [3, 4] (fun s i => ∃ k : Nat, k ≤ a.members.length ∧ i = .int .i64 k ∧ s = .string (ofL (a.name.data.toList ++ [58] ++ a.leader.data.toList ++ [58] ++ joinL [44] (a.members.take k)))) (fun _ i => a.members.length - (intOf i).toNat)
  case atStart =>
    refine ⟨0, by omega, rfl, ?_⟩
    congr 1
    apply ByteArray.ext
    simp [ofL, joinL, ByteArray.data_append]
  case round =>
    obtain ⟨k, hk, rfl, rfl⟩ := hrel
    have hsz : (ofL (a.name.data.toList ++ [58] ++ a.leader.data.toList ++ [58] ++ joinL [44] (a.members.take k))).size + a.key.size + 1 ≤ 1099511627776 := by
      have := joinL_take [44] a.members k
      have := HLL.out
      rw [ofL_size]
      simp
      omega
    have hsx : ∀ x, a.members[k]? = some x → (ofL (a.name.data.toList ++ [58] ++ a.leader.data.toList ++ [58] ++ joinL [44] (a.members.take k))).size + x.size + 1 ≤ 1099511627777 := by
      intro x hx
      have := joinL_get [44] a.members k x hx
      have := HLL.out
      rw [ofL_size]
      simp
      omega
    generalize hS : ofL (a.name.data.toList ++ [58] ++ a.leader.data.toList ++ [58] ++ joinL [44] (a.members.take k)) = S at hsz hsx ⊢
    have HS := Lib.hid hS; clear hS
    by_cases hlt : k < a.members.length
    · obtain ⟨x, hkx⟩ : ∃ x, a.members[k]? = some x := ⟨a.members[k], List.getElem?_eq_getElem hlt⟩
      obtain ⟨g, o, c', hv, _, h0⟩ := HM2.out.at_ hkx
      injection hv with e1 _ e3
      subst e1; subst e3
      have hsx := hsx x hkx
      have HKX := Lib.hid hkx; clear hkx
      have htk : a.members.take (k + 1) = a.members.take k ++ [x] := by
        obtain ⟨hl, rfl⟩ := List.getElem?_eq_some_iff.1 HKX.out
        exact List.take_succ_eq_append_getElem hl
      have HTK := Lib.hid htk; clear htk
      have hlk : (a.members.take k).length = k := by rw [List.length_take]; omega
      have HLK := Lib.hid hlk; clear hlk
      by_cases h1 : 0 < k
      · go_wp2_with fail
        go_round
        case rel =>
          refine ⟨k + 1, by omega, by go_num, ?_⟩
          congr 1
          rw [HTK.out, joinL_snoc, if_neg (by rw [HLK.out]; omega), ← HS.out]
          apply ByteArray.ext
          simp [ofL, ByteArray.data_append]
        case measure => simp [intOf]; omega
      · go_wp2_with fail
        go_round
        case rel =>
          refine ⟨k + 1, by omega, by go_num, ?_⟩
          congr 1
          have hk0 : k = 0 := by omega
          rw [HTK.out, joinL_snoc, if_pos (by rw [HLK.out]; omega), ← HS.out]
          subst hk0
          apply ByteArray.ext
          simp [ofL, ByteArray.data_append, joinL]
        case measure => simp [intOf]; omega
    · clear hsx
      go_wp2_with fail
      go_ret
      refine ⟨ret_str ?_, HB.out⟩
      rw [← HS.out, List.take_of_length_le (by omega)]
      unfold lineL
      apply ByteArray.ext
      simp [ofL, ByteArray.data_append]
end Go.Proofs.YtlenlldiimohjaaDoor
