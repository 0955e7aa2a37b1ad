/-
  The reference of layer 6: find, has, twice, knows. Conditions: the lists lie in memory.
-/
import Derived.Test.YtlenlldiimohjaaDoorUData
import Derived.WalkKit
import Derived.ProofKit
import Derived.OpenShut
import Derived.BigQuiet
import Derived.Deep.QuietTactic
namespace Go.Proofs.YtlenlldiimohjaaDoor
open Go.ChangeShapes Go.WideShapes Go.ChangeAt Go.RowKit

def findZ (L : List Acct) (s : ByteArray) : Int := match findIx L s with | some i => (i : Int) | none => -1

theorem findIx_hit {L : List Acct} {s : ByteArray} {k : Nat} {a : Acct} (hk : L[k]? = some a) (he : a.name = s) (hno : ∀ (q : Nat) b, q < k → L[q]? = some b → ¬ b.name = s) : findIx L s = some k := by
  unfold findIx
  rw [List.findIdx?_eq_some_iff_getElem]
  obtain ⟨hl, hg⟩ := List.getElem?_eq_some_iff.1 hk
  refine ⟨hl, by rw [hg]; exact decide_eq_true he, fun j hj => ?_⟩
  have := hno j L[j] hj (List.getElem?_eq_getElem (by omega))
  simpa using this
theorem findIx_none {L : List Acct} {s : ByteArray} (hno : ∀ (q : Nat) b, q < L.length → L[q]? = some b → ¬ b.name = s) : findIx L s = none := by
  unfold findIx
  rw [List.findIdx?_eq_none_iff]
  intro x hx
  obtain ⟨q, hq, rfl⟩ := List.mem_iff_getElem.1 hx
  have := hno q L[q] hq (List.getElem?_eq_getElem hq)
  simpa using this

theorem find_calls (v : Value) (L : List Acct) (s : ByteArray) (w : World) (h : Accts w v L) :
    Calls Tryd.prog 69 #[v, .string s] w fun e w' => e = .returned (.int .i64 (findZ L s)) ∧ w = w' := by
  obtain ⟨A, c, rfl, hlc, hcm⟩ := h.len
  have H := Lib.hid h; clear h
  unfold maxLen at hcm
  go_enter Tryd.func69, Tryd.ntmps69
  go_wp2_with fail
  go_loop [5] (fun i => ∃ k : Nat, k ≤ L.length ∧ i = .int .i64 k ∧ ∀ (q : Nat) b, q < k → L[q]? = some b → ¬ b.name = s) (fun i => L.length - (intOf i).toNat)
  case atStart => exact ⟨0, by omega, rfl, fun q b hq => absurd hq (Nat.not_lt_zero q)⟩
  case round =>
    obtain ⟨k, hk, rfl, hno⟩ := hrel
    have HNO := Lib.hid hno; clear hno
    by_cases hlt : k < L.length
    · obtain ⟨a, hka⟩ : ∃ a, L[k]? = some a := ⟨L[k], List.getElem?_eq_getElem hlt⟩
      obtain ⟨g, o, c', mv, hv, _, _, h0, _⟩ := H.out.at_ hka
      injection hv with e1 _ e3
      subst e1; subst e3
      have HKA := Lib.hid hka; clear hka
      by_cases he : a.name = s
      · have hbe := beq_str_t he
        have hz : findZ L s = (k : Int) := by unfold findZ; rw [findIx_hit HKA.out he HNO.out]
        have HZ := Lib.hid hz; clear hz
        have HE := Lib.hid he; clear he
        go_wp2_with fail
        go_ret
        exact ⟨ret_int HZ.out.symm, rfl⟩
      · have hbe := beq_str_f he
        have HE := Lib.hid he; clear he
        go_wp2_with fail
        go_round
        case rel => exact ⟨k + 1, by omega, by go_num, fun q b hq hb => (by
          rcases Nat.lt_succ_iff_lt_or_eq.1 hq with h | h
          · exact HNO.out q b h hb
          · subst h
            have := HKA.out
            rw [hb] at this
            obtain rfl := Option.some.inj this
            exact HE.out)⟩
        case measure => simp [intOf]; omega
    · have hz : findZ L s = -1 := by unfold findZ; rw [findIx_none (fun q b hq hb => HNO.out q b (by omega) hb)]
      have HZ := Lib.hid hz; clear hz
      go_wp2_with fail
      go_ret
      exact ⟨ret_int HZ.out.symm, rfl⟩

theorem has_hit {l : List ByteArray} {s x : ByteArray} {k : Nat} (hk : l[k]? = some x) (he : x = s) : has l s = true := by
  subst he
  unfold has
  rw [List.any_eq_true]
  exact ⟨x, List.mem_of_getElem? hk, decide_eq_true rfl⟩
theorem has_none {l : List ByteArray} {s : ByteArray} (hno : ∀ (q : Nat) b, q < l.length → l[q]? = some b → ¬ b = s) : has l s = false := by
  unfold has
  rw [List.any_eq_false]
  intro x hx
  obtain ⟨q, hq, rfl⟩ := List.mem_iff_getElem.1 hx
  have := hno q l[q] hq (List.getElem?_eq_getElem hq)
  simpa using this

theorem has_calls (v : Value) (l : List ByteArray) (s : ByteArray) (w : World) (h : Strs w v l) :
    Calls Tryd.prog 76 #[v, .string s] w fun e w' => e = .returned (.bool (has l s)) ∧ w = w' := by
  obtain ⟨A, c, rfl, hlc, hcm, -⟩ := id h
  have H := Lib.hid h; clear h
  unfold maxLen at hcm
  go_enter Tryd.func76, Tryd.ntmps76
  go_wp2_with fail
  go_loop [5] (fun i => ∃ k : Nat, k ≤ l.length ∧ i = .int .i64 k ∧ ∀ (q : Nat) x, q < k → l[q]? = some x → ¬ x = s) (fun i => l.length - (intOf i).toNat)
  case atStart => exact ⟨0, by omega, rfl, fun q b hq => absurd hq (Nat.not_lt_zero q)⟩
  case round =>
    obtain ⟨k, hk, rfl, hno⟩ := hrel
    have HNO := Lib.hid hno; clear hno
    by_cases hlt : k < l.length
    · obtain ⟨x, hkx⟩ : ∃ x, l[k]? = some x := ⟨l[k], List.getElem?_eq_getElem hlt⟩
      obtain ⟨g, o, c', hv, _, h0⟩ := H.out.at_ hkx
      injection hv with e1 _ e3
      subst e1; subst e3
      have HKX := Lib.hid hkx; clear hkx
      by_cases he : x = s
      · have hbe := beq_str_t he
        have HZ := Lib.hid (has_hit HKX.out he)
        have HE := Lib.hid he; clear he
        go_wp2_with fail
        go_ret
        exact ⟨ret_bool HZ.out.symm, rfl⟩
      · have hbe := beq_str_f he
        have HE := Lib.hid he; clear he
        go_wp2_with fail
        go_round
        case rel => exact ⟨k + 1, by omega, by go_num, fun q b hq hb => (by
          rcases Nat.lt_succ_iff_lt_or_eq.1 hq with h | h
          · exact HNO.out q b h hb
          · subst h
            have := HKX.out
            rw [hb] at this
            obtain rfl := Option.some.inj this
            exact HE.out)⟩
        case measure => simp [intOf]; omega
    · have HZ := Lib.hid (has_none (fun q b hq hb => HNO.out q b (by omega) hb))
      go_wp2_with fail
      go_ret
      exact ⟨ret_bool HZ.out.symm, rfl⟩

theorem twice_step {l : List ByteArray} {k : Nat} {x : ByteArray} (hk : l[k]? = some x) : twiceFrom l (l.drop k) k = (has (l.take k) x || twiceFrom l (l.drop (k + 1)) (k + 1)) := by
  obtain ⟨hl, rfl⟩ := List.getElem?_eq_some_iff.1 hk
  rw [List.drop_eq_getElem_cons hl, twiceFrom]
theorem twice_hit {l : List ByteArray} {k : Nat} {x : ByteArray} (hk : l[k]? = some x) (ht : twiceFrom l (l.drop k) k = twice l) (hh : has (l.take k) x = true) : twice l = true := by
  rw [← ht, twice_step hk, hh, Bool.true_or]
theorem twice_miss {l : List ByteArray} {k : Nat} {x : ByteArray} (hk : l[k]? = some x) (ht : twiceFrom l (l.drop k) k = twice l) (hh : has (l.take k) x = false) : twiceFrom l (l.drop (k + 1)) (k + 1) = twice l := by
  rw [← ht, twice_step hk, hh, Bool.false_or]
theorem twice_end {l : List ByteArray} {k : Nat} (ht : twiceFrom l (l.drop k) k = twice l) (hk : l.length ≤ k) : twice l = false := by
  rw [← ht, List.drop_eq_nil_of_le hk, twiceFrom]

theorem twice_calls (v : Value) (l : List ByteArray) (w : World) (h : Strs w v l) :
    Calls Tryd.prog 70 #[v] w fun e w' => e = .returned (.bool (twice l)) ∧ Drawn w w' := by
  obtain ⟨A, c, rfl, hlc, hcm, -⟩ := id h
  have H := Lib.hid h; clear h
  unfold maxLen at hcm
  go_enter Tryd.func70, Tryd.ntmps70
  go_wp2_with fail
  go_loopw [3] (fun i wr => ∃ k : Nat, k ≤ l.length ∧ i = .int .i64 k ∧ Drawn w wr ∧ twiceFrom l (l.drop k) k = twice l) (fun i _ => l.length - (intOf i).toNat)
  case atStart => exact ⟨0, by omega, rfl, Drawn.refl w, rfl⟩
  case round =>
    obtain ⟨k, hk, rfl, hd, htw⟩ := hrel
    have HT := Lib.hid htw; clear htw
    have HD := Lib.hid hd; clear hd
    by_cases hlt : k < l.length
    · obtain ⟨x, hkx⟩ : ∃ x, l[k]? = some x := ⟨l[k], List.getElem?_eq_getElem hlt⟩
      obtain ⟨g, o, c', hv, _, h0⟩ := (H.out.drawn HD.out).at_ hkx
      injection hv with e1 _ e3
      subst e1; subst e3
      have HKX := Lib.hid hkx; clear hkx
      have HF := Lib.hid ((H.out.front (k := k) (by omega)).drawn HD.out)
      have i1 : (k : Int) < (l.length : Int) := by omega
      have i2 : (k : Int) ≤ (c : Int) := by omega
      have i3 : k ≤ c := by omega
      go_wp2_with fail
      go_quiet ((go_at_call 76; exact quietly (has_calls _ _ _ _ (HF.out.drewN _))))
      by_cases hh : has (l.take k) x = true
      · have HZ := Lib.hid (twice_hit HKX.out HT.out hh)
        rw [hh]
        clear hh
        go_wp2_with fail
        go_ret
        exact ⟨ret_bool HZ.out.symm, HD.out.next _⟩
      · rw [Bool.not_eq_true] at hh
        have HZ := Lib.hid (twice_miss HKX.out HT.out hh)
        rw [hh]
        clear hh
        go_wp2_with fail
        go_roundw
        case rel => exact ⟨k + 1, by omega, by go_num, HD.out.next _, HZ.out⟩
        case measure => simp [intOf]; omega
    · have HZ := Lib.hid (twice_end HT.out (by omega))
      go_wp2_with fail
      go_ret
      exact ⟨ret_bool HZ.out.symm, HD.out⟩
end Go.Proofs.YtlenlldiimohjaaDoor
