/-
  Package users: Text.
-/
import Derived.Test.YtlenlldiimohjaaDoorU10
namespace Go.Proofs.YtlenlldiimohjaaDoor
open Go.ChangeShapes Go.WideShapes Go.ChangeAt Go.RowKit

theorem joinL_many (sep : List UInt8) (h : 1 ≤ sep.length) : ∀ l : List ByteArray, l.length ≤ (joinL sep l).length + 1
  | [] => by simp
  | [x] => by simp
  | x :: y :: l => by
    have ih := joinL_many sep h (y :: l)
    simp only [joinL, List.length_append, List.length_cons] at ih ⊢
    omega
theorem lineL_many (a : Acct) : a.members.length + 1 ≤ (lineL a).length := by
  have := joinL_many [44] (by simp) a.members
  rw [lineL_len]
  omega
theorem lineL_get {L : List Acct} {k : Nat} {a : Acct} (h : L[k]? = some a) : (textL (L.take k)).length + (lineL a).length ≤ (textL L).length := by
  have h1 := textL_take_le L (k + 1)
  rw [textL_take_succ h, List.length_append] at h1
  exact h1
theorem isBuilder_below {T e : TypeId} {B b : Nat} {bs : List Value} {w w' : World} (h : Lib.IsBuilder T e B b bs w) (hb : Below w.heap.size w w') : Lib.IsBuilder T e B b bs w' := by
  have key : ∀ {p : Value}, Lib.BuilderAt T e B b p bs w → Lib.BuilderAt T e B b p bs w' := fun ⟨h1, v, h2, h3, h4⟩ => ⟨h1, v, (hb.block b (heap_lt h2)).trans h2, own_below h3 hb, h4⟩
  rcases h with h | h
  · exact .inl (key h)
  · exact .inr (key h)
theorem isBuilder_new (w : World) : Lib.IsBuilder 143 5 w.heap.size w.heap.size [] (w.alloc (Obj.cells #[.pointer none, .slice none 0 0] 143)) :=
  .inl ⟨Nat.le_refl _, .slice none 0 0, Blk.new _ _ _, World.ownsRow_nil _ _ _ _, by simp [Value.ownBlock]⟩
theorem byteCells_line (l : List UInt8) (a : Acct) : Lib.byteCells l ++ Lib.strCells (ofL (lineL a)) = Lib.byteCells (l ++ lineL a) := by
  simp [Lib.byteCells, Lib.strCells, ofL]

set_option maxRecDepth 100000 in
set_option maxHeartbeats 1600000 in
theorem text_calls (g b : Nat) (L : List Acct) (w : World) (hT : UTab w g b L) (hl : (textL L).length ≤ 16777216) :
    Calls Tryd.prog 89 #[.pointer (some ⟨g, 0, none⟩)] w fun e w' => e = .returned (.string (ofL (textL L))) ∧ Below w.heap.size w w' := by
  obtain ⟨vl, iv, t1, t2, -⟩ := hT
  obtain ⟨A, c, rfl, hlc, hcm⟩ := t2.len
  unfold maxLen at hcm
  have HL := Lib.hid hl; clear hl
  have HA := Lib.hid t2; clear t2
  have HP := Lib.hid (show Below w.heap.size w (w.alloc (Obj.cells #[.pointer none, .slice none 0 0] 143)) from (Below.refl _ _).alloc (Nat.le_refl _) _)
  have HB := Lib.hid (isBuilder_new w)
  have c0 : (w.alloc (Obj.cells #[.pointer none, .slice none 0 0] 143)).cell? ⟨g, 0, none⟩ = some (.slice A L.length c) := (t1.alloc _).cell 0
  clear t1
  go_enter Tryd.func89, Tryd.ntmps89
  go_wp2_with fail
  go_loopw [11] (fun i wr => ∃ k : Nat, k ≤ L.length ∧ i = .int .i64 k ∧ Lib.IsBuilder 143 5 w.heap.size w.heap.size (Lib.byteCells (textL (L.take k))) wr ∧ Below w.heap.size w wr) (fun i _ => L.length - (intOf i).toNat)
  case atStart => exact ⟨0, by omega, rfl, HB.out, HP.out⟩
  case round =>
    obtain ⟨k, hk, rfl, hbu, hb⟩ := hrel
    have HBU := Lib.hid hbu; clear hbu
    have HBW := Lib.hid hb; clear hb
    clear c0 HB HP
    by_cases hlt : k < L.length
    · obtain ⟨a, hka⟩ : ∃ a, L[k]? = some a := ⟨L[k], List.getElem?_eq_getElem hlt⟩
      have hll := lineL_get hka
      have hlm := lineL_many a
      have hltx := HL.out
      have HA2 := Lib.hid (HA.out.below HBW.out (Nat.le_refl _))
      obtain ⟨g', o, c', mv, hv, _, hms, h0, h1, h2, h3, _⟩ := HA2.out.at_ hka
      injection hv with e1 _ e3
      subst e1; subst e3
      obtain ⟨Am, cm, rfl, -⟩ := id hms
      have HKA := Lib.hid hka; clear hka
      have HMS := Lib.hid (hms.alloc (Obj.cells #[.string a.name, .string a.leader, .slice Am a.members.length cm, .string a.key] 104)); clear hms
      have HBU2 := Lib.hid (isBuilder_below HBU.out ((Below.refl _ _).alloc (Nat.le_refl _) (Obj.cells #[.string a.name, .string a.leader, .slice Am a.members.length cm, .string a.key] 104)))
      have HBW2 := Lib.hid (HBW.out.alloc HBW.out.size (Obj.cells #[.string a.name, .string a.leader, .slice Am a.members.length cm, .string a.key] 104))
      generalize hTK : textL (L.take k) = TK at hll HBU2
      have HTK := Lib.hid hTK; clear hTK
      have HLL := Lib.hid hll; clear hll
      have HLM := Lib.hid hlm; clear hlm
      have HLTX := Lib.hid hltx; clear hltx
      go_wp2_with fail
      refine (written_calls a (.slice Am a.members.length cm) _ HMS.out (by have := HLL.out; have := HLTX.out; omega) (by have := HLL.out; have := HLTX.out; have := HLM.out; omega)).mono ?_
      rintro e w1 ⟨rfl, hb1⟩
      have HBU3 := Lib.hid (isBuilder_below HBU2.out hb1)
      have HBW3 := Lib.hid (HBW2.out.trans (hb1.mono HBW2.out.size))
      clear hb1
      go_wp2_with fail
      refine (writeString_calls w.heap.size w.heap.size (Lib.byteCells TK) (ofL (lineL a)) _ HBU3.out (by have := HLL.out; have := HLTX.out; rw [ofL_size, show (Lib.byteCells TK).length = TK.length from List.length_map ..]; omega) HBW3.out.size).mono ?_
      rintro e w2 ⟨rfl, hb2, hb3⟩
      rw [byteCells_line] at hb2
      have HBU4 := Lib.hid hb2; clear hb2
      have HBW4 := Lib.hid (HBW3.out.trans hb3); clear hb3
      go_wp2_with fail
      go_roundw
      case rel => exact ⟨k + 1, by omega, by go_num, .inr (by rw [textL_take_succ HKA.out, HTK.out]; exact HBU4.out), HBW4.out⟩
      case measure => simp [intOf]; omega
    · have HBU2 := Lib.hid (show Lib.IsBuilder 143 5 w.heap.size w.heap.size (Lib.byteCells (textL L)) wr from by have := HBU.out; rwa [List.take_of_length_le (by omega)] at this)
      go_wp2_with fail
      refine (Tryd.Builder_String_any w.heap.size w.heap.size (textL L) _ HBU2.out HBW.out.size).mono ?_
      rintro e w1 ⟨rfl, hb1⟩
      have HB1 := Lib.hid (HBW.out.trans hb1); clear hb1
      go_wp2_with fail
      go_ret
      exact ⟨rfl, HB1.out⟩
end Go.Proofs.YtlenlldiimohjaaDoor
