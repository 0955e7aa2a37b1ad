/-
  Proved: 'verger/vergerlaw03.MsgNames' (a closed sentence) returns true. No condition.
  The frame was written by the kit's proof-skeleton.mjs.
-/
import Derived.Test.YtbomphggifdlaaaRows
import Derived.WalkKit
import Derived.Lib.Hide
import Derived.Test.YtbomphggifdlaaaRowOf
import Derived.ProofKit
import Derived.OpenShut
import Derived.ShutString
namespace Go.Proofs.Ytbomphggifdlaaa.msgNames
open Go.ChangeShapes Go.WideShapes Go.ChangeAt Go.RowKit
open Go.ChangeMaps (open_string shut_string)
set_option linter.unusedVariables false      -- a walk need not use every 'w<i>' (that an integer argument fits its kind)

theorem own : ownKnob Try.prog.godebug = none := by kernel_rfl

def lawNames : List (List UInt8) := [[84, 118, 101, 114, 115, 105, 111, 110], [82, 118, 101, 114, 115, 105, 111, 110], [84, 97, 117, 116, 104], [82, 97, 117, 116, 104], [84, 97, 116, 116, 97, 99, 104], [82, 97, 116, 116, 97, 99, 104], [], [82, 101, 114, 114, 111, 114], [84, 102, 108, 117, 115, 104], [82, 102, 108, 117, 115, 104], [84, 119, 97, 108, 107], [82, 119, 97, 108, 107], [84, 111, 112, 101, 110], [82, 111, 112, 101, 110], [84, 99, 114, 101, 97, 116, 101], [82, 99, 114, 101, 97, 116, 101], [84, 114, 101, 97, 100], [82, 114, 101, 97, 100], [84, 119, 114, 105, 116, 101], [82, 119, 114, 105, 116, 101], [84, 99, 108, 117, 110, 107], [82, 99, 108, 117, 110, 107], [84, 114, 101, 109, 111, 118, 101], [82, 114, 101, 109, 111, 118, 101], [84, 115, 116, 97, 116], [82, 115, 116, 97, 116], [84, 119, 115, 116, 97, 116], [82, 119, 115, 116, 97, 116]]

/-- The names in the law's own list. -/
theorem name_is (i : Nat) (hi : i < 28) : nameAt (rowIx (100 + (i : Int))) = ⟨(lawNames.getD i []).toArray⟩ := by
  match i, hi with
  | 0, _ => rfl
  | 1, _ => rfl
  | 2, _ => rfl
  | 3, _ => rfl
  | 4, _ => rfl
  | 5, _ => rfl
  | 6, _ => rfl
  | 7, _ => rfl
  | 8, _ => rfl
  | 9, _ => rfl
  | 10, _ => rfl
  | 11, _ => rfl
  | 12, _ => rfl
  | 13, _ => rfl
  | 14, _ => rfl
  | 15, _ => rfl
  | 16, _ => rfl
  | 17, _ => rfl
  | 18, _ => rfl
  | 19, _ => rfl
  | 20, _ => rfl
  | 21, _ => rfl
  | 22, _ => rfl
  | 23, _ => rfl
  | 24, _ => rfl
  | 25, _ => rfl
  | 26, _ => rfl
  | 27, _ => rfl
  | i + 28, h => exact absurd h (by omega)

def namesArr : Array Value := #[Value.string { data := #[84, 118, 101, 114, 115, 105, 111, 110] }, Value.string { data := #[82, 118, 101, 114, 115, 105, 111, 110] }, Value.string { data := #[84, 97, 117, 116, 104] }, Value.string { data := #[82, 97, 117, 116, 104] }, Value.string { data := #[84, 97, 116, 116, 97, 99, 104] }, Value.string { data := #[82, 97, 116, 116, 97, 99, 104] }, Value.string { data := #[] }, Value.string { data := #[82, 101, 114, 114, 111, 114] }, Value.string { data := #[84, 102, 108, 117, 115, 104] }, Value.string { data := #[82, 102, 108, 117, 115, 104] }, Value.string { data := #[84, 119, 97, 108, 107] }, Value.string { data := #[82, 119, 97, 108, 107] }, Value.string { data := #[84, 111, 112, 101, 110] }, Value.string { data := #[82, 111, 112, 101, 110] }, Value.string { data := #[84, 99, 114, 101, 97, 116, 101] }, Value.string { data := #[82, 99, 114, 101, 97, 116, 101] }, Value.string { data := #[84, 114, 101, 97, 100] }, Value.string { data := #[82, 114, 101, 97, 100] }, Value.string { data := #[84, 119, 114, 105, 116, 101] }, Value.string { data := #[82, 119, 114, 105, 116, 101] }, Value.string { data := #[84, 99, 108, 117, 110, 107] }, Value.string { data := #[82, 99, 108, 117, 110, 107] }, Value.string { data := #[84, 114, 101, 109, 111, 118, 101] }, Value.string { data := #[82, 114, 101, 109, 111, 118, 101] }, Value.string { data := #[84, 115, 116, 97, 116] }, Value.string { data := #[82, 115, 116, 97, 116] }, Value.string { data := #[84, 119, 115, 116, 97, 116] }, Value.string { data := #[82, 119, 115, 116, 97, 116] }]
def kindsArr : Array Value := #[Value.int IntKind.u8 100, Value.int IntKind.u8 101, Value.int IntKind.u8 102, Value.int IntKind.u8 103, Value.int IntKind.u8 104, Value.int IntKind.u8 105, Value.int IntKind.u8 106, Value.int IntKind.u8 107, Value.int IntKind.u8 108, Value.int IntKind.u8 109, Value.int IntKind.u8 110, Value.int IntKind.u8 111, Value.int IntKind.u8 112, Value.int IntKind.u8 113, Value.int IntKind.u8 114, Value.int IntKind.u8 115, Value.int IntKind.u8 116, Value.int IntKind.u8 117, Value.int IntKind.u8 118, Value.int IntKind.u8 119, Value.int IntKind.u8 120, Value.int IntKind.u8 121, Value.int IntKind.u8 122, Value.int IntKind.u8 123, Value.int IntKind.u8 124, Value.int IntKind.u8 125, Value.int IntKind.u8 126, Value.int IntKind.u8 127]
theorem namesArr_at (i : Nat) (hi : i < 28) : namesArr[i]? = some (.string ⟨(lawNames.getD i []).toArray⟩) := by
  match i, hi with
  | 0, _ => rfl
  | 1, _ => rfl
  | 2, _ => rfl
  | 3, _ => rfl
  | 4, _ => rfl
  | 5, _ => rfl
  | 6, _ => rfl
  | 7, _ => rfl
  | 8, _ => rfl
  | 9, _ => rfl
  | 10, _ => rfl
  | 11, _ => rfl
  | 12, _ => rfl
  | 13, _ => rfl
  | 14, _ => rfl
  | 15, _ => rfl
  | 16, _ => rfl
  | 17, _ => rfl
  | 18, _ => rfl
  | 19, _ => rfl
  | 20, _ => rfl
  | 21, _ => rfl
  | 22, _ => rfl
  | 23, _ => rfl
  | 24, _ => rfl
  | 25, _ => rfl
  | 26, _ => rfl
  | 27, _ => rfl
  | i + 28, h => exact absurd h (by omega)
theorem kindsArr_at (i : Nat) (hi : i < 28) : kindsArr[i]? = some (.int .u8 (100 + (i : Int))) := by
  match i, hi with
  | 0, _ => rfl
  | 1, _ => rfl
  | 2, _ => rfl
  | 3, _ => rfl
  | 4, _ => rfl
  | 5, _ => rfl
  | 6, _ => rfl
  | 7, _ => rfl
  | 8, _ => rfl
  | 9, _ => rfl
  | 10, _ => rfl
  | 11, _ => rfl
  | 12, _ => rfl
  | 13, _ => rfl
  | 14, _ => rfl
  | 15, _ => rfl
  | 16, _ => rfl
  | 17, _ => rfl
  | 18, _ => rfl
  | 19, _ => rfl
  | 20, _ => rfl
  | 21, _ => rfl
  | 22, _ => rfl
  | 23, _ => rfl
  | 24, _ => rfl
  | 25, _ => rfl
  | 26, _ => rfl
  | 27, _ => rfl
  | i + 28, h => exact absurd h (by omega)
def errsArr : Array Value := #[.int .i64 30, .int .i64 31, .int .i64 32, .int .i64 33, .int .i64 34]
theorem errsArr_at (i : Nat) (hi : i < 5) : errsArr[i]? = some (.int .i64 (30 + (i : Int))) := by
  match i, hi with
  | 0, _ => rfl
  | 1, _ => rfl
  | 2, _ => rfl
  | 3, _ => rfl
  | 4, _ => rfl
  | i + 5, h => exact absurd h (by omega)

/-- THE WALK. -/
theorem walk (w : World) : Calls Try.prog 6 #[] w fun e w' => e = .returned (.bool true) ∧ Below w.heap.size w w' := by
  go_enter Try.func6, Try.ntmps6
  go_wp2_with fail
  have hb0 : Below w.heap.size w ((w.alloc (Obj.cells namesArr 9)).alloc (Obj.cells kindsArr 32)) := ((Below.refl _ _).alloc (Nat.le_refl _) _).alloc (by simp) _
  have hn0 : Blk ((w.alloc (Obj.cells namesArr 9)).alloc (Obj.cells kindsArr 32)) w.heap.size 9 namesArr := (Blk.new w 9 namesArr).alloc _
  have hk0 : Blk ((w.alloc (Obj.cells namesArr 9)).alloc (Obj.cells kindsArr 32)) (w.heap.size + 1) 32 kindsArr := by
    have := Blk.new (w.alloc (Obj.cells namesArr 9)) 32 kindsArr
    rw [World.size_alloc] at this
    exact this
  have hz0 : ((w.alloc (Obj.cells namesArr 9)).alloc (Obj.cells kindsArr 32)).heap.size = w.heap.size + 2 := by simp
  change Code.wp _ _ _ _ ((w.alloc (Obj.cells namesArr 9)).alloc (Obj.cells kindsArr 32))
  generalize (w.alloc (Obj.cells namesArr 9)).alloc (Obj.cells kindsArr 32) = w0 at hb0 hn0 hk0 hz0 ⊢
  have HB0 := Lib.hid hb0; clear hb0
  have HN0 := Lib.hid hn0; clear hn0
  have HK0 := Lib.hid hk0; clear hk0
  have HZ0 := Lib.hid hz0; clear hz0
  go_loopw [3] (fun c wr => ∃ i : Nat, i ≤ 28 ∧ c = .int .i64 i ∧ Below w0.heap.size w0 wr) (fun c _ => 28 - (intOf c).toNat)
  case atStart => exact ⟨0, by omega, rfl, Below.refl _ _⟩
  case round =>
    obtain ⟨i, hi, rfl, hb⟩ := hrel
    have HB := Lib.hid hb; clear hb
    by_cases hlt : i < 28
    · have hnm := name_is i hlt
      have HNM := Lib.hid hnm; clear hnm
      go_wp2_with fail
      refine (name_calls _ _).mono ?_
      rintro e w1 ⟨rfl, hb1⟩
      have HB1 := Lib.hid (HB.out.trans (hb1.mono HB.out.size)); clear hb1
      rw [HNM.out]
      have c0 : w1.cell? ⟨w.heap.size + 1, i, none⟩ = some (.int .u8 (100 + (i : Int))) := by
        rw [HB1.out.cell (p := ⟨w.heap.size + 1, i, none⟩) (by show w.heap.size + 1 < _; rw [HZ0.out]; omega), HK0.out.cell, kindsArr_at i hlt]
      have c1 : w1.cell? ⟨w.heap.size, i, none⟩ = some (.string ⟨(lawNames.getD i []).toArray⟩) := by
        rw [HB1.out.cell (p := ⟨w.heap.size, i, none⟩) (by show w.heap.size < _; rw [HZ0.out]; omega), HN0.out.cell, namesArr_at i hlt]
      generalize (⟨(lawNames.getD i []).toArray⟩ : ByteArray) = nm at c1 ⊢
      go_wp2_with fail
      go_roundw
      case rel => exact ⟨i + 1, by omega, by go_num, HB1.out⟩
      case measure => simp [intOf]; omega
    · go_wp2_with fail
      have he1 : Blk (wr.alloc (Obj.cells errsArr 35)) wr.heap.size 35 errsArr := Blk.new _ _ _
      have hb1 : Below w.heap.size w (wr.alloc (Obj.cells errsArr 35)) := HB0.out.trans ((HB.out.alloc HB.out.size _).mono (by rw [HZ0.out]; omega))
      change Code.wp _ _ _ _ (wr.alloc (Obj.cells errsArr 35))
      generalize wr.alloc (Obj.cells errsArr 35) = w1 at he1 hb1 ⊢
      have HE1 := Lib.hid he1; clear he1
      have HB1 := Lib.hid hb1; clear hb1
      go_loop [6] (fun c => ∃ q : Nat, q ≤ 5 ∧ c = .int .i64 q) (fun c => 5 - (intOf c).toNat)
      case atStart => exact ⟨0, by omega, rfl⟩
      case round =>
        obtain ⟨q, hq, rfl⟩ := hrel
        by_cases hq5 : q < 5
        · have c0 : w1.cell? ⟨wr.heap.size, q, none⟩ = some (.int .i64 (30 + (q : Int))) := by rw [HE1.out.cell, errsArr_at q hq5]
          go_wp2_with fail
          go_round
          case rel => exact ⟨q + 1, by omega, by go_num⟩
          case measure => simp [intOf]; omega
        · go_wp2_with fail
          go_ret
          exact ⟨rfl, HB1.out⟩

/-! ### THE ROW's STEP: WRITTEN OUT: LEAVE IT -/
set_option maxRecDepth 100000 in
theorem lifted (os : Os) (started : os.Started) (H : Type) (enc : TypeId × Value → H) :
    ReturnsInHanded {} Try.checked os 6 .any (Rows.msgNamesSpec.pre6 enc Try.prog Try.f6 Rows.msgNamesRow.domain false) (Rows.msgNamesSpec.post enc Try.prog Try.f6 false true false false) := by
  refine returnsInHanded_of_change (C := Try.checked) own started (by kernel_rfl) Try.func6
    (ChangeSpec.witness6 (enc := enc) (C := Try.checked) false ⟨#[], #[], []⟩ 8 (by kernel_rfl) (by kernel_rfl) (by kernel_rfl) (by kernel_rfl)) ?_
  intro W base args ds gs before hval0 hW hcnd _
  have hval : ∀ (j : Nat) t v, Try.f6.params[j]? = some t → args[j]? = some v → Value.okWide Try.prog W .any base t v := hval0
  have hW' := hW
  obtain ⟨p, q, hA0, hV, rfl, hfz, hnd⟩ := hW
  have hA : DataW.TrodAll enc Try.prog W 0 (fun _ => true) true Try.f6.params.toList args.toList ds p := hA0
  rw [Try.params6] at hA hval
  obtain ⟨rfl, rfl, rfl⟩ := trodAll_none hA
  obtain ⟨rfl, rfl⟩ := trodVars_none hV
  clear hA0 hval0
  simp only [List.append_nil] at hW'
  refine (walk  W).mono fun e W' ⟨he, bel⟩ => ?_
  subst he
  exact ⟨_, rfl, _, _, _, [], [], [], hW', (trodAll_cons_mk (shut_bool Try.underlying4 _) trodAll_mk0), trodAll_mk0, rfl, bel.frame _, fun h => by cases h⟩

theorem over : Rows.msgNamesRow.holds Try.pinned (OpenSpec.ofChange Rows.msgNamesSpec) :=
  OpenClaim.holds_of_wide 6 Try.f6 rfl rfl rfl rfl rfl rfl rfl ⟨rfl, rfl, rfl, rfl, rfl⟩ rfl rfl rfl rfl rfl (by kernel_rfl) Try.func6 (by kernel_rfl)
    (of_decide_eq_true (by kernel_rfl)) (by unfold Func.isWrapper; first | (rw [if_pos (by decide +kernel)]; kernel_rfl) | (rw [if_neg (by decide +kernel)]; exact ⟨rfl, rfl⟩))
    (fun os started H enc _ => lifted os started H enc)

/-- ████ THE STATEMENT ████ -/
theorem proved : Rows.MsgNamesSaid :=
  over
#print axioms proved
end Go.Proofs.Ytbomphggifdlaaa.msgNames
