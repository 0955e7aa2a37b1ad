/-
  Proved: 'verger/vergerlaw07.AuthNumbers' (a closed sentence) returns true. No condition.
  The frame was written by the kit's proof-skeleton.mjs.
-/
import Derived.Test.YtbomphggifdlaaaRows
import Derived.WalkKit
import Derived.Test.YtbomphggifdlaaaSumWalk
import Derived.ProofKit
import Derived.OpenShut
import Derived.ShutString
namespace Go.Proofs.Ytbomphggifdlaaa.authNumbers
open Go.ChangeShapes Go.WideShapes Go.ChangeAt Go.RowKit SumLaw
open Go.ChangeMaps (open_string shut_string)
set_option linter.unusedVariables false      -- a walk need not use every 'w<i>' (that an integer argument fits its kind)

theorem own : ownKnob Try.prog.godebug = none := by kernel_rfl

/-- THE WALK. -/
theorem walk (w : World) : Calls Try.prog 4 #[] w fun e w' => e = .returned (.bool true) ∧ Below w.heap.size w w' := by
  go_enter Try.func4, Try.ntmps4
  go_wp2_with fail
  have hc : ∀ j, j < [(1 : Int), 2].length → (w.alloc (Obj.cells #[Value.int IntKind.u64 1, Value.int IntKind.u64 2] 24)).cell? ⟨w.heap.size, 0 + j, none⟩ = some (.int .u64 ([(1 : Int), 2].getD j 0)) := by
    intro j hj
    refine cells_new w [Value.int IntKind.u64 1, Value.int IntKind.u64 2] 24 j _ ?_
    match j, hj with
    | 0, _ => rfl
    | 1, _ => rfl
  refine (sum_calls (ByteArray.mk #[107, 101, 121, 49]) w.heap.size 0 2 [1, 2] _ (by decide) (by simp [maxLen]) hc).mono ?_
  rintro e w' ⟨rfl, rfl⟩
  clear hc
  have e1 : sumZ (ByteArray.mk #[107, 101, 121, 49]).data.toList [1, 2] = 11722038120726599400 := by decide +kernel
  rw [e1]
  clear e1
  go_wp2_with fail
  refine (ours_calls _ _ _ _ (by decide +kernel)).mono ?_
  rintro e w' ⟨rfl, hg⟩
  have e2 : sumZ [] [7, 1, 2] = 14620588263945413318 := by decide +kernel
  rw [e2]
  clear e2
  have HG := Lib.hid hg; clear hg
  go_wp2
  go_ret
  exact ⟨rfl, ((Below.refl _ _).alloc (Nat.le_refl _) _).trans (HG.out.mono (by simp))⟩

/-! ### THE ROW's STEP: WRITTEN OUT: LEAVE IT -/
set_option maxRecDepth 100000 in
theorem lifted (os : Os) (started : os.Started) (H : Type) (enc : TypeId × Value → H) :
    ReturnsInHanded {} Try.checked os 4 .any (Rows.authNumbersSpec.pre6 enc Try.prog Try.f4 Rows.authNumbersRow.domain false) (Rows.authNumbersSpec.post enc Try.prog Try.f4 false true false false) := by
  refine returnsInHanded_of_change (C := Try.checked) own started (by kernel_rfl) Try.func4
    (ChangeSpec.witness6 (enc := enc) (C := Try.checked) false ⟨#[], #[], []⟩ 8 (by kernel_rfl) (by kernel_rfl) (by kernel_rfl) (by kernel_rfl)) ?_
  intro W base args ds gs before hval0 hW hcnd _
  have hval : ∀ (j : Nat) t v, Try.f4.params[j]? = some t → args[j]? = some v → Value.okWide Try.prog W .any base t v := hval0
  have hW' := hW
  obtain ⟨p, q, hA0, hV, rfl, hfz, hnd⟩ := hW
  have hA : DataW.TrodAll enc Try.prog W 0 (fun _ => true) true Try.f4.params.toList args.toList ds p := hA0
  rw [Try.params4] at hA hval
  obtain ⟨rfl, rfl, rfl⟩ := trodAll_none hA
  obtain ⟨rfl, rfl⟩ := trodVars_none hV
  clear hA0 hval0
  simp only [List.append_nil] at hW'
  refine (walk  W).mono fun e W' ⟨he, bel⟩ => ?_
  subst he
  exact ⟨_, rfl, _, _, _, [], [], [], hW', (trodAll_cons_mk (shut_bool Try.underlying4 _) trodAll_mk0), trodAll_mk0, rfl, bel.frame _, fun h => by cases h⟩

theorem over : Rows.authNumbersRow.holds Try.pinned (OpenSpec.ofChange Rows.authNumbersSpec) :=
  OpenClaim.holds_of_wide 4 Try.f4 rfl rfl rfl rfl rfl rfl rfl ⟨rfl, rfl, rfl, rfl, rfl⟩ rfl rfl rfl rfl rfl (by kernel_rfl) Try.func4 (by kernel_rfl)
    (of_decide_eq_true (by kernel_rfl)) (by unfold Func.isWrapper; first | (rw [if_pos (by decide +kernel)]; kernel_rfl) | (rw [if_neg (by decide +kernel)]; exact ⟨rfl, rfl⟩))
    (fun os started H enc _ => lifted os started H enc)

/-- ████ THE STATEMENT ████ -/
theorem proved : Rows.AuthNumbersSaid :=
  over
#print axioms proved
end Go.Proofs.Ytbomphggifdlaaa.authNumbers
