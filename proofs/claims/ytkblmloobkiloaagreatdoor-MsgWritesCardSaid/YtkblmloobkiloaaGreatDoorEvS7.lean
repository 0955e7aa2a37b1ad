
/-
  The evaluator: a function without parameters that the evaluator finds true returns true, whatever the memory. Conditions: none.
-/
import Derived.Test.YtkblmloobkiloaaGreatDoorEvS5
import Derived.Test.YtkblmloobkiloaaGreatDoorEvS6
namespace Go.Proofs.YtkblmloobkiloaaGreatDoor.Ev
open Go.RowKit

def isTrue : Option (AE × AS) → Bool
  | some (.ret (.g (.bool true)), _) => true
  | _ => false
theorem run_true {ext : FuncId → Option Ext} {P : Program} (hX : ExtOk ext P) {L k : Nat} {f : FuncId} (h : isTrue (evFn ext P L k f [] ⟨.e, 0⟩) = true) (w : World) : Calls P f #[] w fun e w' => e = .returned (.bool true) ∧ Below w.heap.size w w' := by
  unfold isTrue at h
  split at h
  · rename_i s he
    obtain ⟨-, hc⟩ := evFn_sound (w0 := w) hX (fun cl hC => draw_ok hX hC) L k f [] ⟨.e, 0⟩ _ s he
    refine (hc (fun _ => none) w [] ⟨fun _ _ => rfl, fun i o h => ?_, fun i j o p b x y h => ?_, Below.refl _ _⟩ .nil).mono ?_
    · cases h
    · cases h
    · rintro E w' ⟨σ, h1, h2, h3⟩
      cases E with
      | returned v =>
        have h3 : V σ (.g (.bool true)) v := h3
        rw [h3.g']
        exact ⟨rfl, h2.up⟩
      | panicked c => exact h3.elim
      | outgrown => exact h3.elim
  · cases h
/-- The functions without a body that are met: two, by number. -/
def ext2 (a b : FuncId) : FuncId → Option Ext := fun f => match Nat.beq f a with
  | true => some .same
  | false => match Nat.beq f b with
    | true => some .noZero
    | false => none
theorem ext2_ok {P : Program} {a b : FuncId} {fa fb : Func} (hnum : (P.funcs.all fun fn => !(fn.name == "runtime.NumGoroutine")) = true) (ha : P.funcs[a]? = some fa) (ha1 : fa.body.isNone = true) (ha2 : Extern.findNext fa = none) (ha3 : Extern.find fa = some Extern.AbiNoEscape.same) (hb : P.funcs[b]? = some fb) (hb1 : fb.body.isNone = true) (hb2 : Extern.findNext fb = none) (hb3 : Extern.find fb = some (Extern.BytealgMakeNoZero.makeNoZero fb.params fb.resultTypes)) : ExtOk (ext2 a b) P := by
  have nm : ∀ {f : FuncId} {fn : Func}, P.funcs[f]? = some fn → (fn.name == "runtime.NumGoroutine") = false := fun {f fn} h => by
    have := Array.all_eq_true_iff_forall_mem.1 hnum fn (Array.mem_of_getElem? h)
    simpa using this
  refine ⟨fun f fn _ h1 h2 args w => ?_, fun f h x w => ?_, fun f h => ?_⟩
  · have h3 : fn.name ≠ "runtime.NumGoroutine" := by simpa using nm h1
    obtain ⟨c, hc⟩ := Option.isSome_iff_exists.1 h2
    simp [callFunc, h1, h3, hc]
  · unfold ext2 at h
    split at h
    · rename_i hf
      obtain rfl := Nat.eq_of_beq_eq_true hf
      rw [run_callFunc_extern ha (nm ha) ha1 ha2 ha3]
      rfl
    · split at h <;> cases h
  · unfold ext2 at h
    split at h
    · cases h
    · split at h
      · rename_i hf
        obtain rfl := Nat.eq_of_beq_eq_true hf
        exact ⟨fb, hb, fun args w => run_callFunc_extern hb (nm hb) hb1 hb2 hb3 args w⟩
      · cases h
end Go.Proofs.YtkblmloobkiloaaGreatDoor.Ev
