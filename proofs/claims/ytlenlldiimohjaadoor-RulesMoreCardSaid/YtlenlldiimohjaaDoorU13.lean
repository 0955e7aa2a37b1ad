/-
  Package users: guard and its deferred closure.
-/
import Derived.Test.YtlenlldiimohjaaDoorU12
import Derived.Defers
import Derived.Recover
import Derived.WalkLawsBesides
namespace Go.Proofs.YtlenlldiimohjaaDoor
open Go.ChangeShapes Go.WideShapes Go.ChangeAt Go.RowKit

theorem assert_trouble (er : Int) (w : World) : (Instr.typeAssert (.iface 130 (.agg #[.int .i64 er])) 20 130 true).run Tryd.prog w = .ok (.tuple #[.agg #[.int .i64 er], .bool true]) w := by kernel_rfl

set_option maxRecDepth 100000 in
set_option maxHeartbeats 1600000 in
theorem catch_panicking (q : Nat) (x er : Int) (older : List PanicEntry) (w : World) (hq : Blk w q 25 #[.int .i64 x]) :
    CallsD Tryd.prog 85 #[.pointer (some ⟨q, 0, none⟩)] (.panicking ({ v := .iface 130 (.agg #[.int .i64 er]), recovered := false } :: older)) w fun e u' w' =>
      e = .returned (.tuple #[]) ∧ u' = .panicking ({ v := .iface 130 (.agg #[.int .i64 er]), recovered := true } :: older) ∧ w' = (w.alloc (.cells #[.int .i64 er] 130)).setCell ⟨q, 0, none⟩ (.int .i64 er) := by
  have hc := (hq.alloc (.cells #[.int .i64 er] 130)).cell 0
  have hz := (hq.alloc (.cells #[.int .i64 er] 130)).frozen 0
  clear hq
  refine callsD_of_wpS Tryd.func85 rfl fun c₀ cs hu => ?_
  apply wpS_seq
  apply wpS_region
  simp [wpOpsS, go_sem, recoverD, hu, Tryd.ntmps85, Exit.thenS]
  have key : ∀ V p : Value, #[p] ++ ((Array.replicate 16 undef).setIfInBounds 3 V).setIfInBounds 0 V = #[p, V, undef, undef, V, undef, undef, undef, undef, undef, undef, undef, undef, undef, undef, undef, undef] := fun _ _ => rfl
  rw [key]
  clear key
  have hta := assert_trouble er
  refine wpS_of_wp ?_
  go_wp2
  cases c₀
  simp_all [bodyPostS, results, Tryd.results85]

set_option maxRecDepth 100000 in
theorem catch_idle (p : Addr) (w : World) :
    CallsD Tryd.prog 85 #[.pointer (some p)] .returning w fun e u' w' => e = .returned (.tuple #[]) ∧ u' = .returning ∧ w' = w := by
  refine callsD_of_wpS Tryd.func85 rfl fun c₀ cs hu => ?_
  apply wpS_seq
  apply wpS_region
  simp [wpOpsS, go_sem, recoverD, hu, Tryd.ntmps85, Exit.thenS]
  generalize hT : #[Value.pointer (some p)] ++ ((Array.replicate 16 undef).setIfInBounds 3 Value.nilIface).setIfInBounds 0 Value.nilIface = T
  obtain rfl : T = #[Value.pointer (some p), Value.nilIface, undef, undef, Value.nilIface, undef, undef, undef, undef, undef, undef, undef, undef, undef, undef, undef, undef] := hT.symm.trans rfl
  clear hT
  refine wpS_of_wp ?_
  go_wp2
  cases c₀
  simp_all [bodyPostS, results, Tryd.results85]

/-- What guard is told of the function that it calls: from the world w on (in which the error lies in block q) it returns, or gives up by an error. -/
def Tried (q : Nat) (R : Option Int → World → Prop) (e : Ending) (w' : World) : Prop :=
  Blk w' q 25 #[.int .i64 0] ∧ ((e = .returned (.tuple #[]) ∧ R none w') ∨ ∃ er, e = gaveUp er ∧ R (some er) w')
/-- What guard does. -/
def Guarded (q : Nat) (R : Option Int → World → Prop) (e : Ending) (w' : World) : Prop :=
  ∃ r w1, R r w1 ∧ Blk w1 q 25 #[.int .i64 0] ∧ e = .returned (.int .i64 (r.getD 0)) ∧ Below q w1 w' ∧ ∀ i, i < w1.heap.size → i ≠ q → w'.heap[i]? = w1.heap[i]?

set_option maxRecDepth 100000 in
set_option maxHeartbeats 1600000 in
theorem guard_calls (K : Nat) (caps : Array Value) (w : World) (R : Option Int → World → Prop)
    (hent : ∀ w, Sem.run Tryd.prog (callFunc K caps) w = .ok (.enter K caps) w) (H : Calls Tryd.prog K caps (w.alloc (.cells #[.int .i64 0] 25)) (Tried w.heap.size R)) :
    Calls Tryd.prog 58 #[.func (.func K) #[] caps] w (Guarded w.heap.size R) := by
  have hmf : ∀ (fn : Fn) (first cap : Array Value) (w : World), (Instr.makeFunc fn first cap).run Tryd.prog w = .ok (.func fn first cap) w := fun _ _ _ _ => rfl
  have HH := Lib.hid H; clear H
  go_enter_defers Tryd.func58, Tryd.ntmps58
  go_wp2_with fail
  refine HH.out.mono ?_
  clear hent
  rintro e w1 ⟨hq, ⟨rfl, hr⟩ | ⟨er, rfl, hr⟩⟩
  · have HR := Lib.hid hr; clear hr
    have c0 := hq.cell 0
    have f0 := hq.frozen 0
    have HQ := Lib.hid hq; clear hq
    go_wp2_with fail
    clear c0 f0
    have hb := HQ.out.set_ 0 (.int .i64 0)
    have c0 : (w1.setCell ⟨w.heap.size, 0, none⟩ (.int .i64 0)).cell? ⟨w.heap.size, 0, none⟩ = some (.int .i64 0) := hb.cell 0
    clear hb
    refine leaves_cons (f := 85) (args := #[.pointer (some ⟨w.heap.size, 0, none⟩)]) (by simp) (by simp [go_sem]) ?_
    refine (catch_idle _ _).mono ?_
    rintro e u' w'' ⟨rfl, rfl, rfl⟩
    refine ⟨.int .i64 0, by simp [results, Tryd.results58, go_sem, c0], ?_⟩
    exact ⟨none, w1, HR.out, HQ.out, rfl, (Below.refl _ _).setCell (p := ⟨w.heap.size, 0, none⟩) (Nat.le_refl _) _, fun i _ hi => Below.heap_setCell _ _ _ _ hi⟩
  · have HR := Lib.hid hr; clear hr
    have HQ := Lib.hid hq; clear hq
    show bodyPostD _ _ _ _ _ _
    refine leaves_cons (f := 85) (args := #[.pointer (some ⟨w.heap.size, 0, none⟩)]) (by simp) (by simp [go_sem]) ?_
    refine (catch_panicking _ _ _ _ _ HQ.out).mono ?_
    rintro e u' w'' ⟨rfl, rfl, rfl⟩
    have hb := (HQ.out.alloc (.cells #[.int .i64 er] 130)).set_ 0 (.int .i64 er)
    have c0 : ((w1.alloc (.cells #[.int .i64 er] 130)).setCell ⟨w.heap.size, 0, none⟩ (.int .i64 er)).cell? ⟨w.heap.size, 0, none⟩ = some (.int .i64 er) := hb.cell 0
    clear hb
    refine ⟨.int .i64 er, by simp [results, Tryd.results58, go_sem, c0], ?_⟩
    exact ⟨some er, w1, HR.out, HQ.out, rfl, ((Below.refl _ _).alloc (Nat.le_of_lt HQ.out.lt) _).setCell (p := ⟨w.heap.size, 0, none⟩) (Nat.le_refl _) _, fun i hl hi => (Below.heap_setCell _ _ _ _ hi).trans (Below.heap_alloc _ _ _ hl)⟩
end Go.Proofs.YtlenlldiimohjaaDoor
