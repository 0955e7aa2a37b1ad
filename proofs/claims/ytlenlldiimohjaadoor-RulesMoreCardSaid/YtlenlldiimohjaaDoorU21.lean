/-
  Package rules: made; the words for Create.
-/
import Derived.Test.YtlenlldiimohjaaDoorU20
namespace Go.Proofs.YtlenlldiimohjaaDoor
open Go.ChangeShapes Go.WideShapes Go.ChangeAt Go.RowKit

/-- The mode of a file that is made so. -/
def madeS (p m : Int) : Int := bits .andNot .u32 p (bits .andNot .u32 511 (if (bits .and .u32 p 2147483648 == 0) = true then bits .or .u32 (bits .and .u32 m 511) 73 else bits .and .u32 m 511))

theorem made_calls (p : Int) (n : Nd) (w : World) :
    Calls Tryd.prog 44 #[.int .u32 p, nodeV n] w fun e w' => e = .returned (.int .u32 (madeS p n.mode)) ∧ Below w.heap.size w w' := by
  go_enter Tryd.func44, Tryd.ntmps44
  go_wp2
  all_goals
    go_ret
    refine ⟨ret_int ?_, (Below.refl _ _).alloc (Nat.le_refl _) _⟩
    go_light
    simp_all [madeS]

theorem NBlk.store {w : World} {q : Nat} {n : Nd} (h : NBlk w q n) (m : Nd) : NBlk (w.setCells q 0 (nodeL m)) q m := by
  have := (((((((((((((Blk.set_ h 0 (.int .u64 m.path)).set_ 1 (.int .u64 m.parent)).set_ 2 (.string m.name)).set_ 3 (.int .u32 m.mode)).set_ 4 (.string m.uid)).set_ 5 (.string m.gid)).set_ 6 (.string m.muid)).set_ 7 (.int .u32 m.atime)).set_ 8 (.int .u32 m.mtime)).set_ 9 (.int .u32 m.vers)).set_ 10 (.int .u64 m.length)).set_ 11 (.int .i64 m.opens)).set_ 12 (.int .i64 m.kids))
  unfold NBlk
  simpa [World.setCells, nodeL] using this
theorem setCells_other (w : World) (b : Nat) : ∀ (vs : List Value) (o i : Nat), i ≠ b → (w.setCells b o vs).heap[i]? = w.heap[i]? := by
  intro vs
  induction vs generalizing w with
  | nil => intro o i _; rfl
  | cons v r ih =>
    intro o i hi
    rw [World.setCells, ih _ _ _ hi]
    exact Below.heap_setCell _ _ _ _ hi
theorem below_setCells {B : Nat} {w0 w : World} (h : Below B w0 w) {b : Nat} (hb : B ≤ b) : ∀ (vs : List Value) (o : Nat), Below B w0 (w.setCells b o vs) := by
  intro vs
  induction vs generalizing w with
  | nil => intro o; exact h
  | cons v r ih => intro o; exact ih (h.setCell hb v) (o + 1)
theorem size_setCells (w : World) (b : Nat) : ∀ (vs : List Value) (o : Nat), (w.setCells b o vs).heap.size = w.heap.size := by
  intro vs
  induction vs generalizing w with
  | nil => intro o; rfl
  | cons v r ih => intro o; rw [World.setCells, ih]; simp
theorem nodeV_cells (n : Nd) : (nodeL n).toArray.all (·.oneCell') = true := by simp [nodeL, Value.oneCell']

section
variable {ops : Array Oper} {rest : List Oper} {op : Oper} {a : Act} {w : World} {Q : Exit → Act → World → Prop} {q : Nat} {n0 n : Nd}
/-- A node is stored whole into a block of its own. -/
theorem wl_store (hk : NBlk w q n0) (n : Nd) (hgd : op.guard = none) (x y : Operand) (ho : op.op = .store 34 x y) (hx : a.eval x = .pointer (some ⟨q, 0, none⟩)) (hy : a.eval y = nodeV n)
    (h : ∀ w' : World, NBlk w' q n → (∀ i, i ≠ q → w'.heap[i]? = w.heap[i]?) → w'.heap.size = w.heap.size → (∀ B (v : World), Below B v w → B ≤ q → Below B v w') → wpList Tryd.prog ops Q rest (a.put op.dst undef) w') : wpList Tryd.prog ops Q (op :: rest) a w :=
  wpList_store_mid hgd _ x y ho q 0 (nodeL n).toArray hx hy (fun j hj => by
    have hj' : j < 13 := by simpa using hj
    rw [Nat.zero_add]
    refine ⟨?_, Blk.frozen hk j⟩
    rw [Blk.cell hk j, Array.getElem?_eq_getElem (by simpa using hj')]
    rfl) node_size (nodeV_cells n) (h _ (hk.store n) (fun i hi => setCells_other w q _ 0 i hi) (size_setCells w q _ 0) (fun B v hb hq => below_setCells hb hq _ 0))
end
theorem loadVar_node {w : World} {q : Nat} {n : Nd} (h : NBlk w q n) : (loadVar 34 ⟨q, 0, none⟩).run Tryd.prog w = .ok (nodeV n) w :=
  run_loadVar_mid w q 0 34 (nodeL n) _ h.rN Tryd.underlying34 rfl node_size

/-- Where a maker stands: the table, the facts, the block of the result, the empty node. -/
def CAt (w0 : World) (g : Nat) (L : List Acct) (n p : Nd) (taken full : Bool) (w : World) : Prop :=
  PTab w g L ∧ FBlk w w0.heap.size n p taken full ∧ NBlk w (w0.heap.size + 1) Nd.none ∧ NBlk w (w0.heap.size + 1 + 1) Nd.none ∧ Below w0.heap.size w0 w ∧ w0.heap.size + 1 + 1 < w.heap.size
section
variable {w0 w w' : World} {g : Nat} {L : List Acct} {n p : Nd} {taken full : Bool}
theorem CAt.next (h : CAt w0 g L n p taken full w) (hb : Below w.heap.size w w') : CAt w0 g L n p taken full w' := by
  obtain ⟨h1, h2, h3, h4, h5, h6⟩ := h
  exact ⟨h1.below hb, h2.below hb, h3.below hb, h4.below hb, h5.trans (hb.mono h5.size), Nat.lt_of_lt_of_le h6 hb.size⟩
theorem CAt.tab (h : CAt w0 g L n p taken full w) : PTab w g L := h.1
theorem CAt.fb (h : CAt w0 g L n p taken full w) : FBlk w w0.heap.size n p taken full := h.2.1
theorem CAt.rb (h : CAt w0 g L n p taken full w) : NBlk w (w0.heap.size + 1) Nd.none := h.2.2.1
theorem CAt.nb (h : CAt w0 g L n p taken full w) : NBlk w (w0.heap.size + 1 + 1) Nd.none := h.2.2.2.1
theorem CAt.low (h : CAt w0 g L n p taken full w) : Below w0.heap.size w0 w := h.2.2.2.2.1
theorem CAt.ready (h : CAt w0 g L n p taken full w) (hr : Ready w0) : Ready w := hr.below h.low (Nat.le_refl _)
theorem CAt.start (h : PTab w0 g L) (n p : Nd) (taken full : Bool) : CAt w0 g L n p taken full (((w0.alloc (Obj.cells #[.int .u64 n.path, .int .u64 n.parent, .string n.name, .int .u32 n.mode, .string n.uid, .string n.gid, .string n.muid, .int .u32 n.atime, .int .u32 n.mtime, .int .u32 n.vers, .int .u64 n.length, .int .i64 n.opens, .int .i64 n.kids, .int .u64 p.path, .int .u64 p.parent, .string p.name, .int .u32 p.mode, .string p.uid, .string p.gid, .string p.muid, .int .u32 p.atime, .int .u32 p.mtime, .int .u32 p.vers, .int .u64 p.length, .int .i64 p.opens, .int .i64 p.kids, .bool taken, .bool full] 36)).alloc (Obj.cells #[.int .u64 0, .int .u64 0, .string ⟨#[]⟩, .int .u32 0, .string ⟨#[]⟩, .string ⟨#[]⟩, .string ⟨#[]⟩, .int .u32 0, .int .u32 0, .int .u32 0, .int .u64 0, .int .i64 0, .int .i64 0] 34)).alloc (Obj.cells #[.int .u64 0, .int .u64 0, .string ⟨#[]⟩, .int .u32 0, .string ⟨#[]⟩, .string ⟨#[]⟩, .string ⟨#[]⟩, .int .u32 0, .int .u32 0, .int .u32 0, .int .u64 0, .int .i64 0, .int .i64 0] 34)) := by
  have up : ∀ (W : World) (o : Obj), Below W.heap.size W (W.alloc o) := fun W o => (Below.refl _ _).alloc (Nat.le_refl _) o
  have h1 := NBlk.new (w0.alloc (Obj.cells #[.int .u64 n.path, .int .u64 n.parent, .string n.name, .int .u32 n.mode, .string n.uid, .string n.gid, .string n.muid, .int .u32 n.atime, .int .u32 n.mtime, .int .u32 n.vers, .int .u64 n.length, .int .i64 n.opens, .int .i64 n.kids, .int .u64 p.path, .int .u64 p.parent, .string p.name, .int .u32 p.mode, .string p.uid, .string p.gid, .string p.muid, .int .u32 p.atime, .int .u32 p.mtime, .int .u32 p.vers, .int .u64 p.length, .int .i64 p.opens, .int .i64 p.kids, .bool taken, .bool full] 36)) Nd.none
  have h2 := NBlk.new ((w0.alloc (Obj.cells #[.int .u64 n.path, .int .u64 n.parent, .string n.name, .int .u32 n.mode, .string n.uid, .string n.gid, .string n.muid, .int .u32 n.atime, .int .u32 n.mtime, .int .u32 n.vers, .int .u64 n.length, .int .i64 n.opens, .int .i64 n.kids, .int .u64 p.path, .int .u64 p.parent, .string p.name, .int .u32 p.mode, .string p.uid, .string p.gid, .string p.muid, .int .u32 p.atime, .int .u32 p.mtime, .int .u32 p.vers, .int .u64 p.length, .int .i64 p.opens, .int .i64 p.kids, .bool taken, .bool full] 36)).alloc (Obj.cells #[.int .u64 0, .int .u64 0, .string ⟨#[]⟩, .int .u32 0, .string ⟨#[]⟩, .string ⟨#[]⟩, .string ⟨#[]⟩, .int .u32 0, .int .u32 0, .int .u32 0, .int .u64 0, .int .i64 0, .int .i64 0] 34)) Nd.none
  simp only [World.size_alloc] at h1 h2
  exact ⟨((h.below (up _ _)).below (up _ _)).below (up _ _), ((FBlk.new w0 n p taken full).below (up _ _)).below (up _ _), h1.below (up _ _), h2, (((Below.refl _ _).alloc (Nat.le_refl _) _).alloc (by simp) _).alloc (by simp [World.size_alloc]; omega) _, by simp only [World.size_alloc]; omega⟩
end

/-- The first of a making's errors. r: the rights on the directory. -/
def askS (n : Nd) (r : Int) (name : ByteArray) (perm m : Int) (taken full : Bool) : Int :=
  if isB n.mode 2147483648 = false then 93
  else if (checkS name != 0) = true then checkS name
  else if (permS perm != 0) = true then permS perm
  else if ((wantsP m).2 != 0) = true then (wantsP m).2
  else if ((bits .and .u32 perm 2147483648 != 0) = true ∧ (m != 0) = true) then 92
  else if mayB r 2 = false then 90
  else if taken = true then 95 else if full = true then 83 else 0
def madeN (n : Nd) (u name : ByteArray) (perm : Int) : Nd := ⟨0, n.path, name, madeS perm n.mode, u, n.gid, u, 0, 0, 0, 0, 0, 0⟩
/-- What is made, and the error. -/
def createS (n : Nd) (r : Int) (u name : ByteArray) (perm m : Int) (taken full : Bool) : Nd × Int :=
  if (askS n r name perm m taken full != 0) = true then (Nd.none, askS n r name perm m taken full) else (madeN n u name perm, 0)
end Go.Proofs.YtlenlldiimohjaaDoor
