/-
  Package rules: Closes.
-/
import Derived.Test.YtlenlldiimohjaaDoorU19
import Derived.Deep.MidRow
namespace Go.Proofs.YtlenlldiimohjaaDoor
open Go.ChangeShapes Go.WideShapes Go.ChangeAt Go.RowKit

abbrev nodeL (n : Nd) : List Value := [.int .u64 n.path, .int .u64 n.parent, .string n.name, .int .u32 n.mode, .string n.uid, .string n.gid, .string n.muid, .int .u32 n.atime, .int .u32 n.mtime, .int .u32 n.vers, .int .u64 n.length, .int .i64 n.opens, .int .i64 n.kids]
abbrev factsL (n p : Nd) (taken full : Bool) : List Value := [.int .u64 n.path, .int .u64 n.parent, .string n.name, .int .u32 n.mode, .string n.uid, .string n.gid, .string n.muid, .int .u32 n.atime, .int .u32 n.mtime, .int .u32 n.vers, .int .u64 n.length, .int .i64 n.opens, .int .i64 n.kids, .int .u64 p.path, .int .u64 p.parent, .string p.name, .int .u32 p.mode, .string p.uid, .string p.gid, .string p.muid, .int .u32 p.atime, .int .u32 p.mtime, .int .u32 p.vers, .int .u64 p.length, .int .i64 p.opens, .int .i64 p.kids, .bool taken, .bool full]
/-- The facts lie in block q. -/
def FBlk (w : World) (q : Nat) (n p : Nd) (taken full : Bool) : Prop := Blk w q 36 (factsL n p taken full).toArray
/-- A node lies in block q. -/
def NBlk (w : World) (q : Nat) (n : Nd) : Prop := Blk w q 34 (nodeL n).toArray
theorem rangeAt_of {w : World} {q : Nat} {t : TypeId} {cs : Array Value} (h : Blk w q t cs) (o : Nat) (l : List Value) (hl : ∀ j v, l[j]? = some v → cs[o + j]? = some v) : w.rangeAt q o l := fun j v hv => (h.cell (o + j)).trans (hl j v hv)
theorem node_size : (Tryd.prog.info? 34).map (·.size) = some 13 := by kernel_rfl
theorem facts_size : (Tryd.prog.info? 36).map (·.size) = some 28 := by kernel_rfl
section
variable {w w' : World} {q : Nat} {n p : Nd} {taken full : Bool}
theorem FBlk.below (h : FBlk w q n p taken full) (hb : Below w.heap.size w w') : FBlk w' q n p taken full := Blk.below h hb (Blk.lt h)
theorem FBlk.drew (h : FBlk w q n p taken full) : FBlk w.drew q n p taken full := h
theorem NBlk.below (h : NBlk w q n) (hb : Below w.heap.size w w') : NBlk w' q n := Blk.below h hb (Blk.lt h)
theorem FBlk.new (w : World) (n p : Nd) (taken full : Bool) : FBlk (w.alloc (Obj.cells #[.int .u64 n.path, .int .u64 n.parent, .string n.name, .int .u32 n.mode, .string n.uid, .string n.gid, .string n.muid, .int .u32 n.atime, .int .u32 n.mtime, .int .u32 n.vers, .int .u64 n.length, .int .i64 n.opens, .int .i64 n.kids, .int .u64 p.path, .int .u64 p.parent, .string p.name, .int .u32 p.mode, .string p.uid, .string p.gid, .string p.muid, .int .u32 p.atime, .int .u32 p.mtime, .int .u32 p.vers, .int .u64 p.length, .int .i64 p.opens, .int .i64 p.kids, .bool taken, .bool full] 36)) w.heap.size n p taken full := Blk.new w _ _
theorem NBlk.new (w : World) (n : Nd) : NBlk (w.alloc (Obj.cells #[.int .u64 n.path, .int .u64 n.parent, .string n.name, .int .u32 n.mode, .string n.uid, .string n.gid, .string n.muid, .int .u32 n.atime, .int .u32 n.mtime, .int .u32 n.vers, .int .u64 n.length, .int .i64 n.opens, .int .i64 n.kids] 34)) w.heap.size n := Blk.new w _ _
theorem FBlk.rF (h : FBlk w q n p taken full) : w.rangeAt q 0 (factsL n p taken full) := rangeAt_of h 0 _ (fun j v hv => by rw [Nat.zero_add]; simpa using hv)
theorem FBlk.rN (h : FBlk w q n p taken full) : w.rangeAt q 0 (nodeL n) := rangeAt_of h 0 _ (fun j v hv => by
    have hj := (List.getElem?_eq_some_iff.1 hv).1
    rw [Nat.zero_add]
    have : (factsL n p taken full) = nodeL n ++ (nodeL p ++ [.bool taken, .bool full]) := rfl
    rw [List.getElem?_toArray, this, List.getElem?_append_left hj]
    exact hv)
theorem FBlk.rP (h : FBlk w q n p taken full) : w.rangeAt q 13 (nodeL p) := rangeAt_of h 13 _ (fun j v hv => by
    have hj := (List.getElem?_eq_some_iff.1 hv).1
    have : (factsL n p taken full) = nodeL n ++ (nodeL p ++ [.bool taken, .bool full]) := rfl
    rw [List.getElem?_toArray, this, List.getElem?_append_right (by simp), List.getElem?_append_left (by simpa using hj)]
    simpa using hv)
theorem NBlk.rN (h : NBlk w q n) : w.rangeAt q 0 (nodeL n) := rangeAt_of h 0 _ (fun j v hv => by rw [Nat.zero_add]; simpa using hv)
variable {ops : Array Oper} {rest : List Oper} {op : Oper} {a : Act} {Q : Exit → Act → World → Prop}
theorem wl_facts (hk : FBlk w q n p taken full) (hgd : op.guard = none) (x : Operand) (ho : op.op = .load 36 x) (hx : a.eval x = .pointer (some ⟨q, 0, none⟩)) (h : wpList Tryd.prog ops Q rest (a.put op.dst (factsV n p taken full)) w) : wpList Tryd.prog ops Q (op :: rest) a w :=
  wpList_load_mid hgd _ x ho q 0 hx (factsL n p taken full) _ hk.rF Tryd.underlying36 rfl facts_size h
theorem wl_node0 (hk : FBlk w q n p taken full) (hgd : op.guard = none) (x : Operand) (ho : op.op = .load 34 x) (hx : a.eval x = .pointer (some ⟨q, 0, none⟩)) (h : wpList Tryd.prog ops Q rest (a.put op.dst (nodeV n)) w) : wpList Tryd.prog ops Q (op :: rest) a w :=
  wpList_load_mid hgd _ x ho q 0 hx (nodeL n) _ hk.rN Tryd.underlying34 rfl node_size h
theorem wl_node1 (hk : FBlk w q n p taken full) (hgd : op.guard = none) (x : Operand) (ho : op.op = .load 34 x) (hx : a.eval x = .pointer (some ⟨q, 13, none⟩)) (h : wpList Tryd.prog ops Q rest (a.put op.dst (nodeV p)) w) : wpList Tryd.prog ops Q (op :: rest) a w :=
  wpList_load_mid hgd _ x ho q 13 hx (nodeL p) _ hk.rP Tryd.underlying34 rfl node_size h
theorem wl_node (hk : NBlk w q n) (hgd : op.guard = none) (x : Operand) (ho : op.op = .load 34 x) (hx : a.eval x = .pointer (some ⟨q, 0, none⟩)) (h : wpList Tryd.prog ops Q rest (a.put op.dst (nodeV n)) w) : wpList Tryd.prog ops Q (op :: rest) a w :=
  wpList_load_mid hgd _ x ho q 0 hx (nodeL n) _ hk.rN Tryd.underlying34 rfl node_size h
theorem FBlk.path (h : FBlk w q n p taken full) : w.cell? ⟨q, 0, none⟩ = some (.int .u64 n.path) := Blk.cell h 0
theorem FBlk.mode (h : FBlk w q n p taken full) : w.cell? ⟨q, 3, none⟩ = some (.int .u32 n.mode) := Blk.cell h 3
theorem FBlk.uid (h : FBlk w q n p taken full) : w.cell? ⟨q, 4, none⟩ = some (.string n.uid) := Blk.cell h 4
theorem FBlk.gid (h : FBlk w q n p taken full) : w.cell? ⟨q, 5, none⟩ = some (.string n.gid) := Blk.cell h 5
theorem FBlk.opens (h : FBlk w q n p taken full) : w.cell? ⟨q, 11, none⟩ = some (.int .i64 n.opens) := Blk.cell h 11
theorem FBlk.kids (h : FBlk w q n p taken full) : w.cell? ⟨q, 12, none⟩ = some (.int .i64 n.kids) := Blk.cell h 12
theorem FBlk.takenC (h : FBlk w q n p taken full) : w.cell? ⟨q, 26, none⟩ = some (.bool taken) := Blk.cell h 26
theorem FBlk.fullC (h : FBlk w q n p taken full) : w.cell? ⟨q, 27, none⟩ = some (.bool full) := Blk.cell h 27
end

set_option maxRecDepth 100000 in
set_option maxHeartbeats 1600000 in
theorem closes_calls (g : Nat) (L : List Acct) (u : ByteArray) (n p : Nd) (taken full : Bool) (w : World) (h : PTab w g L) (hn : n.ok) (hp : p.ok) (hu : u.size ≤ 16777216) :
    Calls Tryd.prog 29 #[.pointer (some ⟨g, 0, none⟩), .string u, factsV n p taken full] w fun e w' => e = .returned (.bool (removeS n (rights (decide (u = p.uid)) (isMember L u p.gid) p.mode) == 0)) ∧ Below w.heap.size w w' := by
  have HR := Lib.hid (RAt.box h (Obj.cells #[.int .u64 n.path, .int .u64 n.parent, .string n.name, .int .u32 n.mode, .string n.uid, .string n.gid, .string n.muid, .int .u32 n.atime, .int .u32 n.mtime, .int .u32 n.vers, .int .u64 n.length, .int .i64 n.opens, .int .i64 n.kids, .int .u64 p.path, .int .u64 p.parent, .string p.name, .int .u32 p.mode, .string p.uid, .string p.gid, .string p.muid, .int .u32 p.atime, .int .u32 p.mtime, .int .u32 p.vers, .int .u64 p.length, .int .i64 p.opens, .int .i64 p.kids, .bool taken, .bool full] 36)); clear h
  have HN := Lib.hid hn; clear hn
  have HPP := Lib.hid hp; clear hp
  have HK := Lib.hid (FBlk.new w n p taken full)
  go_enter Tryd.func29, Tryd.ntmps29
  go_upto_region 1 with (fail)
  generalize w.alloc (Obj.cells #[.int .u64 n.path, .int .u64 n.parent, .string n.name, .int .u32 n.mode, .string n.uid, .string n.gid, .string n.muid, .int .u32 n.atime, .int .u32 n.mtime, .int .u32 n.vers, .int .u64 n.length, .int .i64 n.opens, .int .i64 n.kids, .int .u64 p.path, .int .u64 p.parent, .string p.name, .int .u32 p.mode, .string p.uid, .string p.gid, .string p.muid, .int .u32 p.atime, .int .u32 p.mtime, .int .u32 p.vers, .int .u64 p.length, .int .i64 p.opens, .int .i64 p.kids, .bool taken, .bool full] 36) = w1 at HR HK ⊢
  go_wp2_with (refine wl_facts HK.out rfl _ rfl rfl ?_)
  refine (remove_calls g L u n p taken full _ HR.out.tab HN.out HPP.out hu).mono ?_
  rintro e w1 ⟨rfl, hb⟩
  replace HR := Lib.hid (HR.out.next hb); clear hb
  go_wp2_with fail
  go_ret
  exact ⟨rfl, HR.out.low⟩
end Go.Proofs.YtlenlldiimohjaaDoor
