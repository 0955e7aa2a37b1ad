/-
  V0 V1 V2 W1 W2 AWords HexL Shelf2 AHex ATalk AKey ATalk2: what AuthDoes needs of them.
-/
import Derived.Test.YtlenlldiimohjaaGreatDoorQ05
import Derived.Test.YtlenlldiimohjaaGreatDoorQ01
import Derived.Deep.RegionHeld3
import Derived.Deep.Light
import Derived.Deep.MidRow
import Derived.Test.YtlenlldiimohjaaGreatDoorQ03
import Derived.Test.YtlenlldiimohjaaGreatDoorQ04
import Derived.Test.YtlenlldiimohjaaGreatDoorTie
import Derived.ProofKit
import Derived.OpenShut
import Derived.LaidMore
import Derived.Lay
import Derived.SevenTiedAt
import Derived.Stop.Joined
import Derived.HandedShaped
import Derived.Lib.LaidU8
import Derived.Shelf.Vars
import Derived.LoopTactic
import Derived.Laws.StructEq
import Derived.Maps.AppendAt
import Derived.OwnWalk
import Derived.WalkKit
import Derived.Shelf.Strings.Builder1
import Derived.Shelf.Strings.Builder2
import Derived.Shelf.Strings.OnBuilder
import Derived.Shelf.Small.Utf8
import Derived.Shelf.Small.Strs
import Derived.Shelf.Strings.BuilderF
import Derived.Shelf.Strings.BuilderK
import Derived.Shelf.Strings.Builder2Cap
import Derived.Shelf.Strconv.Itoa0
import Derived.Shelf.LaysM
import Derived.Shelf.Strconv.Clone
import Derived.Shelf.Strconv.SyntaxError
import Derived.Shelf.LaysC
import Derived.Shelf.Strconv.ToError
import Derived.Shelf.Strconv.Lower
import Derived.Shelf.Strconv.RangeError
import Derived.Shelf.Strconv.ToErrorRange
import Derived.Ground.MpProg
import Derived.Shelf.Pu.ParseUintPublic10
import Derived.Shelf.Pu.ErrVarParseUint
import Derived.Shelf.Strings.Search1
import Derived.Shelf.Strings.Search2
import Derived.Shelf.Strings.Search3
import Derived.Shelf.Strings.Count
import Derived.Shelf.Strings.Shaped
import Derived.Shelf.Strings.Prefix
import Derived.Shelf.Strings.Split
import Derived.Shelf.Strings.SplitShaped
import Derived.Shelf.Unicode.Decode
import Derived.Shelf.Strings.Runes
import Derived.Shelf.Strings.RuneCount
import Derived.Shelf.Strings.Explode
import Derived.Shelf.Bits.Mul64
import Derived.Shelf.Strings.Repeat
import Derived.Shelf.Unicode.DecodeSlow
import Derived.Shelf.Unicode.DecodeAny
import Derived.Shelf.Strings.BuilderCap
import Derived.Shelf.Slices.Turned
import Derived.Test.YtlenlldiimohjaaGreatDoorProg
import Derived.Test.YtlenlldiimohjaaGreatDoorQ02
import Derived.Laws.IdiomStrings
import Derived.Lib.Hide
import Derived.Deep.DeepCutAuto
namespace Go.Proofs.YtlenlldiimohjaaGreatDoor
open Go.ChangeShapes Go.WideShapes Go.ChangeAt Go.RowKit

end Go.Proofs.YtlenlldiimohjaaGreatDoor

namespace Go.Proofs.YtlenlldiimohjaaGreatDoor
open Go.ChangeShapes Go.WideShapes Go.ChangeAt Go.RowKit

/-- The table, and how far the call has come. -/
def RAt (w0 : World) (g : Nat) (L : List Acct) (w : World) : Prop := PTab w g L ∧ Below w0.heap.size w0 w ∧ w0.heap.size < w.heap.size
theorem RAt.next {w0 w w' : World} {g : Nat} {L : List Acct} (h : RAt w0 g L w) (hb : Below w.heap.size w w') : RAt w0 g L w' := ⟨h.1.below hb, h.2.1.trans (hb.mono h.2.1.size), Nat.lt_of_lt_of_le h.2.2 hb.size⟩
theorem RAt.box {w0 : World} {g : Nat} {L : List Acct} (h : PTab w0 g L) (o : Obj) : RAt w0 g L (w0.alloc o) := ⟨h.below ((Below.refl _ _).alloc (Nat.le_refl _) o), (Below.refl _ _).alloc (Nat.le_refl _) o, by simp⟩

theorem RAt.tab {w0 w : World} {g : Nat} {L : List Acct} (h : RAt w0 g L w) : PTab w g L := h.1
theorem RAt.low {w0 w : World} {g : Nat} {L : List Acct} (h : RAt w0 g L w) : Below w0.heap.size w0 w := h.2.1
theorem RAt.lt {w0 w : World} {g : Nat} {L : List Acct} (h : RAt w0 g L w) : w0.heap.size < w.heap.size := h.2.2

end Go.Proofs.YtlenlldiimohjaaGreatDoor

namespace Go.Proofs.YtlenlldiimohjaaGreatDoor
open Go.ChangeShapes Go.WideShapes Go.ChangeAt Go.RowKit

abbrev nodeL (n : Nd) : List Value := [.int .u64 n.path, .int .u64 n.parent, .string n.name, .int .u32 n.mode, .string n.uid, .string n.gid, .string n.muid, .int .u32 n.atime, .int .u32 n.mtime, .int .u32 n.vers, .int .u64 n.length, .int .i64 n.opens, .int .i64 n.kids]
abbrev factsL (n p : Nd) (taken full : Bool) : List Value := [.int .u64 n.path, .int .u64 n.parent, .string n.name, .int .u32 n.mode, .string n.uid, .string n.gid, .string n.muid, .int .u32 n.atime, .int .u32 n.mtime, .int .u32 n.vers, .int .u64 n.length, .int .i64 n.opens, .int .i64 n.kids, .int .u64 p.path, .int .u64 p.parent, .string p.name, .int .u32 p.mode, .string p.uid, .string p.gid, .string p.muid, .int .u32 p.atime, .int .u32 p.mtime, .int .u32 p.vers, .int .u64 p.length, .int .i64 p.opens, .int .i64 p.kids, .bool taken, .bool full]
/-- The facts lie in block q. -/
def FBlk (w : World) (q : Nat) (n p : Nd) (taken full : Bool) : Prop := Blk w q 27 (factsL n p taken full).toArray
/-- A node lies in block q. -/
def NBlk (w : World) (q : Nat) (n : Nd) : Prop := Blk w q 25 (nodeL n).toArray
theorem facts_size : (Tryz.prog.info? 27).map (·.size) = some 28 := by kernel_rfl
section
variable {w w' : World} {q : Nat} {n p : Nd} {taken full : Bool}
theorem FBlk.below (h : FBlk w q n p taken full) (hb : Below w.heap.size w w') : FBlk w' q n p taken full := Blk.below h hb (Blk.lt h)
theorem FBlk.drew (h : FBlk w q n p taken full) : FBlk w.drew q n p taken full := h
theorem NBlk.below (h : NBlk w q n) (hb : Below w.heap.size w w') : NBlk w' q n := Blk.below h hb (Blk.lt h)
theorem FBlk.new (w : World) (n p : Nd) (taken full : Bool) : FBlk (w.alloc (Obj.cells #[.int .u64 n.path, .int .u64 n.parent, .string n.name, .int .u32 n.mode, .string n.uid, .string n.gid, .string n.muid, .int .u32 n.atime, .int .u32 n.mtime, .int .u32 n.vers, .int .u64 n.length, .int .i64 n.opens, .int .i64 n.kids, .int .u64 p.path, .int .u64 p.parent, .string p.name, .int .u32 p.mode, .string p.uid, .string p.gid, .string p.muid, .int .u32 p.atime, .int .u32 p.mtime, .int .u32 p.vers, .int .u64 p.length, .int .i64 p.opens, .int .i64 p.kids, .bool taken, .bool full] 27)) w.heap.size n p taken full := Blk.new w _ _
theorem NBlk.new (w : World) (n : Nd) : NBlk (w.alloc (Obj.cells #[.int .u64 n.path, .int .u64 n.parent, .string n.name, .int .u32 n.mode, .string n.uid, .string n.gid, .string n.muid, .int .u32 n.atime, .int .u32 n.mtime, .int .u32 n.vers, .int .u64 n.length, .int .i64 n.opens, .int .i64 n.kids] 25)) w.heap.size n := Blk.new w _ _
variable {ops : Array Oper} {rest : List Oper} {op : Oper} {a : Act} {Q : Exit → Act → World → Prop}
theorem FBlk.path (h : FBlk w q n p taken full) : w.cell? ⟨q, 0, none⟩ = some (.int .u64 n.path) := Blk.cell h 0
theorem FBlk.mode (h : FBlk w q n p taken full) : w.cell? ⟨q, 3, none⟩ = some (.int .u32 n.mode) := Blk.cell h 3
theorem FBlk.uid (h : FBlk w q n p taken full) : w.cell? ⟨q, 4, none⟩ = some (.string n.uid) := Blk.cell h 4
theorem FBlk.gid (h : FBlk w q n p taken full) : w.cell? ⟨q, 5, none⟩ = some (.string n.gid) := Blk.cell h 5
theorem FBlk.opens (h : FBlk w q n p taken full) : w.cell? ⟨q, 11, none⟩ = some (.int .i64 n.opens) := Blk.cell h 11
theorem FBlk.kids (h : FBlk w q n p taken full) : w.cell? ⟨q, 12, none⟩ = some (.int .i64 n.kids) := Blk.cell h 12
end

end Go.Proofs.YtlenlldiimohjaaGreatDoor

namespace Go.Proofs.YtlenlldiimohjaaGreatDoor
open Go.ChangeShapes Go.WideShapes Go.ChangeAt Go.RowKit

end Go.Proofs.YtlenlldiimohjaaGreatDoor

namespace Go.Proofs.YtlenlldiimohjaaGreatDoor
open Go.ChangeShapes Go.WideShapes Go.ChangeAt Go.RowKit

theorem NBlk.store {w : World} {q : Nat} {n : Nd} (h : NBlk w q n) (m : Nd) : NBlk (w.setCells q 0 (nodeL m)) q m := by
  have := (((((((((((((Blk.set_ h 0 (.int .u64 m.path)).set_ 1 (.int .u64 m.parent)).set_ 2 (.string m.name)).set_ 3 (.int .u32 m.mode)).set_ 4 (.string m.uid)).set_ 5 (.string m.gid)).set_ 6 (.string m.muid)).set_ 7 (.int .u32 m.atime)).set_ 8 (.int .u32 m.mtime)).set_ 9 (.int .u32 m.vers)).set_ 10 (.int .u64 m.length)).set_ 11 (.int .i64 m.opens)).set_ 12 (.int .i64 m.kids))
  unfold NBlk
  simpa [World.setCells, nodeL] using this
theorem setCells_other (w : World) (b : Nat) : ∀ (vs : List Value) (o i : Nat), i ≠ b → (w.setCells b o vs).heap[i]? = w.heap[i]? := by
  intro vs
  induction vs generalizing w with
  | nil => intro o i _; rfl
  | cons v r ih =>
    intro o i hi
    rw [World.setCells, ih _ _ _ hi]
    exact Below.heap_setCell _ _ _ _ hi
theorem below_setCells {B : Nat} {w0 w : World} (h : Below B w0 w) {b : Nat} (hb : B ≤ b) : ∀ (vs : List Value) (o : Nat), Below B w0 (w.setCells b o vs) := by
  intro vs
  induction vs generalizing w with
  | nil => intro o; exact h
  | cons v r ih => intro o; exact ih (h.setCell hb v) (o + 1)
section
variable {ops : Array Oper} {rest : List Oper} {op : Oper} {a : Act} {w : World} {Q : Exit → Act → World → Prop} {q : Nat} {n0 n : Nd}
end
/-- Where a maker stands: the table, the facts, the block of the result, the empty node. -/
def CAt (w0 : World) (g : Nat) (L : List Acct) (n p : Nd) (taken full : Bool) (w : World) : Prop :=
  PTab w g L ∧ FBlk w w0.heap.size n p taken full ∧ NBlk w (w0.heap.size + 1) Nd.none ∧ NBlk w (w0.heap.size + 1 + 1) Nd.none ∧ Below w0.heap.size w0 w ∧ w0.heap.size + 1 + 1 < w.heap.size
section
variable {w0 w w' : World} {g : Nat} {L : List Acct} {n p : Nd} {taken full : Bool}
theorem CAt.next (h : CAt w0 g L n p taken full w) (hb : Below w.heap.size w w') : CAt w0 g L n p taken full w' := by
  obtain ⟨h1, h2, h3, h4, h5, h6⟩ := h
  exact ⟨h1.below hb, h2.below hb, h3.below hb, h4.below hb, h5.trans (hb.mono h5.size), Nat.lt_of_lt_of_le h6 hb.size⟩
theorem CAt.tab (h : CAt w0 g L n p taken full w) : PTab w g L := h.1
theorem CAt.fb (h : CAt w0 g L n p taken full w) : FBlk w w0.heap.size n p taken full := h.2.1
theorem CAt.rb (h : CAt w0 g L n p taken full w) : NBlk w (w0.heap.size + 1) Nd.none := h.2.2.1
theorem CAt.nb (h : CAt w0 g L n p taken full w) : NBlk w (w0.heap.size + 1 + 1) Nd.none := h.2.2.2.1
theorem CAt.low (h : CAt w0 g L n p taken full w) : Below w0.heap.size w0 w := h.2.2.2.2.1
theorem CAt.ready (h : CAt w0 g L n p taken full w) (hr : Ready w0) : Ready w := hr.below h.low (Nat.le_refl _)
theorem CAt.start (h : PTab w0 g L) (n p : Nd) (taken full : Bool) : CAt w0 g L n p taken full (((w0.alloc (Obj.cells #[.int .u64 n.path, .int .u64 n.parent, .string n.name, .int .u32 n.mode, .string n.uid, .string n.gid, .string n.muid, .int .u32 n.atime, .int .u32 n.mtime, .int .u32 n.vers, .int .u64 n.length, .int .i64 n.opens, .int .i64 n.kids, .int .u64 p.path, .int .u64 p.parent, .string p.name, .int .u32 p.mode, .string p.uid, .string p.gid, .string p.muid, .int .u32 p.atime, .int .u32 p.mtime, .int .u32 p.vers, .int .u64 p.length, .int .i64 p.opens, .int .i64 p.kids, .bool taken, .bool full] 27)).alloc (Obj.cells #[.int .u64 0, .int .u64 0, .string ⟨#[]⟩, .int .u32 0, .string ⟨#[]⟩, .string ⟨#[]⟩, .string ⟨#[]⟩, .int .u32 0, .int .u32 0, .int .u32 0, .int .u64 0, .int .i64 0, .int .i64 0] 25)).alloc (Obj.cells #[.int .u64 0, .int .u64 0, .string ⟨#[]⟩, .int .u32 0, .string ⟨#[]⟩, .string ⟨#[]⟩, .string ⟨#[]⟩, .int .u32 0, .int .u32 0, .int .u32 0, .int .u64 0, .int .i64 0, .int .i64 0] 25)) := by
  have up : ∀ (W : World) (o : Obj), Below W.heap.size W (W.alloc o) := fun W o => (Below.refl _ _).alloc (Nat.le_refl _) o
  have h1 := NBlk.new (w0.alloc (Obj.cells #[.int .u64 n.path, .int .u64 n.parent, .string n.name, .int .u32 n.mode, .string n.uid, .string n.gid, .string n.muid, .int .u32 n.atime, .int .u32 n.mtime, .int .u32 n.vers, .int .u64 n.length, .int .i64 n.opens, .int .i64 n.kids, .int .u64 p.path, .int .u64 p.parent, .string p.name, .int .u32 p.mode, .string p.uid, .string p.gid, .string p.muid, .int .u32 p.atime, .int .u32 p.mtime, .int .u32 p.vers, .int .u64 p.length, .int .i64 p.opens, .int .i64 p.kids, .bool taken, .bool full] 27)) Nd.none
  have h2 := NBlk.new ((w0.alloc (Obj.cells #[.int .u64 n.path, .int .u64 n.parent, .string n.name, .int .u32 n.mode, .string n.uid, .string n.gid, .string n.muid, .int .u32 n.atime, .int .u32 n.mtime, .int .u32 n.vers, .int .u64 n.length, .int .i64 n.opens, .int .i64 n.kids, .int .u64 p.path, .int .u64 p.parent, .string p.name, .int .u32 p.mode, .string p.uid, .string p.gid, .string p.muid, .int .u32 p.atime, .int .u32 p.mtime, .int .u32 p.vers, .int .u64 p.length, .int .i64 p.opens, .int .i64 p.kids, .bool taken, .bool full] 27)).alloc (Obj.cells #[.int .u64 0, .int .u64 0, .string ⟨#[]⟩, .int .u32 0, .string ⟨#[]⟩, .string ⟨#[]⟩, .string ⟨#[]⟩, .int .u32 0, .int .u32 0, .int .u32 0, .int .u64 0, .int .i64 0, .int .i64 0] 25)) Nd.none
  simp only [World.size_alloc] at h1 h2
  exact ⟨((h.below (up _ _)).below (up _ _)).below (up _ _), ((FBlk.new w0 n p taken full).below (up _ _)).below (up _ _), h1.below (up _ _), h2, (((Below.refl _ _).alloc (Nat.le_refl _) _).alloc (by simp) _).alloc (by simp [World.size_alloc]; omega) _, by simp only [World.size_alloc]; omega⟩
end

end Go.Proofs.YtlenlldiimohjaaGreatDoor

namespace Go.Proofs.YtlenlldiimohjaaGreatDoor
open Go.ChangeShapes Go.WideShapes Go.ChangeAt Go.RowKit

section
variable {n : Nd} {r : Int} {u name : ByteArray} {perm m : Int} {taken full : Bool} {e : Int}
end

end Go.Proofs.YtlenlldiimohjaaGreatDoor
namespace Go.Proofs.YtlenlldiimohjaaGreatDoor

def glendaB : ByteArray := ⟨#[103, 108, 101, 110, 100, 97]⟩
def sysB : ByteArray := ⟨#[115, 121, 115]⟩
def bobB : ByteArray := ⟨#[98, 111, 98]⟩
def eveB : ByteArray := ⟨#[101, 118, 101]⟩
def peopleL : List Acct := [⟨glendaB, ⟨#[]⟩, [], ⟨#[]⟩⟩, ⟨sysB, glendaB, [bobB], ⟨#[]⟩⟩, ⟨bobB, ⟨#[]⟩, [], ⟨#[]⟩⟩, ⟨eveB, ⟨#[]⟩, [], ⟨#[]⟩⟩]
end Go.Proofs.YtlenlldiimohjaaGreatDoor

namespace Go.Proofs.YtlenlldiimohjaaGreatDoor
open Go.ChangeShapes Go.WideShapes Go.ChangeAt Go.RowKit

theorem NBlk.zero (w : World) : NBlk (w.alloc (Obj.cells #[.int .u64 0, .int .u64 0, .string ⟨#[]⟩, .int .u32 0, .string ⟨#[]⟩, .string ⟨#[]⟩, .string ⟨#[]⟩, .int .u32 0, .int .u32 0, .int .u32 0, .int .u64 0, .int .i64 0, .int .i64 0] 25)) w.heap.size Nd.none := NBlk.new w Nd.none

def nA : Nd := ⟨7, 0, ⟨#[]⟩, 416, bobB, sysB, ⟨#[]⟩, 0, 0, 0, 0, 0, 0⟩
/-- Where known stands: the table, the nodes laid so far. -/
def KAt (w0 : World) (g : Nat) (bs : List (Nat × Nd)) (w : World) : Prop := PTab w g peopleL ∧ Below w0.heap.size w0 w ∧ Ready w ∧ ∀ x ∈ bs, NBlk w x.1 x.2
section
variable {w0 w w' : World} {g : Nat} {bs : List (Nat × Nd)}
theorem KAt.next (h : KAt w0 g bs w) (hb : Below w.heap.size w w') : KAt w0 g bs w' :=
  ⟨h.1.below hb, h.2.1.trans (hb.mono h.2.1.size), h.2.2.1.below hb (Nat.le_refl _), fun x hx => (h.2.2.2 x hx).below hb⟩
theorem KAt.add (h : KAt w0 g bs w) (hb : Below w.heap.size w w') {q : Nat} {n : Nd} (hn : NBlk w' q n) : KAt w0 g ((q, n) :: bs) w' :=
  ⟨h.1.below hb, h.2.1.trans (hb.mono h.2.1.size), h.2.2.1.below hb (Nat.le_refl _), fun x hx => by
    rcases List.mem_cons.1 hx with rfl | hx
    · exact hn
    · exact (h.2.2.2 x hx).below hb⟩
theorem KAt.start (hr : Ready w0) (hb : Below w0.heap.size w0 w) (hp : PTab w g peopleL) : KAt w0 g [] w := ⟨hp, hb, hr.below hb (Nat.le_refl _), fun _ h => absurd h (by simp)⟩
theorem KAt.tab (h : KAt w0 g bs w) : PTab w g peopleL := h.1
theorem KAt.low (h : KAt w0 g bs w) : Below w0.heap.size w0 w := h.2.1
theorem KAt.ready (h : KAt w0 g bs w) : Ready w := h.2.2.1
theorem KAt.n0 {q : Nat} {n : Nd} (h : KAt w0 g ((q, n) :: bs) w) : NBlk w q n := h.2.2.2 (q, n) (by simp)
theorem KAt.n1 {x : Nat × Nd} {q : Nat} {n : Nd} (h : KAt w0 g (x :: (q, n) :: bs) w) : NBlk w q n := h.2.2.2 (q, n) (by simp)
theorem KAt.n2 {x y : Nat × Nd} {q : Nat} {n : Nd} (h : KAt w0 g (x :: y :: (q, n) :: bs) w) : NBlk w q n := h.2.2.2 (q, n) (by simp)
end

end Go.Proofs.YtlenlldiimohjaaGreatDoor
namespace Go.Proofs.YtlenlldiimohjaaGreatDoor
open Go.ChangeShapes Go.WideShapes Go.ChangeAt Go.RowKit
section
variable {H : Type} {enc : TypeId × Value → H}
end

theorem own_ : ownKnob Tryz.prog.godebug = none := by kernel_rfl
theorem laidOut_ : laidOutB Tryz.prog = true := by kernel_rfl
theorem first_eq : (Rows.laid_unicode_utf8_first : DataW Unit) = Lib.firstData := by kernel_rfl
theorem accept_eq : (Rows.laid_unicode_utf8_acceptRanges : DataW Unit) = Lib.acceptData := by kernel_rfl
end Go.Proofs.YtlenlldiimohjaaGreatDoor

namespace Go.Proofs.YtlenlldiimohjaaGreatDoor
open Go.ChangeShapes Go.WideShapes Go.ChangeAt Go.RowKit
section
variable {H : Type} {enc : TypeId × Value → H}
theorem inHanded_sized {a : Assume} {C : Checked} {os : Os} {f : FuncId} {fn : Func} {s : ChangeSpec} {conds : List PathCond} {apart fresh handsOn again : Bool} {X : World → Array Value → Prop}
    (hX : ∀ (w w' : World) (args : Array Value), w.heap = w'.heap → X w args → X w' args)
    (own : ownKnob C.prog.godebug = none) (started : os.Started) (noInit : C.prog.inits.idxOf? f = none) (hfn : C.prog.funcs[f]? = some fn)
    (witness : ∃ (w : World) (tape : Tape) (i : Input), w.os = os ∧ (w.forCall tape i).Shaped C.prog ∧ i.vars = [] ∧ Input.okWide C.prog (w.forCall tape i) .any w.heap.size f i ∧
      ((s.pre enc C.prog fn conds apart (w.forCall tape i).memory i.args ∧ X (w.forCall tape i).memory i.args) ∧ sizedMet enc C.prog fn (OpenSpec.ofChange s) apart (w.forCall tape i).memory i.args) ∧ a.holds C.prog (lone (Frame.enter C.prog f i.args .normal) [] (w.forCall tape i)))
    (contract : ∀ (W : World) (base : Nat) (args : Array Value) (ds gs : List (DataW H)) (before : List MemPlace),
      (∀ (j : Nat) t v, fn.params[j]? = some t → args[j]? = some v → Value.okWide C.prog W .any base t v) →
      DataW.Whole enc C.prog fn.params.toList s.vars apart W args.toList ds gs before →
      (DataW.weightsEach C.prog (fn.params.toList ++ s.plain.varTypes C.prog) (ds ++ gs)).all (· ≤ reachBytes) = true →
      X W args → W.ShapedOpen C.prog →
      Calls C.prog f args W fun e W' => ∃ v, e = .returned v ∧ s.post enc C.prog fn apart fresh handsOn again W args v W') :
    ReturnsInHanded a C os f .any (fun w args => (s.pre enc C.prog fn conds apart w args ∧ X w args) ∧ sizedMet enc C.prog fn (OpenSpec.ofChange s) apart w args) (s.post enc C.prog fn apart fresh handsOn again) := by
  refine returnsInHanded_of_calls own started noInit witness ?_
  intro w tape i _ hsh _ hok hpre hholds
  obtain ⟨_, _, _, fn', hfn', _, _, _, _, hval⟩ := hok
  have e : fn' = fn := Option.some.inj (hfn'.symm.trans hfn)
  subst e
  obtain ⟨⟨⟨ds, gs, before, hw, hc⟩, hx⟩, hz⟩ := hpre
  have hw' := DataW.Whole.of_heap (w' := w.forCall tape i) (by rfl) hw
  refine (contract (w.forCall tape i) w.heap.size i.args ds gs before hval hw' (hz.weights hw) (hX _ _ _ (by rfl) hx) hsh).mono fun e W' ⟨v, he, hp⟩ => ?_
  subst he
  exact ChangeSpec.post_blind hp
end
end Go.Proofs.YtlenlldiimohjaaGreatDoor

namespace Go.Proofs.YtlenlldiimohjaaGreatDoor
open Go.ChangeShapes Go.WideShapes Go.ChangeAt Go.RowKit

section
variable {P : Program} {w : World} {r : Reach} {b0 : Nat} {t : TypeId} {c : Value}
end
section
variable {H : Type} {enc : TypeId × Value → H} {P : Program} {w : World} {base fuel : Nat} {spare : Nat → Bool} {held : Bool} {t : TypeId} {cs : List Value} {x : DataW H × List MemPlace}
theorem str_field {fs : Array Field} (ht : P.underlying t = some (.struct fs)) (h : DataW.trod enc P w base spare held fuel t cs = some x) {j : Nat} {f : Field} (hf : fs[j]? = some f) :
    ∃ n y, DataW.trod enc P w base spare held n f.type ((cs.drop f.offset).take (P.cellsOf f.type)) = some y ∧ ∀ k ∈ y.1.weights P f.type, k ∈ x.1.weights P t := by
  obtain ⟨xs, n, _, rfl, _, hl, hg⟩ := DataW.trod_struct ht h
  have hj : j < xs.length := by rw [hl]; exact (Array.getElem?_eq_some_iff.1 hf).1
  refine ⟨n, xs[j], (hg j f hf).trans (List.getElem?_eq_getElem hj), fun k hk => ?_⟩
  simp only [DataW.weights, ht]
  refine DataW.weights_mem_each (j := j) (t := f.type) (d := xs[j].1) ?_ ?_ k hk
  · rw [List.getElem?_map, Array.getElem?_toList, hf]; rfl
  · rw [List.getElem?_map, List.getElem?_eq_getElem hj]; rfl
theorem str_at {fs : Array Field} (ht : P.underlying t = some (.struct fs)) (h : DataW.trod enc P w base spare held fuel t cs = some x) (j : Nat) {f : Field} (hf : fs[j]? = some f) (u : TypeId) {n : Nat} (hu : f.type = u) (hn : P.cellsOf u = n) (cs' : List Value) (hcs : (cs.drop f.offset).take n = cs') :
    ∃ m y, DataW.trod enc P w base spare held m u cs' = some y ∧ ∀ k ∈ y.1.weights P u, k ∈ x.1.weights P t := by
  subst hu
  subst hn
  subst hcs
  exact str_field ht h hf
theorem str_leaf (ht : P.underlying t = some .string) {s : ByteArray} (h : DataW.trod enc P w base spare held fuel t [.string s] = some x) : s.size ∈ x.1.weights P t := by
  obtain ⟨s', h1, hx, _⟩ := DataW.trod_string ht h
  simp at h1
  subst h1
  subst hx
  simp [DataW.weights]
end

abbrev caseV (text user : ByteArray) (n p : Nd) (taken full : Bool) (name : ByteArray) (perm mode : Int) : Value := .agg #[.string text, .string user, .int .u64 n.path, .int .u64 n.parent, .string n.name, .int .u32 n.mode, .string n.uid, .string n.gid, .string n.muid, .int .u32 n.atime, .int .u32 n.mtime, .int .u32 n.vers, .int .u64 n.length, .int .i64 n.opens, .int .i64 n.kids, .int .u64 p.path, .int .u64 p.parent, .string p.name, .int .u32 p.mode, .string p.uid, .string p.gid, .string p.muid, .int .u32 p.atime, .int .u32 p.mtime, .int .u32 p.vers, .int .u64 p.length, .int .i64 p.opens, .int .i64 p.kids, .bool taken, .bool full, .string name, .int .u32 perm, .int .u8 mode]

/-- The numbers of a node fit; its texts are not beyond the reach. -/
def Nd.came (n : Nd) : Prop := 0 ≤ n.mode ∧ n.mode < 4294967296 ∧ n.name.size ≤ reachBytes ∧ n.uid.size ≤ reachBytes ∧ n.gid.size ≤ reachBytes ∧ n.muid.size ≤ reachBytes
end Go.Proofs.YtlenlldiimohjaaGreatDoor

namespace Go.Proofs.YtlenlldiimohjaaGreatDoor
open Go.ChangeShapes Go.WideShapes Go.ChangeAt Go.RowKit

abbrev caseL (text user : ByteArray) (n p : Nd) (taken full : Bool) (name : ByteArray) (perm mode : Int) : List Value := [.string text, .string user, .int .u64 n.path, .int .u64 n.parent, .string n.name, .int .u32 n.mode, .string n.uid, .string n.gid, .string n.muid, .int .u32 n.atime, .int .u32 n.mtime, .int .u32 n.vers, .int .u64 n.length, .int .i64 n.opens, .int .i64 n.kids, .int .u64 p.path, .int .u64 p.parent, .string p.name, .int .u32 p.mode, .string p.uid, .string p.gid, .string p.muid, .int .u32 p.atime, .int .u32 p.mtime, .int .u32 p.vers, .int .u64 p.length, .int .i64 p.opens, .int .i64 p.kids, .bool taken, .bool full, .string name, .int .u32 perm, .int .u8 mode]
/-- A case lies in block q. -/
def CBlk (w : World) (q : Nat) (text user : ByteArray) (n p : Nd) (taken full : Bool) (name : ByteArray) (perm mode : Int) : Prop := Blk w q 29 (caseL text user n p taken full name perm mode).toArray
theorem case_size : (Tryz.prog.info? 29).map (·.size) = some 33 := by kernel_rfl
theorem Blk.range {w : World} {q : Nat} {t : TypeId} {cs : Array Value} (h : Blk w q t cs) (o : Nat) (l : List Value) (hl : (cs.toList.drop o).take l.length = l) : w.rangeAt q o l := fun j v hv => by
  refine (Blk.cell h (o + j)).trans ?_
  rw [← hl] at hv
  rw [List.getElem?_take] at hv
  split at hv
  · rw [List.getElem?_drop] at hv
    rw [← Array.getElem?_toList]
    exact hv
  · cases hv
section
variable {w w' : World} {q : Nat} {t : TypeId} {cs : Array Value} {ops : Array Oper} {rest : List Oper} {op : Oper} {a : Act} {Q : Exit → Act → World → Prop}
theorem wlw (hk : Blk w q t cs) (o : Nat) (l : List Value) (hl : (cs.toList.drop o).take l.length = l) (hgd : Region.wanted op (yielded ops a.tmps) = true) (ty : TypeId) (x : Operand) (ho : op.op = .load ty x) (hx : a.eval x = .pointer (some ⟨q, o, none⟩)) (d : TypeDesc)
    (hu : Tryz.prog.underlying ty = some d) (hd : d.isRow = true) (hi : (Tryz.prog.info? ty).map (·.size) = some l.length)
    (h : wpList Tryz.prog ops Q rest (a.put op.dst (.agg l.toArray)) w) : wpList Tryz.prog ops Q (op :: rest) a w :=
  wpList_step fun K hK => by
    rw [if_pos hgd]
    exact wp_load_mid ty x ho q o hx l d (hk.range o l hl) hu hd hi (hK _ _ h)
theorem wf (hk : Blk w q t cs) (o : Nat) (n p : Nd) (taken full : Bool) (hl : (cs.toList.drop o).take 28 = factsL n p taken full) (hgd : Region.wanted op (yielded ops a.tmps) = true) (x : Operand) (ho : op.op = .load 27 x) (hx : a.eval x = .pointer (some ⟨q, o, none⟩))
    (h : wpList Tryz.prog ops Q rest (a.put op.dst (factsV n p taken full)) w) : wpList Tryz.prog ops Q (op :: rest) a w :=
  wlw hk o (factsL n p taken full) hl hgd _ x ho hx _ Tryz.underlying27 rfl facts_size h
theorem wc {text user name : ByteArray} {n p : Nd} {taken full : Bool} {perm mode : Int} (hk : CBlk w q text user n p taken full name perm mode) (hgd : Region.wanted op (yielded ops a.tmps) = true) (x : Operand) (ho : op.op = .load 29 x) (hx : a.eval x = .pointer (some ⟨q, 0, none⟩))
    (h : wpList Tryz.prog ops Q rest (a.put op.dst (caseV text user n p taken full name perm mode)) w) : wpList Tryz.prog ops Q (op :: rest) a w :=
  wlw hk 0 (caseL text user n p taken full name perm mode) rfl hgd _ x ho hx _ Tryz.underlying29 rfl case_size h
end

end Go.Proofs.YtlenlldiimohjaaGreatDoor

namespace Go.Proofs.YtlenlldiimohjaaGreatDoor
open Go.ChangeShapes Go.WideShapes Go.ChangeAt Go.RowKit

/-- Cells written over, from o on. -/
def over (cs : Array Value) (o : Nat) : List Value → Array Value
  | [] => cs
  | v :: r => over (cs.setIfInBounds o v) (o + 1) r
theorem Blk.setCells_ {q : Nat} {t : TypeId} : ∀ (l : List Value) (o : Nat) {w : World} {cs : Array Value}, Blk w q t cs → Blk (w.setCells q o l) q t (over cs o l)
  | [], _, _, _, h => h
  | v :: r, o, _, _, h => Blk.setCells_ r (o + 1) (h.set_ o v)
section
variable {ops : Array Oper} {rest : List Oper} {op : Oper} {a : Act} {w : World} {Q : Exit → Act → World → Prop} {q : Nat} {t : TypeId} {cs : Array Value}
end
/-- Where a law stands: its case's block is the first of its own. -/
def LAt (w0 : World) (cs : Array Value) (w : World) : Prop := Ready w ∧ Below w0.heap.size w0 w ∧ Blk w w0.heap.size 29 cs
section
variable {w0 w w' : World} {cs : Array Value}
theorem LAt.next (h : LAt w0 cs w) (hb : Below w.heap.size w w') : LAt w0 cs w' := ⟨h.1.below hb (Nat.le_refl _), h.2.1.trans (hb.mono h.2.1.size), h.2.2.below hb h.2.2.lt⟩
theorem LAt.ready (h : LAt w0 cs w) : Ready w := h.1
theorem LAt.low (h : LAt w0 cs w) : Below w0.heap.size w0 w := h.2.1
theorem LAt.cb (h : LAt w0 cs w) : Blk w w0.heap.size 29 cs := h.2.2
theorem LAt.start (hr : Ready w0) (cs : Array Value) : LAt w0 cs (w0.alloc (Obj.cells cs 29)) := ⟨hr.alloc _, (Below.refl _ _).alloc (Nat.le_refl _) _, Blk.new _ _ _⟩
variable {text user name : ByteArray} {n p : Nd} {taken full : Bool} {perm mode : Int}
theorem LAt.c0 (h : LAt w0 (caseL text user n p taken full name perm mode).toArray w) : w.cell? ⟨w0.heap.size, 0, none⟩ = some (.string text) := Blk.cell h.cb 0
theorem LAt.c1 (h : LAt w0 (caseL text user n p taken full name perm mode).toArray w) : w.cell? ⟨w0.heap.size, 1, none⟩ = some (.string user) := Blk.cell h.cb 1
theorem LAt.c5 (h : LAt w0 (caseL text user n p taken full name perm mode).toArray w) : w.cell? ⟨w0.heap.size, 5, none⟩ = some (.int .u32 n.mode) := Blk.cell h.cb 5
theorem LAt.f (h : LAt w0 cs w) (i : Nat) : w.frozen? ⟨w0.heap.size, i, none⟩ = false := Blk.frozen h.cb i
end
theorem FBlk.zero (w : World) : Blk (w.alloc (Obj.cells #[.int .u64 0, .int .u64 0, .string ⟨#[]⟩, .int .u32 0, .string ⟨#[]⟩, .string ⟨#[]⟩, .string ⟨#[]⟩, .int .u32 0, .int .u32 0, .int .u32 0, .int .u64 0, .int .i64 0, .int .i64 0, .int .u64 0, .int .u64 0, .string ⟨#[]⟩, .int .u32 0, .string ⟨#[]⟩, .string ⟨#[]⟩, .string ⟨#[]⟩, .int .u32 0, .int .u32 0, .int .u32 0, .int .u64 0, .int .i64 0, .int .i64 0, .bool false, .bool false] 27)) w.heap.size 27 (factsL Nd.none Nd.none false false).toArray := Blk.new _ _ _
section
variable {ops : Array Oper} {rest : List Oper} {op : Oper} {a : Act} {w : World} {Q : Exit → Act → World → Prop} {q : Nat}
variable {text user name : ByteArray} {n p : Nd} {taken full : Bool} {perm mode : Int}
end
end Go.Proofs.YtlenlldiimohjaaGreatDoor
namespace Go.Proofs.YtlenlldiimohjaaGreatDoor
open Go.ChangeShapes Go.WideShapes Go.ChangeAt Go.RowKit

end Go.Proofs.YtlenlldiimohjaaGreatDoor

namespace Go.Proofs.YtlenlldiimohjaaGreatDoor
open Go.ChangeShapes Go.WideShapes Go.ChangeAt Go.RowKit

end Go.Proofs.YtlenlldiimohjaaGreatDoor

namespace Go.Proofs.YtlenlldiimohjaaGreatDoor
open Go.ChangeShapes Go.WideShapes Go.ChangeAt Go.RowKit

def QAt (w0 : World) (g : Nat) (L : List Acct) (w : World) : Prop := RTab w g L ∧ Below w0.heap.size w0 w ∧ w0.heap.size < w.heap.size
theorem QAt.next {w0 w w' : World} {g : Nat} {L : List Acct} (h : QAt w0 g L w) (hb : Below w.heap.size w w') : QAt w0 g L w' := ⟨h.1.below hb, h.2.1.trans (hb.mono h.2.1.size), Nat.lt_of_lt_of_le h.2.2 hb.size⟩
theorem QAt.box {w0 : World} {g : Nat} {L : List Acct} (h : RTab w0 g L) (o : Obj) : QAt w0 g L (w0.alloc o) := ⟨h.below ((Below.refl _ _).alloc (Nat.le_refl _) o), (Below.refl _ _).alloc (Nat.le_refl _) o, by simp⟩

theorem QAt.tab {w0 w : World} {g : Nat} {L : List Acct} (h : QAt w0 g L w) : RTab w g L := h.1
theorem QAt.low {w0 w : World} {g : Nat} {L : List Acct} (h : QAt w0 g L w) : Below w0.heap.size w0 w := h.2.1
theorem QAt.lt {w0 w : World} {g : Nat} {L : List Acct} (h : QAt w0 g L w) : w0.heap.size < w.heap.size := h.2.2

end Go.Proofs.YtlenlldiimohjaaGreatDoor

namespace Go.Proofs.YtlenlldiimohjaaGreatDoor
open Go.ChangeShapes Go.WideShapes Go.ChangeAt Go.RowKit

end Go.Proofs.YtlenlldiimohjaaGreatDoor

namespace Go.Proofs.YtlenlldiimohjaaGreatDoor
open Go.ChangeShapes Go.WideShapes Go.ChangeAt Go.RowKit

end Go.Proofs.YtlenlldiimohjaaGreatDoor

namespace Go.Proofs.YtlenlldiimohjaaGreatDoor

end Go.Proofs.YtlenlldiimohjaaGreatDoor

namespace Go.Proofs.YtlenlldiimohjaaGreatDoor
open Go.ChangeShapes Go.WideShapes Go.ChangeAt Go.RowKit

/-- Where it stands. -/
def DAt (w0 : World) (g : Nat) (L : List Acct) (n p : Nd) (taken full : Bool) (w : World) : Prop :=
  RTab w g L ∧ FBlk w w0.heap.size n p taken full ∧ NBlk w (w0.heap.size + 1) Nd.none ∧ Below w0.heap.size w0 w
section
variable {w0 w w' : World} {g : Nat} {L : List Acct} {n p : Nd} {taken full : Bool}
theorem DAt.next (h : DAt w0 g L n p taken full w) (hb : Below w.heap.size w w') : DAt w0 g L n p taken full w' := by
  obtain ⟨h1, h2, h3, h4⟩ := h
  exact ⟨h1.below hb, h2.below hb, h3.below hb, h4.trans (hb.mono h4.size)⟩
theorem DAt.tab (h : DAt w0 g L n p taken full w) : RTab w g L := h.1
theorem DAt.fb (h : DAt w0 g L n p taken full w) : FBlk w w0.heap.size n p taken full := h.2.1
theorem DAt.rb (h : DAt w0 g L n p taken full w) : NBlk w (w0.heap.size + 1) Nd.none := h.2.2.1
theorem DAt.low (h : DAt w0 g L n p taken full w) : Below w0.heap.size w0 w := h.2.2.2
theorem DAt.start (h : RTab w0 g L) (n p : Nd) (taken full : Bool) : DAt w0 g L n p taken full ((w0.alloc (Obj.cells #[.int .u64 n.path, .int .u64 n.parent, .string n.name, .int .u32 n.mode, .string n.uid, .string n.gid, .string n.muid, .int .u32 n.atime, .int .u32 n.mtime, .int .u32 n.vers, .int .u64 n.length, .int .i64 n.opens, .int .i64 n.kids, .int .u64 p.path, .int .u64 p.parent, .string p.name, .int .u32 p.mode, .string p.uid, .string p.gid, .string p.muid, .int .u32 p.atime, .int .u32 p.mtime, .int .u32 p.vers, .int .u64 p.length, .int .i64 p.opens, .int .i64 p.kids, .bool taken, .bool full] 27)).alloc (Obj.cells #[.int .u64 0, .int .u64 0, .string ⟨#[]⟩, .int .u32 0, .string ⟨#[]⟩, .string ⟨#[]⟩, .string ⟨#[]⟩, .int .u32 0, .int .u32 0, .int .u32 0, .int .u64 0, .int .i64 0, .int .i64 0] 25)) := by
  have up : ∀ (W : World) (o : Obj), Below W.heap.size W (W.alloc o) := fun W o => (Below.refl _ _).alloc (Nat.le_refl _) o
  have h1 := NBlk.new (w0.alloc (Obj.cells (factsL n p taken full).toArray 27)) Nd.none
  simp only [World.size_alloc] at h1
  exact ⟨(h.below (up _ _)).below (up _ _), (FBlk.new w0 n p taken full).below (up _ _), h1, ((Below.refl _ _).alloc (Nat.le_refl _) _).alloc (by simp) _⟩
end

end Go.Proofs.YtlenlldiimohjaaGreatDoor

namespace Go.Proofs.YtlenlldiimohjaaGreatDoor

end Go.Proofs.YtlenlldiimohjaaGreatDoor
namespace Go.Proofs.YtlenlldiimohjaaGreatDoor
open Go.ChangeShapes Go.WideShapes Go.ChangeAt Go.RowKit

section
variable {ops : Array Oper} {rest : List Oper} {op : Oper} {a : Act} {w : World} {Q : Exit → Act → World → Prop}
end
end Go.Proofs.YtlenlldiimohjaaGreatDoor

namespace Go.Proofs.YtlenlldiimohjaaGreatDoor
open Go.ChangeShapes Go.WideShapes Go.ChangeAt Go.RowKit

section
variable {w w' : World} {g q : Nat} {L : List Acct} {t : TypeId} {cs : Array Value}
theorem PTab.other (h : PTab w g L) (hq : Blk w q t cs) (ht : t ≠ 139 ∧ t ≠ 9 ∧ t ≠ 127) (hw : ∀ i, i ≠ q → w'.heap[i]? = w.heap[i]?) : PTab w' g L := by
  obtain ⟨b, m, n, h⟩ := h
  obtain ⟨vl, h1, h2, h3, h4, h5⟩ := h
  have key : ∀ (i : Nat) c2 t2 fr, w.heap[i]? = some (.cells c2 t2 fr) → t2 ≠ t → w'.heap[i]? = w.heap[i]? := fun i c2 t2 fr hi hne => hw i (fun e => by
    subst e
    have := hi.symm.trans hq
    cases this
    exact hne rfl)
  have keym : ∀ (i : Nat) es ck, w.heap[i]? = some (.map es ck) → w'.heap[i]? = w.heap[i]? := fun i es ck hi => hw i (fun e => by
    subst e
    have := hi.symm.trans hq
    cases this)
  exact ⟨b, m, n, vl, (key g _ _ _ h1 (Ne.symm ht.1)).trans h1, h2.keep (fun i cur e fr hi he => key i cur e fr hi (he.elim (fun e => e ▸ Ne.symm ht.2.1) (fun e => e ▸ Ne.symm ht.2.2))), h3.keep (fun es ck hb => keym b es ck hb), h4.keep (fun es ck hb => keym m es ck hb), h5⟩
theorem RTab.other (h : RTab w g L) (hq : Blk w q t cs) (ht : t ≠ 135 ∧ t ≠ 9 ∧ t ≠ 127) (hw : ∀ i, i ≠ q → w'.heap[i]? = w.heap[i]?) : RTab w' g L := by
  obtain ⟨vl, h1, h2⟩ := h
  have key : ∀ (i : Nat) c2 t2 fr, w.heap[i]? = some (.cells c2 t2 fr) → t2 ≠ t → w'.heap[i]? = w.heap[i]? := fun i c2 t2 fr hi hne => hw i (fun e => by
    subst e
    have := hi.symm.trans hq
    cases this
    exact hne rfl)
  exact ⟨vl, (key g _ _ _ h1 (Ne.symm ht.1)).trans h1, h2.keep (fun i cur e fr hi he => key i cur e fr hi (he.elim (fun e => e ▸ Ne.symm ht.2.1) (fun e => e ▸ Ne.symm ht.2.2)))⟩
theorem setCell_other (w : World) (q i : Nat) (v : Value) : ∀ (j : Nat), j ≠ q → (w.setCell ⟨q, i, none⟩ v).heap[j]? = w.heap[j]? := fun _ hj => Below.heap_setCell _ _ _ _ hj
end

section
variable {ops : Array Oper} {rest : List Oper} {op : Oper} {a : Act} {w : World} {Q : Exit → Act → World → Prop} {q : Nat} {t : TypeId} {cs : Array Value}
theorem wstK (hk : Blk w q t cs) (o : Nat) (l : List Value) (cs' : Array Value) (hcs : over cs o l = cs') (hb : o + l.length ≤ cs.size) (h1 : l.toArray.all (·.oneCell') = true) (hgd : op.guard = none) (ty : TypeId) (x y : Operand) (ho : op.op = .store ty x y) (hx : a.eval x = .pointer (some ⟨q, o, none⟩)) (hy : a.eval y = .agg l.toArray)
    (hi : (Tryz.prog.info? ty).map (·.size) = some l.length)
    (h : ∀ w' : World, Blk w' q t cs' → (∀ i, i ≠ q → w'.heap[i]? = w.heap[i]?) → (∀ B (v : World), Below B v w → B ≤ q → Below B v w') → wpList Tryz.prog ops Q rest (a.put op.dst undef) w') : wpList Tryz.prog ops Q (op :: rest) a w :=
  wpList_store_mid hgd ty x y ho q o l.toArray hx hy (fun j hj => by
    have hj' : j < l.length := by simpa using hj
    refine ⟨?_, Blk.frozen hk _⟩
    rw [Blk.cell hk, Array.getElem?_eq_getElem (by omega)]
    rfl) (by simpa using hi) h1 (h _ (by rw [← hcs]; exact Blk.setCells_ _ _ hk) (fun i hi => setCells_other w q _ o i hi) (fun B v hb hq => below_setCells hb hq _ o))
end
end Go.Proofs.YtlenlldiimohjaaGreatDoor

namespace Go.Proofs.YtlenlldiimohjaaGreatDoor

section
variable (P M : Nat) (d : Bool) (i : Nat)
theorem i9 : decide (i < 9) = true → decide (i < 32) = true := by simp; omega
end
section
variable {P M : Nat} {d : Bool}
end
end Go.Proofs.YtlenlldiimohjaaGreatDoor
namespace Go.Proofs.YtlenlldiimohjaaGreatDoor
open Go.RowKit

/-- A Talk, but for its bytes. -/
structure Tk where
  user : ByteArray
  tree : ByteArray
  ours : Int
  theirs : Int
  step : Int
  said : Int
abbrev talkL (t : Tk) (hv : Value) : List Value := [.string t.user, .string t.tree, .int .u64 t.ours, .int .u64 t.theirs, .int .u8 t.step, .int .i64 t.said, hv]
abbrev talkV (t : Tk) (hv : Value) : Value := .agg #[.string t.user, .string t.tree, .int .u64 t.ours, .int .u64 t.theirs, .int .u8 t.step, .int .i64 t.said, hv]
def Tk.none : Tk := ⟨⟨#[]⟩, ⟨#[]⟩, 0, 0, 0, 0⟩
def TBlk (w : World) (q : Nat) (t : Tk) (hv : Value) : Prop := Blk w q 54 (talkL t hv).toArray
abbrev byteL (l : List UInt8) : List Value := l.map fun c => .int .u8 (c.toNat : Int)
/-- The value hv reads as the bytes l, and lies below B. -/
def Bys (w : World) (B : Nat) (hv : Value) (l : List UInt8) : Prop := ∃ A cap, hv = .slice A l.length cap ∧ l.length ≤ cap ∧ cap ≤ maxLen ∧ Reads w B 1 A l.length (byteL l)
theorem Bys.nil_ (w : World) (B : Nat) : Bys w B (.slice none 0 0) [] := ⟨none, 0, rfl, Nat.le_refl _, Nat.zero_le _, Reads.none_⟩
theorem Bys.keep {w w' : World} {B : Nat} {hv : Value} {l : List UInt8} (h : Bys w B hv l) (hk : ∀ p : Addr, p.block < B → w'.cell? p = w.cell? p) : Bys w' B hv l := by
  obtain ⟨A, cap, e, h1, h2, h3⟩ := h
  exact ⟨A, cap, e, h1, h2, h3.keep hk⟩
theorem Bys.below {w w' : World} {B : Nat} {hv : Value} {l : List UInt8} (h : Bys w B hv l) (hb : Below B w w') : Bys w' B hv l := h.keep fun _ hp => hb.cell hp
theorem Bys.more {w : World} {B B' : Nat} {hv : Value} {l : List UInt8} (h : Bys w B hv l) (hB : B ≤ B') : Bys w B' hv l := by
  obtain ⟨A, cap, e, h1, h2, h3⟩ := h
  exact ⟨A, cap, e, h1, h2, h3.more hB⟩
theorem byteL_one (l : List UInt8) : ∀ u ∈ byteL l, u.oneCell' = true := by
  intro u hu
  obtain ⟨c, _, rfl⟩ := List.mem_map.1 hu
  rfl
theorem Bys.of_own {w : World} {base : Nat} {hv : Value} {l : List UInt8} {n : Nat} (h : w.ownsRow base 5 1 hv n (byteL l)) : Bys w w.heap.size hv l := by
  have hn : n = l.length := by
    have := h.1
    simp at this
    exact this.symm
  subst hn
  rcases h.2 with ⟨rfl, h0⟩ | ⟨g, cap, cur, rfl, _, _, hc, hm, _⟩
  · have : l = [] := List.eq_nil_of_length_eq_zero h0
    subst this
    exact Bys.nil_ _ _
  · exact ⟨_, cap, rfl, hc, hm, Reads.of_own h⟩
theorem talk_size : (Tryz.prog.info? 54).map (·.size) = some 7 := by kernel_rfl
theorem talk_cells (t : Tk) (hv : Value) (h : hv.oneCell' = true) : (talkL t hv).toArray.all (·.oneCell') = true := by
  rw [← Array.all_toList]
  show List.all (talkL t hv) (·.oneCell') = true
  simp only [talkL, List.all_cons, List.all_nil, h]
  rfl
theorem over_talk (t u : Tk) (hv hu : Value) : over (talkL t hv).toArray 0 (talkL u hu) = (talkL u hu).toArray := by kernel_rfl
theorem Bys.one {w : World} {B : Nat} {hv : Value} {l : List UInt8} (h : Bys w B hv l) : hv.oneCell' = true := by
  obtain ⟨A, cap, e, -⟩ := h
  rw [e]
  rfl
section
variable {ops : Array Oper} {rest : List Oper} {op : Oper} {a : Act} {w w' : World} {Q : Exit → Act → World → Prop} {q : Nat} {t : Tk} {hv : Value}
theorem TBlk.below (h : TBlk w q t hv) (hb : Below w.heap.size w w') : TBlk w' q t hv := Blk.below h hb (Blk.lt h)
theorem TBlk.zero (w : World) : TBlk (w.alloc (Obj.cells #[.string ⟨#[]⟩, .string ⟨#[]⟩, .int .u64 0, .int .u64 0, .int .u8 0, .int .i64 0, .slice none 0 0] 54)) w.heap.size Tk.none (.slice none 0 0) := Blk.new _ _ _
theorem wT (hk : TBlk w q t hv) (hgd : Region.wanted op (yielded ops a.tmps) = true) (x : Operand) (ho : op.op = .load 54 x) (hx : a.eval x = .pointer (some ⟨q, 0, none⟩))
    (h : wpList Tryz.prog ops Q rest (a.put op.dst (talkV t hv)) w) : wpList Tryz.prog ops Q (op :: rest) a w :=
  wlw hk 0 (talkL t hv) rfl hgd _ x ho hx _ Tryz.underlying54 rfl talk_size h
theorem wstT (hk : TBlk w q t hv) (u : Tk) (hu : Value) (h1 : hu.oneCell' = true) (hgd : op.guard = none) (x y : Operand) (ho : op.op = .store 54 x y) (hx : a.eval x = .pointer (some ⟨q, 0, none⟩)) (hy : a.eval y = talkV u hu)
    (h : ∀ w' : World, TBlk w' q u hu → (∀ i, i ≠ q → w'.heap[i]? = w.heap[i]?) → (∀ B (v : World), Below B v w → B ≤ q → Below B v w') → wpList Tryz.prog ops Q rest (a.put op.dst undef) w') : wpList Tryz.prog ops Q (op :: rest) a w :=
  wstK hk 0 (talkL u hu) _ (over_talk t u hv hu) (Nat.le_refl 7) (talk_cells u hu h1) hgd _ x y ho hx hy talk_size h
theorem loadVar_talk (h : TBlk w q t hv) : (loadVar 54 ⟨q, 0, none⟩).run Tryz.prog w = .ok (talkV t hv) w :=
  run_loadVar_mid w q 0 54 (talkL t hv) _ (Blk.range h 0 (talkL t hv) rfl) Tryz.underlying54 rfl talk_size
end
end Go.Proofs.YtlenlldiimohjaaGreatDoor
namespace Go.Proofs.YtlenlldiimohjaaGreatDoor

/-- The digit d. -/
def hexC (d : Nat) : UInt8 := if d < 10 then UInt8.ofNat (48 + d) else UInt8.ofNat (87 + d)
/-- A number's digits, without zeros ahead. -/
def hexM : Nat → Nat → List UInt8
  | 0, _ => []
  | f + 1, n => if n < 16 then [hexC n] else hexM f (n / 16) ++ [hexC (n % 16)]
/-- A number's last k digits. -/
def hexN : Nat → Nat → List UInt8
  | 0, _ => []
  | k + 1, n => hexN k (n / 16) ++ [hexC (n % 16)]
theorem hexN_len : ∀ k n, (hexN k n).length = k
  | 0, _ => rfl
  | k + 1, n => by rw [hexN, List.length_append, hexN_len k]; rfl
theorem hexN_zero : ∀ k, hexN k 0 = List.replicate k 48
  | 0 => rfl
  | k + 1 => by rw [hexN, Nat.zero_div, hexN_zero k, List.replicate_succ']; rfl
theorem hexM_pad : ∀ (k n : Nat), 0 < k → n < 16 ^ k → (hexM k n).length ≤ k ∧ 0 < (hexM k n).length ∧ List.replicate (k - (hexM k n).length) 48 ++ hexM k n = hexN k n
  | 0, _, h, _ => absurd h (by omega)
  | k + 1, n, _, hn => by
    by_cases h : n < 16
    · rw [hexM, if_pos h, hexN, show n / 16 = 0 by omega, show n % 16 = n by omega, hexN_zero]
      exact ⟨by simp, by simp, by simp⟩
    · have hk : 0 < k := by
        rcases Nat.eq_zero_or_pos k with rfl | hk
        · omega
        · exact hk
      have hq : n / 16 < 16 ^ k := by
        rw [Nat.div_lt_iff_lt_mul (by omega)]
        rw [Nat.pow_succ] at hn
        exact hn
      obtain ⟨h1, h2, h3⟩ := hexM_pad k (n / 16) hk hq
      rw [hexM, if_neg h, hexN, ← h3]
      refine ⟨by simp; exact h1, by simp, ?_⟩
      rw [List.length_append, show [hexC (n % 16)].length = 1 from rfl, show k + 1 - ((hexM k (n / 16)).length + 1) = k - (hexM k (n / 16)).length by omega, List.append_assoc]
/-- As a string. -/
def hex16 (n : Nat) : ByteArray := ofL (hexN 16 n)
theorem hex16_size (n : Nat) : (hex16 n).size = 16 := by
  show (hexN 16 n).toArray.size = 16
  rw [List.size_toArray, hexN_len]
end Go.Proofs.YtlenlldiimohjaaGreatDoor
namespace Go.Proofs
open Go.Shelf
end Go.Proofs
namespace Go.Proofs.YtlenlldiimohjaaGreatDoor
open Go.RowKit

theorem u8_info : (Tryz.prog.info? 5).map (fun i => (i.zero, i.size, i.bytes)) = some (some (.int .u8 0), 1, 1) := by kernel_rfl
theorem Blk.of_row {w : World} {base g n : Nat} {e : TypeId} {xs : List Value} (h : w.ownsRow base e 1 (.slice (some ⟨g, 0, none⟩) n n) n xs) (hn : 0 < n) : Blk w g e xs.toArray := by
  obtain ⟨hl, ⟨hv, h0⟩ | ⟨g', cap, cur, hv, hb, hg, h1, h2, h3, h4⟩⟩ := h
  · omega
  · injection hv with hv1 hv2 hv3
    injection hv1 with hv1
    injection hv1 with hv1
    subst hv1
    subst hv3
    have : cur.toList = xs := by rw [← h4, List.take_of_length_le (by simp; omega)]
    rw [← this]
    exact hg
/-- The row behind k rounds. -/
def digL (n k : Nat) : List Value := (List.range 16).map fun j => if j < 16 - k then .int .u8 0 else .int .u8 ((hexC (n / 16 ^ (15 - j) % 16)).toNat : Int)
theorem digL_zero (n : Nat) : digL n 0 = List.replicate 16 (.int .u8 0) := by
  unfold digL
  rw [List.map_congr_left (g := fun _ => Value.int .u8 0) (fun j hj => if_pos (by have := List.mem_range.1 hj; omega))]
  rfl
theorem digL_set (n k : Nat) (hk : k < 16) : (digL n k).toArray.setIfInBounds (15 - k) (.int .u8 ((hexC (n / 16 ^ k % 16)).toNat : Int)) = (digL n (k + 1)).toArray := by
  apply Array.ext
  · simp [digL]
  · intro j h1 h2
    have hj : j < 16 := by simpa [digL] using h2
    rw [Array.getElem_setIfInBounds (by simpa [digL] using hj)]
    by_cases he : 15 - k = j
    · rw [if_pos he]
      subst he
      simp only [digL, List.getElem_toArray, List.getElem_map, List.getElem_range]
      rw [if_neg (by omega), show 15 - (15 - k) = k by omega]
    · rw [if_neg he]
      simp only [digL, List.getElem_toArray, List.getElem_map, List.getElem_range]
      by_cases hl : j < 16 - k
      · rw [if_pos hl, if_pos (show j < 16 - (k + 1) by omega)]
      · rw [if_neg hl, if_neg (show ¬ j < 16 - (k + 1) by omega)]
theorem hexN_get : ∀ (k n j : Nat), j < k → (hexN k n)[j]? = some (hexC (n / 16 ^ (k - 1 - j) % 16))
  | 0, _, _, h => absurd h (by omega)
  | k + 1, n, j, h => by
    rw [hexN]
    by_cases hj : j < k
    · rw [List.getElem?_append_left (by rw [hexN_len]; exact hj), hexN_get k _ j hj, Nat.div_div_eq_div_mul, show k + 1 - 1 - j = (k - 1 - j) + 1 by omega, Nat.pow_succ, Nat.mul_comm]
    · have : j = k := by omega
      subst this
      rw [List.getElem?_append_right (by rw [hexN_len]; exact Nat.le_refl _), hexN_len]
      simp
theorem digL_all (n j : Nat) (hj : j < (hexN 16 n).length) : (digL n 16).toArray[j]? = some (.int .u8 ((hexN 16 n)[j].toNat : Int)) := by
  have h16 : j < 16 := by rw [hexN_len] at hj; exact hj
  have h := hexN_get 16 n j h16
  rw [List.getElem?_eq_getElem hj] at h
  injection h with h
  rw [h]
  simp only [digL, List.getElem?_toArray, List.getElem?_map]
  rw [List.getElem?_range h16]
  rfl
def hexWord : ByteArray := ⟨#[48, 49, 50, 51, 52, 53, 54, 55, 56, 57, 97, 98, 99, 100, 101, 102]⟩
theorem hexWord_at : ∀ (d : Nat) (h : d < 16), hexWord[d]'(by show d < 16; exact h) = hexC d := by
  have key : ∀ d : Fin 16, hexWord.data[d.1]'(by show d.1 < 16; exact d.2) = hexC d.1 := by decide
  exact fun d h => key ⟨d, h⟩

section
variable {ops : Array Oper} {rest : List Oper} {op : Oper} {a : Act} {w : World} {Q : Exit → Act → World → Prop}
theorem wpl_val {v : Value} (hg : op.guard = none) (hy : (execOp a.eval op).run Tryz.prog w = .ok (.value v) w) (h : wpList Tryz.prog ops Q rest (a.put op.dst v) w) : wpList Tryz.prog ops Q (op :: rest) a w :=
  wpList_plain hg fun K hK => by
    unfold Oper.wp
    rw [hy, Oper.upon_value]
    exact hK _ _ h
theorem ex_idx {k : IntKind} (x y : Operand) (s : ByteArray) (d : Nat) (ho : op.op = .index 9 x y) (hx : a.eval x = .string s) (hy : a.eval y = .int k (d : Int)) (hd : d < s.size) : (execOp a.eval op).run Tryz.prog w = .ok (.value (.int .u8 (s[d].toNat : Int))) w := by
  unfold execOp
  simp only [ho, hx, hy]
  go_simp
theorem ex_hex {k : IntKind} {z : Int} (x y : Operand) (d : Nat) (ho : op.op = .index 9 x y) (hx : a.eval x = .string hexWord) (hy : a.eval y = .int k z) (hz : z = (d : Int)) (hd : d < 16) : (execOp a.eval op).run Tryz.prog w = .ok (.value (.int .u8 ((hexC d).toNat : Int))) w := by
  subst hz
  rw [← hexWord_at d hd]
  exact ex_idx x y hexWord d ho hx hy hd
end

set_option maxRecDepth 100000 in
set_option maxHeartbeats 3200000 in
theorem refDigits_calls (n : Nat) (hn : n < 18446744073709551616) (w : World) :
    Calls Tryz.prog 55 #[.int .u64 (n : Int)] w fun e w' => e = .returned (.string (hex16 n)) ∧ Below w.heap.size w w' := by
  obtain ⟨i0, hi0, hz0, hz1, hz2⟩ := info_parts u8_info
  have HI := Lib.hid hi0; clear hi0
  have HZ0 := Lib.hid hz0; clear hz0
  have HZ1 := Lib.hid hz1; clear hz1
  have HZ2 := Lib.hid hz2; clear hz2
  go_enter Tryz.func55, Tryz.ntmps55
  go_upto_region 2 with (fail)
  refine wp_region_lit ?_
  refine wpList_make_full _ rfl _ _ _ rfl w.heap.size 5 i0 _ 1 Tryz.underlying47 HI.out HZ0.out HZ1.out .i64 .i64 16 16 16 rfl rfl rfl rfl (by rw [HZ2.out]; decide) (by decide) (Nat.le_refl _) ?_
  intro w1 hown hgr
  have hb0 := Blk.of_row hown (Nat.zero_lt_succ 15)
  rw [show (madeCells (Value.int .u8 0).cells (16 * 1)).toList = List.replicate 16 (.int .u8 0) from by kernel_rfl, ← digL_zero n] at hb0
  have HB := Lib.hid hb0
  have HL := Lib.hid ((Below.refl w.heap.size w).grown hgr (Nat.le_refl _) (by simp))
  clear hown hgr hb0
  generalize hg : w.heap.size = g at HB
  have HG := Lib.hid hg
  clear hg
  go_wp2_with fail
  go_loopw [0, 5] (fun v i wr => ∃ j : Nat, j ≤ 16 ∧ v = .int .u64 ((n / 16 ^ (16 - j) : Nat) : Int) ∧ i = .int .i64 ((j : Int) - 1) ∧ Blk wr g 5 (digL n (16 - j)).toArray ∧ Below w.heap.size w wr) (fun _ i _ => (intOf i + 1).toNat)
  case atStart => exact ⟨16, by omega, by simp, rfl, HB.out, HL.out⟩
  case round =>
    obtain ⟨j, hj, rfl, rfl, hb, hl⟩ := hrel
    clear HB HL
    have HL := Lib.hid hl
    cases j with
    | zero =>
      have HB := Lib.hid hb
      clear hb hl
      have hconv := run_convert_bytes_back (P := Tryz.prog) wr 47 9 5 ⟨g, 0, none⟩ 16 (hexN 16 n) Tryz.underlying47 Tryz.underlying5 Tryz.underlying9 (fun j hj => by rw [Addr.add_lit, Nat.zero_add, Blk.cell HB.out j]; exact digL_all n j hj)
      rw [hexN_len] at hconv
      go_wp2_with fail
      go_ret
      exact ⟨rfl, HL.out⟩
    | succ t =>
      have HB := Lib.hid hb
      clear hb hl
      rw [show ((t + 1 : Nat) : Int) - 1 = (t : Int) from by omega]
      obtain ⟨m, hm⟩ : ∃ m, n / 16 ^ (16 - (t + 1)) = m := ⟨_, rfl⟩
      rw [hm]
      have hd : m % 16 < 16 := Nat.mod_lt _ (by omega)
      have hmod : (m : Int) % 16 = ((m % 16 : Nat) : Int) := by omega
      have HQ := Lib.hid (show IntKind.u64.wrap ((m : Int) / 16) = ((n / 16 ^ (16 - t) : Nat) : Int) from by
        have hmb : m < 18446744073709551616 := by rw [← hm]; exact Nat.lt_of_le_of_lt (Nat.div_le_self _ _) hn
        rw [show 16 - t = (16 - (t + 1)) + 1 by omega, Nat.pow_succ, ← Nat.div_div_eq_div_mul, hm, IntKind.wrap_u64]
        omega)
      have HBS := Lib.hid (show (digL n (16 - (t + 1))).toArray.setIfInBounds t (.int .u8 ((hexC (m % 16)).toNat : Int)) = (digL n (16 - t)).toArray from by
        have h := digL_set n (16 - (t + 1)) (by omega)
        rw [hm, show 15 - (16 - (t + 1)) = t by omega, show 16 - (t + 1) + 1 = 16 - t by omega] at h
        exact h)
      clear hm
      obtain ⟨v0, hc⟩ : ∃ v, wr.cell? ⟨g, t, none⟩ = some v := by
        rw [Blk.cell HB.out t]
        rw [Array.getElem?_eq_getElem (by simp [digL]; omega)]
        exact ⟨_, rfl⟩
      have hz := Blk.frozen HB.out t
      obtain ⟨d, hdd⟩ : ∃ d, m % 16 = d := ⟨_, rfl⟩
      rw [hdd] at hd hmod
      have HBD := Lib.hid (hdd ▸ HBS.out)
      have HD := Lib.hid hdd
      clear hdd
      go_wp2_with (refine wpl_val rfl (ex_hex _ _ d rfl rfl rfl hmod hd) ?_)
      go_roundw
      case rel => exact ⟨t, by omega, by rw [HQ.out], rfl, by rw [← HBD.out]; exact Blk.set_ HB.out t _, HL.out.setCell (by show w.heap.size ≤ g; rw [HG.out]; exact Nat.le_refl _) _⟩
      case measure => simp [intOf]
end Go.Proofs.YtlenlldiimohjaaGreatDoor
namespace Go.Proofs.YtlenlldiimohjaaGreatDoor
open Go.RowKit

theorem own_other {w w' : World} {base q n : Nat} {e : TypeId} {size : Nat} {v : Value} {xs : List Value} (h : w.ownsRow base e size v n xs) (hv : v.ownBlock ≠ some q) (ho : ∀ i, i ≠ q → w'.heap[i]? = w.heap[i]?) : w'.ownsRow base e size v n xs := by
  obtain ⟨h1, h2⟩ := h
  refine ⟨h1, ?_⟩
  rcases h2 with h2 | ⟨g, cap, cur, rfl, hb, hg, h3⟩
  · exact .inl h2
  · have hne : g ≠ q := fun he => hv (by rw [he]; rfl)
    exact .inr ⟨g, cap, cur, rfl, hb, (ho g hne).trans hg, h3⟩
theorem results_own {tmps : Array Value} {w : World} {q : Nat} {t : Tk} {hv : Value} (h2 : tmps.getD 2 undef = .pointer (some ⟨q, 0, none⟩)) (hk : TBlk w q t hv) :
    (results Tryz.f57 tmps).run Tryz.prog w = .ok (talkV t hv) w := by
  have h2' : tmps[2]?.getD undef = .pointer (some ⟨q, 0, none⟩) := by simpa using h2
  simp [results, Tryz.results57, h2', asAddr, loadVar_talk hk]
set_option maxRecDepth 100000 in
set_option maxHeartbeats 1600000 in
theorem own_calls (t : Tk) (hv : Value) (l : List UInt8) (w : World) (h : Bys w w.heap.size hv l) (hl : l.length ≤ 33) :
    Calls Tryz.prog 57 #[talkV t hv] w fun e w' => (∃ hu, e = .returned (talkV t hu) ∧ w'.ownsRow w.heap.size 5 1 hu l.length (byteL l)) ∧ Below w.heap.size w w' := by
  obtain ⟨A, cap, rfl, hc, hm, hr⟩ := h
  obtain ⟨i0, hi0, hz0, hz1, hz2⟩ := info_parts u8_info
  have HI := Lib.hid hi0; clear hi0
  have HZ0 := Lib.hid hz0; clear hz0
  have HZ1 := Lib.hid hz1; clear hz1
  have HZ2 := Lib.hid hz2; clear hz2
  have HR := Lib.hid hr; clear hr
  go_enter Tryz.func57, Tryz.ntmps57
  go_upto_region 1 with (fail)
  have HB := Lib.hid (show Below w.heap.size w ((w.alloc (Obj.cells #[.string t.user, .string t.tree, .int .u64 t.ours, .int .u64 t.theirs, .int .u8 t.step, .int .i64 t.said, .slice A l.length cap] 54)).alloc (Obj.cells #[.string ⟨#[]⟩, .string ⟨#[]⟩, .int .u64 0, .int .u64 0, .int .u8 0, .int .i64 0, .slice none 0 0] 54)) from ((Below.refl _ _).alloc (Nat.le_refl _) _).alloc (by simp) _)
  have HT := Lib.hid (show TBlk ((w.alloc (Obj.cells #[.string t.user, .string t.tree, .int .u64 t.ours, .int .u64 t.theirs, .int .u8 t.step, .int .i64 t.said, .slice A l.length cap] 54)).alloc (Obj.cells #[.string ⟨#[]⟩, .string ⟨#[]⟩, .int .u64 0, .int .u64 0, .int .u8 0, .int .i64 0, .slice none 0 0] 54)) w.heap.size t (.slice A l.length cap) from Blk.alloc (Blk.new w _ (talkL t (.slice A l.length cap)).toArray) _)
  have HZ := Lib.hid (show TBlk ((w.alloc (Obj.cells #[.string t.user, .string t.tree, .int .u64 t.ours, .int .u64 t.theirs, .int .u8 t.step, .int .i64 t.said, .slice A l.length cap] 54)).alloc (Obj.cells #[.string ⟨#[]⟩, .string ⟨#[]⟩, .int .u64 0, .int .u64 0, .int .u8 0, .int .i64 0, .slice none 0 0] 54)) (w.heap.size + 1) Tk.none (.slice none 0 0) from by
    have h := TBlk.zero (w.alloc (Obj.cells (talkL t (.slice A l.length cap)).toArray 54))
    simp only [World.size_alloc] at h
    exact h)
  generalize (w.alloc (Obj.cells #[.string t.user, .string t.tree, .int .u64 t.ours, .int .u64 t.theirs, .int .u8 t.step, .int .i64 t.said, .slice A l.length cap] 54)).alloc (Obj.cells #[.string ⟨#[]⟩, .string ⟨#[]⟩, .int .u64 0, .int .u64 0, .int .u8 0, .int .i64 0, .slice none 0 0] 54) = w1 at HB HT HZ ⊢
  replace HR := Lib.hid (HR.out.below HB.out)
  have hnew := Blk.lt HZ.out
  have k6 : w1.cell? ⟨w.heap.size, 6, none⟩ = some (.slice A l.length cap) := Blk.cell HT.out 6
  go_upto_region 2 with (at_builtin; refine wpList_append_any _ rfl (.const (.slice none 0 0)) (.tmp 4) _ rfl w.heap.size 5 i0 _ 1 1 Tryz.underlying47 HI.out HZ0.out HZ1.out HZ2.out rfl (by omega) (.slice none 0 0) 0 [] rfl ⟨by simp, .inl ⟨rfl, rfl⟩⟩ w.heap.size A l.length cap (byteL l) rfl HR.out (byteL_one l) (by unfold maxLen; omega) (by omega) HB.out.size ?_; intro v2 w2 hown0 hgr hor; have hown : w2.ownsRow w.heap.size 5 1 v2 l.length (byteL l) := (by have h := hown0; rw [Nat.zero_add] at h; exact h); clear hown0; obtain ⟨A2, c2, rfl, -⟩ := Bys.of_own hown; have HT2 := Lib.hid (Blk.grown (row := none) HT.out hgr (by simp)); have HZ2b := Lib.hid (Blk.grown (row := none) HZ.out hgr (by simp)); have HB2 := Lib.hid (HB.out.grown (row := none) hgr HB.out.size (by simp)); have HO := Lib.hid hown; have HOR := Lib.hid hor; clear k6 hown hgr hor; have k6 := Blk.cell HT2.out 6; have z6 := Blk.frozen HT2.out 6)
  have hne2 : (Value.slice A2 l.length c2).ownBlock ≠ some w.heap.size := by
    rcases HOR.out with h | h
    · rw [h]
      simp [Value.ownBlock]
    · rw [h]
      intro he
      injection he with he
      omega
  have HO3 := Lib.hid (own_other HO.out hne2 (setCell_other w2 w.heap.size 6 (.slice A2 l.length c2)))
  have HT3 := Lib.hid (show TBlk (w2.setCell ⟨w.heap.size, 6, none⟩ (.slice A2 l.length c2)) w.heap.size t (.slice A2 l.length c2) from Blk.set_ HT2.out 6 (.slice A2 l.length c2))
  have HZ3 := Lib.hid (show TBlk (w2.setCell ⟨w.heap.size, 6, none⟩ (.slice A2 l.length c2)) (w.heap.size + 1) Tk.none (.slice none 0 0) from Blk.far HZ2b.out (by show w.heap.size + 1 ≠ w.heap.size; omega) _)
  have HB3 := Lib.hid (HB2.out.setCell (p := ⟨w.heap.size, 6, none⟩) (Nat.le_refl _) (.slice A2 l.length c2))
  have HN3 := Lib.hid (show (Value.slice A2 l.length c2).ownBlock ≠ some (w.heap.size + 1) from by
    rcases HOR.out with h | h
    · rw [h]
      simp [Value.ownBlock]
    · rw [h]
      intro he
      injection he with he
      omega)
  clear k6 z6 hne2
  change Code.wp _ _ _ _ (w2.setCell ⟨w.heap.size, 6, none⟩ (.slice A2 l.length c2))
  generalize w2.setCell ⟨w.heap.size, 6, none⟩ (.slice A2 l.length c2) = w3 at HO3 HT3 HZ3 HB3 ⊢
  go_wp2_with (first
    | (refine wT HT3.out rfl _ rfl rfl ?_)
    | (refine wstT HZ3.out t (.slice A2 l.length c2) rfl rfl _ _ rfl rfl rfl ?_; intro w4 hs ho hbl; have HX := Lib.hid hs; have HB4 := Lib.hid (hbl _ _ HB3.out (by omega)); have HO4 := Lib.hid (own_other HO3.out HN3.out ho); clear hs ho hbl))
  exact bodyPost_ret (results_own rfl HX.out) rfl ⟨⟨_, rfl, HO4.out⟩, HB4.out⟩
end Go.Proofs.YtlenlldiimohjaaGreatDoor
namespace Go.Proofs.YtlenlldiimohjaaGreatDoor
open Go.ChangeShapes Go.WideShapes Go.ChangeAt Go.RowKit

theorem refUserKey_calls (p : Nat) (L : List Acct) (u : ByteArray) (w : World) (h : RTab w p L) :
    Calls Tryz.prog 52 #[.pointer (some ⟨p, 0, none⟩), .string u] w fun e w' => e = .returned (.string (keyOfUser L u)) ∧ w = w' := by
  obtain ⟨v, hb, ha⟩ := h
  obtain ⟨A, c, rfl, hlc, hcm⟩ := ha.len
  unfold maxLen at hcm
  have hcell : w.cell? ⟨p, 0, none⟩ = some (.slice A L.length c) := hb.cell 0
  have HA := Lib.hid ha; clear ha hb
  rcases findZ_parts L u with ⟨i, a, hz, hia, -, -, hfd⟩ | ⟨hz, -, hfd⟩
  · have HZ := Lib.hid hz; clear hz
    have HX := Lib.hid (show keyOfUser L u = a.key from by unfold keyOfUser; rw [hfd]); clear hfd
    obtain ⟨gg, o, c', mv, hv, _, hms, h0, h1, h2, h3, _⟩ := HA.out.at_ hia
    injection hv with e1 _ e3
    subst e1; subst e3
    have hjl : i < L.length := (List.getElem?_eq_some_iff.1 hia).1
    clear hia hms h0 h1 h2
    go_enter Tryz.func52, Tryz.ntmps52
    go_wp2_with fail
    refine (find_calls _ L _ _ HA.out).mono ?_
    rintro e w1 ⟨rfl, rfl⟩
    rw [HZ.out]
    go_wp2_with fail
    go_ret
    exact ⟨by rw [HX.out]; rfl, rfl⟩
  · have HZ := Lib.hid hz; clear hz
    have HX := Lib.hid (show keyOfUser L u = ⟨#[]⟩ from by unfold keyOfUser; rw [hfd]); clear hfd
    go_enter Tryz.func52, Tryz.ntmps52
    go_wp2_with fail
    refine (find_calls _ L _ _ HA.out).mono ?_
    rintro e w1 ⟨rfl, rfl⟩
    rw [HZ.out]
    go_wp2_with fail
    go_ret
    exact ⟨by rw [HX.out]; rfl, rfl⟩
theorem userKey_calls (g : Nat) (L : List Acct) (u : ByteArray) (w : World) (h : PTab w g L) (hu : u.size ≤ 1099511627776) :
    Calls Tryz.prog 54 #[.pointer (some ⟨g, 0, none⟩), .string u] w fun e w' => e = .returned (.string (keyOfUser L u)) ∧ w = w' := by
  obtain ⟨b, m, n, vl, h1, h2, h3, -⟩ := h
  have g1 : w.cell? ⟨g, 1, none⟩ = some (.map (some b)) := h1.cell 1
  have g0 : w.cell? ⟨g, 0, none⟩ = some vl := h1.cell 0
  have hlook := h3.look u (by unfold maxLen; omega)
  clear h1 h3
  cases hk : known L u with
  | false =>
    rw [hk] at hlook
    have HX := Lib.hid (show keyOfUser L u = ⟨#[]⟩ from by
      unfold keyOfUser
      rcases findZ_parts L u with ⟨i, a, -, -, -, hk2, -⟩ | ⟨-, -, hfd⟩
      · rw [hk] at hk2; cases hk2
      · rw [hfd])
    clear hk
    go_enter Tryz.func54, Tryz.ntmps54
    go_wp2_with fail
    go_ret
    exact ⟨by rw [HX.out]; rfl, rfl⟩
  | true =>
    rw [hk] at hlook
    obtain ⟨a, hia, hfd⟩ := ix_find hk
    have HX := Lib.hid (show keyOfUser L u = a.key from by unfold keyOfUser; rw [hfd]); clear hk hfd
    obtain ⟨gg, o, c, mv, rfl, hlc, -, -, -, -, k3, -⟩ := h2.at_ hia
    obtain ⟨Al, cl, hvl, -, hcm⟩ := h2.len
    injection hvl with e1 _ e3
    subst e1; subst e3
    unfold maxLen at hcm
    clear h2
    have hil : ix L u < L.length := (List.getElem?_eq_some_iff.1 hia).1
    clear hia
    generalize ix L u = i at hlook k3 hil
    go_enter Tryz.func54, Tryz.ntmps54
    go_wp2_with fail
    go_ret
    exact ⟨by rw [HX.out]; rfl, rfl⟩
end Go.Proofs.YtlenlldiimohjaaGreatDoor
namespace Go.Proofs.YtlenlldiimohjaaGreatDoor
open Go.RowKit

theorem results_begin {tmps : Array Value} {w : World} {q : Nat} {t : Tk} {hv : Value} {e : Int} (h8 : tmps.getD 8 undef = .pointer (some ⟨q, 0, none⟩)) (h9 : tmps.getD 9 undef = .int .i64 e) (hk : TBlk w q t hv) :
    (results Tryz.f14 tmps).run Tryz.prog w = .ok (.tuple #[talkV t hv, .int .i64 e]) w := by
  have h8' : tmps[8]?.getD undef = .pointer (some ⟨q, 0, none⟩) := by simpa using h8
  have h9' : tmps[9]?.getD undef = .int .i64 e := by simpa using h9
  simp [results, Tryz.results14, h8', h9', asAddr, loadVar_talk hk]
/-- What Begin answers. -/
def beginS (L : List Acct) (user tree : ByteArray) (ours : Int) : Tk × Int :=
  if known L user = false then (Tk.none, 62) else if (keyOfUser L user).size = 0 then (Tk.none, 72) else (⟨user, tree, ours, 0, 1, 0⟩, 0)
set_option maxRecDepth 100000 in
set_option maxHeartbeats 1600000 in
theorem begin_calls (g : Nat) (L : List Acct) (user tree : ByteArray) (ours : Int) (w : World) (h : PTab w g L) (hu : user.size ≤ 1099511627776) :
    Calls Tryz.prog 14 #[.pointer (some ⟨g, 0, none⟩), .string user, .string tree, .int .u64 ours] w fun e w' => e = .returned (.tuple #[talkV (beginS L user tree ours).1 (.slice none 0 0), .int .i64 (beginS L user tree ours).2]) ∧ Below w.heap.size w w' := by
  have HP := Lib.hid (h.below ((Below.refl w.heap.size w).alloc (Nat.le_refl _) (Obj.cells #[.string ⟨#[]⟩, .string ⟨#[]⟩, .int .u64 0, .int .u64 0, .int .u8 0, .int .i64 0, .slice none 0 0] 54)))
  have HZ := Lib.hid (TBlk.zero w)
  have HB := Lib.hid ((Below.refl w.heap.size w).alloc (Nat.le_refl _) (Obj.cells #[.string ⟨#[]⟩, .string ⟨#[]⟩, .int .u64 0, .int .u64 0, .int .u8 0, .int .i64 0, .slice none 0 0] 54))
  clear h
  cases hk : known L user with
  | false =>
    have HS := Lib.hid (show beginS L user tree ours = (Tk.none, 62) from by unfold beginS; rw [if_pos hk])
    have HK := Lib.hid hk
    clear hk
    go_enter Tryz.func14, Tryz.ntmps14
    go_upto_region 1 with (fail)
    generalize w.alloc (Obj.cells #[.string ⟨#[]⟩, .string ⟨#[]⟩, .int .u64 0, .int .u64 0, .int .u8 0, .int .i64 0, .slice none 0 0] 54) = w1 at HP HZ HB ⊢
    go_wp2_with (first
      | (go_at_call 53; (with_reducible refine (known_calls g L user _ HP.out hu).mono ?_); rw [HK.out]; rintro e w' ⟨rfl, rfl⟩)
      | (refine wstT HZ.out Tk.none (.slice none 0 0) rfl rfl _ _ rfl rfl rfl ?_; intro w4 hs ho hbl; have HX := Lib.hid hs; have HB4 := Lib.hid (hbl _ _ HB.out (Nat.le_refl _)); clear hs ho hbl))
    exact bodyPost_ret (results_begin rfl rfl HX.out) rfl ⟨by rw [HS.out], HB4.out⟩
  | true =>
    by_cases hz : (keyOfUser L user).size = 0
    · have HS := Lib.hid (show beginS L user tree ours = (Tk.none, 72) from by unfold beginS; rw [if_neg (by rw [hk]; decide), if_pos hz])
      have he := empty_t hz
      have HK := Lib.hid hk
      obtain ⟨kk, hkk⟩ : ∃ z, keyOfUser L user = z := ⟨_, rfl⟩
      rw [hkk] at he
      have HKK := Lib.hid hkk
      clear hk hz hkk
      go_enter Tryz.func14, Tryz.ntmps14
      go_upto_region 1 with (fail)
      generalize w.alloc (Obj.cells #[.string ⟨#[]⟩, .string ⟨#[]⟩, .int .u64 0, .int .u64 0, .int .u8 0, .int .i64 0, .slice none 0 0] 54) = w1 at HP HZ HB ⊢
      go_wp2_with (first
        | (go_at_call 53; (with_reducible refine (known_calls g L user _ HP.out hu).mono ?_); rw [HK.out]; rintro e w' ⟨rfl, rfl⟩)
        | (go_at_call 54; (with_reducible refine (userKey_calls g L user _ HP.out hu).mono ?_); rw [HKK.out]; rintro e w' ⟨rfl, rfl⟩)
        | (refine wstT HZ.out Tk.none (.slice none 0 0) rfl rfl _ _ rfl rfl rfl ?_; intro w4 hs ho hbl; have HX := Lib.hid hs; have HB4 := Lib.hid (hbl _ _ HB.out (Nat.le_refl _)); clear hs ho hbl))
      exact bodyPost_ret (results_begin rfl rfl HX.out) rfl ⟨by rw [HS.out], HB4.out⟩
    · have HS := Lib.hid (show beginS L user tree ours = (⟨user, tree, ours, 0, 1, 0⟩, 0) from by unfold beginS; rw [if_neg (by rw [hk]; decide), if_neg hz])
      have he := empty_f hz
      have HK := Lib.hid hk
      obtain ⟨kk, hkk⟩ : ∃ z, keyOfUser L user = z := ⟨_, rfl⟩
      rw [hkk] at he
      have HKK := Lib.hid hkk
      clear hk hz hkk
      go_enter Tryz.func14, Tryz.ntmps14
      go_upto_region 1 with (fail)
      generalize w.alloc (Obj.cells #[.string ⟨#[]⟩, .string ⟨#[]⟩, .int .u64 0, .int .u64 0, .int .u8 0, .int .i64 0, .slice none 0 0] 54) = w1 at HP HZ HB ⊢
      go_wp2_with (first
        | (go_at_call 53; (with_reducible refine (known_calls g L user _ HP.out hu).mono ?_); rw [HK.out]; rintro e w' ⟨rfl, rfl⟩)
        | (go_at_call 54; (with_reducible refine (userKey_calls g L user _ HP.out hu).mono ?_); rw [HKK.out]; rintro e w' ⟨rfl, rfl⟩)
        | (refine wstT HZ.out ⟨user, tree, ours, 0, 1, 0⟩ (.slice none 0 0) rfl rfl _ _ rfl rfl rfl ?_; intro w4 hs ho hbl; have HX := Lib.hid hs; have HB4 := Lib.hid (hbl _ _ HB.out (Nat.le_refl _)); clear hs ho hbl))
      exact bodyPost_ret (results_begin rfl rfl HX.out) rfl ⟨by rw [HS.out], HB4.out⟩
/-- What Allows answers. -/
def allowsS (t : Tk) (user tree : ByteArray) : Int := if (t.step != 4) = true ∨ t.user ≠ user ∨ t.tree ≠ tree then 72 else 0
set_option maxHeartbeats 1600000 in
theorem allows_calls (t : Tk) (hv : Value) (user tree : ByteArray) (w : World) :
    Calls Tryz.prog 19 #[talkV t hv, .string user, .string tree] w fun e w' => e = .returned (.int .i64 (allowsS t user tree)) ∧ Below w.heap.size w w' := by
  have HB := Lib.hid ((Below.refl w.heap.size w).alloc (Nat.le_refl _) (Obj.cells (talkL t hv).toArray 54))
  have HT := Lib.hid (show TBlk (w.alloc (Obj.cells (talkL t hv).toArray 54)) w.heap.size t hv from Blk.new w _ _)
  cases h1 : (t.step != 4) with
  | true =>
    have HS := Lib.hid (show allowsS t user tree = 72 from by unfold allowsS; rw [if_pos (.inl h1)])
    go_enter Tryz.func19, Tryz.ntmps19
    go_upto_region 1 with (fail)
    generalize w.alloc (Obj.cells _ _) = w1 at HB HT ⊢
    have k4 : w1.cell? ⟨w.heap.size, 4, none⟩ = some (.int .u8 t.step) := Blk.cell HT.out 4
    go_wp2_with fail
    go_ret
    exact ⟨by rw [HS.out]; rfl, HB.out⟩
  | false =>
    by_cases h2 : t.user = user
    · have e2 := beq_str_t h2
      by_cases h3 : t.tree = tree
      · have e3 := beq_str_t h3
        have HS := Lib.hid (show allowsS t user tree = 0 from by
          unfold allowsS
          rw [if_neg (fun hh => by
            rw [h1] at hh
            rcases hh with hh | hh | hh
            · cases hh
            · exact hh h2
            · exact hh h3)])
        clear h2 h3
        go_enter Tryz.func19, Tryz.ntmps19
        go_upto_region 1 with (fail)
        generalize w.alloc (Obj.cells _ _) = w1 at HB HT ⊢
        have k4 : w1.cell? ⟨w.heap.size, 4, none⟩ = some (.int .u8 t.step) := Blk.cell HT.out 4
        have k0 : w1.cell? ⟨w.heap.size, 0, none⟩ = some (.string t.user) := Blk.cell HT.out 0
        have k1 : w1.cell? ⟨w.heap.size, 1, none⟩ = some (.string t.tree) := Blk.cell HT.out 1
        go_wp2_with fail
        go_ret
        exact ⟨by rw [HS.out]; rfl, HB.out⟩
      · have e3 := beq_str_f h3
        have HS := Lib.hid (show allowsS t user tree = 72 from by unfold allowsS; rw [if_pos (.inr (.inr h3))])
        clear h2 h3
        go_enter Tryz.func19, Tryz.ntmps19
        go_upto_region 1 with (fail)
        generalize w.alloc (Obj.cells _ _) = w1 at HB HT ⊢
        have k4 : w1.cell? ⟨w.heap.size, 4, none⟩ = some (.int .u8 t.step) := Blk.cell HT.out 4
        have k0 : w1.cell? ⟨w.heap.size, 0, none⟩ = some (.string t.user) := Blk.cell HT.out 0
        have k1 : w1.cell? ⟨w.heap.size, 1, none⟩ = some (.string t.tree) := Blk.cell HT.out 1
        go_wp2_with fail
        go_ret
        exact ⟨by rw [HS.out]; rfl, HB.out⟩
    · have e2 := beq_str_f h2
      have HS := Lib.hid (show allowsS t user tree = 72 from by unfold allowsS; rw [if_pos (.inr (.inl h2))])
      clear h2
      go_enter Tryz.func19, Tryz.ntmps19
      go_upto_region 1 with (fail)
      generalize w.alloc (Obj.cells _ _) = w1 at HB HT ⊢
      have k4 : w1.cell? ⟨w.heap.size, 4, none⟩ = some (.int .u8 t.step) := Blk.cell HT.out 4
      have k0 : w1.cell? ⟨w.heap.size, 0, none⟩ = some (.string t.user) := Blk.cell HT.out 0
      go_wp2_with fail
      go_ret
      exact ⟨by rw [HS.out]; rfl, HB.out⟩
end Go.Proofs.YtlenlldiimohjaaGreatDoor
