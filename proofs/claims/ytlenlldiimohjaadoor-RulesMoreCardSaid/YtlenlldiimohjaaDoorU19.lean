/-
  Package rules: Wants, Perm, Step, Open, Remove, Closes.
-/
import Derived.Test.YtlenlldiimohjaaDoorU18
import Derived.Deep.Light
namespace Go.Proofs.YtlenlldiimohjaaDoor
open Go.ChangeShapes Go.WideShapes Go.ChangeAt Go.RowKit

theorem ret_two {k l : IntKind} {a b : Int} {p : Int × Int} (h : p = (a, b)) : Ending.returned (.tuple #[.int k a, .int l b]) = .returned (.tuple #[.int k p.1, .int l p.2]) := by rw [h]
theorem bcell {W w1 : World} (hb : Below W.heap.size W w1) : (∀ b o, b < W.heap.size → w1.cell? ⟨b, o, none⟩ = W.cell? ⟨b, o, none⟩) ∧ (∀ b o, b < W.heap.size → w1.frozen? ⟨b, o, none⟩ = W.frozen? ⟨b, o, none⟩) :=
  ⟨fun b o h => hb.cell (p := ⟨b, o, none⟩) h, fun b o h => hb.frozen (p := ⟨b, o, none⟩) h⟩

theorem wants_calls (m : Int) (w : World) :
    Calls Tryd.prog 14 #[.int .u8 m] w fun e w' => e = .returned (.tuple #[.int .u8 (wantsP m).1, .int .i64 (wantsP m).2]) ∧ w = w' := by
  go_enter Tryd.func14, Tryd.ntmps14
  go_wp2
  all_goals
    go_ret2
    exact ⟨ret_two (by simp [wantsP, *]), rfl⟩
theorem perm_calls (m : Int) (w : World) :
    Calls Tryd.prog 16 #[.int .u32 m] w fun e w' => e = .returned (.int .i64 (permS m)) ∧ w = w' := by
  go_enter Tryd.func16, Tryd.ntmps16
  go_wp2
  all_goals
    go_ret
    refine ⟨ret_int ?_, rfl⟩
    go_light
    simp_all [permS]

/-- The table, and how far the call has come. -/
def RAt (w0 : World) (g : Nat) (L : List Acct) (w : World) : Prop := PTab w g L ∧ Below w0.heap.size w0 w ∧ w0.heap.size < w.heap.size
theorem RAt.next {w0 w w' : World} {g : Nat} {L : List Acct} (h : RAt w0 g L w) (hb : Below w.heap.size w w') : RAt w0 g L w' := ⟨h.1.below hb, h.2.1.trans (hb.mono h.2.1.size), Nat.lt_of_lt_of_le h.2.2 hb.size⟩
theorem RAt.box {w0 : World} {g : Nat} {L : List Acct} (h : PTab w0 g L) (o : Obj) : RAt w0 g L (w0.alloc o) := ⟨h.below ((Below.refl _ _).alloc (Nat.le_refl _) o), (Below.refl _ _).alloc (Nat.le_refl _) o, by simp⟩

theorem RAt.tab {w0 w : World} {g : Nat} {L : List Acct} (h : RAt w0 g L w) : PTab w g L := h.1
theorem RAt.low {w0 w : World} {g : Nat} {L : List Acct} (h : RAt w0 g L w) : Below w0.heap.size w0 w := h.2.1
theorem RAt.lt {w0 w : World} {g : Nat} {L : List Acct} (h : RAt w0 g L w) : w0.heap.size < w.heap.size := h.2.2

set_option maxRecDepth 100000 in
theorem step_calls (g : Nat) (L : List Acct) (u : ByteArray) (n : Nd) (w : World) (h : PTab w g L) (hn : n.ok) (hu : u.size ≤ 16777216) :
    Calls Tryd.prog 31 #[.pointer (some ⟨g, 0, none⟩), .string u, nodeV n] w fun e w' => e = .returned (.int .i64 (stepS n (rights (decide (u = n.uid)) (isMember L u n.gid) n.mode))) ∧ Below w.heap.size w w' := by
  have HR := Lib.hid (RAt.box h (Obj.cells #[.int .u64 n.path, .int .u64 n.parent, .string n.name, .int .u32 n.mode, .string n.uid, .string n.gid, .string n.muid, .int .u32 n.atime, .int .u32 n.mtime, .int .u32 n.vers, .int .u64 n.length, .int .i64 n.opens, .int .i64 n.kids] 34)); clear h
  have HN := Lib.hid hn; clear hn
  go_enter Tryd.func31, Tryd.ntmps31
  go_wp2_with (first
    | (go_at_call 42; refine (is_calls n _ _ HN.out).mono ?_; rintro e w' ⟨rfl, hb⟩; replace HR := Lib.hid (HR.out.next hb); obtain ⟨hc, hf⟩ := bcell hb; have hz := HR.out.lt; clear hb)
    | (go_at_call 43; refine (may_calls g L u n _ _ HR.out.tab HN.out hu).mono ?_; rintro e w' ⟨rfl, hb⟩; replace HR := Lib.hid (HR.out.next hb); clear hb))
  all_goals
    go_ret
    refine ⟨ret_int ?_, HR.out.low⟩
    go_light
    clear HR
    try clear hc hf
    simp_all [stepS]

set_option maxRecDepth 100000 in
set_option maxHeartbeats 1600000 in
theorem open_calls (g : Nat) (L : List Acct) (u : ByteArray) (n p : Nd) (taken full : Bool) (m : Int) (w : World) (h : PTab w g L) (hn : n.ok) (hp : p.ok) (hu : u.size ≤ 16777216) :
    Calls Tryd.prog 25 #[.pointer (some ⟨g, 0, none⟩), .string u, factsV n p taken full, .int .u8 m] w fun e w' => e = .returned (.int .i64 (openS n (rights (decide (u = n.uid)) (isMember L u n.gid) n.mode) (rights (decide (u = p.uid)) (isMember L u p.gid) p.mode) m (wantsP m))) ∧ Below w.heap.size w w' := by
  have HR := Lib.hid (RAt.box h (Obj.cells #[.int .u64 n.path, .int .u64 n.parent, .string n.name, .int .u32 n.mode, .string n.uid, .string n.gid, .string n.muid, .int .u32 n.atime, .int .u32 n.mtime, .int .u32 n.vers, .int .u64 n.length, .int .i64 n.opens, .int .i64 n.kids, .int .u64 p.path, .int .u64 p.parent, .string p.name, .int .u32 p.mode, .string p.uid, .string p.gid, .string p.muid, .int .u32 p.atime, .int .u32 p.mtime, .int .u32 p.vers, .int .u64 p.length, .int .i64 p.opens, .int .i64 p.kids, .bool taken, .bool full] 36)); clear h
  have HN := Lib.hid hn; clear hn
  have HPP := Lib.hid hp; clear hp
  go_enter Tryd.func25, Tryd.ntmps25
  go_wp2_with (first
    | (go_at_call 14; (with_reducible refine (wants_calls _ _).mono ?_); rintro e w' ⟨rfl, rfl⟩)
    | (go_at_call 42; (with_reducible refine (is_calls n _ _ HN.out).mono ?_); rintro e w' ⟨rfl, hb⟩; replace HR := Lib.hid (HR.out.next hb); obtain ⟨hc, hf⟩ := bcell hb; have hz := HR.out.lt; clear hb)
    | (go_at_call 43; (with_reducible refine (may_calls g L u n _ _ HR.out.tab HN.out hu).mono ?_); rintro e w' ⟨rfl, hb⟩; replace HR := Lib.hid (HR.out.next hb); obtain ⟨hc, hf⟩ := bcell hb; have hz := HR.out.lt; clear hb)
    | (go_at_call 43; (with_reducible refine (may_calls g L u p _ _ HR.out.tab HPP.out hu).mono ?_); rintro e w' ⟨rfl, hb⟩; replace HR := Lib.hid (HR.out.next hb); obtain ⟨hc, hf⟩ := bcell hb; have hz := HR.out.lt; clear hb))
  all_goals
    go_ret
    refine ⟨ret_int ?_, HR.out.low⟩
    go_light
    clear HR
    try clear hc hf
    simp_all [openS]

set_option maxRecDepth 100000 in
set_option maxHeartbeats 1600000 in
theorem remove_calls (g : Nat) (L : List Acct) (u : ByteArray) (n p : Nd) (taken full : Bool) (w : World) (h : PTab w g L) (hn : n.ok) (hp : p.ok) (hu : u.size ≤ 16777216) :
    Calls Tryd.prog 27 #[.pointer (some ⟨g, 0, none⟩), .string u, factsV n p taken full] w fun e w' => e = .returned (.int .i64 (removeS n (rights (decide (u = p.uid)) (isMember L u p.gid) p.mode))) ∧ Below w.heap.size w w' := by
  have HR := Lib.hid (RAt.box h (Obj.cells #[.int .u64 n.path, .int .u64 n.parent, .string n.name, .int .u32 n.mode, .string n.uid, .string n.gid, .string n.muid, .int .u32 n.atime, .int .u32 n.mtime, .int .u32 n.vers, .int .u64 n.length, .int .i64 n.opens, .int .i64 n.kids, .int .u64 p.path, .int .u64 p.parent, .string p.name, .int .u32 p.mode, .string p.uid, .string p.gid, .string p.muid, .int .u32 p.atime, .int .u32 p.mtime, .int .u32 p.vers, .int .u64 p.length, .int .i64 p.opens, .int .i64 p.kids, .bool taken, .bool full] 36)); clear h
  have HN := Lib.hid hn; clear hn
  have HPP := Lib.hid hp; clear hp
  go_enter Tryd.func27, Tryd.ntmps27
  go_wp2_with (first
    | (go_at_call 42; (with_reducible refine (is_calls n _ _ HN.out).mono ?_); rintro e w' ⟨rfl, hb⟩; replace HR := Lib.hid (HR.out.next hb); obtain ⟨hc, hf⟩ := bcell hb; have hz := HR.out.lt; clear hb)
    | (go_at_call 43; (with_reducible refine (may_calls g L u p _ _ HR.out.tab HPP.out hu).mono ?_); rintro e w' ⟨rfl, hb⟩; replace HR := Lib.hid (HR.out.next hb); obtain ⟨hc, hf⟩ := bcell hb; have hz := HR.out.lt; clear hb))
  all_goals
    go_ret
    refine ⟨ret_int ?_, HR.out.low⟩
    go_light
    clear HR
    try clear hc hf
    simp_all [removeS]

end Go.Proofs.YtlenlldiimohjaaDoor
