
/-
  Package rules: is, Rights, may.
  Package rules: Wants, Perm, Step, Open, Remove, Closes.
  Package rules: Closes.
  Package names: Check; the document's Check.
  Package rules: made; the words for Create.
  Package rules: Create.
-/
import Derived.Test.YtlenlldiimohjaaGreatDoorG3
import Derived.Test.YtlenlldiimohjaaGreatDoorB0
import Derived.Deep.RegionHeld3
import Derived.Deep.Light
import Derived.Deep.MidRow
import Derived.Test.YtlenlldiimohjaaGreatDoorG1
namespace Go.Proofs.YtlenlldiimohjaaGreatDoor
open Go.ChangeShapes Go.WideShapes Go.ChangeAt Go.RowKit

theorem is_calls (n : Nd) (b : Int) (w : World) (h : n.ok) :
    Calls Tryz.prog 93 #[nodeV n, .int .u32 b] w fun e w' => e = .returned (.bool (isB n.mode b)) ∧ Below w.heap.size w w' := by
  obtain ⟨m0, m1, -⟩ := h
  unfold nodeV
  go_enter Tryz.func93, Tryz.ntmps93
  go_wp2_with fail
  go_ret
  exact ⟨rfl, (Below.refl _ _).alloc (Nat.le_refl _) _⟩

set_option maxRecDepth 100000 in
set_option maxHeartbeats 1600000 in
theorem rights_calls (g : Nat) (L : List Acct) (u : ByteArray) (n : Nd) (w : World) (h : PTab w g L) (hn : n.ok) (hu : u.size ≤ 16777216) :
    Calls Tryz.prog 36 #[.pointer (some ⟨g, 0, none⟩), .string u, nodeV n] w fun e w' => e = .returned (.int .u8 (rights (decide (u = n.uid)) (isMember L u n.gid) n.mode)) ∧ Below w.heap.size w w' := by
  obtain ⟨m0, m1, -, -, hgs, -⟩ := hn
  obtain ⟨m, HMM⟩ : ∃ m : Nat, Hid (n.mode = (m : Int)) := Int.eq_ofNat_of_zero_le m0
  have hpre : Below w.heap.size w (w.alloc (Obj.cells #[.int .u64 n.path, .int .u64 n.parent, .string n.name, .int .u32 n.mode, .string n.uid, .string n.gid, .string n.muid, .int .u32 n.atime, .int .u32 n.mtime, .int .u32 n.vers, .int .u64 n.length, .int .i64 n.opens, .int .i64 n.kids] 25)) := (Below.refl _ _).alloc (Nat.le_refl _) _
  have HT := Lib.hid (h.below hpre); clear h
  have HB := Lib.hid hpre; clear hpre
  have HN := Lib.hid (Blk.new w 25 #[.int .u64 n.path, .int .u64 n.parent, .string n.name, .int .u32 n.mode, .string n.uid, .string n.gid, .string n.muid, .int .u32 n.atime, .int .u32 n.mtime, .int .u32 n.vers, .int .u64 n.length, .int .i64 n.opens, .int .i64 n.kids])
  unfold nodeV
  go_enter Tryz.func36, Tryz.ntmps36
  go_wp2_with fail
  generalize w.alloc (Obj.cells #[.int .u64 n.path, .int .u64 n.parent, .string n.name, .int .u32 n.mode, .string n.uid, .string n.gid, .string n.muid, .int .u32 n.atime, .int .u32 n.mtime, .int .u32 n.vers, .int .u64 n.length, .int .i64 n.opens, .int .i64 n.kids] 25) = w1 at HT HB HN ⊢
  have a4 : w1.drew.cell? ⟨w.heap.size, 4, none⟩ = some (.string n.uid) := HN.out.cell 4
  have a5 : w1.drew.cell? ⟨w.heap.size, 5, none⟩ = some (.string n.gid) := HN.out.cell 5
  have HTD := Lib.hid (HT.out.below (below_drew w1))
  have b4 : (w1.alloc (Obj.cells #[.bool (u.toList == n.uid.toList), .int .i64 6, .bool (isMember L u n.gid), .int .i64 3, .bool true, .int .i64 0] 161)).drew.cell? ⟨w.heap.size, 4, none⟩ = some (.string n.uid) := (HN.out.alloc (Obj.cells #[.bool (u.toList == n.uid.toList), .int .i64 6, .bool (isMember L u n.gid), .int .i64 3, .bool true, .int .i64 0] 161)).cell 4
  have b5 : (w1.alloc (Obj.cells #[.bool (u.toList == n.uid.toList), .int .i64 6, .bool (isMember L u n.gid), .int .i64 3, .bool true, .int .i64 0] 161)).drew.cell? ⟨w.heap.size, 5, none⟩ = some (.string n.gid) := (HN.out.alloc (Obj.cells #[.bool (u.toList == n.uid.toList), .int .i64 6, .bool (isMember L u n.gid), .int .i64 3, .bool true, .int .i64 0] 161)).cell 5
  go_region_held3 (fun w' => w'.cell? ⟨w.heap.size, 4, none⟩ = some (.string n.uid) ∧ w'.cell? ⟨w.heap.size, 5, none⟩ = some (.string n.gid))
    (first | exact ⟨a4, a5⟩ | exact ⟨b4, b5⟩ | go_keep)
    (first
    | (go_at_call 98; refine (member_calls g L u n.gid _ HTD.out (by omega) (by omega)).mono ?_; rintro e w' ⟨rfl, rfl⟩))
  clear a4 a5 b4 b5
  have HS := Lib.hid (show Blk (w1.alloc (Obj.cells #[.bool (u.toList == n.uid.toList), .int .i64 6, .bool (isMember L u n.gid), .int .i64 3, .bool true, .int .i64 0] 161)).drew w1.heap.size 161 #[.bool (u.toList == n.uid.toList), .int .i64 6, .bool (isMember L u n.gid), .int .i64 3, .bool true, .int .i64 0] from Blk.new w1 _ _)
  have HN2 := Lib.hid ((HN.out.alloc (Obj.cells #[.bool (u.toList == n.uid.toList), .int .i64 6, .bool (isMember L u n.gid), .int .i64 3, .bool true, .int .i64 0] 161)).drew)
  have HB2 := Lib.hid (HB.out.alloc HB.out.size (Obj.cells #[.bool (u.toList == n.uid.toList), .int .i64 6, .bool (isMember L u n.gid), .int .i64 3, .bool true, .int .i64 0] 161)).drew
  generalize (w1.alloc (Obj.cells #[.bool (u.toList == n.uid.toList), .int .i64 6, .bool (isMember L u n.gid), .int .i64 3, .bool true, .int .i64 0] 161)).drew = w2 at HS HN2 HB2 ⊢
  generalize w1.heap.size = q at HS ⊢
  rw [beq_str] at HS ⊢
  generalize hown : decide (u = n.uid) = own at HS ⊢
  generalize hmem : isMember L u n.gid = mem at HS ⊢
  have HOWN := Lib.hid hown; clear hown
  have HMEM := Lib.hid hmem; clear hmem
  clear HN HB HT HTD
  have hins : ∀ k, k < 3 → w2.cell? ⟨q, 0 + k * 2, none⟩ = some (.bool (insR own mem k)) := by
    intro k hk
    match k, hk with
    | 0, _ => exact HS.out.cell 0
    | 1, _ => exact HS.out.cell 2
    | 2, _ => exact HS.out.cell 4
  have hshs : ∀ k, k < 3 → w2.cell? ⟨q, 0 + k * 2 + 1, none⟩ = some (.int .i64 (shR k)) := by
    intro k hk
    match k, hk with
    | 0, _ => exact HS.out.cell 1
    | 1, _ => exact HS.out.cell 3
    | 2, _ => exact HS.out.cell 5
  have HI := Lib.hid hins; clear hins
  have HH := Lib.hid hshs; clear hshs
  have hq : q < w2.heap.size := HS.out.lt
  clear HS
  go_wp2_with fail
  have hb0 : w.heap.size < w2.heap.size := HN2.out.lt
  generalize hmd : n.mode = md at HN2 HMM m0 m1 ⊢
  have HMD := Lib.hid hmd; clear hmd
  go_loopw [26, 8] (fun i r wr => ∃ k : Nat, k ≤ 3 ∧ i = .int .i64 k ∧ r = .int .u8 (accR own mem m k : Nat) ∧ Below w2.heap.size w2 wr) (fun i _ _ => 3 - (intOf i).toNat)
  case atStart => exact ⟨0, by omega, rfl, rfl, Below.refl _ _⟩
  case round =>
    obtain ⟨k, hk, rfl, rfl, hb⟩ := hrel
    by_cases hlt : k < 3
    · have i0 : wr.cell? ⟨q, k * 2, none⟩ = some (.bool (insR own mem k)) := by
        have := HI.out k hlt
        rw [Nat.zero_add] at this
        exact (hb.cell (p := ⟨q, k * 2, none⟩) hq).trans this
      have i1 : wr.cell? ⟨q, k * 2 + 1, none⟩ = some (.int .i64 (shR k)) := by
        have := HH.out k hlt
        rw [Nat.zero_add] at this
        exact (hb.cell (p := ⟨q, k * 2 + 1, none⟩) hq).trans this
      have i3 : (wr.alloc (Obj.cells #[.bool (insR own mem k), .int .i64 (shR k)] 161)).cell? ⟨w.heap.size, 3, none⟩ = some (.int .u32 md) := ((HN2.out.below hb hb0).alloc _).cell 3
      have HB3 := Lib.hid (hb.alloc hb.size (Obj.cells #[.bool (insR own mem k), .int .i64 (shR k)] 161)); clear hb
      have hs0 : 0 ≤ shR k := by match k, hlt with | 0, _ => decide | 1, _ => decide | 2, _ => decide
      have hs1 : shR k ≤ 32 := by match k, hlt with | 0, _ => decide | 1, _ => decide | 2, _ => decide
      have ha := accR_lt own mem m k hk
      cases hin : insR own mem k with
      | false =>
        rw [hin] at i0 i3 HB3
        have HX := Lib.hid (accR_no (m := m) hlt hin); clear hin
        go_wp2_with fail
        go_roundw
        case rel => exact ⟨k + 1, by omega, by go_num, by rw [HX.out], HB3.out⟩
        case measure => simp [intOf]; omega
      | true =>
        rw [hin] at i0 i3 HB3
        have HX := Lib.hid (accR_yes (m := m) hlt hin); clear hin
        go_wp2_with fail
        go_roundw
        case rel => exact ⟨k + 1, by omega, by go_num, by rw [HX.out, HMM.out, cls_eq _ _ _ ha], HB3.out⟩
        case measure => simp [intOf]; omega
    · have HX := Lib.hid (show accR own mem m k = rightsN own mem md.toNat from by
        have h3 : k = 3 := by omega
        subst h3
        rw [accR_end, HMM.out]; rfl)
      have HB3 := Lib.hid (HB2.out.trans (hb.mono HB2.out.size)); clear hb
      go_wp2_with fail
      go_ret
      exact ⟨ret_int (by rw [HX.out, ← HMD.out, ← HOWN.out, ← HMEM.out]; rfl), HB3.out⟩

theorem may_calls (g : Nat) (L : List Acct) (u : ByteArray) (n : Nd) (r : Int) (w : World) (h : PTab w g L) (hn : n.ok) (hu : u.size ≤ 16777216) :
    Calls Tryz.prog 96 #[.pointer (some ⟨g, 0, none⟩), .string u, nodeV n, .int .u8 r] w fun e w' => e = .returned (.bool (mayB (rights (decide (u = n.uid)) (isMember L u n.gid) n.mode) r)) ∧ Below w.heap.size w w' := by
  have hpre : Below w.heap.size w (w.alloc (Obj.cells #[.int .u64 n.path, .int .u64 n.parent, .string n.name, .int .u32 n.mode, .string n.uid, .string n.gid, .string n.muid, .int .u32 n.atime, .int .u32 n.mtime, .int .u32 n.vers, .int .u64 n.length, .int .i64 n.opens, .int .i64 n.kids] 25)) := (Below.refl _ _).alloc (Nat.le_refl _) _
  have HT := Lib.hid (h.below hpre); clear h
  have HB := Lib.hid hpre; clear hpre
  unfold nodeV
  go_enter Tryz.func96, Tryz.ntmps96
  go_wp2_with fail
  refine (rights_calls g L u n _ HT.out hn hu).mono ?_
  rintro e w1 ⟨rfl, hb1⟩
  have HB1 := Lib.hid (HB.out.trans (hb1.mono HB.out.size)); clear hb1
  go_wp2_with fail
  go_ret
  exact ⟨rfl, HB1.out⟩
end Go.Proofs.YtlenlldiimohjaaGreatDoor

namespace Go.Proofs.YtlenlldiimohjaaGreatDoor
open Go.ChangeShapes Go.WideShapes Go.ChangeAt Go.RowKit

theorem ret_two {k l : IntKind} {a b : Int} {p : Int × Int} (h : p = (a, b)) : Ending.returned (.tuple #[.int k a, .int l b]) = .returned (.tuple #[.int k p.1, .int l p.2]) := by rw [h]
theorem bcell {W w1 : World} (hb : Below W.heap.size W w1) : (∀ b o, b < W.heap.size → w1.cell? ⟨b, o, none⟩ = W.cell? ⟨b, o, none⟩) ∧ (∀ b o, b < W.heap.size → w1.frozen? ⟨b, o, none⟩ = W.frozen? ⟨b, o, none⟩) :=
  ⟨fun b o h => hb.cell (p := ⟨b, o, none⟩) h, fun b o h => hb.frozen (p := ⟨b, o, none⟩) h⟩

theorem wants_calls (m : Int) (w : World) :
    Calls Tryz.prog 34 #[.int .u8 m] w fun e w' => e = .returned (.tuple #[.int .u8 (wantsP m).1, .int .i64 (wantsP m).2]) ∧ w = w' := by
  go_enter Tryz.func34, Tryz.ntmps34
  go_wp2
  all_goals
    go_ret2
    exact ⟨ret_two (by simp [wantsP, *]), rfl⟩
theorem perm_calls (m : Int) (w : World) :
    Calls Tryz.prog 95 #[.int .u32 m] w fun e w' => e = .returned (.int .i64 (permS m)) ∧ w = w' := by
  go_enter Tryz.func95, Tryz.ntmps95
  go_wp2
  all_goals
    go_ret
    refine ⟨ret_int ?_, rfl⟩
    go_light
    simp_all [permS]

/-- The table, and how far the call has come. -/
def RAt (w0 : World) (g : Nat) (L : List Acct) (w : World) : Prop := PTab w g L ∧ Below w0.heap.size w0 w ∧ w0.heap.size < w.heap.size
theorem RAt.next {w0 w w' : World} {g : Nat} {L : List Acct} (h : RAt w0 g L w) (hb : Below w.heap.size w w') : RAt w0 g L w' := ⟨h.1.below hb, h.2.1.trans (hb.mono h.2.1.size), Nat.lt_of_lt_of_le h.2.2 hb.size⟩
theorem RAt.box {w0 : World} {g : Nat} {L : List Acct} (h : PTab w0 g L) (o : Obj) : RAt w0 g L (w0.alloc o) := ⟨h.below ((Below.refl _ _).alloc (Nat.le_refl _) o), (Below.refl _ _).alloc (Nat.le_refl _) o, by simp⟩

theorem RAt.tab {w0 w : World} {g : Nat} {L : List Acct} (h : RAt w0 g L w) : PTab w g L := h.1
theorem RAt.low {w0 w : World} {g : Nat} {L : List Acct} (h : RAt w0 g L w) : Below w0.heap.size w0 w := h.2.1
theorem RAt.lt {w0 w : World} {g : Nat} {L : List Acct} (h : RAt w0 g L w) : w0.heap.size < w.heap.size := h.2.2

set_option maxRecDepth 100000 in
set_option maxHeartbeats 1600000 in
theorem open_calls (g : Nat) (L : List Acct) (u : ByteArray) (n p : Nd) (taken full : Bool) (m : Int) (w : World) (h : PTab w g L) (hn : n.ok) (hp : p.ok) (hu : u.size ≤ 16777216) :
    Calls Tryz.prog 35 #[.pointer (some ⟨g, 0, none⟩), .string u, factsV n p taken full, .int .u8 m] w fun e w' => e = .returned (.int .i64 (openS n (rights (decide (u = n.uid)) (isMember L u n.gid) n.mode) (rights (decide (u = p.uid)) (isMember L u p.gid) p.mode) m (wantsP m))) ∧ Below w.heap.size w w' := by
  have HR := Lib.hid (RAt.box h (Obj.cells #[.int .u64 n.path, .int .u64 n.parent, .string n.name, .int .u32 n.mode, .string n.uid, .string n.gid, .string n.muid, .int .u32 n.atime, .int .u32 n.mtime, .int .u32 n.vers, .int .u64 n.length, .int .i64 n.opens, .int .i64 n.kids, .int .u64 p.path, .int .u64 p.parent, .string p.name, .int .u32 p.mode, .string p.uid, .string p.gid, .string p.muid, .int .u32 p.atime, .int .u32 p.mtime, .int .u32 p.vers, .int .u64 p.length, .int .i64 p.opens, .int .i64 p.kids, .bool taken, .bool full] 27)); clear h
  have HN := Lib.hid hn; clear hn
  have HPP := Lib.hid hp; clear hp
  go_enter Tryz.func35, Tryz.ntmps35
  go_wp2_with (first
    | (go_at_call 34; (with_reducible refine (wants_calls _ _).mono ?_); rintro e w' ⟨rfl, rfl⟩)
    | (go_at_call 93; (with_reducible refine (is_calls n _ _ HN.out).mono ?_); rintro e w' ⟨rfl, hb⟩; replace HR := Lib.hid (HR.out.next hb); obtain ⟨hc, hf⟩ := bcell hb; have hz := HR.out.lt; clear hb)
    | (go_at_call 96; (with_reducible refine (may_calls g L u n _ _ HR.out.tab HN.out hu).mono ?_); rintro e w' ⟨rfl, hb⟩; replace HR := Lib.hid (HR.out.next hb); obtain ⟨hc, hf⟩ := bcell hb; have hz := HR.out.lt; clear hb)
    | (go_at_call 96; (with_reducible refine (may_calls g L u p _ _ HR.out.tab HPP.out hu).mono ?_); rintro e w' ⟨rfl, hb⟩; replace HR := Lib.hid (HR.out.next hb); obtain ⟨hc, hf⟩ := bcell hb; have hz := HR.out.lt; clear hb))
  all_goals
    go_ret
    refine ⟨ret_int ?_, HR.out.low⟩
    go_light
    clear HR
    try clear hc hf
    simp_all [openS]

end Go.Proofs.YtlenlldiimohjaaGreatDoor

namespace Go.Proofs.YtlenlldiimohjaaGreatDoor
open Go.ChangeShapes Go.WideShapes Go.ChangeAt Go.RowKit

abbrev nodeL (n : Nd) : List Value := [.int .u64 n.path, .int .u64 n.parent, .string n.name, .int .u32 n.mode, .string n.uid, .string n.gid, .string n.muid, .int .u32 n.atime, .int .u32 n.mtime, .int .u32 n.vers, .int .u64 n.length, .int .i64 n.opens, .int .i64 n.kids]
abbrev factsL (n p : Nd) (taken full : Bool) : List Value := [.int .u64 n.path, .int .u64 n.parent, .string n.name, .int .u32 n.mode, .string n.uid, .string n.gid, .string n.muid, .int .u32 n.atime, .int .u32 n.mtime, .int .u32 n.vers, .int .u64 n.length, .int .i64 n.opens, .int .i64 n.kids, .int .u64 p.path, .int .u64 p.parent, .string p.name, .int .u32 p.mode, .string p.uid, .string p.gid, .string p.muid, .int .u32 p.atime, .int .u32 p.mtime, .int .u32 p.vers, .int .u64 p.length, .int .i64 p.opens, .int .i64 p.kids, .bool taken, .bool full]
/-- The facts lie in block q. -/
def FBlk (w : World) (q : Nat) (n p : Nd) (taken full : Bool) : Prop := Blk w q 27 (factsL n p taken full).toArray
/-- A node lies in block q. -/
def NBlk (w : World) (q : Nat) (n : Nd) : Prop := Blk w q 25 (nodeL n).toArray
theorem rangeAt_of {w : World} {q : Nat} {t : TypeId} {cs : Array Value} (h : Blk w q t cs) (o : Nat) (l : List Value) (hl : ∀ j v, l[j]? = some v → cs[o + j]? = some v) : w.rangeAt q o l := fun j v hv => (h.cell (o + j)).trans (hl j v hv)
theorem node_size : (Tryz.prog.info? 25).map (·.size) = some 13 := by kernel_rfl
theorem facts_size : (Tryz.prog.info? 27).map (·.size) = some 28 := by kernel_rfl
section
variable {w w' : World} {q : Nat} {n p : Nd} {taken full : Bool}
theorem FBlk.below (h : FBlk w q n p taken full) (hb : Below w.heap.size w w') : FBlk w' q n p taken full := Blk.below h hb (Blk.lt h)
theorem FBlk.drew (h : FBlk w q n p taken full) : FBlk w.drew q n p taken full := h
theorem NBlk.below (h : NBlk w q n) (hb : Below w.heap.size w w') : NBlk w' q n := Blk.below h hb (Blk.lt h)
theorem FBlk.new (w : World) (n p : Nd) (taken full : Bool) : FBlk (w.alloc (Obj.cells #[.int .u64 n.path, .int .u64 n.parent, .string n.name, .int .u32 n.mode, .string n.uid, .string n.gid, .string n.muid, .int .u32 n.atime, .int .u32 n.mtime, .int .u32 n.vers, .int .u64 n.length, .int .i64 n.opens, .int .i64 n.kids, .int .u64 p.path, .int .u64 p.parent, .string p.name, .int .u32 p.mode, .string p.uid, .string p.gid, .string p.muid, .int .u32 p.atime, .int .u32 p.mtime, .int .u32 p.vers, .int .u64 p.length, .int .i64 p.opens, .int .i64 p.kids, .bool taken, .bool full] 27)) w.heap.size n p taken full := Blk.new w _ _
theorem NBlk.new (w : World) (n : Nd) : NBlk (w.alloc (Obj.cells #[.int .u64 n.path, .int .u64 n.parent, .string n.name, .int .u32 n.mode, .string n.uid, .string n.gid, .string n.muid, .int .u32 n.atime, .int .u32 n.mtime, .int .u32 n.vers, .int .u64 n.length, .int .i64 n.opens, .int .i64 n.kids] 25)) w.heap.size n := Blk.new w _ _
theorem FBlk.rF (h : FBlk w q n p taken full) : w.rangeAt q 0 (factsL n p taken full) := rangeAt_of h 0 _ (fun j v hv => by rw [Nat.zero_add]; simpa using hv)
theorem FBlk.rN (h : FBlk w q n p taken full) : w.rangeAt q 0 (nodeL n) := rangeAt_of h 0 _ (fun j v hv => by
    have hj := (List.getElem?_eq_some_iff.1 hv).1
    rw [Nat.zero_add]
    have : (factsL n p taken full) = nodeL n ++ (nodeL p ++ [.bool taken, .bool full]) := rfl
    rw [List.getElem?_toArray, this, List.getElem?_append_left hj]
    exact hv)
theorem FBlk.rP (h : FBlk w q n p taken full) : w.rangeAt q 13 (nodeL p) := rangeAt_of h 13 _ (fun j v hv => by
    have hj := (List.getElem?_eq_some_iff.1 hv).1
    have : (factsL n p taken full) = nodeL n ++ (nodeL p ++ [.bool taken, .bool full]) := rfl
    rw [List.getElem?_toArray, this, List.getElem?_append_right (by simp), List.getElem?_append_left (by simpa using hj)]
    simpa using hv)
theorem NBlk.rN (h : NBlk w q n) : w.rangeAt q 0 (nodeL n) := rangeAt_of h 0 _ (fun j v hv => by rw [Nat.zero_add]; simpa using hv)
variable {ops : Array Oper} {rest : List Oper} {op : Oper} {a : Act} {Q : Exit → Act → World → Prop}
theorem wl_facts (hk : FBlk w q n p taken full) (hgd : op.guard = none) (x : Operand) (ho : op.op = .load 27 x) (hx : a.eval x = .pointer (some ⟨q, 0, none⟩)) (h : wpList Tryz.prog ops Q rest (a.put op.dst (factsV n p taken full)) w) : wpList Tryz.prog ops Q (op :: rest) a w :=
  wpList_load_mid hgd _ x ho q 0 hx (factsL n p taken full) _ hk.rF Tryz.underlying27 rfl facts_size h
theorem wl_node0 (hk : FBlk w q n p taken full) (hgd : op.guard = none) (x : Operand) (ho : op.op = .load 25 x) (hx : a.eval x = .pointer (some ⟨q, 0, none⟩)) (h : wpList Tryz.prog ops Q rest (a.put op.dst (nodeV n)) w) : wpList Tryz.prog ops Q (op :: rest) a w :=
  wpList_load_mid hgd _ x ho q 0 hx (nodeL n) _ hk.rN Tryz.underlying25 rfl node_size h
theorem wl_node1 (hk : FBlk w q n p taken full) (hgd : op.guard = none) (x : Operand) (ho : op.op = .load 25 x) (hx : a.eval x = .pointer (some ⟨q, 13, none⟩)) (h : wpList Tryz.prog ops Q rest (a.put op.dst (nodeV p)) w) : wpList Tryz.prog ops Q (op :: rest) a w :=
  wpList_load_mid hgd _ x ho q 13 hx (nodeL p) _ hk.rP Tryz.underlying25 rfl node_size h
theorem wl_node (hk : NBlk w q n) (hgd : op.guard = none) (x : Operand) (ho : op.op = .load 25 x) (hx : a.eval x = .pointer (some ⟨q, 0, none⟩)) (h : wpList Tryz.prog ops Q rest (a.put op.dst (nodeV n)) w) : wpList Tryz.prog ops Q (op :: rest) a w :=
  wpList_load_mid hgd _ x ho q 0 hx (nodeL n) _ hk.rN Tryz.underlying25 rfl node_size h
theorem FBlk.path (h : FBlk w q n p taken full) : w.cell? ⟨q, 0, none⟩ = some (.int .u64 n.path) := Blk.cell h 0
theorem FBlk.mode (h : FBlk w q n p taken full) : w.cell? ⟨q, 3, none⟩ = some (.int .u32 n.mode) := Blk.cell h 3
theorem FBlk.uid (h : FBlk w q n p taken full) : w.cell? ⟨q, 4, none⟩ = some (.string n.uid) := Blk.cell h 4
theorem FBlk.gid (h : FBlk w q n p taken full) : w.cell? ⟨q, 5, none⟩ = some (.string n.gid) := Blk.cell h 5
theorem FBlk.opens (h : FBlk w q n p taken full) : w.cell? ⟨q, 11, none⟩ = some (.int .i64 n.opens) := Blk.cell h 11
theorem FBlk.kids (h : FBlk w q n p taken full) : w.cell? ⟨q, 12, none⟩ = some (.int .i64 n.kids) := Blk.cell h 12
theorem FBlk.takenC (h : FBlk w q n p taken full) : w.cell? ⟨q, 26, none⟩ = some (.bool taken) := Blk.cell h 26
theorem FBlk.fullC (h : FBlk w q n p taken full) : w.cell? ⟨q, 27, none⟩ = some (.bool full) := Blk.cell h 27
end

end Go.Proofs.YtlenlldiimohjaaGreatDoor

namespace Go.Proofs.YtlenlldiimohjaaGreatDoor
open Go.ChangeShapes Go.WideShapes Go.ChangeAt Go.RowKit

def badName (s : ByteArray) : Bool := s.toList.isEmpty || (s.toList == [46]) || (s.toList == [46, 46]) || decide (255 < s.size) || decide (0 ≤ Lib.indexByte s.data.toList 47) || !good s
def checkS (s : ByteArray) : Int := if badName s = true then 50 else 0

theorem check_calls (s : ByteArray) (w : World) (hr : Ready w) :
    Calls Tryz.prog 94 #[.string s] w fun e w' => e = .returned (.int .i64 (checkS s)) ∧ Below w.heap.size w w' := by
  have HR := Lib.hid hr; clear hr
  cases h0 : s.toList.isEmpty with
  | true =>
    have HX := Lib.hid (show checkS s = 50 from by simp [checkS, badName, h0])
    go_enter Tryz.func94, Tryz.ntmps94
    go_wp2
    go_ret
    exact ⟨ret_int HX.out.symm, Below.refl _ _⟩
  | false =>
    cases h1 : (s.toList == [46]) with
    | true =>
      have HX := Lib.hid (show checkS s = 50 from by simp [checkS, badName, h1])
      go_enter Tryz.func94, Tryz.ntmps94
      go_wp2
      go_ret
      exact ⟨ret_int HX.out.symm, Below.refl _ _⟩
    | false =>
      cases h2 : (s.toList == [46, 46]) with
      | true =>
        have HX := Lib.hid (show checkS s = 50 from by simp [checkS, badName, h2])
        go_enter Tryz.func94, Tryz.ntmps94
        go_wp2
        go_ret
        exact ⟨ret_int HX.out.symm, Below.refl _ _⟩
      | false =>
        by_cases h3 : 255 < s.size
        · have HX := Lib.hid (show checkS s = 50 from by simp [checkS, badName, h3])
          go_enter Tryz.func94, Tryz.ntmps94
          go_wp2
          go_ret
          exact ⟨ret_int HX.out.symm, Below.refl _ _⟩
        · cases h4 : decide (0 ≤ Lib.indexByte s.data.toList 47) with
          | true =>
            have HX := Lib.hid (show checkS s = 50 from by simp only [checkS, badName, h4]; simp)
            have H4 := Lib.hid h4; clear h4
            go_enter Tryz.func94, Tryz.ntmps94
            go_wp2_with (go_at_call 132; refine (Tryz.strings_Contains_one s 47 _).mono ?_; rw [H4.out]; rintro e w' ⟨rfl, hw⟩; subst hw)
            go_ret
            exact ⟨ret_int HX.out.symm, Below.refl _ _⟩
          | false =>
            have HX := Lib.hid (show checkS s = if good s = true then 0 else 50 from by simp only [checkS, badName, h0, h1, h2, h4, decide_eq_false h3]; cases good s <;> simp)
            have H4 := Lib.hid h4; clear h4
            cases h5 : good s with
            | true =>
              have H5 := Lib.hid h5; clear h5
              go_enter Tryz.func94, Tryz.ntmps94
              go_wp2_with (first
                | (go_at_call 132; refine (Tryz.strings_Contains_one s 47 _).mono ?_; rw [H4.out]; rintro e w' ⟨rfl, hw⟩; subst hw)
                | (go_at_call 133; refine (wireGood_calls s _ HR.out).mono ?_; rw [H5.out]; rintro e w' ⟨rfl, hb⟩; have HB := Lib.hid hb; clear hb))
              go_ret
              exact ⟨ret_int (by rw [HX.out, H5.out]; rfl), HB.out⟩
            | false =>
              have H5 := Lib.hid h5; clear h5
              go_enter Tryz.func94, Tryz.ntmps94
              go_wp2_with (first
                | (go_at_call 132; refine (Tryz.strings_Contains_one s 47 _).mono ?_; rw [H4.out]; rintro e w' ⟨rfl, hw⟩; subst hw)
                | (go_at_call 133; refine (wireGood_calls s _ HR.out).mono ?_; rw [H5.out]; rintro e w' ⟨rfl, hb⟩; have HB := Lib.hid hb; clear hb))
              go_ret
              exact ⟨ret_int (by rw [HX.out, H5.out]; rfl), HB.out⟩

theorem slash_none (s : ByteArray) (h : s.data.toList.all (fun c => decide (c ≠ 47)) = true) : decide (0 ≤ Lib.indexByte s.data.toList 47) = false := by
  rw [indexByte_none _ _ (fun b hb => by
    have := List.all_eq_true.1 h b hb
    simpa using this)]
  rfl
theorem slash_at (l : List UInt8) (h : (47 : UInt8) ∈ l) : 0 ≤ Lib.indexByte l 47 := by
  induction l with
  | nil => cases h
  | cons b l ih =>
    rw [Lib.indexByte]
    split
    · omega
    · rename_i hne
      rcases List.mem_cons.1 h with rfl | h
      · simp at hne
      · have := ih h
        have h2 : (Lib.indexByte l 47 == -1) = false := by rw [beq_eq_false_iff_ne]; omega
        rw [h2]
        simp only [Bool.false_eq_true, if_false]
        omega
theorem slash_some {s : ByteArray} {k : Nat} (hk : k < s.size) (h : s[k].toNat = 47) : decide (0 ≤ Lib.indexByte s.data.toList 47) = true := by
  refine decide_eq_true (slash_at _ ?_)
  have e : s[k] = 47 := UInt8.toNat_inj.1 (by rw [h]; rfl)
  rw [← e]
  exact Array.getElem_mem_toList (xs := s.data) (by simpa using hk)

set_option maxRecDepth 100000 in
set_option maxHeartbeats 1600000 in
theorem refCheck_calls (s : ByteArray) (w : World) (hs : s.size ≤ 16777216) :
    Calls Tryz.prog 112 #[.string s] w fun e w' => e = .returned (.int .i64 (checkS s)) ∧ w = w' := by
  obtain ⟨b, HG⟩ : ∃ b, Hid (good s = b) := ⟨_, rfl⟩
  cases h0 : s.toList.isEmpty with
  | true =>
    have h00 : s.toList = [] := List.isEmpty_iff.1 h0
    have HX := Lib.hid (show checkS s = 50 from by simp [checkS, badName, h0])
    go_enter Tryz.func112, Tryz.ntmps112
    go_wp2_with (go_at_call 135; refine (good_calls s _ hs).mono ?_; rw [HG.out]; rintro e w' ⟨rfl, rfl⟩)
    go_ret
    exact ⟨ret_int HX.out.symm, rfl⟩
  | false =>
    cases h1 : (s.toList == [46]) with
    | true =>
      have HX := Lib.hid (show checkS s = 50 from by simp [checkS, badName, h1])
      go_enter Tryz.func112, Tryz.ntmps112
      go_wp2_with (go_at_call 135; refine (good_calls s _ hs).mono ?_; rw [HG.out]; rintro e w' ⟨rfl, rfl⟩)
      go_ret
      exact ⟨ret_int HX.out.symm, rfl⟩
    | false =>
      cases h2 : (s.toList == [46, 46]) with
      | true =>
        have HX := Lib.hid (show checkS s = 50 from by simp [checkS, badName, h2])
        go_enter Tryz.func112, Tryz.ntmps112
        go_wp2_with (go_at_call 135; refine (good_calls s _ hs).mono ?_; rw [HG.out]; rintro e w' ⟨rfl, rfl⟩)
        go_ret
        exact ⟨ret_int HX.out.symm, rfl⟩
      | false =>
        cases b with
        | false =>
          have HX := Lib.hid (show checkS s = 50 from by simp [checkS, badName, show good s = false from HG.out])
          go_enter Tryz.func112, Tryz.ntmps112
          go_wp2_with (go_at_call 135; refine (good_calls s _ hs).mono ?_; rw [HG.out]; rintro e w' ⟨rfl, rfl⟩)
          go_ret
          exact ⟨ret_int HX.out.symm, rfl⟩
        | true =>
          by_cases h3 : 255 < s.size
          · have HX := Lib.hid (show checkS s = 50 from by simp [checkS, badName, h3])
            go_enter Tryz.func112, Tryz.ntmps112
            go_wp2_with (go_at_call 135; refine (good_calls s _ hs).mono ?_; rw [HG.out]; rintro e w' ⟨rfl, rfl⟩)
            go_ret
            exact ⟨ret_int HX.out.symm, rfl⟩
          · have HX := Lib.hid (show checkS s = if decide (0 ≤ Lib.indexByte s.data.toList 47) = true then 50 else 0 from by
              simp only [checkS, badName, h0, h1, h2, decide_eq_false h3, show good s = true from HG.out]
              cases decide (0 ≤ Lib.indexByte s.data.toList 47) <;> simp)
            go_enter Tryz.func112, Tryz.ntmps112
            go_wp2_with (go_at_call 135; refine (good_calls s _ hs).mono ?_; rw [HG.out]; rintro e w' ⟨rfl, rfl⟩)
            go_loop [4] (fun i => ∃ k : Nat, k ≤ s.size ∧ i = .int .i64 k ∧ (s.data.toList.take k).all (fun c => decide (c ≠ 47)) = true) (fun i => s.size - (intOf i).toNat)
            case atStart => exact ⟨0, by omega, rfl, rfl⟩
            case round =>
              obtain ⟨k, hk, rfl, hall⟩ := hrel
              have HA := Lib.hid hall; clear hall
              by_cases hlt : k < s.size
              · by_cases hc : s[k].toNat = 47
                · have hcb : ((s[k].toNat : Int) == 47) = true := byte_t (n := 47) hc
                  have HY := Lib.hid (slash_some hlt hc); clear hc
                  go_wp2_with fail
                  go_ret
                  exact ⟨ret_int (by rw [HX.out, HY.out]; rfl), rfl⟩
                · have hcb : ((s[k].toNat : Int) == 47) = false := byte_f (n := 47) hc
                  have HY := Lib.hid (show decide (s[k] ≠ 47) = true from decide_eq_true (fun e => hc (by rw [e]; rfl))); clear hc
                  go_wp2_with fail
                  go_round
                  case rel => exact ⟨k + 1, by omega, by go_num, by rw [all_step hlt HA.out]; exact HY.out⟩
                  case measure => simp [intOf]; omega
              · have HY := Lib.hid (slash_none s (all_end (by omega) HA.out))
                go_wp2_with fail
                go_ret
                exact ⟨ret_int (by rw [HX.out, HY.out]; rfl), rfl⟩
end Go.Proofs.YtlenlldiimohjaaGreatDoor

namespace Go.Proofs.YtlenlldiimohjaaGreatDoor
open Go.ChangeShapes Go.WideShapes Go.ChangeAt Go.RowKit

/-- The mode of a file that is made so. -/
def madeS (p m : Int) : Int := bits .andNot .u32 p (bits .andNot .u32 511 (if (bits .and .u32 p 2147483648 == 0) = true then bits .or .u32 (bits .and .u32 m 511) 73 else bits .and .u32 m 511))

theorem made_calls (p : Int) (n : Nd) (w : World) :
    Calls Tryz.prog 97 #[.int .u32 p, nodeV n] w fun e w' => e = .returned (.int .u32 (madeS p n.mode)) ∧ Below w.heap.size w w' := by
  go_enter Tryz.func97, Tryz.ntmps97
  go_wp2
  all_goals
    go_ret
    refine ⟨ret_int ?_, (Below.refl _ _).alloc (Nat.le_refl _) _⟩
    go_light
    simp_all [madeS]

theorem NBlk.store {w : World} {q : Nat} {n : Nd} (h : NBlk w q n) (m : Nd) : NBlk (w.setCells q 0 (nodeL m)) q m := by
  have := (((((((((((((Blk.set_ h 0 (.int .u64 m.path)).set_ 1 (.int .u64 m.parent)).set_ 2 (.string m.name)).set_ 3 (.int .u32 m.mode)).set_ 4 (.string m.uid)).set_ 5 (.string m.gid)).set_ 6 (.string m.muid)).set_ 7 (.int .u32 m.atime)).set_ 8 (.int .u32 m.mtime)).set_ 9 (.int .u32 m.vers)).set_ 10 (.int .u64 m.length)).set_ 11 (.int .i64 m.opens)).set_ 12 (.int .i64 m.kids))
  unfold NBlk
  simpa [World.setCells, nodeL] using this
theorem setCells_other (w : World) (b : Nat) : ∀ (vs : List Value) (o i : Nat), i ≠ b → (w.setCells b o vs).heap[i]? = w.heap[i]? := by
  intro vs
  induction vs generalizing w with
  | nil => intro o i _; rfl
  | cons v r ih =>
    intro o i hi
    rw [World.setCells, ih _ _ _ hi]
    exact Below.heap_setCell _ _ _ _ hi
theorem below_setCells {B : Nat} {w0 w : World} (h : Below B w0 w) {b : Nat} (hb : B ≤ b) : ∀ (vs : List Value) (o : Nat), Below B w0 (w.setCells b o vs) := by
  intro vs
  induction vs generalizing w with
  | nil => intro o; exact h
  | cons v r ih => intro o; exact ih (h.setCell hb v) (o + 1)
theorem size_setCells (w : World) (b : Nat) : ∀ (vs : List Value) (o : Nat), (w.setCells b o vs).heap.size = w.heap.size := by
  intro vs
  induction vs generalizing w with
  | nil => intro o; rfl
  | cons v r ih => intro o; rw [World.setCells, ih]; simp
theorem nodeV_cells (n : Nd) : (nodeL n).toArray.all (·.oneCell') = true := by simp [nodeL, Value.oneCell']

section
variable {ops : Array Oper} {rest : List Oper} {op : Oper} {a : Act} {w : World} {Q : Exit → Act → World → Prop} {q : Nat} {n0 n : Nd}
/-- A node is stored whole into a block of its own. -/
theorem wl_store (hk : NBlk w q n0) (n : Nd) (hgd : op.guard = none) (x y : Operand) (ho : op.op = .store 25 x y) (hx : a.eval x = .pointer (some ⟨q, 0, none⟩)) (hy : a.eval y = nodeV n)
    (h : ∀ w' : World, NBlk w' q n → (∀ i, i ≠ q → w'.heap[i]? = w.heap[i]?) → w'.heap.size = w.heap.size → (∀ B (v : World), Below B v w → B ≤ q → Below B v w') → wpList Tryz.prog ops Q rest (a.put op.dst undef) w') : wpList Tryz.prog ops Q (op :: rest) a w :=
  wpList_store_mid hgd _ x y ho q 0 (nodeL n).toArray hx hy (fun j hj => by
    have hj' : j < 13 := by simpa using hj
    rw [Nat.zero_add]
    refine ⟨?_, Blk.frozen hk j⟩
    rw [Blk.cell hk j, Array.getElem?_eq_getElem (by simpa using hj')]
    rfl) node_size (nodeV_cells n) (h _ (hk.store n) (fun i hi => setCells_other w q _ 0 i hi) (size_setCells w q _ 0) (fun B v hb hq => below_setCells hb hq _ 0))
end
theorem loadVar_node {w : World} {q : Nat} {n : Nd} (h : NBlk w q n) : (loadVar 25 ⟨q, 0, none⟩).run Tryz.prog w = .ok (nodeV n) w :=
  run_loadVar_mid w q 0 25 (nodeL n) _ h.rN Tryz.underlying25 rfl node_size

/-- Where a maker stands: the table, the facts, the block of the result, the empty node. -/
def CAt (w0 : World) (g : Nat) (L : List Acct) (n p : Nd) (taken full : Bool) (w : World) : Prop :=
  PTab w g L ∧ FBlk w w0.heap.size n p taken full ∧ NBlk w (w0.heap.size + 1) Nd.none ∧ NBlk w (w0.heap.size + 1 + 1) Nd.none ∧ Below w0.heap.size w0 w ∧ w0.heap.size + 1 + 1 < w.heap.size
section
variable {w0 w w' : World} {g : Nat} {L : List Acct} {n p : Nd} {taken full : Bool}
theorem CAt.next (h : CAt w0 g L n p taken full w) (hb : Below w.heap.size w w') : CAt w0 g L n p taken full w' := by
  obtain ⟨h1, h2, h3, h4, h5, h6⟩ := h
  exact ⟨h1.below hb, h2.below hb, h3.below hb, h4.below hb, h5.trans (hb.mono h5.size), Nat.lt_of_lt_of_le h6 hb.size⟩
theorem CAt.tab (h : CAt w0 g L n p taken full w) : PTab w g L := h.1
theorem CAt.fb (h : CAt w0 g L n p taken full w) : FBlk w w0.heap.size n p taken full := h.2.1
theorem CAt.rb (h : CAt w0 g L n p taken full w) : NBlk w (w0.heap.size + 1) Nd.none := h.2.2.1
theorem CAt.nb (h : CAt w0 g L n p taken full w) : NBlk w (w0.heap.size + 1 + 1) Nd.none := h.2.2.2.1
theorem CAt.low (h : CAt w0 g L n p taken full w) : Below w0.heap.size w0 w := h.2.2.2.2.1
theorem CAt.ready (h : CAt w0 g L n p taken full w) (hr : Ready w0) : Ready w := hr.below h.low (Nat.le_refl _)
theorem CAt.start (h : PTab w0 g L) (n p : Nd) (taken full : Bool) : CAt w0 g L n p taken full (((w0.alloc (Obj.cells #[.int .u64 n.path, .int .u64 n.parent, .string n.name, .int .u32 n.mode, .string n.uid, .string n.gid, .string n.muid, .int .u32 n.atime, .int .u32 n.mtime, .int .u32 n.vers, .int .u64 n.length, .int .i64 n.opens, .int .i64 n.kids, .int .u64 p.path, .int .u64 p.parent, .string p.name, .int .u32 p.mode, .string p.uid, .string p.gid, .string p.muid, .int .u32 p.atime, .int .u32 p.mtime, .int .u32 p.vers, .int .u64 p.length, .int .i64 p.opens, .int .i64 p.kids, .bool taken, .bool full] 27)).alloc (Obj.cells #[.int .u64 0, .int .u64 0, .string ⟨#[]⟩, .int .u32 0, .string ⟨#[]⟩, .string ⟨#[]⟩, .string ⟨#[]⟩, .int .u32 0, .int .u32 0, .int .u32 0, .int .u64 0, .int .i64 0, .int .i64 0] 25)).alloc (Obj.cells #[.int .u64 0, .int .u64 0, .string ⟨#[]⟩, .int .u32 0, .string ⟨#[]⟩, .string ⟨#[]⟩, .string ⟨#[]⟩, .int .u32 0, .int .u32 0, .int .u32 0, .int .u64 0, .int .i64 0, .int .i64 0] 25)) := by
  have up : ∀ (W : World) (o : Obj), Below W.heap.size W (W.alloc o) := fun W o => (Below.refl _ _).alloc (Nat.le_refl _) o
  have h1 := NBlk.new (w0.alloc (Obj.cells #[.int .u64 n.path, .int .u64 n.parent, .string n.name, .int .u32 n.mode, .string n.uid, .string n.gid, .string n.muid, .int .u32 n.atime, .int .u32 n.mtime, .int .u32 n.vers, .int .u64 n.length, .int .i64 n.opens, .int .i64 n.kids, .int .u64 p.path, .int .u64 p.parent, .string p.name, .int .u32 p.mode, .string p.uid, .string p.gid, .string p.muid, .int .u32 p.atime, .int .u32 p.mtime, .int .u32 p.vers, .int .u64 p.length, .int .i64 p.opens, .int .i64 p.kids, .bool taken, .bool full] 27)) Nd.none
  have h2 := NBlk.new ((w0.alloc (Obj.cells #[.int .u64 n.path, .int .u64 n.parent, .string n.name, .int .u32 n.mode, .string n.uid, .string n.gid, .string n.muid, .int .u32 n.atime, .int .u32 n.mtime, .int .u32 n.vers, .int .u64 n.length, .int .i64 n.opens, .int .i64 n.kids, .int .u64 p.path, .int .u64 p.parent, .string p.name, .int .u32 p.mode, .string p.uid, .string p.gid, .string p.muid, .int .u32 p.atime, .int .u32 p.mtime, .int .u32 p.vers, .int .u64 p.length, .int .i64 p.opens, .int .i64 p.kids, .bool taken, .bool full] 27)).alloc (Obj.cells #[.int .u64 0, .int .u64 0, .string ⟨#[]⟩, .int .u32 0, .string ⟨#[]⟩, .string ⟨#[]⟩, .string ⟨#[]⟩, .int .u32 0, .int .u32 0, .int .u32 0, .int .u64 0, .int .i64 0, .int .i64 0] 25)) Nd.none
  simp only [World.size_alloc] at h1 h2
  exact ⟨((h.below (up _ _)).below (up _ _)).below (up _ _), ((FBlk.new w0 n p taken full).below (up _ _)).below (up _ _), h1.below (up _ _), h2, (((Below.refl _ _).alloc (Nat.le_refl _) _).alloc (by simp) _).alloc (by simp [World.size_alloc]; omega) _, by simp only [World.size_alloc]; omega⟩
end

/-- The first of a making's errors. r: the rights on the directory. -/
def askS (n : Nd) (r : Int) (name : ByteArray) (perm m : Int) (taken full : Bool) : Int :=
  if isB n.mode 2147483648 = false then 93
  else if (checkS name != 0) = true then checkS name
  else if (permS perm != 0) = true then permS perm
  else if ((wantsP m).2 != 0) = true then (wantsP m).2
  else if ((bits .and .u32 perm 2147483648 != 0) = true ∧ (m != 0) = true) then 92
  else if mayB r 2 = false then 90
  else if taken = true then 95 else if full = true then 83 else 0
def madeN (n : Nd) (u name : ByteArray) (perm : Int) : Nd := ⟨0, n.path, name, madeS perm n.mode, u, n.gid, u, 0, 0, 0, 0, 0, 0⟩
/-- What is made, and the error. -/
def createS (n : Nd) (r : Int) (u name : ByteArray) (perm m : Int) (taken full : Bool) : Nd × Int :=
  if (askS n r name perm m taken full != 0) = true then (Nd.none, askS n r name perm m taken full) else (madeN n u name perm, 0)
end Go.Proofs.YtlenlldiimohjaaGreatDoor

namespace Go.Proofs.YtlenlldiimohjaaGreatDoor
open Go.ChangeShapes Go.WideShapes Go.ChangeAt Go.RowKit

theorem FBlk.c13 {w : World} {q : Nat} {n p : Nd} {taken full : Bool} (h : FBlk w q n p taken full) : w.cell? ⟨q, 0, none⟩ = some (.int .u64 n.path) ∧ w.cell? ⟨q, 1, none⟩ = some (.int .u64 n.parent) ∧ w.cell? ⟨q, 2, none⟩ = some (.string n.name) ∧ w.cell? ⟨q, 3, none⟩ = some (.int .u32 n.mode) ∧ w.cell? ⟨q, 4, none⟩ = some (.string n.uid) ∧ w.cell? ⟨q, 5, none⟩ = some (.string n.gid) ∧ w.cell? ⟨q, 6, none⟩ = some (.string n.muid) ∧ w.cell? ⟨q, 7, none⟩ = some (.int .u32 n.atime) ∧ w.cell? ⟨q, 8, none⟩ = some (.int .u32 n.mtime) ∧ w.cell? ⟨q, 9, none⟩ = some (.int .u32 n.vers) ∧ w.cell? ⟨q, 10, none⟩ = some (.int .u64 n.length) ∧ w.cell? ⟨q, 11, none⟩ = some (.int .i64 n.opens) ∧ w.cell? ⟨q, 12, none⟩ = some (.int .i64 n.kids) :=
  ⟨Blk.cell h 0, Blk.cell h 1, Blk.cell h 2, Blk.cell h 3, Blk.cell h 4, Blk.cell h 5, Blk.cell h 6, Blk.cell h 7, Blk.cell h 8, Blk.cell h 9, Blk.cell h 10, Blk.cell h 11, Blk.cell h 12⟩
theorem NBlk.c13 {w : World} {q : Nat} {n : Nd} (h : NBlk w q n) : w.cell? ⟨q, 0, none⟩ = some (.int .u64 n.path) ∧ w.cell? ⟨q, 1, none⟩ = some (.int .u64 n.parent) ∧ w.cell? ⟨q, 2, none⟩ = some (.string n.name) ∧ w.cell? ⟨q, 3, none⟩ = some (.int .u32 n.mode) ∧ w.cell? ⟨q, 4, none⟩ = some (.string n.uid) ∧ w.cell? ⟨q, 5, none⟩ = some (.string n.gid) ∧ w.cell? ⟨q, 6, none⟩ = some (.string n.muid) ∧ w.cell? ⟨q, 7, none⟩ = some (.int .u32 n.atime) ∧ w.cell? ⟨q, 8, none⟩ = some (.int .u32 n.mtime) ∧ w.cell? ⟨q, 9, none⟩ = some (.int .u32 n.vers) ∧ w.cell? ⟨q, 10, none⟩ = some (.int .u64 n.length) ∧ w.cell? ⟨q, 11, none⟩ = some (.int .i64 n.opens) ∧ w.cell? ⟨q, 12, none⟩ = some (.int .i64 n.kids) :=
  ⟨Blk.cell h 0, Blk.cell h 1, Blk.cell h 2, Blk.cell h 3, Blk.cell h 4, Blk.cell h 5, Blk.cell h 6, Blk.cell h 7, Blk.cell h 8, Blk.cell h 9, Blk.cell h 10, Blk.cell h 11, Blk.cell h 12⟩
theorem NBlk.f13 {w : World} {q : Nat} {n : Nd} (h : NBlk w q n) : w.frozen? ⟨q, 0, none⟩ = false ∧ w.frozen? ⟨q, 1, none⟩ = false ∧ w.frozen? ⟨q, 2, none⟩ = false ∧ w.frozen? ⟨q, 3, none⟩ = false ∧ w.frozen? ⟨q, 4, none⟩ = false ∧ w.frozen? ⟨q, 5, none⟩ = false ∧ w.frozen? ⟨q, 6, none⟩ = false ∧ w.frozen? ⟨q, 7, none⟩ = false ∧ w.frozen? ⟨q, 8, none⟩ = false ∧ w.frozen? ⟨q, 9, none⟩ = false ∧ w.frozen? ⟨q, 10, none⟩ = false ∧ w.frozen? ⟨q, 11, none⟩ = false ∧ w.frozen? ⟨q, 12, none⟩ = false :=
  ⟨Blk.frozen h 0, Blk.frozen h 1, Blk.frozen h 2, Blk.frozen h 3, Blk.frozen h 4, Blk.frozen h 5, Blk.frozen h 6, Blk.frozen h 7, Blk.frozen h 8, Blk.frozen h 9, Blk.frozen h 10, Blk.frozen h 11, Blk.frozen h 12⟩
theorem results_create {tmps : Array Value} {w : World} {q : Nat} {n : Nd} {e : Int} (h12 : tmps.getD 12 undef = .pointer (some ⟨q, 0, none⟩)) (h13 : tmps.getD 13 undef = .int .i64 e) (hk : NBlk w q n) :
    (results Tryz.f33 tmps).run Tryz.prog w = .ok (.tuple #[nodeV n, .int .i64 e]) w := by
  have h12' : tmps[12]?.getD undef = .pointer (some ⟨q, 0, none⟩) := by simpa using h12
  have h13' : tmps[13]?.getD undef = .int .i64 e := by simpa using h13
  simp [results, Tryz.results33, h12', h13', asAddr, loadVar_node hk]
section
variable {n : Nd} {r : Int} {u name : ByteArray} {perm m : Int} {taken full : Bool} {e : Int}
theorem create_no (h : askS n r name perm m taken full = e) (he : (e != 0) = true) : Ending.returned (.tuple #[nodeV Nd.none, .int .i64 e]) = .returned (.tuple #[nodeV (createS n r u name perm m taken full).1, .int .i64 (createS n r u name perm m taken full).2]) := by
  unfold createS
  rw [h, if_pos he]
theorem create_yes (h : askS n r name perm m taken full = 0) : Ending.returned (.tuple #[nodeV (madeN n u name perm), .int .i64 0]) = .returned (.tuple #[nodeV (createS n r u name perm m taken full).1, .int .i64 (createS n r u name perm m taken full).2]) := by
  unfold createS
  rw [h, if_neg (by decide)]
end

set_option maxRecDepth 100000 in
set_option maxHeartbeats 3200000 in
theorem create_calls (g : Nat) (L : List Acct) (u : ByteArray) (n p : Nd) (taken full : Bool) (name : ByteArray) (perm m : Int) (w : World) (h : PTab w g L) (hn : n.ok) (hr : Ready w) (hu : u.size ≤ 16777216) :
    Calls Tryz.prog 33 #[.pointer (some ⟨g, 0, none⟩), .string u, factsV n p taken full, .string name, .int .u32 perm, .int .u8 m] w fun e w' =>
      e = .returned (.tuple #[nodeV (createS n (rights (decide (u = n.uid)) (isMember L u n.gid) n.mode) u name perm m taken full).1, .int .i64 (createS n (rights (decide (u = n.uid)) (isMember L u n.gid) n.mode) u name perm m taken full).2]) ∧ Below w.heap.size w w' := by
  have HR := Lib.hid (CAt.start h n p taken full); clear h
  have HN := Lib.hid hn; clear hn
  have HRY := Lib.hid hr; clear hr
  go_enter Tryz.func33, Tryz.ntmps33
  go_upto_region 2 with (fail)
  generalize ((w.alloc (Obj.cells #[.int .u64 n.path, .int .u64 n.parent, .string n.name, .int .u32 n.mode, .string n.uid, .string n.gid, .string n.muid, .int .u32 n.atime, .int .u32 n.mtime, .int .u32 n.vers, .int .u64 n.length, .int .i64 n.opens, .int .i64 n.kids, .int .u64 p.path, .int .u64 p.parent, .string p.name, .int .u32 p.mode, .string p.uid, .string p.gid, .string p.muid, .int .u32 p.atime, .int .u32 p.mtime, .int .u32 p.vers, .int .u64 p.length, .int .i64 p.opens, .int .i64 p.kids, .bool taken, .bool full] 27)).alloc (Obj.cells #[.int .u64 0, .int .u64 0, .string ⟨#[]⟩, .int .u32 0, .string ⟨#[]⟩, .string ⟨#[]⟩, .string ⟨#[]⟩, .int .u32 0, .int .u32 0, .int .u32 0, .int .u64 0, .int .i64 0, .int .i64 0] 25)).alloc (Obj.cells #[.int .u64 0, .int .u64 0, .string ⟨#[]⟩, .int .u32 0, .string ⟨#[]⟩, .string ⟨#[]⟩, .string ⟨#[]⟩, .int .u32 0, .int .u32 0, .int .u32 0, .int .u64 0, .int .i64 0, .int .i64 0] 25) = w1 at HR ⊢
  go_wp2_with (first
    | (go_at_call 93; (with_reducible refine (is_calls n _ _ HN.out).mono ?_); rintro e w' ⟨rfl, hb⟩; replace HR := Lib.hid (HR.out.next hb); clear hb; have d26 := HR.out.fb.takenC; have d27 := HR.out.fb.fullC)
    | (go_at_call 94; (with_reducible refine (check_calls name _ (HR.out.ready HRY.out)).mono ?_); rintro e w' ⟨rfl, hb⟩; replace HR := Lib.hid (HR.out.next hb); clear hb; have d26 := HR.out.fb.takenC; have d27 := HR.out.fb.fullC)
    | (go_at_call 95; (with_reducible refine (perm_calls perm _).mono ?_); rintro e w' ⟨rfl, rfl⟩)
    | (go_at_call 34; (with_reducible refine (wants_calls m _).mono ?_); rintro e w' ⟨rfl, rfl⟩)
    | (go_at_call 96; (with_reducible refine (may_calls g L u n _ _ HR.out.tab HN.out hu).mono ?_); rintro e w' ⟨rfl, hb⟩; replace HR := Lib.hid (HR.out.next hb); clear hb; have d26 := HR.out.fb.takenC; have d27 := HR.out.fb.fullC)
    | (refine wl_node0 HR.out.fb rfl _ rfl rfl ?_)
    | (refine wl_node HR.out.nb rfl _ rfl rfl ?_)
    | (refine wl_store HR.out.rb Nd.none rfl _ _ rfl rfl rfl ?_; intro ws hs ho hz hbl; have HS := Lib.hid hs; have HL := Lib.hid (hbl _ _ HR.out.low (by omega)); clear hs ho hz hbl))
  any_goals
    refine bodyPost_ret (results_create rfl rfl HS.out) rfl ⟨create_no ?_ ?_, HL.out⟩
    all_goals
      go_light
      clear HR HS HL d26 d27
      simp_all [askS]
  all_goals
    have HE := Lib.hid (show askS n (rights (decide (u = n.uid)) (isMember L u n.gid) n.mode) name perm m taken full = 0 from by
      go_light
      clear HR d26 d27
      simp_all [askS])
    clear d26 d27
    have HD := Lib.hid (HR.out.next (below_drew _)); clear HR
    obtain ⟨c0, c1, c2, c3, c4, c5, c6, c7, c8, c9, c10, c11, c12⟩ := HD.out.fb.c13
    go_region_held3 (fun w' => w'.cell? ⟨w.heap.size, 0, none⟩ = some (.int .u64 n.path) ∧ w'.cell? ⟨w.heap.size, 1, none⟩ = some (.int .u64 n.parent) ∧ w'.cell? ⟨w.heap.size, 2, none⟩ = some (.string n.name) ∧ w'.cell? ⟨w.heap.size, 3, none⟩ = some (.int .u32 n.mode) ∧ w'.cell? ⟨w.heap.size, 4, none⟩ = some (.string n.uid) ∧ w'.cell? ⟨w.heap.size, 5, none⟩ = some (.string n.gid) ∧ w'.cell? ⟨w.heap.size, 6, none⟩ = some (.string n.muid) ∧ w'.cell? ⟨w.heap.size, 7, none⟩ = some (.int .u32 n.atime) ∧ w'.cell? ⟨w.heap.size, 8, none⟩ = some (.int .u32 n.mtime) ∧ w'.cell? ⟨w.heap.size, 9, none⟩ = some (.int .u32 n.vers) ∧ w'.cell? ⟨w.heap.size, 10, none⟩ = some (.int .u64 n.length) ∧ w'.cell? ⟨w.heap.size, 11, none⟩ = some (.int .i64 n.opens) ∧ w'.cell? ⟨w.heap.size, 12, none⟩ = some (.int .i64 n.kids))
      (first | with_reducible exact ⟨c0, c1, c2, c3, c4, c5, c6, c7, c8, c9, c10, c11, c12⟩ | with_reducible exact ⟨b0, b1, b2, b3, b4, b5, b6, b7, b8, b9, b10, b11, b12⟩ | go_keep)
      (first
      | (go_at_call 97; (with_reducible refine (made_calls perm n _).mono ?_); rintro e w3 ⟨rfl, hb3⟩
         have HD3 := Lib.hid (show CAt w g L n p taken full w3 from HD.out.next hb3)
         clear hb3
         obtain ⟨b0, b1, b2, b3, b4, b5, b6, b7, b8, b9, b10, b11, b12⟩ := HD3.out.fb.c13
         obtain ⟨s0, s1, s2, s3, s4, s5, s6, s7, s8, s9, s10, s11, s12⟩ := HD3.out.rb.c13
         obtain ⟨f0, f1, f2, f3, f4, f5, f6, f7, f8, f9, f10, f11, f12⟩ := HD3.out.rb.f13))
    clear c0 c1 c2 c3 c4 c5 c6 c7 c8 c9 c10 c11 c12 b0 b1 b2 b3 b4 b5 b6 b7 b8 b9 b10 b11 b12 s0 s1 s2 s3 s4 s5 s6 s7 s8 s9 s10 s11 s12 f0 f1 f2 f3 f4 f5 f6 f7 f8 f9 f10 f11 f12 HD
    have HS := Lib.hid (HD3.out.rb.store (madeN n u name perm))
    have HL := Lib.hid (below_setCells HD3.out.low (Nat.le_succ _) (b := w.heap.size + 1) (nodeL (madeN n u name perm)) 0)
    clear HD3
    try clear hHeld
    change Exit.then _ _ _ _ (w3.setCells (w.heap.size + 1) 0 (nodeL (madeN n u name perm)))
    generalize w3.setCells (w.heap.size + 1) 0 (nodeL (madeN n u name perm)) = w5 at HS HL ⊢
    go_wp2_with fail
    exact bodyPost_ret (results_create rfl rfl HS.out) rfl ⟨create_yes HE.out, HL.out⟩
end Go.Proofs.YtlenlldiimohjaaGreatDoor
