/-
  Package rules: is, Rights, may.
-/
import Derived.Test.YtlenlldiimohjaaDoorU17
import Derived.Test.YtlenlldiimohjaaDoorRLaw
import Derived.Deep.RegionHeld3
namespace Go.Proofs.YtlenlldiimohjaaDoor
open Go.ChangeShapes Go.WideShapes Go.ChangeAt Go.RowKit

theorem is_calls (n : Nd) (b : Int) (w : World) (h : n.ok) :
    Calls Tryd.prog 42 #[nodeV n, .int .u32 b] w fun e w' => e = .returned (.bool (isB n.mode b)) ∧ Below w.heap.size w w' := by
  obtain ⟨m0, m1, -⟩ := h
  unfold nodeV
  go_enter Tryd.func42, Tryd.ntmps42
  go_wp2_with fail
  go_ret
  exact ⟨rfl, (Below.refl _ _).alloc (Nat.le_refl _) _⟩

set_option maxRecDepth 100000 in
set_option maxHeartbeats 1600000 in
theorem rights_calls (g : Nat) (L : List Acct) (u : ByteArray) (n : Nd) (w : World) (h : PTab w g L) (hn : n.ok) (hu : u.size ≤ 16777216) :
    Calls Tryd.prog 33 #[.pointer (some ⟨g, 0, none⟩), .string u, nodeV n] w fun e w' => e = .returned (.int .u8 (rights (decide (u = n.uid)) (isMember L u n.gid) n.mode)) ∧ Below w.heap.size w w' := by
  obtain ⟨m0, m1, -, -, hgs, -⟩ := hn
  obtain ⟨m, HMM⟩ : ∃ m : Nat, Hid (n.mode = (m : Int)) := Int.eq_ofNat_of_zero_le m0
  have hpre : Below w.heap.size w (w.alloc (Obj.cells #[.int .u64 n.path, .int .u64 n.parent, .string n.name, .int .u32 n.mode, .string n.uid, .string n.gid, .string n.muid, .int .u32 n.atime, .int .u32 n.mtime, .int .u32 n.vers, .int .u64 n.length, .int .i64 n.opens, .int .i64 n.kids] 34)) := (Below.refl _ _).alloc (Nat.le_refl _) _
  have HT := Lib.hid (h.below hpre); clear h
  have HB := Lib.hid hpre; clear hpre
  have HN := Lib.hid (Blk.new w 34 #[.int .u64 n.path, .int .u64 n.parent, .string n.name, .int .u32 n.mode, .string n.uid, .string n.gid, .string n.muid, .int .u32 n.atime, .int .u32 n.mtime, .int .u32 n.vers, .int .u64 n.length, .int .i64 n.opens, .int .i64 n.kids])
  unfold nodeV
  go_enter Tryd.func33, Tryd.ntmps33
  go_wp2_with fail
  generalize w.alloc (Obj.cells #[.int .u64 n.path, .int .u64 n.parent, .string n.name, .int .u32 n.mode, .string n.uid, .string n.gid, .string n.muid, .int .u32 n.atime, .int .u32 n.mtime, .int .u32 n.vers, .int .u64 n.length, .int .i64 n.opens, .int .i64 n.kids] 34) = w1 at HT HB HN ⊢
  have a4 : w1.drew.cell? ⟨w.heap.size, 4, none⟩ = some (.string n.uid) := HN.out.cell 4
  have a5 : w1.drew.cell? ⟨w.heap.size, 5, none⟩ = some (.string n.gid) := HN.out.cell 5
  have HTD := Lib.hid (HT.out.below (below_drew w1))
  have b4 : (w1.alloc (Obj.cells #[.bool (u.toList == n.uid.toList), .int .i64 6, .bool (isMember L u n.gid), .int .i64 3, .bool true, .int .i64 0] 84)).drew.cell? ⟨w.heap.size, 4, none⟩ = some (.string n.uid) := (HN.out.alloc (Obj.cells #[.bool (u.toList == n.uid.toList), .int .i64 6, .bool (isMember L u n.gid), .int .i64 3, .bool true, .int .i64 0] 84)).cell 4
  have b5 : (w1.alloc (Obj.cells #[.bool (u.toList == n.uid.toList), .int .i64 6, .bool (isMember L u n.gid), .int .i64 3, .bool true, .int .i64 0] 84)).drew.cell? ⟨w.heap.size, 5, none⟩ = some (.string n.gid) := (HN.out.alloc (Obj.cells #[.bool (u.toList == n.uid.toList), .int .i64 6, .bool (isMember L u n.gid), .int .i64 3, .bool true, .int .i64 0] 84)).cell 5
  go_region_held3 (fun w' => w'.cell? ⟨w.heap.size, 4, none⟩ = some (.string n.uid) ∧ w'.cell? ⟨w.heap.size, 5, none⟩ = some (.string n.gid))
    (first | exact ⟨a4, a5⟩ | exact ⟨b4, b5⟩ | go_keep)
    (first
    | (go_at_call 49; refine (member_calls g L u n.gid _ HTD.out (by omega) (by omega)).mono ?_; rintro e w' ⟨rfl, rfl⟩))
  clear a4 a5 b4 b5
  have HS := Lib.hid (show Blk (w1.alloc (Obj.cells #[.bool (u.toList == n.uid.toList), .int .i64 6, .bool (isMember L u n.gid), .int .i64 3, .bool true, .int .i64 0] 84)).drew w1.heap.size 84 #[.bool (u.toList == n.uid.toList), .int .i64 6, .bool (isMember L u n.gid), .int .i64 3, .bool true, .int .i64 0] from Blk.new w1 _ _)
  have HN2 := Lib.hid ((HN.out.alloc (Obj.cells #[.bool (u.toList == n.uid.toList), .int .i64 6, .bool (isMember L u n.gid), .int .i64 3, .bool true, .int .i64 0] 84)).drew)
  have HB2 := Lib.hid (HB.out.alloc HB.out.size (Obj.cells #[.bool (u.toList == n.uid.toList), .int .i64 6, .bool (isMember L u n.gid), .int .i64 3, .bool true, .int .i64 0] 84)).drew
  generalize (w1.alloc (Obj.cells #[.bool (u.toList == n.uid.toList), .int .i64 6, .bool (isMember L u n.gid), .int .i64 3, .bool true, .int .i64 0] 84)).drew = w2 at HS HN2 HB2 ⊢
  generalize w1.heap.size = q at HS ⊢
  rw [beq_str] at HS ⊢
  generalize hown : decide (u = n.uid) = own at HS ⊢
  generalize hmem : isMember L u n.gid = mem at HS ⊢
  have HOWN := Lib.hid hown; clear hown
  have HMEM := Lib.hid hmem; clear hmem
  clear HN HB HT HTD
  have hins : ∀ k, k < 3 → w2.cell? ⟨q, 0 + k * 2, none⟩ = some (.bool (insR own mem k)) := by
    intro k hk
    match k, hk with
    | 0, _ => exact HS.out.cell 0
    | 1, _ => exact HS.out.cell 2
    | 2, _ => exact HS.out.cell 4
  have hshs : ∀ k, k < 3 → w2.cell? ⟨q, 0 + k * 2 + 1, none⟩ = some (.int .i64 (shR k)) := by
    intro k hk
    match k, hk with
    | 0, _ => exact HS.out.cell 1
    | 1, _ => exact HS.out.cell 3
    | 2, _ => exact HS.out.cell 5
  have HI := Lib.hid hins; clear hins
  have HH := Lib.hid hshs; clear hshs
  have hq : q < w2.heap.size := HS.out.lt
  clear HS
  go_wp2_with fail
  have hb0 : w.heap.size < w2.heap.size := HN2.out.lt
  generalize hmd : n.mode = md at HN2 HMM m0 m1 ⊢
  have HMD := Lib.hid hmd; clear hmd
  go_loopw [26, 8] (fun i r wr => ∃ k : Nat, k ≤ 3 ∧ i = .int .i64 k ∧ r = .int .u8 (accR own mem m k : Nat) ∧ Below w2.heap.size w2 wr) (fun i _ _ => 3 - (intOf i).toNat)
  case atStart => exact ⟨0, by omega, rfl, rfl, Below.refl _ _⟩
  case round =>
    obtain ⟨k, hk, rfl, rfl, hb⟩ := hrel
    by_cases hlt : k < 3
    · have i0 : wr.cell? ⟨q, k * 2, none⟩ = some (.bool (insR own mem k)) := by
        have := HI.out k hlt
        rw [Nat.zero_add] at this
        exact (hb.cell (p := ⟨q, k * 2, none⟩) hq).trans this
      have i1 : wr.cell? ⟨q, k * 2 + 1, none⟩ = some (.int .i64 (shR k)) := by
        have := HH.out k hlt
        rw [Nat.zero_add] at this
        exact (hb.cell (p := ⟨q, k * 2 + 1, none⟩) hq).trans this
      have i3 : (wr.alloc (Obj.cells #[.bool (insR own mem k), .int .i64 (shR k)] 84)).cell? ⟨w.heap.size, 3, none⟩ = some (.int .u32 md) := ((HN2.out.below hb hb0).alloc _).cell 3
      have HB3 := Lib.hid (hb.alloc hb.size (Obj.cells #[.bool (insR own mem k), .int .i64 (shR k)] 84)); clear hb
      have hs0 : 0 ≤ shR k := by match k, hlt with | 0, _ => decide | 1, _ => decide | 2, _ => decide
      have hs1 : shR k ≤ 32 := by match k, hlt with | 0, _ => decide | 1, _ => decide | 2, _ => decide
      have ha := accR_lt own mem m k hk
      cases hin : insR own mem k with
      | false =>
        rw [hin] at i0 i3 HB3
        have HX := Lib.hid (accR_no (m := m) hlt hin); clear hin
        go_wp2_with fail
        go_roundw
        case rel => exact ⟨k + 1, by omega, by go_num, by rw [HX.out], HB3.out⟩
        case measure => simp [intOf]; omega
      | true =>
        rw [hin] at i0 i3 HB3
        have HX := Lib.hid (accR_yes (m := m) hlt hin); clear hin
        go_wp2_with fail
        go_roundw
        case rel => exact ⟨k + 1, by omega, by go_num, by rw [HX.out, HMM.out, cls_eq _ _ _ ha], HB3.out⟩
        case measure => simp [intOf]; omega
    · have HX := Lib.hid (show accR own mem m k = rightsN own mem md.toNat from by
        have h3 : k = 3 := by omega
        subst h3
        rw [accR_end, HMM.out]; rfl)
      have HB3 := Lib.hid (HB2.out.trans (hb.mono HB2.out.size)); clear hb
      go_wp2_with fail
      go_ret
      exact ⟨ret_int (by rw [HX.out, ← HMD.out, ← HOWN.out, ← HMEM.out]; rfl), HB3.out⟩

theorem may_calls (g : Nat) (L : List Acct) (u : ByteArray) (n : Nd) (r : Int) (w : World) (h : PTab w g L) (hn : n.ok) (hu : u.size ≤ 16777216) :
    Calls Tryd.prog 43 #[.pointer (some ⟨g, 0, none⟩), .string u, nodeV n, .int .u8 r] w fun e w' => e = .returned (.bool (mayB (rights (decide (u = n.uid)) (isMember L u n.gid) n.mode) r)) ∧ Below w.heap.size w w' := by
  have hpre : Below w.heap.size w (w.alloc (Obj.cells #[.int .u64 n.path, .int .u64 n.parent, .string n.name, .int .u32 n.mode, .string n.uid, .string n.gid, .string n.muid, .int .u32 n.atime, .int .u32 n.mtime, .int .u32 n.vers, .int .u64 n.length, .int .i64 n.opens, .int .i64 n.kids] 34)) := (Below.refl _ _).alloc (Nat.le_refl _) _
  have HT := Lib.hid (h.below hpre); clear h
  have HB := Lib.hid hpre; clear hpre
  unfold nodeV
  go_enter Tryd.func43, Tryd.ntmps43
  go_wp2_with fail
  refine (rights_calls g L u n _ HT.out hn hu).mono ?_
  rintro e w1 ⟨rfl, hb1⟩
  have HB1 := Lib.hid (HB.out.trans (hb1.mono HB.out.size)); clear hb1
  go_wp2_with fail
  go_ret
  exact ⟨rfl, HB1.out⟩
end Go.Proofs.YtlenlldiimohjaaDoor
