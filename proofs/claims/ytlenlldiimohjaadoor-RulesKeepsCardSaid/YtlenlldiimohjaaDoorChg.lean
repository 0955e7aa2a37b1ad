/-
  Package rules: change, and what its methods answer.
-/
import Derived.Test.YtlenlldiimohjaaDoorU33
import Derived.Test.YtlenlldiimohjaaDoorRec
namespace Go.Proofs.YtlenlldiimohjaaDoor
open Go.ChangeShapes Go.WideShapes Go.ChangeAt Go.RowKit

abbrev chL (g : Nat) (user : ByteArray) (n p : Nd) (taken full : Bool) (s : St) : List Value := [.pointer (some ⟨g, 0, none⟩), .string user, .int .u64 n.path, .int .u64 n.parent, .string n.name, .int .u32 n.mode, .string n.uid, .string n.gid, .string n.muid, .int .u32 n.atime, .int .u32 n.mtime, .int .u32 n.vers, .int .u64 n.length, .int .i64 n.opens, .int .i64 n.kids, .int .u64 p.path, .int .u64 p.parent, .string p.name, .int .u32 p.mode, .string p.uid, .string p.gid, .string p.muid, .int .u32 p.atime, .int .u32 p.mtime, .int .u32 p.vers, .int .u64 p.length, .int .i64 p.opens, .int .i64 p.kids, .bool taken, .bool full, .int .u16 s.typ, .int .u32 s.dev, .int .u8 s.kind, .int .u32 s.vers, .int .u64 s.path, .int .u32 s.mode, .int .u32 s.atime, .int .u32 s.mtime, .int .u64 s.length, .string s.name, .string s.uid, .string s.gid, .string s.muid]
abbrev chV (g : Nat) (user : ByteArray) (n p : Nd) (taken full : Bool) (s : St) : Value := .agg #[.pointer (some ⟨g, 0, none⟩), .string user, .int .u64 n.path, .int .u64 n.parent, .string n.name, .int .u32 n.mode, .string n.uid, .string n.gid, .string n.muid, .int .u32 n.atime, .int .u32 n.mtime, .int .u32 n.vers, .int .u64 n.length, .int .i64 n.opens, .int .i64 n.kids, .int .u64 p.path, .int .u64 p.parent, .string p.name, .int .u32 p.mode, .string p.uid, .string p.gid, .string p.muid, .int .u32 p.atime, .int .u32 p.mtime, .int .u32 p.vers, .int .u64 p.length, .int .i64 p.opens, .int .i64 p.kids, .bool taken, .bool full, .int .u16 s.typ, .int .u32 s.dev, .int .u8 s.kind, .int .u32 s.vers, .int .u64 s.path, .int .u32 s.mode, .int .u32 s.atime, .int .u32 s.mtime, .int .u64 s.length, .string s.name, .string s.uid, .string s.gid, .string s.muid]
/-- Does the user own the node, or lead its group? -/
def mineB (L : List Acct) (user : ByteArray) (n : Nd) : Bool := decide (user = n.uid) || leads L user n.gid
def eMode (mine : Bool) (n : Nd) (s : St) : Int := if mine = false then 90 else if (bits .and .u32 (bits .xor .u32 s.mode n.mode) 2147483648 != 0) = true then 91 else permS s.mode
def eMtime (mine : Bool) : Int := if mine = false then 90 else 0
/-- r: the rights on the node. -/
def eLen (n : Nd) (s : St) (r : Int) : Int := if isB n.mode 2147483648 = true then 92 else if mayB r 2 = false then 90 else if 65536 < s.length then 98 else if isB n.mode 1073741824 = true ∧ s.length < n.length then 97 else 0
/-- rp: the rights on the parent. -/
def eName (n : Nd) (s : St) (rp : Int) (taken : Bool) : Int := if (checkS s.name != 0) = true then checkS s.name else if (n.path == 1) = true then 90 else if mayB rp 2 = false then 90 else if taken = true then 95 else 0
def eGid (L : List Acct) (user : ByteArray) (n : Nd) (s : St) : Int := if known L s.gid = false then 99 else if (decide (user = n.uid) && isMember L user s.gid) = true then 0 else if (leads L user n.gid && leads L user s.gid) = true then 0 else 90

/-- Where a method of a change stands: its receiver at c. -/
def HS (w0 : World) (c : Nat) (L : List Acct) (g : Nat) (user : ByteArray) (n p : Nd) (taken full : Bool) (s : St) (w : World) : Prop := Blk w c 90 (chL g user n p taken full s).toArray ∧ PTab w g L ∧ Below w0.heap.size w0 w
section
variable {w0 w w' : World} {c g : Nat} {L : List Acct} {user : ByteArray} {n p : Nd} {taken full : Bool} {s : St}
theorem HS.next (h : HS w0 c L g user n p taken full s w) (hb : Below w.heap.size w w') : HS w0 c L g user n p taken full s w' := ⟨h.1.below hb h.1.lt, h.2.1.below hb, h.2.2.trans (hb.mono h.2.2.size)⟩
theorem HS.bk (h : HS w0 c L g user n p taken full s w) : Blk w c 90 (chL g user n p taken full s).toArray := h.1
theorem HS.pt (h : HS w0 c L g user n p taken full s w) : PTab w g L := h.2.1
theorem HS.low (h : HS w0 c L g user n p taken full s w) : Below w0.heap.size w0 w := h.2.2
theorem HS.drew (h : HS w0 c L g user n p taken full s w) : HS w0 c L g user n p taken full s w.drew := h.next (below_drew _)
theorem HS.k0 (h : HS w0 c L g user n p taken full s w) : w.cell? ⟨c, 0, none⟩ = some (.pointer (some ⟨g, 0, none⟩)) := Blk.cell h.1 0
theorem HS.k1 (h : HS w0 c L g user n p taken full s w) : w.cell? ⟨c, 1, none⟩ = some (.string user) := Blk.cell h.1 1
theorem HS.k2 (h : HS w0 c L g user n p taken full s w) : w.cell? ⟨c, 2, none⟩ = some (.int .u64 n.path) := Blk.cell h.1 2
theorem HS.k5 (h : HS w0 c L g user n p taken full s w) : w.cell? ⟨c, 5, none⟩ = some (.int .u32 n.mode) := Blk.cell h.1 5
theorem HS.k6 (h : HS w0 c L g user n p taken full s w) : w.cell? ⟨c, 6, none⟩ = some (.string n.uid) := Blk.cell h.1 6
theorem HS.k7 (h : HS w0 c L g user n p taken full s w) : w.cell? ⟨c, 7, none⟩ = some (.string n.gid) := Blk.cell h.1 7
theorem HS.k12 (h : HS w0 c L g user n p taken full s w) : w.cell? ⟨c, 12, none⟩ = some (.int .u64 n.length) := Blk.cell h.1 12
theorem HS.k28 (h : HS w0 c L g user n p taken full s w) : w.cell? ⟨c, 28, none⟩ = some (.bool taken) := Blk.cell h.1 28
theorem HS.k35 (h : HS w0 c L g user n p taken full s w) : w.cell? ⟨c, 35, none⟩ = some (.int .u32 s.mode) := Blk.cell h.1 35
theorem HS.k37 (h : HS w0 c L g user n p taken full s w) : w.cell? ⟨c, 37, none⟩ = some (.int .u32 s.mtime) := Blk.cell h.1 37
theorem HS.k38 (h : HS w0 c L g user n p taken full s w) : w.cell? ⟨c, 38, none⟩ = some (.int .u64 s.length) := Blk.cell h.1 38
theorem HS.k39 (h : HS w0 c L g user n p taken full s w) : w.cell? ⟨c, 39, none⟩ = some (.string s.name) := Blk.cell h.1 39
theorem HS.k41 (h : HS w0 c L g user n p taken full s w) : w.cell? ⟨c, 41, none⟩ = some (.string s.gid) := Blk.cell h.1 41
variable {ops : Array Oper} {op : Oper} {a : Act}
theorem yHN (hw : Region.wanted op (yielded ops a.tmps) = true) (x : Operand) (ho : op.op = .load 34 x) (hx : a.eval x = .pointer (some ⟨c, 2, none⟩)) : YieldsIf Tryd.prog ops (HS w0 c L g user n p taken full s) op (nodeV n) a :=
  yieldsIf_load_mid hw _ x ho _ _ hx (nodeL n) _ (fun _ hS => Blk.range hS.1 2 _ rfl) Tryd.underlying34 rfl node_size
theorem yHP (hw : Region.wanted op (yielded ops a.tmps) = true) (x : Operand) (ho : op.op = .load 34 x) (hx : a.eval x = .pointer (some ⟨c, 15, none⟩)) : YieldsIf Tryd.prog ops (HS w0 c L g user n p taken full s) op (nodeV p) a :=
  yieldsIf_load_mid hw _ x ho _ _ hx (nodeL p) _ (fun _ hS => Blk.range hS.1 15 _ rfl) Tryd.underlying34 rfl node_size
end

set_option maxRecDepth 100000 in
set_option maxHeartbeats 1600000 in
theorem mine_calls (c : Nat) (L : List Acct) (g : Nat) (user : ByteArray) (n p : Nd) (taken full : Bool) (s : St) (w : World) (h : HS w c L g user n p taken full s w) (hu : user.size ≤ 16777216) (hn : n.ok) :
    Calls Tryd.prog 82 #[.pointer (some ⟨c, 0, none⟩)] w fun e w' => e = .returned (.bool (mineB L user n)) ∧ Below w.heap.size w w' := by
  have HR := Lib.hid h; clear h
  have HG := Lib.hid hn.2.2.2.2.1; clear hn
  have HU := Lib.hid hu; clear hu
  cases ho : decide (user = n.uid)
  · have HX := Lib.hid (show mineB L user n = leads L user n.gid from by unfold mineB; rw [ho]; rfl)
    have h13 : (user.toList == n.uid.toList) = false := by rw [beq_str]; exact ho
    clear ho
    go_enter Tryd.func82, Tryd.ntmps82
    go_upto_region 1 with (fail)
    refine wp_region_held_drew (S := HS w c L g user n p taken full s) (by kernel_rfl) HR.out.drew (fun hHeld => ?_)
    refine wpAnyH_takeD 3 (i := 0) (v := .pointer (some ⟨c, 0, none⟩)) rfl rfl (by kernel_rfl) (by kernel_rfl) (by kernel_rfl) (fun _ _ _ h => h) (Or.inl ⟨by rfl, fun wq hSw => by go_simp⟩) (by assumption) ?_
    simp only [Act.put, List.setIfInBounds_toArray, List.set_cons_zero, List.set_cons_succ]
    refine wpAnyH_takeD 4 (i := 1) (v := .pointer (some ⟨c, 0, none⟩)) rfl rfl (by kernel_rfl) (by kernel_rfl) (by kernel_rfl) (fun _ _ _ h => h) (Or.inl ⟨by rfl, fun wq hSw => by go_simp⟩) (by assumption) ?_
    simp only [Act.put, List.setIfInBounds_toArray, List.set_cons_zero, List.set_cons_succ]
    refine wpAnyH_takeD 5 (i := 2) (v := .pointer (some ⟨c, 1, none⟩)) rfl rfl (by kernel_rfl) (by kernel_rfl) (by kernel_rfl) (fun _ _ _ h => h) (Or.inl ⟨by rfl, fun wq hSw => by go_simp⟩) (by assumption) ?_
    simp only [Act.put, List.setIfInBounds_toArray, List.set_cons_zero, List.set_cons_succ]
    refine wpAnyH_takeD 6 (i := 3) (v := .string user) rfl rfl (by kernel_rfl) (by kernel_rfl) (by kernel_rfl) (fun _ _ _ h => h) (Or.inl ⟨by rfl, fun wq hSw => by have k := hSw.k1; go_simp⟩) (by assumption) ?_
    simp only [Act.put, List.setIfInBounds_toArray, List.set_cons_zero, List.set_cons_succ]
    refine wpAnyH_takeD 7 (i := 4) (v := .pointer (some ⟨c, 0, none⟩)) rfl rfl (by kernel_rfl) (by kernel_rfl) (by kernel_rfl) (fun _ _ _ h => h) (Or.inl ⟨by rfl, fun wq hSw => by go_simp⟩) (by assumption) ?_
    simp only [Act.put, List.setIfInBounds_toArray, List.set_cons_zero, List.set_cons_succ]
    refine wpAnyH_takeD 8 (i := 5) (v := .pointer (some ⟨c, 0, none⟩)) rfl rfl (by kernel_rfl) (by kernel_rfl) (by kernel_rfl) (fun _ _ _ h => h) (Or.inl ⟨by rfl, fun wq hSw => by go_simp⟩) (by assumption) ?_
    simp only [Act.put, List.setIfInBounds_toArray, List.set_cons_zero, List.set_cons_succ]
    refine wpAnyH_takeD 9 (i := 6) (v := .pointer (some ⟨c, 2, none⟩)) rfl rfl (by kernel_rfl) (by kernel_rfl) (by kernel_rfl) (fun _ _ _ h => h) (Or.inl ⟨by rfl, fun wq hSw => by go_simp⟩) (by assumption) ?_
    simp only [Act.put, List.setIfInBounds_toArray, List.set_cons_zero, List.set_cons_succ]
    refine wpAnyH_takeD 10 (i := 7) (v := .pointer (some ⟨c, 2, none⟩)) rfl rfl (by kernel_rfl) (by kernel_rfl) (by kernel_rfl) (fun _ _ _ h => h) (Or.inl ⟨by rfl, fun wq hSw => by go_simp⟩) (by assumption) ?_
    simp only [Act.put, List.setIfInBounds_toArray, List.set_cons_zero, List.set_cons_succ]
    refine wpAnyH_takeD 11 (i := 8) (v := .pointer (some ⟨c, 6, none⟩)) rfl rfl (by kernel_rfl) (by kernel_rfl) (by kernel_rfl) (fun _ _ _ h => h) (Or.inl ⟨by rfl, fun wq hSw => by go_simp⟩) (by assumption) ?_
    simp only [Act.put, List.setIfInBounds_toArray, List.set_cons_zero, List.set_cons_succ]
    refine wpAnyH_takeD 12 (i := 9) (v := .string n.uid) rfl rfl (by kernel_rfl) (by kernel_rfl) (by kernel_rfl) (fun _ _ _ h => h) (Or.inl ⟨by rfl, fun wq hSw => by have k := hSw.k6; go_simp⟩) (by assumption) ?_
    simp only [Act.put, List.setIfInBounds_toArray, List.set_cons_zero, List.set_cons_succ]
    refine wpAnyH_takeD 13 (i := 10) (v := .bool false) rfl rfl (by kernel_rfl) (by kernel_rfl) (by kernel_rfl) (fun _ _ _ h => h) (Or.inl ⟨by rfl, fun wq hSw => by go_simp⟩) (by assumption) ?_
    simp only [Act.put, List.setIfInBounds_toArray, List.set_cons_zero, List.set_cons_succ]
    refine wpAnyH_takeD 14 (i := 11) (v := .bool false) rfl rfl (by kernel_rfl) (by kernel_rfl) (by kernel_rfl) (fun _ _ _ h => h) (Or.inl ⟨by rfl, fun wq hSw => by go_simp⟩) (by assumption) ?_
    simp only [Act.put, List.setIfInBounds_toArray, List.set_cons_zero, List.set_cons_succ]
    refine wpAnyH_takeD 15 (i := 12) (v := .pointer (some ⟨c, 0, none⟩)) rfl rfl (by kernel_rfl) (by kernel_rfl) (by kernel_rfl) (fun _ _ _ h => h) (Or.inl ⟨by rfl, fun wq hSw => by go_simp⟩) (by assumption) ?_
    simp only [Act.put, List.setIfInBounds_toArray, List.set_cons_zero, List.set_cons_succ]
    refine wpAnyH_takeD 16 (i := 13) (v := .pointer (some ⟨c, 0, none⟩)) rfl rfl (by kernel_rfl) (by kernel_rfl) (by kernel_rfl) (fun _ _ _ h => h) (Or.inl ⟨by rfl, fun wq hSw => by go_simp⟩) (by assumption) ?_
    simp only [Act.put, List.setIfInBounds_toArray, List.set_cons_zero, List.set_cons_succ]
    refine wpAnyH_takeD 17 (i := 14) (v := .pointer (some ⟨c, 0, none⟩)) rfl rfl (by kernel_rfl) (by kernel_rfl) (by kernel_rfl) (fun _ _ _ h => h) (Or.inl ⟨by rfl, fun wq hSw => by go_simp⟩) (by assumption) ?_
    simp only [Act.put, List.setIfInBounds_toArray, List.set_cons_zero, List.set_cons_succ]
    refine wpAnyH_takeD 18 (i := 15) (v := .pointer (some ⟨g, 0, none⟩)) rfl rfl (by kernel_rfl) (by kernel_rfl) (by kernel_rfl) (fun _ _ _ h => h) (Or.inl ⟨by rfl, fun wq hSw => by have k := hSw.k0; go_simp⟩) (by assumption) ?_
    simp only [Act.put, List.setIfInBounds_toArray, List.set_cons_zero, List.set_cons_succ]
    refine wpAnyH_takeD 19 (i := 16) (v := .pointer (some ⟨c, 0, none⟩)) rfl rfl (by kernel_rfl) (by kernel_rfl) (by kernel_rfl) (fun _ _ _ h => h) (Or.inl ⟨by rfl, fun wq hSw => by go_simp⟩) (by assumption) ?_
    simp only [Act.put, List.setIfInBounds_toArray, List.set_cons_zero, List.set_cons_succ]
    refine wpAnyH_takeD 20 (i := 17) (v := .pointer (some ⟨c, 0, none⟩)) rfl rfl (by kernel_rfl) (by kernel_rfl) (by kernel_rfl) (fun _ _ _ h => h) (Or.inl ⟨by rfl, fun wq hSw => by go_simp⟩) (by assumption) ?_
    simp only [Act.put, List.setIfInBounds_toArray, List.set_cons_zero, List.set_cons_succ]
    refine wpAnyH_takeD 21 (i := 18) (v := .pointer (some ⟨c, 1, none⟩)) rfl rfl (by kernel_rfl) (by kernel_rfl) (by kernel_rfl) (fun _ _ _ h => h) (Or.inl ⟨by rfl, fun wq hSw => by go_simp⟩) (by assumption) ?_
    simp only [Act.put, List.setIfInBounds_toArray, List.set_cons_zero, List.set_cons_succ]
    refine wpAnyH_takeD 22 (i := 19) (v := .string user) rfl rfl (by kernel_rfl) (by kernel_rfl) (by kernel_rfl) (fun _ _ _ h => h) (Or.inl ⟨by rfl, fun wq hSw => by have k := hSw.k1; go_simp⟩) (by assumption) ?_
    simp only [Act.put, List.setIfInBounds_toArray, List.set_cons_zero, List.set_cons_succ]
    refine wpAnyH_takeD 23 (i := 20) (v := .pointer (some ⟨c, 0, none⟩)) rfl rfl (by kernel_rfl) (by kernel_rfl) (by kernel_rfl) (fun _ _ _ h => h) (Or.inl ⟨by rfl, fun wq hSw => by go_simp⟩) (by assumption) ?_
    simp only [Act.put, List.setIfInBounds_toArray, List.set_cons_zero, List.set_cons_succ]
    refine wpAnyH_takeD 24 (i := 21) (v := .pointer (some ⟨c, 0, none⟩)) rfl rfl (by kernel_rfl) (by kernel_rfl) (by kernel_rfl) (fun _ _ _ h => h) (Or.inl ⟨by rfl, fun wq hSw => by go_simp⟩) (by assumption) ?_
    simp only [Act.put, List.setIfInBounds_toArray, List.set_cons_zero, List.set_cons_succ]
    refine wpAnyH_takeD 25 (i := 22) (v := .pointer (some ⟨c, 2, none⟩)) rfl rfl (by kernel_rfl) (by kernel_rfl) (by kernel_rfl) (fun _ _ _ h => h) (Or.inl ⟨by rfl, fun wq hSw => by go_simp⟩) (by assumption) ?_
    simp only [Act.put, List.setIfInBounds_toArray, List.set_cons_zero, List.set_cons_succ]
    refine wpAnyH_takeD 26 (i := 23) (v := .pointer (some ⟨c, 2, none⟩)) rfl rfl (by kernel_rfl) (by kernel_rfl) (by kernel_rfl) (fun _ _ _ h => h) (Or.inl ⟨by rfl, fun wq hSw => by go_simp⟩) (by assumption) ?_
    simp only [Act.put, List.setIfInBounds_toArray, List.set_cons_zero, List.set_cons_succ]
    refine wpAnyH_takeD 27 (i := 24) (v := .pointer (some ⟨c, 7, none⟩)) rfl rfl (by kernel_rfl) (by kernel_rfl) (by kernel_rfl) (fun _ _ _ h => h) (Or.inl ⟨by rfl, fun wq hSw => by go_simp⟩) (by assumption) ?_
    simp only [Act.put, List.setIfInBounds_toArray, List.set_cons_zero, List.set_cons_succ]
    refine wpAnyH_takeD 28 (i := 25) (v := .string n.gid) rfl rfl (by kernel_rfl) (by kernel_rfl) (by kernel_rfl) (fun _ _ _ h => h) (Or.inl ⟨by rfl, fun wq hSw => by have k := hSw.k7; go_simp⟩) (by assumption) ?_
    simp only [Act.put, List.setIfInBounds_toArray, List.set_cons_zero, List.set_cons_succ]
    refine wpAnyH_ready (rs := [26]) (by kernel_rfl) (by simp) ?_
    refine AllReadyH.cons rfl (fun K hK => ?_) AllReadyH.nil
    rw [if_pos (by rfl)]
    go_simp
    (with_reducible refine (leads_calls _ _ user n.gid _ hHeld.pt (by have := HU.out; omega) (by have := HG.out; omega)).mono ?_)
    rintro e w3 ⟨rfl, rfl⟩
    dsimp only
    refine hK.out _ _ hHeld (fun hHeld => ?_)
    clear hK
    refine wpAnyH_takeD 30 (i := 27) (v := .bool (leads L user n.gid)) rfl rfl (by kernel_rfl) (by kernel_rfl) (by kernel_rfl) (fun _ _ _ h => h) (Or.inl ⟨by rfl, fun wq hSw => by go_simp⟩) (by assumption) ?_
    simp only [Act.put, List.setIfInBounds_toArray, List.set_cons_zero, List.set_cons_succ]
    refine wpAnyH_takeD 2 (i := 28) (v := .bool (leads L user n.gid)) rfl rfl (by kernel_rfl) (by kernel_rfl) (by kernel_rfl) (fun _ _ _ h => h) (Or.inl ⟨by rfl, fun wq hSw => by go_simp⟩) (by assumption) ?_
    simp only [Act.put, List.setIfInBounds_toArray, List.set_cons_zero, List.set_cons_succ]
    refine wpAnyH_done (by kernel_rfl) ?_ _
    have HL := Lib.hid hHeld.low
    clear hHeld
    go_wp2_with fail
    go_ret
    exact ⟨by rw [HX.out]; rfl, HL.out⟩
  · have HX := Lib.hid (show mineB L user n = true from by unfold mineB; rw [ho]; rfl)
    have h13 : (user.toList == n.uid.toList) = true := by rw [beq_str]; exact ho
    clear ho
    go_enter Tryd.func82, Tryd.ntmps82
    go_upto_region 1 with (fail)
    refine wp_region_held_drew (S := HS w c L g user n p taken full s) (by kernel_rfl) HR.out.drew (fun hHeld => ?_)
    refine wpAnyH_takeD 3 (i := 0) (v := .pointer (some ⟨c, 0, none⟩)) rfl rfl (by kernel_rfl) (by kernel_rfl) (by kernel_rfl) (fun _ _ _ h => h) (Or.inl ⟨by rfl, fun wq hSw => by go_simp⟩) (by assumption) ?_
    simp only [Act.put, List.setIfInBounds_toArray, List.set_cons_zero, List.set_cons_succ]
    refine wpAnyH_takeD 4 (i := 1) (v := .pointer (some ⟨c, 0, none⟩)) rfl rfl (by kernel_rfl) (by kernel_rfl) (by kernel_rfl) (fun _ _ _ h => h) (Or.inl ⟨by rfl, fun wq hSw => by go_simp⟩) (by assumption) ?_
    simp only [Act.put, List.setIfInBounds_toArray, List.set_cons_zero, List.set_cons_succ]
    refine wpAnyH_takeD 5 (i := 2) (v := .pointer (some ⟨c, 1, none⟩)) rfl rfl (by kernel_rfl) (by kernel_rfl) (by kernel_rfl) (fun _ _ _ h => h) (Or.inl ⟨by rfl, fun wq hSw => by go_simp⟩) (by assumption) ?_
    simp only [Act.put, List.setIfInBounds_toArray, List.set_cons_zero, List.set_cons_succ]
    refine wpAnyH_takeD 6 (i := 3) (v := .string user) rfl rfl (by kernel_rfl) (by kernel_rfl) (by kernel_rfl) (fun _ _ _ h => h) (Or.inl ⟨by rfl, fun wq hSw => by have k := hSw.k1; go_simp⟩) (by assumption) ?_
    simp only [Act.put, List.setIfInBounds_toArray, List.set_cons_zero, List.set_cons_succ]
    refine wpAnyH_takeD 7 (i := 4) (v := .pointer (some ⟨c, 0, none⟩)) rfl rfl (by kernel_rfl) (by kernel_rfl) (by kernel_rfl) (fun _ _ _ h => h) (Or.inl ⟨by rfl, fun wq hSw => by go_simp⟩) (by assumption) ?_
    simp only [Act.put, List.setIfInBounds_toArray, List.set_cons_zero, List.set_cons_succ]
    refine wpAnyH_takeD 8 (i := 5) (v := .pointer (some ⟨c, 0, none⟩)) rfl rfl (by kernel_rfl) (by kernel_rfl) (by kernel_rfl) (fun _ _ _ h => h) (Or.inl ⟨by rfl, fun wq hSw => by go_simp⟩) (by assumption) ?_
    simp only [Act.put, List.setIfInBounds_toArray, List.set_cons_zero, List.set_cons_succ]
    refine wpAnyH_takeD 9 (i := 6) (v := .pointer (some ⟨c, 2, none⟩)) rfl rfl (by kernel_rfl) (by kernel_rfl) (by kernel_rfl) (fun _ _ _ h => h) (Or.inl ⟨by rfl, fun wq hSw => by go_simp⟩) (by assumption) ?_
    simp only [Act.put, List.setIfInBounds_toArray, List.set_cons_zero, List.set_cons_succ]
    refine wpAnyH_takeD 10 (i := 7) (v := .pointer (some ⟨c, 2, none⟩)) rfl rfl (by kernel_rfl) (by kernel_rfl) (by kernel_rfl) (fun _ _ _ h => h) (Or.inl ⟨by rfl, fun wq hSw => by go_simp⟩) (by assumption) ?_
    simp only [Act.put, List.setIfInBounds_toArray, List.set_cons_zero, List.set_cons_succ]
    refine wpAnyH_takeD 11 (i := 8) (v := .pointer (some ⟨c, 6, none⟩)) rfl rfl (by kernel_rfl) (by kernel_rfl) (by kernel_rfl) (fun _ _ _ h => h) (Or.inl ⟨by rfl, fun wq hSw => by go_simp⟩) (by assumption) ?_
    simp only [Act.put, List.setIfInBounds_toArray, List.set_cons_zero, List.set_cons_succ]
    refine wpAnyH_takeD 12 (i := 9) (v := .string n.uid) rfl rfl (by kernel_rfl) (by kernel_rfl) (by kernel_rfl) (fun _ _ _ h => h) (Or.inl ⟨by rfl, fun wq hSw => by have k := hSw.k6; go_simp⟩) (by assumption) ?_
    simp only [Act.put, List.setIfInBounds_toArray, List.set_cons_zero, List.set_cons_succ]
    refine wpAnyH_takeD 13 (i := 10) (v := .bool true) rfl rfl (by kernel_rfl) (by kernel_rfl) (by kernel_rfl) (fun _ _ _ h => h) (Or.inl ⟨by rfl, fun wq hSw => by go_simp⟩) (by assumption) ?_
    simp only [Act.put, List.setIfInBounds_toArray, List.set_cons_zero, List.set_cons_succ]
    refine wpAnyH_takeD 14 (i := 11) (v := .bool true) rfl rfl (by kernel_rfl) (by kernel_rfl) (by kernel_rfl) (fun _ _ _ h => h) (Or.inl ⟨by rfl, fun wq hSw => by go_simp⟩) (by assumption) ?_
    simp only [Act.put, List.setIfInBounds_toArray, List.set_cons_zero, List.set_cons_succ]
    refine wpAnyH_takeD 15 (i := 12) (v := undef) rfl rfl (by kernel_rfl) (by kernel_rfl) (by kernel_rfl) (fun _ _ _ h => h) (Or.inr ⟨by rfl, rfl⟩) (by assumption) ?_
    simp only [Act.put, List.setIfInBounds_toArray, List.set_cons_zero, List.set_cons_succ]
    refine wpAnyH_takeD 16 (i := 13) (v := undef) rfl rfl (by kernel_rfl) (by kernel_rfl) (by kernel_rfl) (fun _ _ _ h => h) (Or.inr ⟨by rfl, rfl⟩) (by assumption) ?_
    simp only [Act.put, List.setIfInBounds_toArray, List.set_cons_zero, List.set_cons_succ]
    refine wpAnyH_takeD 17 (i := 14) (v := undef) rfl rfl (by kernel_rfl) (by kernel_rfl) (by kernel_rfl) (fun _ _ _ h => h) (Or.inr ⟨by rfl, rfl⟩) (by assumption) ?_
    simp only [Act.put, List.setIfInBounds_toArray, List.set_cons_zero, List.set_cons_succ]
    refine wpAnyH_takeD 18 (i := 15) (v := undef) rfl rfl (by kernel_rfl) (by kernel_rfl) (by kernel_rfl) (fun _ _ _ h => h) (Or.inr ⟨by rfl, rfl⟩) (by assumption) ?_
    simp only [Act.put, List.setIfInBounds_toArray, List.set_cons_zero, List.set_cons_succ]
    refine wpAnyH_takeD 19 (i := 16) (v := undef) rfl rfl (by kernel_rfl) (by kernel_rfl) (by kernel_rfl) (fun _ _ _ h => h) (Or.inr ⟨by rfl, rfl⟩) (by assumption) ?_
    simp only [Act.put, List.setIfInBounds_toArray, List.set_cons_zero, List.set_cons_succ]
    refine wpAnyH_takeD 20 (i := 17) (v := undef) rfl rfl (by kernel_rfl) (by kernel_rfl) (by kernel_rfl) (fun _ _ _ h => h) (Or.inr ⟨by rfl, rfl⟩) (by assumption) ?_
    simp only [Act.put, List.setIfInBounds_toArray, List.set_cons_zero, List.set_cons_succ]
    refine wpAnyH_takeD 21 (i := 18) (v := undef) rfl rfl (by kernel_rfl) (by kernel_rfl) (by kernel_rfl) (fun _ _ _ h => h) (Or.inr ⟨by rfl, rfl⟩) (by assumption) ?_
    simp only [Act.put, List.setIfInBounds_toArray, List.set_cons_zero, List.set_cons_succ]
    refine wpAnyH_takeD 22 (i := 19) (v := undef) rfl rfl (by kernel_rfl) (by kernel_rfl) (by kernel_rfl) (fun _ _ _ h => h) (Or.inr ⟨by rfl, rfl⟩) (by assumption) ?_
    simp only [Act.put, List.setIfInBounds_toArray, List.set_cons_zero, List.set_cons_succ]
    refine wpAnyH_takeD 23 (i := 20) (v := undef) rfl rfl (by kernel_rfl) (by kernel_rfl) (by kernel_rfl) (fun _ _ _ h => h) (Or.inr ⟨by rfl, rfl⟩) (by assumption) ?_
    simp only [Act.put, List.setIfInBounds_toArray, List.set_cons_zero, List.set_cons_succ]
    refine wpAnyH_takeD 24 (i := 21) (v := undef) rfl rfl (by kernel_rfl) (by kernel_rfl) (by kernel_rfl) (fun _ _ _ h => h) (Or.inr ⟨by rfl, rfl⟩) (by assumption) ?_
    simp only [Act.put, List.setIfInBounds_toArray, List.set_cons_zero, List.set_cons_succ]
    refine wpAnyH_takeD 25 (i := 22) (v := undef) rfl rfl (by kernel_rfl) (by kernel_rfl) (by kernel_rfl) (fun _ _ _ h => h) (Or.inr ⟨by rfl, rfl⟩) (by assumption) ?_
    simp only [Act.put, List.setIfInBounds_toArray, List.set_cons_zero, List.set_cons_succ]
    refine wpAnyH_takeD 26 (i := 23) (v := undef) rfl rfl (by kernel_rfl) (by kernel_rfl) (by kernel_rfl) (fun _ _ _ h => h) (Or.inr ⟨by rfl, rfl⟩) (by assumption) ?_
    simp only [Act.put, List.setIfInBounds_toArray, List.set_cons_zero, List.set_cons_succ]
    refine wpAnyH_takeD 27 (i := 24) (v := undef) rfl rfl (by kernel_rfl) (by kernel_rfl) (by kernel_rfl) (fun _ _ _ h => h) (Or.inr ⟨by rfl, rfl⟩) (by assumption) ?_
    simp only [Act.put, List.setIfInBounds_toArray, List.set_cons_zero, List.set_cons_succ]
    refine wpAnyH_takeD 28 (i := 25) (v := undef) rfl rfl (by kernel_rfl) (by kernel_rfl) (by kernel_rfl) (fun _ _ _ h => h) (Or.inr ⟨by rfl, rfl⟩) (by assumption) ?_
    simp only [Act.put, List.setIfInBounds_toArray, List.set_cons_zero, List.set_cons_succ]
    refine wpAnyH_takeD 29 (i := 26) (v := undef) rfl rfl (by kernel_rfl) (by kernel_rfl) (by kernel_rfl) (fun _ _ _ h => h) (Or.inr ⟨by rfl, rfl⟩) (by assumption) ?_
    simp only [Act.put, List.setIfInBounds_toArray, List.set_cons_zero, List.set_cons_succ]
    refine wpAnyH_takeD 30 (i := 27) (v := .bool true) rfl rfl (by kernel_rfl) (by kernel_rfl) (by kernel_rfl) (fun _ _ _ h => h) (Or.inl ⟨by rfl, fun wq hSw => by go_simp⟩) (by assumption) ?_
    simp only [Act.put, List.setIfInBounds_toArray, List.set_cons_zero, List.set_cons_succ]
    refine wpAnyH_takeD 2 (i := 28) (v := .bool true) rfl rfl (by kernel_rfl) (by kernel_rfl) (by kernel_rfl) (fun _ _ _ h => h) (Or.inl ⟨by rfl, fun wq hSw => by go_simp⟩) (by assumption) ?_
    simp only [Act.put, List.setIfInBounds_toArray, List.set_cons_zero, List.set_cons_succ]
    refine wpAnyH_done (by kernel_rfl) ?_ _
    have HL := Lib.hid hHeld.low
    clear hHeld
    go_wp2_with fail
    go_ret
    exact ⟨by rw [HX.out]; rfl, HL.out⟩

theorem never_calls (c : Nat) (w : World) : Calls Tryd.prog 52 #[.pointer (some ⟨c, 0, none⟩)] w fun e w' => e = .returned (.int .i64 97) ∧ Below w.heap.size w w' := by
  go_enter Tryd.func52, Tryd.ntmps52
  go_wp2_with fail
  go_ret
  exact ⟨rfl, Below.refl _ _⟩

set_option maxRecDepth 100000 in
set_option maxHeartbeats 1600000 in
theorem mtime_calls (c : Nat) (L : List Acct) (g : Nat) (user : ByteArray) (n p : Nd) (taken full : Bool) (s : St) (w : World) (h : HS w c L g user n p taken full s w) (hu : user.size ≤ 16777216) (hn : n.ok) :
    Calls Tryd.prog 54 #[.pointer (some ⟨c, 0, none⟩)] w fun e w' => e = .returned (.int .i64 (eMtime (mineB L user n))) ∧ Below w.heap.size w w' := by
  have HR := Lib.hid h; clear h
  have HN := Lib.hid hn; clear hn
  have HU := Lib.hid hu; clear hu
  cases hm : mineB L user n
  all_goals
    have HM := Lib.hid hm; clear hm
    go_enter Tryd.func54, Tryd.ntmps54
    go_wp2_with (first | (go_at_call 82; (with_reducible refine (mine_calls c L g user n p taken full s _ HR.out HU.out HN.out).mono ?_); rw [HM.out]; rintro e w1 ⟨rfl, hb⟩; replace HR := Lib.hid (HR.out.next hb); clear hb))
    go_ret
    exact ⟨rfl, HR.out.low⟩

set_option maxRecDepth 100000 in
set_option maxHeartbeats 1600000 in
theorem mode_calls (c : Nat) (L : List Acct) (g : Nat) (user : ByteArray) (n p : Nd) (taken full : Bool) (s : St) (w : World) (h : HS w c L g user n p taken full s w) (hu : user.size ≤ 16777216) (hn : n.ok) :
    Calls Tryd.prog 53 #[.pointer (some ⟨c, 0, none⟩)] w fun e w' => e = .returned (.int .i64 (eMode (mineB L user n) n s)) ∧ Below w.heap.size w w' := by
  have HR := Lib.hid h; clear h
  have HN := Lib.hid hn; clear hn
  have HU := Lib.hid hu; clear hu
  cases hm : mineB L user n
  · have HM := Lib.hid hm; clear hm
    go_enter Tryd.func53, Tryd.ntmps53
    go_wp2_with (first | (go_at_call 82; (with_reducible refine (mine_calls c L g user n p taken full s _ HR.out HU.out HN.out).mono ?_); rw [HM.out]; rintro e w1 ⟨rfl, hb⟩; replace HR := Lib.hid (HR.out.next hb); clear hb))
    go_ret
    exact ⟨rfl, HR.out.low⟩
  · have HM := Lib.hid hm; clear hm
    cases hx : (bits .and .u32 (bits .xor .u32 s.mode n.mode) 2147483648 != 0)
    · have HX := Lib.hid (show eMode true n s = permS s.mode from by unfold eMode; rw [hx]; rfl)
      go_enter Tryd.func53, Tryd.ntmps53
      go_upto_region 3 with (first | (go_at_call 82; (with_reducible refine (mine_calls c L g user n p taken full s _ HR.out HU.out HN.out).mono ?_); rw [HM.out]; rintro e w1 ⟨rfl, hb⟩; replace HR := Lib.hid (HR.out.next hb); clear hb))
      refine wp_region_held_drew (S := HS w c L g user n p taken full s) (by kernel_rfl) HR.out.drew (fun hHeld => ?_)
      refine wpAnyH_takeD 6 (i := 0) (v := .pointer (some ⟨c, 0, none⟩)) rfl rfl (by kernel_rfl) (by kernel_rfl) (by kernel_rfl) (fun _ _ _ h => h) (Or.inl ⟨by rfl, fun wq hSw => by go_simp⟩) (by assumption) ?_
      simp only [Act.put, List.setIfInBounds_toArray, List.set_cons_zero, List.set_cons_succ]
      refine wpAnyH_takeD 7 (i := 1) (v := .pointer (some ⟨c, 0, none⟩)) rfl rfl (by kernel_rfl) (by kernel_rfl) (by kernel_rfl) (fun _ _ _ h => h) (Or.inl ⟨by rfl, fun wq hSw => by go_simp⟩) (by assumption) ?_
      simp only [Act.put, List.setIfInBounds_toArray, List.set_cons_zero, List.set_cons_succ]
      refine wpAnyH_takeD 8 (i := 2) (v := .pointer (some ⟨c, 30, none⟩)) rfl rfl (by kernel_rfl) (by kernel_rfl) (by kernel_rfl) (fun _ _ _ h => h) (Or.inl ⟨by rfl, fun wq hSw => by go_simp⟩) (by assumption) ?_
      simp only [Act.put, List.setIfInBounds_toArray, List.set_cons_zero, List.set_cons_succ]
      refine wpAnyH_takeD 9 (i := 3) (v := .pointer (some ⟨c, 35, none⟩)) rfl rfl (by kernel_rfl) (by kernel_rfl) (by kernel_rfl) (fun _ _ _ h => h) (Or.inl ⟨by rfl, fun wq hSw => by go_simp⟩) (by assumption) ?_
      simp only [Act.put, List.setIfInBounds_toArray, List.set_cons_zero, List.set_cons_succ]
      refine wpAnyH_takeD 10 (i := 4) (v := .int .u32 s.mode) rfl rfl (by kernel_rfl) (by kernel_rfl) (by kernel_rfl) (fun _ _ _ h => h) (Or.inl ⟨by rfl, fun wq hSw => by have k := hSw.k35; go_simp⟩) (by assumption) ?_
      simp only [Act.put, List.setIfInBounds_toArray, List.set_cons_zero, List.set_cons_succ]
      refine wpAnyH_takeD 11 (i := 5) (v := .pointer (some ⟨c, 0, none⟩)) rfl rfl (by kernel_rfl) (by kernel_rfl) (by kernel_rfl) (fun _ _ _ h => h) (Or.inl ⟨by rfl, fun wq hSw => by go_simp⟩) (by assumption) ?_
      simp only [Act.put, List.setIfInBounds_toArray, List.set_cons_zero, List.set_cons_succ]
      refine wpAnyH_takeD 12 (i := 6) (v := .pointer (some ⟨c, 0, none⟩)) rfl rfl (by kernel_rfl) (by kernel_rfl) (by kernel_rfl) (fun _ _ _ h => h) (Or.inl ⟨by rfl, fun wq hSw => by go_simp⟩) (by assumption) ?_
      simp only [Act.put, List.setIfInBounds_toArray, List.set_cons_zero, List.set_cons_succ]
      refine wpAnyH_takeD 13 (i := 7) (v := .pointer (some ⟨c, 2, none⟩)) rfl rfl (by kernel_rfl) (by kernel_rfl) (by kernel_rfl) (fun _ _ _ h => h) (Or.inl ⟨by rfl, fun wq hSw => by go_simp⟩) (by assumption) ?_
      simp only [Act.put, List.setIfInBounds_toArray, List.set_cons_zero, List.set_cons_succ]
      refine wpAnyH_takeD 14 (i := 8) (v := .pointer (some ⟨c, 2, none⟩)) rfl rfl (by kernel_rfl) (by kernel_rfl) (by kernel_rfl) (fun _ _ _ h => h) (Or.inl ⟨by rfl, fun wq hSw => by go_simp⟩) (by assumption) ?_
      simp only [Act.put, List.setIfInBounds_toArray, List.set_cons_zero, List.set_cons_succ]
      refine wpAnyH_takeD 15 (i := 9) (v := .pointer (some ⟨c, 5, none⟩)) rfl rfl (by kernel_rfl) (by kernel_rfl) (by kernel_rfl) (fun _ _ _ h => h) (Or.inl ⟨by rfl, fun wq hSw => by go_simp⟩) (by assumption) ?_
      simp only [Act.put, List.setIfInBounds_toArray, List.set_cons_zero, List.set_cons_succ]
      refine wpAnyH_takeD 16 (i := 10) (v := .int .u32 n.mode) rfl rfl (by kernel_rfl) (by kernel_rfl) (by kernel_rfl) (fun _ _ _ h => h) (Or.inl ⟨by rfl, fun wq hSw => by have k := hSw.k5; go_simp⟩) (by assumption) ?_
      simp only [Act.put, List.setIfInBounds_toArray, List.set_cons_zero, List.set_cons_succ]
      refine wpAnyH_takeD 17 (i := 11) (v := .int .u32 (bits .xor .u32 s.mode n.mode)) rfl rfl (by kernel_rfl) (by kernel_rfl) (by kernel_rfl) (fun _ _ _ h => h) (Or.inl ⟨by rfl, fun wq hSw => by go_simp⟩) (by assumption) ?_
      simp only [Act.put, List.setIfInBounds_toArray, List.set_cons_zero, List.set_cons_succ]
      refine wpAnyH_takeD 18 (i := 12) (v := .int .u32 (bits .and .u32 (bits .xor .u32 s.mode n.mode) 2147483648)) rfl rfl (by kernel_rfl) (by kernel_rfl) (by kernel_rfl) (fun _ _ _ h => h) (Or.inl ⟨by rfl, fun wq hSw => by go_simp⟩) (by assumption) ?_
      simp only [Act.put, List.setIfInBounds_toArray, List.set_cons_zero, List.set_cons_succ]
      refine wpAnyH_takeD 19 (i := 13) (v := .bool false) rfl rfl (by kernel_rfl) (by kernel_rfl) (by kernel_rfl) (fun _ _ _ h => h) (Or.inl ⟨by rfl, fun wq hSw => by go_simp⟩) (by assumption) ?_
      simp only [Act.put, List.setIfInBounds_toArray, List.set_cons_zero, List.set_cons_succ]
      refine wpAnyH_done (by kernel_rfl) ?_ _
      replace HR := Lib.hid hHeld
      clear hHeld hx
      have k := HR.out.k35
      go_wp2_with (first | (go_at_call 16; (with_reducible refine (perm_calls _ _).mono ?_); rintro e wq ⟨rfl, rfl⟩))
      go_ret
      exact ⟨by first | rfl | (rw [HX.out]; rfl) | rw [HX.out], HR.out.low⟩
    · have HX := Lib.hid (show eMode true n s = 91 from by unfold eMode; rw [hx]; rfl)
      go_enter Tryd.func53, Tryd.ntmps53
      go_upto_region 3 with (first | (go_at_call 82; (with_reducible refine (mine_calls c L g user n p taken full s _ HR.out HU.out HN.out).mono ?_); rw [HM.out]; rintro e w1 ⟨rfl, hb⟩; replace HR := Lib.hid (HR.out.next hb); clear hb))
      refine wp_region_held_drew (S := HS w c L g user n p taken full s) (by kernel_rfl) HR.out.drew (fun hHeld => ?_)
      refine wpAnyH_takeD 6 (i := 0) (v := .pointer (some ⟨c, 0, none⟩)) rfl rfl (by kernel_rfl) (by kernel_rfl) (by kernel_rfl) (fun _ _ _ h => h) (Or.inl ⟨by rfl, fun wq hSw => by go_simp⟩) (by assumption) ?_
      simp only [Act.put, List.setIfInBounds_toArray, List.set_cons_zero, List.set_cons_succ]
      refine wpAnyH_takeD 7 (i := 1) (v := .pointer (some ⟨c, 0, none⟩)) rfl rfl (by kernel_rfl) (by kernel_rfl) (by kernel_rfl) (fun _ _ _ h => h) (Or.inl ⟨by rfl, fun wq hSw => by go_simp⟩) (by assumption) ?_
      simp only [Act.put, List.setIfInBounds_toArray, List.set_cons_zero, List.set_cons_succ]
      refine wpAnyH_takeD 8 (i := 2) (v := .pointer (some ⟨c, 30, none⟩)) rfl rfl (by kernel_rfl) (by kernel_rfl) (by kernel_rfl) (fun _ _ _ h => h) (Or.inl ⟨by rfl, fun wq hSw => by go_simp⟩) (by assumption) ?_
      simp only [Act.put, List.setIfInBounds_toArray, List.set_cons_zero, List.set_cons_succ]
      refine wpAnyH_takeD 9 (i := 3) (v := .pointer (some ⟨c, 35, none⟩)) rfl rfl (by kernel_rfl) (by kernel_rfl) (by kernel_rfl) (fun _ _ _ h => h) (Or.inl ⟨by rfl, fun wq hSw => by go_simp⟩) (by assumption) ?_
      simp only [Act.put, List.setIfInBounds_toArray, List.set_cons_zero, List.set_cons_succ]
      refine wpAnyH_takeD 10 (i := 4) (v := .int .u32 s.mode) rfl rfl (by kernel_rfl) (by kernel_rfl) (by kernel_rfl) (fun _ _ _ h => h) (Or.inl ⟨by rfl, fun wq hSw => by have k := hSw.k35; go_simp⟩) (by assumption) ?_
      simp only [Act.put, List.setIfInBounds_toArray, List.set_cons_zero, List.set_cons_succ]
      refine wpAnyH_takeD 11 (i := 5) (v := .pointer (some ⟨c, 0, none⟩)) rfl rfl (by kernel_rfl) (by kernel_rfl) (by kernel_rfl) (fun _ _ _ h => h) (Or.inl ⟨by rfl, fun wq hSw => by go_simp⟩) (by assumption) ?_
      simp only [Act.put, List.setIfInBounds_toArray, List.set_cons_zero, List.set_cons_succ]
      refine wpAnyH_takeD 12 (i := 6) (v := .pointer (some ⟨c, 0, none⟩)) rfl rfl (by kernel_rfl) (by kernel_rfl) (by kernel_rfl) (fun _ _ _ h => h) (Or.inl ⟨by rfl, fun wq hSw => by go_simp⟩) (by assumption) ?_
      simp only [Act.put, List.setIfInBounds_toArray, List.set_cons_zero, List.set_cons_succ]
      refine wpAnyH_takeD 13 (i := 7) (v := .pointer (some ⟨c, 2, none⟩)) rfl rfl (by kernel_rfl) (by kernel_rfl) (by kernel_rfl) (fun _ _ _ h => h) (Or.inl ⟨by rfl, fun wq hSw => by go_simp⟩) (by assumption) ?_
      simp only [Act.put, List.setIfInBounds_toArray, List.set_cons_zero, List.set_cons_succ]
      refine wpAnyH_takeD 14 (i := 8) (v := .pointer (some ⟨c, 2, none⟩)) rfl rfl (by kernel_rfl) (by kernel_rfl) (by kernel_rfl) (fun _ _ _ h => h) (Or.inl ⟨by rfl, fun wq hSw => by go_simp⟩) (by assumption) ?_
      simp only [Act.put, List.setIfInBounds_toArray, List.set_cons_zero, List.set_cons_succ]
      refine wpAnyH_takeD 15 (i := 9) (v := .pointer (some ⟨c, 5, none⟩)) rfl rfl (by kernel_rfl) (by kernel_rfl) (by kernel_rfl) (fun _ _ _ h => h) (Or.inl ⟨by rfl, fun wq hSw => by go_simp⟩) (by assumption) ?_
      simp only [Act.put, List.setIfInBounds_toArray, List.set_cons_zero, List.set_cons_succ]
      refine wpAnyH_takeD 16 (i := 10) (v := .int .u32 n.mode) rfl rfl (by kernel_rfl) (by kernel_rfl) (by kernel_rfl) (fun _ _ _ h => h) (Or.inl ⟨by rfl, fun wq hSw => by have k := hSw.k5; go_simp⟩) (by assumption) ?_
      simp only [Act.put, List.setIfInBounds_toArray, List.set_cons_zero, List.set_cons_succ]
      refine wpAnyH_takeD 17 (i := 11) (v := .int .u32 (bits .xor .u32 s.mode n.mode)) rfl rfl (by kernel_rfl) (by kernel_rfl) (by kernel_rfl) (fun _ _ _ h => h) (Or.inl ⟨by rfl, fun wq hSw => by go_simp⟩) (by assumption) ?_
      simp only [Act.put, List.setIfInBounds_toArray, List.set_cons_zero, List.set_cons_succ]
      refine wpAnyH_takeD 18 (i := 12) (v := .int .u32 (bits .and .u32 (bits .xor .u32 s.mode n.mode) 2147483648)) rfl rfl (by kernel_rfl) (by kernel_rfl) (by kernel_rfl) (fun _ _ _ h => h) (Or.inl ⟨by rfl, fun wq hSw => by go_simp⟩) (by assumption) ?_
      simp only [Act.put, List.setIfInBounds_toArray, List.set_cons_zero, List.set_cons_succ]
      refine wpAnyH_takeD 19 (i := 13) (v := .bool true) rfl rfl (by kernel_rfl) (by kernel_rfl) (by kernel_rfl) (fun _ _ _ h => h) (Or.inl ⟨by rfl, fun wq hSw => by go_simp⟩) (by assumption) ?_
      simp only [Act.put, List.setIfInBounds_toArray, List.set_cons_zero, List.set_cons_succ]
      refine wpAnyH_done (by kernel_rfl) ?_ _
      replace HR := Lib.hid hHeld
      clear hHeld hx
      go_wp2_with fail
      go_ret
      exact ⟨by first | rfl | (rw [HX.out]; rfl) | rw [HX.out], HR.out.low⟩

end Go.Proofs.YtlenlldiimohjaaDoor
