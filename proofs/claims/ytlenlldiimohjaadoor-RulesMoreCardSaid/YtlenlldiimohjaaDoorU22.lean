/-
  Package rules: Create.
-/
import Derived.Test.YtlenlldiimohjaaDoorU21
import Derived.Deep.RegionHeld3
namespace Go.Proofs.YtlenlldiimohjaaDoor
open Go.ChangeShapes Go.WideShapes Go.ChangeAt Go.RowKit

theorem FBlk.c13 {w : World} {q : Nat} {n p : Nd} {taken full : Bool} (h : FBlk w q n p taken full) : w.cell? ⟨q, 0, none⟩ = some (.int .u64 n.path) ∧ w.cell? ⟨q, 1, none⟩ = some (.int .u64 n.parent) ∧ w.cell? ⟨q, 2, none⟩ = some (.string n.name) ∧ w.cell? ⟨q, 3, none⟩ = some (.int .u32 n.mode) ∧ w.cell? ⟨q, 4, none⟩ = some (.string n.uid) ∧ w.cell? ⟨q, 5, none⟩ = some (.string n.gid) ∧ w.cell? ⟨q, 6, none⟩ = some (.string n.muid) ∧ w.cell? ⟨q, 7, none⟩ = some (.int .u32 n.atime) ∧ w.cell? ⟨q, 8, none⟩ = some (.int .u32 n.mtime) ∧ w.cell? ⟨q, 9, none⟩ = some (.int .u32 n.vers) ∧ w.cell? ⟨q, 10, none⟩ = some (.int .u64 n.length) ∧ w.cell? ⟨q, 11, none⟩ = some (.int .i64 n.opens) ∧ w.cell? ⟨q, 12, none⟩ = some (.int .i64 n.kids) :=
  ⟨Blk.cell h 0, Blk.cell h 1, Blk.cell h 2, Blk.cell h 3, Blk.cell h 4, Blk.cell h 5, Blk.cell h 6, Blk.cell h 7, Blk.cell h 8, Blk.cell h 9, Blk.cell h 10, Blk.cell h 11, Blk.cell h 12⟩
theorem NBlk.c13 {w : World} {q : Nat} {n : Nd} (h : NBlk w q n) : w.cell? ⟨q, 0, none⟩ = some (.int .u64 n.path) ∧ w.cell? ⟨q, 1, none⟩ = some (.int .u64 n.parent) ∧ w.cell? ⟨q, 2, none⟩ = some (.string n.name) ∧ w.cell? ⟨q, 3, none⟩ = some (.int .u32 n.mode) ∧ w.cell? ⟨q, 4, none⟩ = some (.string n.uid) ∧ w.cell? ⟨q, 5, none⟩ = some (.string n.gid) ∧ w.cell? ⟨q, 6, none⟩ = some (.string n.muid) ∧ w.cell? ⟨q, 7, none⟩ = some (.int .u32 n.atime) ∧ w.cell? ⟨q, 8, none⟩ = some (.int .u32 n.mtime) ∧ w.cell? ⟨q, 9, none⟩ = some (.int .u32 n.vers) ∧ w.cell? ⟨q, 10, none⟩ = some (.int .u64 n.length) ∧ w.cell? ⟨q, 11, none⟩ = some (.int .i64 n.opens) ∧ w.cell? ⟨q, 12, none⟩ = some (.int .i64 n.kids) :=
  ⟨Blk.cell h 0, Blk.cell h 1, Blk.cell h 2, Blk.cell h 3, Blk.cell h 4, Blk.cell h 5, Blk.cell h 6, Blk.cell h 7, Blk.cell h 8, Blk.cell h 9, Blk.cell h 10, Blk.cell h 11, Blk.cell h 12⟩
theorem NBlk.f13 {w : World} {q : Nat} {n : Nd} (h : NBlk w q n) : w.frozen? ⟨q, 0, none⟩ = false ∧ w.frozen? ⟨q, 1, none⟩ = false ∧ w.frozen? ⟨q, 2, none⟩ = false ∧ w.frozen? ⟨q, 3, none⟩ = false ∧ w.frozen? ⟨q, 4, none⟩ = false ∧ w.frozen? ⟨q, 5, none⟩ = false ∧ w.frozen? ⟨q, 6, none⟩ = false ∧ w.frozen? ⟨q, 7, none⟩ = false ∧ w.frozen? ⟨q, 8, none⟩ = false ∧ w.frozen? ⟨q, 9, none⟩ = false ∧ w.frozen? ⟨q, 10, none⟩ = false ∧ w.frozen? ⟨q, 11, none⟩ = false ∧ w.frozen? ⟨q, 12, none⟩ = false :=
  ⟨Blk.frozen h 0, Blk.frozen h 1, Blk.frozen h 2, Blk.frozen h 3, Blk.frozen h 4, Blk.frozen h 5, Blk.frozen h 6, Blk.frozen h 7, Blk.frozen h 8, Blk.frozen h 9, Blk.frozen h 10, Blk.frozen h 11, Blk.frozen h 12⟩
theorem results_create {tmps : Array Value} {w : World} {q : Nat} {n : Nd} {e : Int} (h12 : tmps.getD 12 undef = .pointer (some ⟨q, 0, none⟩)) (h13 : tmps.getD 13 undef = .int .i64 e) (hk : NBlk w q n) :
    (results Tryd.f21 tmps).run Tryd.prog w = .ok (.tuple #[nodeV n, .int .i64 e]) w := by
  have h12' : tmps[12]?.getD undef = .pointer (some ⟨q, 0, none⟩) := by simpa using h12
  have h13' : tmps[13]?.getD undef = .int .i64 e := by simpa using h13
  simp [results, Tryd.results21, h12', h13', asAddr, loadVar_node hk]
section
variable {n : Nd} {r : Int} {u name : ByteArray} {perm m : Int} {taken full : Bool} {e : Int}
theorem create_no (h : askS n r name perm m taken full = e) (he : (e != 0) = true) : Ending.returned (.tuple #[nodeV Nd.none, .int .i64 e]) = .returned (.tuple #[nodeV (createS n r u name perm m taken full).1, .int .i64 (createS n r u name perm m taken full).2]) := by
  unfold createS
  rw [h, if_pos he]
theorem create_yes (h : askS n r name perm m taken full = 0) : Ending.returned (.tuple #[nodeV (madeN n u name perm), .int .i64 0]) = .returned (.tuple #[nodeV (createS n r u name perm m taken full).1, .int .i64 (createS n r u name perm m taken full).2]) := by
  unfold createS
  rw [h, if_neg (by decide)]
end

set_option maxRecDepth 100000 in
set_option maxHeartbeats 3200000 in
theorem create_calls (g : Nat) (L : List Acct) (u : ByteArray) (n p : Nd) (taken full : Bool) (name : ByteArray) (perm m : Int) (w : World) (h : PTab w g L) (hn : n.ok) (hr : Ready w) (hu : u.size ≤ 16777216) :
    Calls Tryd.prog 21 #[.pointer (some ⟨g, 0, none⟩), .string u, factsV n p taken full, .string name, .int .u32 perm, .int .u8 m] w fun e w' =>
      e = .returned (.tuple #[nodeV (createS n (rights (decide (u = n.uid)) (isMember L u n.gid) n.mode) u name perm m taken full).1, .int .i64 (createS n (rights (decide (u = n.uid)) (isMember L u n.gid) n.mode) u name perm m taken full).2]) ∧ Below w.heap.size w w' := by
  have HR := Lib.hid (CAt.start h n p taken full); clear h
  have HN := Lib.hid hn; clear hn
  have HRY := Lib.hid hr; clear hr
  go_enter Tryd.func21, Tryd.ntmps21
  go_upto_region 2 with (fail)
  generalize ((w.alloc (Obj.cells #[.int .u64 n.path, .int .u64 n.parent, .string n.name, .int .u32 n.mode, .string n.uid, .string n.gid, .string n.muid, .int .u32 n.atime, .int .u32 n.mtime, .int .u32 n.vers, .int .u64 n.length, .int .i64 n.opens, .int .i64 n.kids, .int .u64 p.path, .int .u64 p.parent, .string p.name, .int .u32 p.mode, .string p.uid, .string p.gid, .string p.muid, .int .u32 p.atime, .int .u32 p.mtime, .int .u32 p.vers, .int .u64 p.length, .int .i64 p.opens, .int .i64 p.kids, .bool taken, .bool full] 36)).alloc (Obj.cells #[.int .u64 0, .int .u64 0, .string ⟨#[]⟩, .int .u32 0, .string ⟨#[]⟩, .string ⟨#[]⟩, .string ⟨#[]⟩, .int .u32 0, .int .u32 0, .int .u32 0, .int .u64 0, .int .i64 0, .int .i64 0] 34)).alloc (Obj.cells #[.int .u64 0, .int .u64 0, .string ⟨#[]⟩, .int .u32 0, .string ⟨#[]⟩, .string ⟨#[]⟩, .string ⟨#[]⟩, .int .u32 0, .int .u32 0, .int .u32 0, .int .u64 0, .int .i64 0, .int .i64 0] 34) = w1 at HR ⊢
  go_wp2_with (first
    | (go_at_call 42; (with_reducible refine (is_calls n _ _ HN.out).mono ?_); rintro e w' ⟨rfl, hb⟩; replace HR := Lib.hid (HR.out.next hb); clear hb; have d26 := HR.out.fb.takenC; have d27 := HR.out.fb.fullC)
    | (go_at_call 24; (with_reducible refine (check_calls name _ (HR.out.ready HRY.out)).mono ?_); rintro e w' ⟨rfl, hb⟩; replace HR := Lib.hid (HR.out.next hb); clear hb; have d26 := HR.out.fb.takenC; have d27 := HR.out.fb.fullC)
    | (go_at_call 16; (with_reducible refine (perm_calls perm _).mono ?_); rintro e w' ⟨rfl, rfl⟩)
    | (go_at_call 14; (with_reducible refine (wants_calls m _).mono ?_); rintro e w' ⟨rfl, rfl⟩)
    | (go_at_call 43; (with_reducible refine (may_calls g L u n _ _ HR.out.tab HN.out hu).mono ?_); rintro e w' ⟨rfl, hb⟩; replace HR := Lib.hid (HR.out.next hb); clear hb; have d26 := HR.out.fb.takenC; have d27 := HR.out.fb.fullC)
    | (refine wl_node0 HR.out.fb rfl _ rfl rfl ?_)
    | (refine wl_node HR.out.nb rfl _ rfl rfl ?_)
    | (refine wl_store HR.out.rb Nd.none rfl _ _ rfl rfl rfl ?_; intro ws hs ho hz hbl; have HS := Lib.hid hs; have HL := Lib.hid (hbl _ _ HR.out.low (by omega)); clear hs ho hz hbl))
  any_goals
    refine bodyPost_ret (results_create rfl rfl HS.out) rfl ⟨create_no ?_ ?_, HL.out⟩
    all_goals
      go_light
      clear HR HS HL d26 d27
      simp_all [askS]
  all_goals
    have HE := Lib.hid (show askS n (rights (decide (u = n.uid)) (isMember L u n.gid) n.mode) name perm m taken full = 0 from by
      go_light
      clear HR d26 d27
      simp_all [askS])
    clear d26 d27
    have HD := Lib.hid (HR.out.next (below_drew _)); clear HR
    obtain ⟨c0, c1, c2, c3, c4, c5, c6, c7, c8, c9, c10, c11, c12⟩ := HD.out.fb.c13
    go_region_held3 (fun w' => w'.cell? ⟨w.heap.size, 0, none⟩ = some (.int .u64 n.path) ∧ w'.cell? ⟨w.heap.size, 1, none⟩ = some (.int .u64 n.parent) ∧ w'.cell? ⟨w.heap.size, 2, none⟩ = some (.string n.name) ∧ w'.cell? ⟨w.heap.size, 3, none⟩ = some (.int .u32 n.mode) ∧ w'.cell? ⟨w.heap.size, 4, none⟩ = some (.string n.uid) ∧ w'.cell? ⟨w.heap.size, 5, none⟩ = some (.string n.gid) ∧ w'.cell? ⟨w.heap.size, 6, none⟩ = some (.string n.muid) ∧ w'.cell? ⟨w.heap.size, 7, none⟩ = some (.int .u32 n.atime) ∧ w'.cell? ⟨w.heap.size, 8, none⟩ = some (.int .u32 n.mtime) ∧ w'.cell? ⟨w.heap.size, 9, none⟩ = some (.int .u32 n.vers) ∧ w'.cell? ⟨w.heap.size, 10, none⟩ = some (.int .u64 n.length) ∧ w'.cell? ⟨w.heap.size, 11, none⟩ = some (.int .i64 n.opens) ∧ w'.cell? ⟨w.heap.size, 12, none⟩ = some (.int .i64 n.kids))
      (first | with_reducible exact ⟨c0, c1, c2, c3, c4, c5, c6, c7, c8, c9, c10, c11, c12⟩ | with_reducible exact ⟨b0, b1, b2, b3, b4, b5, b6, b7, b8, b9, b10, b11, b12⟩ | go_keep)
      (first
      | (go_at_call 44; (with_reducible refine (made_calls perm n _).mono ?_); rintro e w3 ⟨rfl, hb3⟩
         have HD3 := Lib.hid (show CAt w g L n p taken full w3 from HD.out.next hb3)
         clear hb3
         obtain ⟨b0, b1, b2, b3, b4, b5, b6, b7, b8, b9, b10, b11, b12⟩ := HD3.out.fb.c13
         obtain ⟨s0, s1, s2, s3, s4, s5, s6, s7, s8, s9, s10, s11, s12⟩ := HD3.out.rb.c13
         obtain ⟨f0, f1, f2, f3, f4, f5, f6, f7, f8, f9, f10, f11, f12⟩ := HD3.out.rb.f13))
    clear c0 c1 c2 c3 c4 c5 c6 c7 c8 c9 c10 c11 c12 b0 b1 b2 b3 b4 b5 b6 b7 b8 b9 b10 b11 b12 s0 s1 s2 s3 s4 s5 s6 s7 s8 s9 s10 s11 s12 f0 f1 f2 f3 f4 f5 f6 f7 f8 f9 f10 f11 f12 HD
    have HS := Lib.hid (HD3.out.rb.store (madeN n u name perm))
    have HL := Lib.hid (below_setCells HD3.out.low (Nat.le_succ _) (b := w.heap.size + 1) (nodeL (madeN n u name perm)) 0)
    clear HD3
    try clear hHeld
    change Exit.then _ _ _ _ (w3.setCells (w.heap.size + 1) 0 (nodeL (madeN n u name perm)))
    generalize w3.setCells (w.heap.size + 1) 0 (nodeL (madeN n u name perm)) = w5 at HS HL ⊢
    go_wp2_with fail
    exact bodyPost_ret (results_create rfl rfl HS.out) rfl ⟨create_yes HE.out, HL.out⟩
end Go.Proofs.YtlenlldiimohjaaDoor
