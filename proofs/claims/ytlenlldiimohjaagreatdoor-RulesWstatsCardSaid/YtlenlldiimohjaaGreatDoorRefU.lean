
/-
  The document's Touched.
-/
import Derived.Test.YtlenlldiimohjaaGreatDoorTch
import Derived.Deep.DeepCutAuto
namespace Go.Proofs.YtlenlldiimohjaaGreatDoor
open Go.ChangeShapes Go.WideShapes Go.ChangeAt Go.RowKit

/-- The numbers of a record fit. -/
def St.fit (s : St) : Prop := (0 ≤ s.typ ∧ s.typ < 65536) ∧ (0 ≤ s.dev ∧ s.dev < 4294967296) ∧ (0 ≤ s.kind ∧ s.kind < 256) ∧ (0 ≤ s.vers ∧ s.vers < 4294967296) ∧ (0 ≤ s.mode ∧ s.mode < 4294967296) ∧ (0 ≤ s.atime ∧ s.atime < 4294967296) ∧ (0 ≤ s.mtime ∧ s.mtime < 4294967296)
theorem apart_calls (a h k : Int) (w : World) : Calls Tryz.prog 108 #[.int .u64 a, .int .u64 h, .int .u64 k] w fun e w' => e = .returned (.bool (askI a k h)) ∧ w = w' := by
  cases hq : (a != k)
  all_goals
    have HX := Lib.hid (show askI a k h = ((a != k) && (a != h)) from rfl)
    rw [hq] at HX
    go_enter Tryz.func108, Tryz.ntmps108
    go_wp2_with fail
    go_ret
    exact ⟨by rw [HX.out]; simp, rfl⟩
theorem askT_nil (a c : ByteArray) : askT a ⟨#[]⟩ c = (!a.toList.isEmpty && !(a.toList == c.toList)) := by
  have h : (⟨#[]⟩ : ByteArray).toList = [] := by rw [ByteArray.toList_eq]
  unfold askT
  rw [h]
  cases a.toList <;> rfl
def setV (f : Int) (b : Bool) : Int := if b then f else 0
theorem set_calls (f : Int) (b : Bool) (w : World) : Calls Tryz.prog 107 #[.int .u16 f, .bool b] w fun e w' => e = .returned (.int .u16 (setV f b)) ∧ w = w' := by
  cases b
  all_goals
    go_enter Tryz.func107, Tryz.ntmps107
    go_wp2_with fail
    go_ret
    exact ⟨rfl, rfl⟩
theorem or_set (b : Nat → Bool) (k : Nat) (hk : k < 13) : bits .or .u16 ((orN b k : Nat) : Int) (setV ((2 ^ k : Nat) : Int) (b k)) = ((orN b (k + 1) : Nat) : Int) := by
  cases h : b k with
  | true => exact or_16 b k hk h
  | false =>
    have h1 := orN_lt b k
    have h2 : 2 ^ k ≤ 2 ^ 12 := Nat.pow_le_pow_right (by omega) (by omega)
    show bits .or .u16 ((orN b k : Nat) : Int) ((0 : Nat) : Int) = _
    rw [u16_or_nat _ 0 (by omega) (by omega), orN, h, if_neg (by decide), Nat.or_zero]

set_option maxRecDepth 100000 in
set_option maxHeartbeats 6400000 in
theorem refTouched_calls (s h : St) (w : World) (hs : s.fit) (hh : h.fit) :
    Calls Tryz.prog 45 #[statV s, statV h] w fun e w' => e = .returned (.int .u16 (orN (touchB s h) 13 : Nat)) ∧ Below w.heap.size w w' := by
  have HT := Lib.hid (TA.start w s h)
  have HS := Lib.hid hs
  have HH := Lib.hid hh
  clear hs hh
  obtain ⟨b, hb⟩ : ∃ b, touchB s h = b := ⟨_, rfl⟩
  have HB := Lib.hid hb
  clear hb
  have z0 : orN b 0 = 0 := rfl
  have Z0 := Lib.hid z0
  clear z0
  go_enter Tryz.func45, Tryz.ntmps45
  go_upto_region 2 with (fail)
  generalize (w.alloc (Obj.cells #[.int .u16 s.typ, .int .u32 s.dev, .int .u8 s.kind, .int .u32 s.vers, .int .u64 s.path, .int .u32 s.mode, .int .u32 s.atime, .int .u32 s.mtime, .int .u64 s.length, .string s.name, .string s.uid, .string s.gid, .string s.muid] 34)).alloc (Obj.cells #[.int .u16 h.typ, .int .u32 h.dev, .int .u8 h.kind, .int .u32 h.vers, .int .u64 h.path, .int .u32 h.mode, .int .u32 h.atime, .int .u32 h.mtime, .int .u64 h.length, .string h.name, .string h.uid, .string h.gid, .string h.muid] 34) = w1 at HT ⊢
  rw [show (Value.int IntKind.u16 0) = .int .u16 ((orN b 0 : Nat) : Int) from by rw [Z0.out]; rfl]
  have s0 : w1.cell? ⟨w.heap.size, 0, none⟩ = some (.int .u16 s.typ) := Blk.cell HT.out.1 0
  have h0 : w1.cell? ⟨w.heap.size + 1, 0, none⟩ = some (.int .u16 h.typ) := Blk.cell HT.out.2.1 0
  obtain ⟨x1, x2⟩ := HS.out.1
  obtain ⟨y1, y2⟩ := HH.out.1
  have hor : bits .or .u16 ((orN b 0 : Nat) : Int) (setV 1 (b 0)) = ((orN b 1 : Nat) : Int) := or_set b 0 (by omega)
  go_upto_region 3 with (first
    | (go_at_call 108; (with_reducible refine (apart_calls s.typ h.typ 65535 _).mono ?_); rw [show askI s.typ 65535 h.typ = b 0 from by rw [← HB.out]; rfl]; rintro e w2 ⟨rfl, rfl⟩)
    | (go_at_call 107; (with_reducible refine (set_calls 1 (b 0) _).mono ?_); rintro e w2 ⟨rfl, rfl⟩))
  clear s0 h0 hor x1 x2 y1 y2
  have s1 : w1.cell? ⟨w.heap.size, 1, none⟩ = some (.int .u32 s.dev) := Blk.cell HT.out.1 1
  have h1 : w1.cell? ⟨w.heap.size + 1, 1, none⟩ = some (.int .u32 h.dev) := Blk.cell HT.out.2.1 1
  obtain ⟨x1, x2⟩ := HS.out.2.1
  obtain ⟨y1, y2⟩ := HH.out.2.1
  have hor : bits .or .u16 ((orN b 1 : Nat) : Int) (setV 2 (b 1)) = ((orN b 2 : Nat) : Int) := or_set b 1 (by omega)
  go_upto_region 4 with (first
    | (go_at_call 108; (with_reducible refine (apart_calls s.dev h.dev 4294967295 _).mono ?_); rw [show askI s.dev 4294967295 h.dev = b 1 from by rw [← HB.out]; rfl]; rintro e w2 ⟨rfl, rfl⟩)
    | (go_at_call 107; (with_reducible refine (set_calls 2 (b 1) _).mono ?_); rintro e w2 ⟨rfl, rfl⟩))
  clear s1 h1 hor x1 x2 y1 y2
  have s2 : w1.cell? ⟨w.heap.size, 2, none⟩ = some (.int .u8 s.kind) := Blk.cell HT.out.1 2
  have h2 : w1.cell? ⟨w.heap.size + 1, 2, none⟩ = some (.int .u8 h.kind) := Blk.cell HT.out.2.1 2
  obtain ⟨x1, x2⟩ := HS.out.2.2.1
  obtain ⟨y1, y2⟩ := HH.out.2.2.1
  have hor : bits .or .u16 ((orN b 2 : Nat) : Int) (setV 4 (b 2)) = ((orN b 3 : Nat) : Int) := or_set b 2 (by omega)
  go_upto_region 5 with (first
    | (go_at_call 108; (with_reducible refine (apart_calls s.kind h.kind 255 _).mono ?_); rw [show askI s.kind 255 h.kind = b 2 from by rw [← HB.out]; rfl]; rintro e w2 ⟨rfl, rfl⟩)
    | (go_at_call 107; (with_reducible refine (set_calls 4 (b 2) _).mono ?_); rintro e w2 ⟨rfl, rfl⟩))
  clear s2 h2 hor x1 x2 y1 y2
  have s3 : w1.cell? ⟨w.heap.size, 3, none⟩ = some (.int .u32 s.vers) := Blk.cell HT.out.1 3
  have h3 : w1.cell? ⟨w.heap.size + 1, 3, none⟩ = some (.int .u32 h.vers) := Blk.cell HT.out.2.1 3
  obtain ⟨x1, x2⟩ := HS.out.2.2.2.1
  obtain ⟨y1, y2⟩ := HH.out.2.2.2.1
  have hor : bits .or .u16 ((orN b 3 : Nat) : Int) (setV 8 (b 3)) = ((orN b 4 : Nat) : Int) := or_set b 3 (by omega)
  go_upto_region 6 with (first
    | (go_at_call 108; (with_reducible refine (apart_calls s.vers h.vers 4294967295 _).mono ?_); rw [show askI s.vers 4294967295 h.vers = b 3 from by rw [← HB.out]; rfl]; rintro e w2 ⟨rfl, rfl⟩)
    | (go_at_call 107; (with_reducible refine (set_calls 8 (b 3) _).mono ?_); rintro e w2 ⟨rfl, rfl⟩))
  clear s3 h3 hor x1 x2 y1 y2
  have s4 : w1.cell? ⟨w.heap.size, 4, none⟩ = some (.int .u64 s.path) := Blk.cell HT.out.1 4
  have h4 : w1.cell? ⟨w.heap.size + 1, 4, none⟩ = some (.int .u64 h.path) := Blk.cell HT.out.2.1 4
  have hor : bits .or .u16 ((orN b 4 : Nat) : Int) (setV 16 (b 4)) = ((orN b 5 : Nat) : Int) := or_set b 4 (by omega)
  go_upto_region 7 with (first
    | (go_at_call 108; (with_reducible refine (apart_calls s.path h.path 18446744073709551615 _).mono ?_); rw [show askI s.path 18446744073709551615 h.path = b 4 from by rw [← HB.out]; rfl]; rintro e w2 ⟨rfl, rfl⟩)
    | (go_at_call 107; (with_reducible refine (set_calls 16 (b 4) _).mono ?_); rintro e w2 ⟨rfl, rfl⟩))
  clear s4 h4 hor
  have s5 : w1.cell? ⟨w.heap.size, 5, none⟩ = some (.int .u32 s.mode) := Blk.cell HT.out.1 5
  have h5 : w1.cell? ⟨w.heap.size + 1, 5, none⟩ = some (.int .u32 h.mode) := Blk.cell HT.out.2.1 5
  obtain ⟨x1, x2⟩ := HS.out.2.2.2.2.1
  obtain ⟨y1, y2⟩ := HH.out.2.2.2.2.1
  have hor : bits .or .u16 ((orN b 5 : Nat) : Int) (setV 32 (b 5)) = ((orN b 6 : Nat) : Int) := or_set b 5 (by omega)
  go_upto_region 8 with (first
    | (go_at_call 108; (with_reducible refine (apart_calls s.mode h.mode 4294967295 _).mono ?_); rw [show askI s.mode 4294967295 h.mode = b 5 from by rw [← HB.out]; rfl]; rintro e w2 ⟨rfl, rfl⟩)
    | (go_at_call 107; (with_reducible refine (set_calls 32 (b 5) _).mono ?_); rintro e w2 ⟨rfl, rfl⟩))
  clear s5 h5 hor x1 x2 y1 y2
  have s6 : w1.cell? ⟨w.heap.size, 6, none⟩ = some (.int .u32 s.atime) := Blk.cell HT.out.1 6
  have h6 : w1.cell? ⟨w.heap.size + 1, 6, none⟩ = some (.int .u32 h.atime) := Blk.cell HT.out.2.1 6
  obtain ⟨x1, x2⟩ := HS.out.2.2.2.2.2.1
  obtain ⟨y1, y2⟩ := HH.out.2.2.2.2.2.1
  have hor : bits .or .u16 ((orN b 6 : Nat) : Int) (setV 64 (b 6)) = ((orN b 7 : Nat) : Int) := or_set b 6 (by omega)
  go_upto_region 9 with (first
    | (go_at_call 108; (with_reducible refine (apart_calls s.atime h.atime 4294967295 _).mono ?_); rw [show askI s.atime 4294967295 h.atime = b 6 from by rw [← HB.out]; rfl]; rintro e w2 ⟨rfl, rfl⟩)
    | (go_at_call 107; (with_reducible refine (set_calls 64 (b 6) _).mono ?_); rintro e w2 ⟨rfl, rfl⟩))
  clear s6 h6 hor x1 x2 y1 y2
  have s7 : w1.cell? ⟨w.heap.size, 7, none⟩ = some (.int .u32 s.mtime) := Blk.cell HT.out.1 7
  have h7 : w1.cell? ⟨w.heap.size + 1, 7, none⟩ = some (.int .u32 h.mtime) := Blk.cell HT.out.2.1 7
  obtain ⟨x1, x2⟩ := HS.out.2.2.2.2.2.2
  obtain ⟨y1, y2⟩ := HH.out.2.2.2.2.2.2
  have hor : bits .or .u16 ((orN b 7 : Nat) : Int) (setV 128 (b 7)) = ((orN b 8 : Nat) : Int) := or_set b 7 (by omega)
  go_upto_region 10 with (first
    | (go_at_call 108; (with_reducible refine (apart_calls s.mtime h.mtime 4294967295 _).mono ?_); rw [show askI s.mtime 4294967295 h.mtime = b 7 from by rw [← HB.out]; rfl]; rintro e w2 ⟨rfl, rfl⟩)
    | (go_at_call 107; (with_reducible refine (set_calls 128 (b 7) _).mono ?_); rintro e w2 ⟨rfl, rfl⟩))
  clear s7 h7 hor x1 x2 y1 y2
  have s8 : w1.cell? ⟨w.heap.size, 8, none⟩ = some (.int .u64 s.length) := Blk.cell HT.out.1 8
  have h8 : w1.cell? ⟨w.heap.size + 1, 8, none⟩ = some (.int .u64 h.length) := Blk.cell HT.out.2.1 8
  have hor : bits .or .u16 ((orN b 8 : Nat) : Int) (setV 256 (b 8)) = ((orN b 9 : Nat) : Int) := or_set b 8 (by omega)
  go_upto_region 11 with (first
    | (go_at_call 108; (with_reducible refine (apart_calls s.length h.length 18446744073709551615 _).mono ?_); rw [show askI s.length 18446744073709551615 h.length = b 8 from by rw [← HB.out]; rfl]; rintro e w2 ⟨rfl, rfl⟩)
    | (go_at_call 107; (with_reducible refine (set_calls 256 (b 8) _).mono ?_); rintro e w2 ⟨rfl, rfl⟩))
  clear s8 h8 hor
  have s9 : w1.cell? ⟨w.heap.size, 9, none⟩ = some (.string s.name) := Blk.cell HT.out.1 9
  have h9 : w1.cell? ⟨w.heap.size + 1, 9, none⟩ = some (.string h.name) := Blk.cell HT.out.2.1 9
  have hor : bits .or .u16 ((orN b 9 : Nat) : Int) (setV 512 (b 9)) = ((orN b 10 : Nat) : Int) := or_set b 9 (by omega)
  try simp only [Act.put]
  go_upto_region 11 with (fail)
  go_cut [5] (fun v wx => v = .int .u16 ((orN b 10 : Nat) : Int) ∧ wx = w1)
  case first =>
    have hv := askT_nil s.name h.name
    cases he : s.name.toList.isEmpty
    all_goals
      cases hq : (s.name.toList == h.name.toList)
    all_goals
      rw [he, hq] at hv
      have hbk : b 9 = askT s.name ⟨#[]⟩ h.name := by rw [← HB.out]; rfl
      rw [hv] at hbk
      rw [hbk] at hor
      simp only [Bool.not_true, Bool.not_false, Bool.and_true, Bool.and_false] at hor
      clear hv hbk
      go_wp2_with (first
        | (go_at_call 107; (with_reducible refine (set_calls 512 _ _).mono ?_); rintro e w2 ⟨rfl, rfl⟩))
      go_meet
      case rel => exact ⟨rfl, rfl⟩
  obtain ⟨rfl, rfl⟩ := hcut
  clear s9 h9 hor
  have s10 : wc.cell? ⟨w.heap.size, 10, none⟩ = some (.string s.uid) := Blk.cell HT.out.1 10
  have h10 : wc.cell? ⟨w.heap.size + 1, 10, none⟩ = some (.string h.uid) := Blk.cell HT.out.2.1 10
  have hor : bits .or .u16 ((orN b 10 : Nat) : Int) (setV 1024 (b 10)) = ((orN b 11 : Nat) : Int) := or_set b 10 (by omega)
  try simp only [Act.put]
  go_upto_region 12 with (fail)
  go_cut [5] (fun v wx => v = .int .u16 ((orN b 11 : Nat) : Int) ∧ wx = wc)
  case first =>
    have hv := askT_nil s.uid h.uid
    cases he : s.uid.toList.isEmpty
    all_goals
      cases hq : (s.uid.toList == h.uid.toList)
    all_goals
      rw [he, hq] at hv
      have hbk : b 10 = askT s.uid ⟨#[]⟩ h.uid := by rw [← HB.out]; rfl
      rw [hv] at hbk
      rw [hbk] at hor
      simp only [Bool.not_true, Bool.not_false, Bool.and_true, Bool.and_false] at hor
      clear hv hbk
      go_wp2_with (first
        | (go_at_call 107; (with_reducible refine (set_calls 1024 _ _).mono ?_); rintro e w2 ⟨rfl, rfl⟩))
      go_meet
      case rel => exact ⟨rfl, rfl⟩
  obtain ⟨rfl, rfl⟩ := hcut
  clear s10 h10 hor
  have s11 : wc.cell? ⟨w.heap.size, 11, none⟩ = some (.string s.gid) := Blk.cell HT.out.1 11
  have h11 : wc.cell? ⟨w.heap.size + 1, 11, none⟩ = some (.string h.gid) := Blk.cell HT.out.2.1 11
  have hor : bits .or .u16 ((orN b 11 : Nat) : Int) (setV 2048 (b 11)) = ((orN b 12 : Nat) : Int) := or_set b 11 (by omega)
  try simp only [Act.put]
  go_upto_region 13 with (fail)
  go_cut [5] (fun v wx => v = .int .u16 ((orN b 12 : Nat) : Int) ∧ wx = wc)
  case first =>
    have hv := askT_nil s.gid h.gid
    cases he : s.gid.toList.isEmpty
    all_goals
      cases hq : (s.gid.toList == h.gid.toList)
    all_goals
      rw [he, hq] at hv
      have hbk : b 11 = askT s.gid ⟨#[]⟩ h.gid := by rw [← HB.out]; rfl
      rw [hv] at hbk
      rw [hbk] at hor
      simp only [Bool.not_true, Bool.not_false, Bool.and_true, Bool.and_false] at hor
      clear hv hbk
      go_wp2_with (first
        | (go_at_call 107; (with_reducible refine (set_calls 2048 _ _).mono ?_); rintro e w2 ⟨rfl, rfl⟩))
      go_meet
      case rel => exact ⟨rfl, rfl⟩
  obtain ⟨rfl, rfl⟩ := hcut
  clear s11 h11 hor
  have s12 : wc.cell? ⟨w.heap.size, 12, none⟩ = some (.string s.muid) := Blk.cell HT.out.1 12
  have h12 : wc.cell? ⟨w.heap.size + 1, 12, none⟩ = some (.string h.muid) := Blk.cell HT.out.2.1 12
  have hor : bits .or .u16 ((orN b 12 : Nat) : Int) (setV 4096 (b 12)) = ((orN b 13 : Nat) : Int) := or_set b 12 (by omega)
  try simp only [Act.put]
  go_upto_region 14 with (fail)
  go_cut [5] (fun v wx => v = .int .u16 ((orN b 13 : Nat) : Int) ∧ wx = wc)
  case first =>
    have hv := askT_nil s.muid h.muid
    cases he : s.muid.toList.isEmpty
    all_goals
      cases hq : (s.muid.toList == h.muid.toList)
    all_goals
      rw [he, hq] at hv
      have hbk : b 12 = askT s.muid ⟨#[]⟩ h.muid := by rw [← HB.out]; rfl
      rw [hv] at hbk
      rw [hbk] at hor
      simp only [Bool.not_true, Bool.not_false, Bool.and_true, Bool.and_false] at hor
      clear hv hbk
      go_wp2_with (first
        | (go_at_call 107; (with_reducible refine (set_calls 4096 _ _).mono ?_); rintro e w2 ⟨rfl, rfl⟩))
      go_meet
      case rel => exact ⟨rfl, rfl⟩
  obtain ⟨rfl, rfl⟩ := hcut
  clear s12 h12 hor
  go_wp2_with fail
  go_ret
  exact ⟨by rw [HB.out]; rfl, HT.out.2.2⟩
end Go.Proofs.YtlenlldiimohjaaGreatDoor
