/-
  What the answers of rules come to, in plain words.
-/
import Derived.Test.YtlenlldiimohjaaDoorW2
import Derived.Deep.DeepCutAuto
namespace Go.Proofs.YtlenlldiimohjaaDoor
open Go.ChangeShapes Go.WideShapes Go.ChangeAt Go.RowKit

theorem cls_11 (m : Nat) : bits .or .u32 (bits .or .u32 ((m : Int) % 8) ((m : Int) / 64 % 8)) ((m : Int) / 8 % 8) = (rightsN true true m : Nat) := by
  have e1 : ((m : Int) % 8) = ((m % 8 : Nat) : Int) := rfl
  have e2 : ((m : Int) / 64 % 8) = ((m / 64 % 8 : Nat) : Int) := rfl
  have e3 : ((m : Int) / 8 % 8) = ((m / 8 % 8 : Nat) : Int) := rfl
  have hl : (m % 8 ||| m / 64 % 8) < 8 := Nat.or_lt_two_pow (n := 3) (by omega) (by omega)
  rw [e1, e2, e3, small_or _ _ (by omega) (by omega), small_or _ _ hl (by omega), refRights_eq]
  simp only [if_true]
theorem cls_10 (m : Nat) : bits .or .u32 ((m : Int) % 8) ((m : Int) / 64 % 8) = (rightsN true false m : Nat) := by
  have e1 : ((m : Int) % 8) = ((m % 8 : Nat) : Int) := rfl
  have e2 : ((m : Int) / 64 % 8) = ((m / 64 % 8 : Nat) : Int) := rfl
  rw [e1, e2, small_or _ _ (by omega) (by omega), refRights_eq]
  simp only [if_true, Bool.false_eq_true, if_false]
theorem cls_01 (m : Nat) : bits .or .u32 ((m : Int) % 8) ((m : Int) / 8 % 8) = (rightsN false true m : Nat) := by
  have e1 : ((m : Int) % 8) = ((m % 8 : Nat) : Int) := rfl
  have e2 : ((m : Int) / 8 % 8) = ((m / 8 % 8 : Nat) : Int) := rfl
  rw [e1, e2, small_or _ _ (by omega) (by omega), refRights_eq]
  simp only [if_true, Bool.false_eq_true, if_false]
set_option maxRecDepth 100000 in
theorem classes_calls (g : Nat) (L : List Acct) (u : ByteArray) (n : Nd) (w : World) (h : PTab w g L) (hn : n.ok) (hu : u.size ≤ 16777216) :
    Calls Tryd.prog 32 #[.pointer (some ⟨g, 0, none⟩), .string u, nodeV n] w fun e w' => e = .returned (.int .u32 (rights (decide (u = n.uid)) (isMember L u n.gid) n.mode)) ∧ Below w.heap.size w w' := by
  obtain ⟨m, hm⟩ := Int.eq_ofNat_of_zero_le hn.1
  have hgs := hn.2.2.2.2.1
  clear hn
  obtain ⟨a0, a1, a2, md, a4, a5, a6, a7, a8, a9, a10, a11, a12⟩ := n
  dsimp only at hm hgs
  subst hm
  have HT := Lib.hid (h.below ((Below.refl w.heap.size w).alloc (Nat.le_refl _) (Obj.cells #[.int .u64 a0, .int .u64 a1, .string a2, .int .u32 (m : Int), .string a4, .string a5, .string a6, .int .u32 a7, .int .u32 a8, .int .u32 a9, .int .u64 a10, .int .i64 a11, .int .i64 a12] 34))); clear h
  go_enter Tryd.func32, Tryd.ntmps32
  go_wp2_with (first
    | (go_at_call 49; refine (member_calls g L u a5 _ HT.out (by omega) (by omega)).mono ?_; rintro e w' ⟨rfl, rfl⟩))
  all_goals
    go_ret
    refine ⟨ret_int ?_, (Below.refl _ _).alloc (Nat.le_refl _) _⟩
    rename_i h1 h2
    rw [beq_str] at h1
    unfold rights
    rw [show decide (u = a4) = decide (a4 = u) from by rw [Bool.eq_iff_iff]; simp [eq_comm], h1, h2, Int.toNat_natCast]
    first | exact cls_11 m | exact cls_10 m | exact cls_01 m | exact refR_00 m

theorem wants_lt2 (m : Int) (h0 : 0 ≤ m) (h1 : m < 256) : 0 ≤ (wantsP m).1 ∧ (wantsP m).1 < 8 := by
  have key : ∀ i : Fin 256, 0 ≤ (wantsP ((i.val : Nat) : Int)).1 ∧ (wantsP ((i.val : Nat) : Int)).1 < 8 := by decide +kernel
  obtain ⟨k, rfl⟩ := Int.eq_ofNat_of_zero_le h0
  exact key ⟨k, by omega⟩
theorem wants_some (m : Int) (h0 : 0 ≤ m) (h1 : m < 256) (h : ((wantsP m).2 != 0) = false) : ((wantsP m).1 == 0) = false := by
  have key : ∀ i : Fin 256, ((wantsP ((i.val : Nat) : Int)).2 != 0) = false → ((wantsP ((i.val : Nat) : Int)).1 == 0) = false := by decide +kernel
  obtain ⟨k, rfl⟩ := Int.eq_ofNat_of_zero_le h0
  exact key ⟨k, by omega⟩ h
theorem may_32 : ∀ r q : Fin 8, mayB ((r.val : Nat) : Int) ((q.val : Nat) : Int) = true → (bits .and .u32 ((r.val : Nat) : Int) ((q.val : Nat) : Int) != ((q.val : Nat) : Int)) = false := by decide +kernel
theorem may_32' {r q : Int} (h0 : 0 ≤ r) (h1 : r < 8) (h2 : 0 ≤ q) (h3 : q < 8) (h : mayB r q = true) : (bits .and .u32 r q != q) = false := by
  obtain ⟨a, rfl⟩ := Int.eq_ofNat_of_zero_le h0
  obtain ⟨b, rfl⟩ := Int.eq_ofNat_of_zero_le h2
  exact may_32 ⟨a, by omega⟩ ⟨b, by omega⟩ h
theorem may_two {r : Int} (h0 : 0 ≤ r) (h1 : r < 8) (h : mayB r 2 = true) : (bits .and .u32 r 2 == 0) = false := by
  have key : ∀ r : Fin 8, mayB ((r.val : Nat) : Int) 2 = true → (bits .and .u32 ((r.val : Nat) : Int) 2 == 0) = false := by decide +kernel
  obtain ⟨a, rfl⟩ := Int.eq_ofNat_of_zero_le h0
  exact key ⟨a, by omega⟩ h
theorem may_one {r : Int} (h0 : 0 ≤ r) (h1 : r < 8) : mayB r 1 = (bits .and .u32 r 1 != 0) := by
  have key : ∀ r : Fin 8, mayB ((r.val : Nat) : Int) 1 = (bits .and .u32 ((r.val : Nat) : Int) 1 != 0) := by decide +kernel
  obtain ⟨a, rfl⟩ := Int.eq_ofNat_of_zero_le h0
  exact key ⟨a, by omega⟩

section
variable {n : Nd} {r rp m : Int} (r0 : 0 ≤ r) (r1 : r < 8) (p0 : 0 ≤ rp) (p1 : rp < 8)
include r0 r1 in
theorem cl_open (m0 : 0 ≤ m) (m1 : m < 256) (h : (openS n r rp m (wantsP m) == 0) = true) : ((wantsP m).2 != 0) = false ∧ (bits .and .u32 r (wantsP m).1 != (wantsP m).1) = false ∧ ((wantsP m).1 == 0) = false := by
  have h : openS n r rp m (wantsP m) = 0 := by simpa using h
  unfold openS at h
  have hw := wants_lt2 m m0 m1
  split at h
  · rename_i hc
    rw [h] at hc
    simp at hc
  · rename_i c1
    have c1 : ((wantsP m).2 != 0) = false := by simpa using c1
    split at h
    · omega
    · split at h
      · omega
      · rename_i c3
        exact ⟨c1, may_32' r0 r1 hw.1 hw.2 (by simpa using c3), wants_some m m0 m1 c1⟩
include p0 p1 in
theorem cl_open2 (h : (openS n r rp m (wantsP m) == 0) = true) (h6 : (bits .and .u8 m 64 != 0) = true) : (bits .and .u32 rp 2 == 0) = false := by
  have h : openS n r rp m (wantsP m) = 0 := by simpa using h
  unfold openS at h
  split at h
  · rename_i hc
    rw [h] at hc
    simp at hc
  · split at h
    · omega
    · split at h
      · omega
      · split at h
        · omega
        · rename_i c4
          refine may_two p0 p1 ?_
          cases hq : mayB rp 2 with
          | true => rfl
          | false => exact absurd ⟨h6, hq⟩ c4
theorem cl_open3 (h : (openS n r rp m (wantsP m) == 0) = true) (hd : (bits .and .u32 n.mode 2147483648 != 0) = true) : (m != 0) = false := by
  have h : openS n r rp m (wantsP m) = 0 := by simpa using h
  unfold openS at h
  split at h
  · rename_i hc
    rw [h] at hc
    simp at hc
  · split at h
    · omega
    · rename_i c2
      cases hq : (m != 0) with
      | false => rfl
      | true => exact absurd ⟨hd, hq⟩ c2
include p0 p1 in
theorem cl_remove (h : (removeS n rp == 0) = true) : (bits .and .u32 rp 2 == 0) = false ∧ (n.path == 1) = false := by
  have h : removeS n rp = 0 := by simpa using h
  unfold removeS at h
  split at h
  · omega
  · rename_i hd
    rw [not_or] at hd
    exact ⟨may_two p0 p1 (by simpa using hd.2), by simpa using hd.1⟩
include r0 r1 in
theorem cl_step : (stepS n r == 0) = ((bits .and .u32 r 1 != 0) && (bits .and .u32 n.mode 2147483648 != 0)) := by
  unfold stepS isB
  rw [← may_one r0 r1]
  cases (bits .and .u32 n.mode 2147483648 != 0) <;> cases mayB r 1 <;> rfl
include r0 r1 in
theorem cl_create {u name : ByteArray} {perm : Int} {taken full : Bool} (h : ((createS n r u name perm m taken full).2 == 0) = true) : (bits .and .u32 r 2 == 0) = false ∧ (bits .and .u32 n.mode 2147483648 == 0) = false ∧ taken = false ∧ full = false ∧ (checkS name != 0) = false := by
  have h : (createS n r u name perm m taken full).2 = 0 := by simpa using h
  unfold createS at h
  split at h
  · rename_i hc
    dsimp only at h
    rw [h] at hc
    simp at hc
  · rename_i hc
    have h : askS n r name perm m taken full = 0 := by simpa using hc
    unfold askS at h
    split at h
    · omega
    · rename_i c1
      have c1 : (bits .and .u32 n.mode 2147483648 == 0) = false := by
        unfold isB at c1
        cases hq : (bits .and .u32 n.mode 2147483648 == 0) with
        | false => rfl
        | true =>
          refine absurd ?_ c1
          show (!(bits .and .u32 n.mode 2147483648 == 0)) = false
          rw [hq]
          rfl
      split at h
      · rename_i hc; rw [h] at hc; simp at hc
      · rename_i c2
        split at h
        · rename_i hc; rw [h] at hc; simp at hc
        · split at h
          · rename_i hc; rw [h] at hc; simp at hc
          · split at h
            · omega
            · split at h
              · omega
              · rename_i c6
                split at h
                · omega
                · rename_i c7
                  split at h
                  · omega
                  · rename_i c8
                    exact ⟨may_two r0 r1 (by simpa using c6), c1, by simpa using c7, by simpa using c8, by simpa using c2⟩
end

theorem LAt.c2 {w0 w : World} {text user name : ByteArray} {n p : Nd} {taken full : Bool} {perm mode : Int} (h : LAt w0 (caseL text user n p taken full name perm mode).toArray w) : w.cell? ⟨w0.heap.size, 2, none⟩ = some (.int .u64 n.path) := Blk.cell h.cb 2
theorem LAt.far {w0 w : World} {cs : Array Value} {q i : Nat} {v : Value} (h : LAt w0 cs w) (hr : Ready w0) (hq : w0.heap.size < q) : LAt w0 cs (w.setCell ⟨q, i, none⟩ v) :=
  ⟨hr.below (h.low.setCell (Nat.le_of_lt hq) v) (Nat.le_refl _), h.low.setCell (Nat.le_of_lt hq) v, Blk.far h.cb (Nat.ne_of_lt hq) v⟩
theorem PTab.setN {w : World} {g q i : Nat} {L : List Acct} {n : Nd} {v : Value} (h : PTab w g L) (hk : NBlk w q n) : PTab (w.setCell ⟨q, i, none⟩ v) g L :=
  h.other hk (by decide) (setCell_other w q i v)
theorem LAt.lt {w0 w : World} {cs : Array Value} (h : LAt w0 cs w) : w0.heap.size < w.heap.size := Blk.lt h.cb
end Go.Proofs.YtlenlldiimohjaaDoor
