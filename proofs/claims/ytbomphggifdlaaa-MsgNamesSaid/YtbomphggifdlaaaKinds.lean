/-
  The table of the messages' kinds: msg.kinds lays it in new memory. No condition.
  (Written by wip/gen_kinds.py.)
-/
import Derived.Test.YtbomphggifdlaaaRows
import Derived.Test.YtbomphggifdlaaaWords
import Derived.WalkKit
import Derived.ProofKit
import Derived.OpenShut
import Derived.Lib.Hide
namespace Go.Proofs.Ytbomphggifdlaaa
open Go.ChangeShapes Go.WideShapes Go.ChangeAt Go.RowKit

/-- The kinds: number, name, fields. -/
def kindTab : List (Int × List UInt8 × List Int) := [
  (100, [84, 118, 101, 114, 115, 105, 111, 110], [0, 1]),
  (101, [82, 118, 101, 114, 115, 105, 111, 110], [0, 1]),
  (102, [84, 97, 117, 116, 104], [2, 3, 4]),
  (103, [82, 97, 117, 116, 104], [11]),
  (104, [84, 97, 116, 116, 97, 99, 104], [7, 2, 3, 4]),
  (105, [82, 97, 116, 116, 97, 99, 104], [11]),
  (107, [82, 101, 114, 114, 111, 114], [5]),
  (108, [84, 102, 108, 117, 115, 104], [6]),
  (109, [82, 102, 108, 117, 115, 104], []),
  (110, [84, 119, 97, 108, 107], [7, 8, 9]),
  (111, [82, 119, 97, 108, 107], [10]),
  (112, [84, 111, 112, 101, 110], [7, 12]),
  (113, [82, 111, 112, 101, 110], [11, 13]),
  (114, [84, 99, 114, 101, 97, 116, 101], [7, 14, 15, 12]),
  (115, [82, 99, 114, 101, 97, 116, 101], [11, 13]),
  (116, [84, 114, 101, 97, 100], [7, 16, 17]),
  (117, [82, 114, 101, 97, 100], [18]),
  (118, [84, 119, 114, 105, 116, 101], [7, 16, 18]),
  (119, [82, 119, 114, 105, 116, 101], [17]),
  (120, [84, 99, 108, 117, 110, 107], [7]),
  (121, [82, 99, 108, 117, 110, 107], []),
  (122, [84, 114, 101, 109, 111, 118, 101], [7]),
  (123, [82, 114, 101, 109, 111, 118, 101], []),
  (124, [84, 115, 116, 97, 116], [7]),
  (125, [82, 115, 116, 97, 116], [19]),
  (126, [84, 119, 115, 116, 97, 116], [7, 19]),
  (127, [82, 119, 115, 116, 97, 116], [])]

def kindCells (n : Nat) : Array Value := #[
    .int .u8 100, .string ⟨#[84, 118, 101, 114, 115, 105, 111, 110]⟩, .slice (some ⟨n + 0, 0, none⟩) 2 2,
    .int .u8 101, .string ⟨#[82, 118, 101, 114, 115, 105, 111, 110]⟩, .slice (some ⟨n + 1, 0, none⟩) 2 2,
    .int .u8 102, .string ⟨#[84, 97, 117, 116, 104]⟩, .slice (some ⟨n + 2, 0, none⟩) 3 3,
    .int .u8 103, .string ⟨#[82, 97, 117, 116, 104]⟩, .slice (some ⟨n + 3, 0, none⟩) 1 1,
    .int .u8 104, .string ⟨#[84, 97, 116, 116, 97, 99, 104]⟩, .slice (some ⟨n + 4, 0, none⟩) 4 4,
    .int .u8 105, .string ⟨#[82, 97, 116, 116, 97, 99, 104]⟩, .slice (some ⟨n + 5, 0, none⟩) 1 1,
    .int .u8 107, .string ⟨#[82, 101, 114, 114, 111, 114]⟩, .slice (some ⟨n + 6, 0, none⟩) 1 1,
    .int .u8 108, .string ⟨#[84, 102, 108, 117, 115, 104]⟩, .slice (some ⟨n + 7, 0, none⟩) 1 1,
    .int .u8 109, .string ⟨#[82, 102, 108, 117, 115, 104]⟩, .slice none 0 0,
    .int .u8 110, .string ⟨#[84, 119, 97, 108, 107]⟩, .slice (some ⟨n + 8, 0, none⟩) 3 3,
    .int .u8 111, .string ⟨#[82, 119, 97, 108, 107]⟩, .slice (some ⟨n + 9, 0, none⟩) 1 1,
    .int .u8 112, .string ⟨#[84, 111, 112, 101, 110]⟩, .slice (some ⟨n + 10, 0, none⟩) 2 2,
    .int .u8 113, .string ⟨#[82, 111, 112, 101, 110]⟩, .slice (some ⟨n + 11, 0, none⟩) 2 2,
    .int .u8 114, .string ⟨#[84, 99, 114, 101, 97, 116, 101]⟩, .slice (some ⟨n + 12, 0, none⟩) 4 4,
    .int .u8 115, .string ⟨#[82, 99, 114, 101, 97, 116, 101]⟩, .slice (some ⟨n + 13, 0, none⟩) 2 2,
    .int .u8 116, .string ⟨#[84, 114, 101, 97, 100]⟩, .slice (some ⟨n + 14, 0, none⟩) 3 3,
    .int .u8 117, .string ⟨#[82, 114, 101, 97, 100]⟩, .slice (some ⟨n + 15, 0, none⟩) 1 1,
    .int .u8 118, .string ⟨#[84, 119, 114, 105, 116, 101]⟩, .slice (some ⟨n + 16, 0, none⟩) 3 3,
    .int .u8 119, .string ⟨#[82, 119, 114, 105, 116, 101]⟩, .slice (some ⟨n + 17, 0, none⟩) 1 1,
    .int .u8 120, .string ⟨#[84, 99, 108, 117, 110, 107]⟩, .slice (some ⟨n + 18, 0, none⟩) 1 1,
    .int .u8 121, .string ⟨#[82, 99, 108, 117, 110, 107]⟩, .slice none 0 0,
    .int .u8 122, .string ⟨#[84, 114, 101, 109, 111, 118, 101]⟩, .slice (some ⟨n + 19, 0, none⟩) 1 1,
    .int .u8 123, .string ⟨#[82, 114, 101, 109, 111, 118, 101]⟩, .slice none 0 0,
    .int .u8 124, .string ⟨#[84, 115, 116, 97, 116]⟩, .slice (some ⟨n + 20, 0, none⟩) 1 1,
    .int .u8 125, .string ⟨#[82, 115, 116, 97, 116]⟩, .slice (some ⟨n + 21, 0, none⟩) 1 1,
    .int .u8 126, .string ⟨#[84, 119, 115, 116, 97, 116]⟩, .slice (some ⟨n + 22, 0, none⟩) 2 2,
    .int .u8 127, .string ⟨#[82, 119, 115, 116, 97, 116]⟩, .slice none 0 0]

def kindObjs (n : Nat) : List Obj := [
  .cells #[.int .u8 0, .int .u8 1] 46,
  .cells #[.int .u8 0, .int .u8 1] 46,
  .cells #[.int .u8 2, .int .u8 3, .int .u8 4] 46,
  .cells #[.int .u8 11] 46,
  .cells #[.int .u8 7, .int .u8 2, .int .u8 3, .int .u8 4] 46,
  .cells #[.int .u8 11] 46,
  .cells #[.int .u8 5] 46,
  .cells #[.int .u8 6] 46,
  .cells #[.int .u8 7, .int .u8 8, .int .u8 9] 46,
  .cells #[.int .u8 10] 46,
  .cells #[.int .u8 7, .int .u8 12] 46,
  .cells #[.int .u8 11, .int .u8 13] 46,
  .cells #[.int .u8 7, .int .u8 14, .int .u8 15, .int .u8 12] 46,
  .cells #[.int .u8 11, .int .u8 13] 46,
  .cells #[.int .u8 7, .int .u8 16, .int .u8 17] 46,
  .cells #[.int .u8 18] 46,
  .cells #[.int .u8 7, .int .u8 16, .int .u8 18] 46,
  .cells #[.int .u8 17] 46,
  .cells #[.int .u8 7] 46,
  .cells #[.int .u8 7] 46,
  .cells #[.int .u8 7] 46,
  .cells #[.int .u8 19] 46,
  .cells #[.int .u8 7, .int .u8 19] 46,
  .cells (kindCells n) 40]

theorem foldl_alloc_at (os : List Obj) : ∀ (w : World) (i : Nat) (o : Obj), os[i]? = some o → (os.foldl World.alloc w).heap[w.heap.size + i]? = some o := by
  have keep : ∀ (os : List Obj) (w : World) (k : Nat) (o : Obj), w.heap[k]? = some o → (os.foldl World.alloc w).heap[k]? = some o := by
    intro os
    induction os with
    | nil => exact fun _ _ _ h => h
    | cons x os ih =>
      intro w k o h
      refine ih _ k o ?_
      have hk : k < w.heap.size := by
        rcases Nat.lt_or_ge k w.heap.size with hlt | hge
        · exact hlt
        · rw [Array.getElem?_eq_none hge] at h; cases h
      exact (Below.heap_alloc w x k hk).trans h
  induction os with
  | nil => intro w i o h; simp at h
  | cons x os ih =>
    intro w i o h
    cases i with
    | zero =>
      rw [List.getElem?_cons_zero] at h
      obtain rfl := Option.some.inj h
      exact keep os _ _ _ (heap_alloc_new w _)
    | succ i =>
      rw [List.getElem?_cons_succ] at h
      have := ih (w.alloc x) i o h
      rw [World.size_alloc] at this
      rw [List.foldl_cons, show w.heap.size + (i + 1) = w.heap.size + 1 + i from by omega]
      exact this

theorem foldl_alloc_below (os : List Obj) : ∀ (w : World), Below w.heap.size w (os.foldl World.alloc w) := by
  induction os with
  | nil => exact fun w => Below.refl _ _
  | cons x os ih =>
    intro w
    exact ((Below.refl _ _).alloc (Nat.le_refl _) x).trans ((ih (w.alloc x)).mono (by simp))

theorem foldl_alloc_size (os : List Obj) : ∀ (w : World), (os.foldl World.alloc w).heap.size = w.heap.size + os.length := by
  induction os with
  | nil => exact fun w => rfl
  | cons x os ih =>
    intro w
    rw [List.foldl_cons, ih, World.size_alloc, List.length_cons]; omega

set_option maxRecDepth 100000 in
set_option maxHeartbeats 1000000 in
theorem kinds_calls (w : World) : Calls Try.prog 14 #[] w fun e w' =>
    e = .returned (.slice (some ⟨w.heap.size + 23, 0, none⟩) 27 27) ∧ (kindObjs w.heap.size).foldl World.alloc w = w' := by
  go_enter Try.func14, Try.ntmps14
  go_wp2
  go_ret
  exact ⟨rfl, rfl⟩

/-- What is known of the table in memory: block g holds it. -/
structure KindsAt (w : World) (n : Nat) : Prop where
  blk : Blk w (n + 23) 40 (kindCells n)
  lists : ∀ i o, (kindObjs n)[i]? = some o → w.heap[n + i]? = some o

theorem kindsAt_new (w : World) : KindsAt ((kindObjs w.heap.size).foldl World.alloc w) w.heap.size :=
  ⟨foldl_alloc_at _ w 23 _ rfl, fun i o h => foldl_alloc_at _ w i o h⟩
theorem KindsAt.below {w w' : World} {n B : Nat} (h : KindsAt w n) (hb : Below B w w') (hB : n + 24 ≤ B) : KindsAt w' n :=
  ⟨(hb.block _ (by omega)).trans h.blk, fun i o ho => (hb.block _ (by
    have := (List.getElem?_eq_some_iff.1 ho).1
    have hl : (kindObjs n).length = 24 := rfl
    omega)).trans (h.lists i o ho)⟩

theorem kindCells_kind (n r : Nat) (hr : r < 27) : (kindCells n)[r * 3]? = some (.int .u8 (kindTab.getD r (0, [], [])).1) := by
  match r, hr with
  | 0, _ => rfl
  | 1, _ => rfl
  | 2, _ => rfl
  | 3, _ => rfl
  | 4, _ => rfl
  | 5, _ => rfl
  | 6, _ => rfl
  | 7, _ => rfl
  | 8, _ => rfl
  | 9, _ => rfl
  | 10, _ => rfl
  | 11, _ => rfl
  | 12, _ => rfl
  | 13, _ => rfl
  | 14, _ => rfl
  | 15, _ => rfl
  | 16, _ => rfl
  | 17, _ => rfl
  | 18, _ => rfl
  | 19, _ => rfl
  | 20, _ => rfl
  | 21, _ => rfl
  | 22, _ => rfl
  | 23, _ => rfl
  | 24, _ => rfl
  | 25, _ => rfl
  | 26, _ => rfl
  | r + 27, h => exact absurd h (by omega)
theorem kindCells_name (n r : Nat) (hr : r < 27) : (kindCells n)[r * 3 + 1]? = some (.string ⟨(kindTab.getD r (0, [], [])).2.1.toArray⟩) := by
  match r, hr with
  | 0, _ => rfl
  | 1, _ => rfl
  | 2, _ => rfl
  | 3, _ => rfl
  | 4, _ => rfl
  | 5, _ => rfl
  | 6, _ => rfl
  | 7, _ => rfl
  | 8, _ => rfl
  | 9, _ => rfl
  | 10, _ => rfl
  | 11, _ => rfl
  | 12, _ => rfl
  | 13, _ => rfl
  | 14, _ => rfl
  | 15, _ => rfl
  | 16, _ => rfl
  | 17, _ => rfl
  | 18, _ => rfl
  | 19, _ => rfl
  | 20, _ => rfl
  | 21, _ => rfl
  | 22, _ => rfl
  | 23, _ => rfl
  | 24, _ => rfl
  | 25, _ => rfl
  | 26, _ => rfl
  | r + 27, h => exact absurd h (by omega)
/-- The slice of fields of the r-th kind. -/
def fieldsV (n r : Nat) : Value := (kindCells n).getD (r * 3 + 2) undef
theorem kindCells_fields (n r : Nat) (hr : r < 27) : (kindCells n)[r * 3 + 2]? = some (fieldsV n r) := by
  match r, hr with
  | 0, _ => rfl
  | 1, _ => rfl
  | 2, _ => rfl
  | 3, _ => rfl
  | 4, _ => rfl
  | 5, _ => rfl
  | 6, _ => rfl
  | 7, _ => rfl
  | 8, _ => rfl
  | 9, _ => rfl
  | 10, _ => rfl
  | 11, _ => rfl
  | 12, _ => rfl
  | 13, _ => rfl
  | 14, _ => rfl
  | 15, _ => rfl
  | 16, _ => rfl
  | 17, _ => rfl
  | 18, _ => rfl
  | 19, _ => rfl
  | 20, _ => rfl
  | 21, _ => rfl
  | 22, _ => rfl
  | 23, _ => rfl
  | 24, _ => rfl
  | 25, _ => rfl
  | 26, _ => rfl
  | r + 27, h => exact absurd h (by omega)
theorem fieldsV_slice (n r : Nat) (hr : r < 27) : ∃ a l c, fieldsV n r = .slice a l c := by
  match r, hr with
  | 0, _ => exact ⟨_, _, _, rfl⟩
  | 1, _ => exact ⟨_, _, _, rfl⟩
  | 2, _ => exact ⟨_, _, _, rfl⟩
  | 3, _ => exact ⟨_, _, _, rfl⟩
  | 4, _ => exact ⟨_, _, _, rfl⟩
  | 5, _ => exact ⟨_, _, _, rfl⟩
  | 6, _ => exact ⟨_, _, _, rfl⟩
  | 7, _ => exact ⟨_, _, _, rfl⟩
  | 8, _ => exact ⟨_, _, _, rfl⟩
  | 9, _ => exact ⟨_, _, _, rfl⟩
  | 10, _ => exact ⟨_, _, _, rfl⟩
  | 11, _ => exact ⟨_, _, _, rfl⟩
  | 12, _ => exact ⟨_, _, _, rfl⟩
  | 13, _ => exact ⟨_, _, _, rfl⟩
  | 14, _ => exact ⟨_, _, _, rfl⟩
  | 15, _ => exact ⟨_, _, _, rfl⟩
  | 16, _ => exact ⟨_, _, _, rfl⟩
  | 17, _ => exact ⟨_, _, _, rfl⟩
  | 18, _ => exact ⟨_, _, _, rfl⟩
  | 19, _ => exact ⟨_, _, _, rfl⟩
  | 20, _ => exact ⟨_, _, _, rfl⟩
  | 21, _ => exact ⟨_, _, _, rfl⟩
  | 22, _ => exact ⟨_, _, _, rfl⟩
  | 23, _ => exact ⟨_, _, _, rfl⟩
  | 24, _ => exact ⟨_, _, _, rfl⟩
  | 25, _ => exact ⟨_, _, _, rfl⟩
  | 26, _ => exact ⟨_, _, _, rfl⟩
  | r + 27, h => exact absurd h (by omega)
end Go.Proofs.Ytbomphggifdlaaa
