/-
  Layer 9 in plain words: rights, modes. No program in sight.
-/
import Derived.WalkKit
import Derived.Laws.BitsAllLaws
import Derived.Test.YtlenlldiimohjaaDoorULaw2
namespace Go.Proofs.YtlenlldiimohjaaDoor

/-- A node. -/
structure Nd where
  path : Int
  parent : Int
  name : ByteArray
  mode : Int
  uid : ByteArray
  gid : ByteArray
  muid : ByteArray
  atime : Int
  mtime : Int
  vers : Int
  length : Int
  opens : Int
  kids : Int

abbrev nodeV (n : Nd) : Value := .agg #[.int .u64 n.path, .int .u64 n.parent, .string n.name, .int .u32 n.mode, .string n.uid, .string n.gid, .string n.muid, .int .u32 n.atime, .int .u32 n.mtime, .int .u32 n.vers, .int .u64 n.length, .int .i64 n.opens, .int .i64 n.kids]
abbrev factsV (n p : Nd) (taken full : Bool) : Value := .agg #[.int .u64 n.path, .int .u64 n.parent, .string n.name, .int .u32 n.mode, .string n.uid, .string n.gid, .string n.muid, .int .u32 n.atime, .int .u32 n.mtime, .int .u32 n.vers, .int .u64 n.length, .int .i64 n.opens, .int .i64 n.kids,
  .int .u64 p.path, .int .u64 p.parent, .string p.name, .int .u32 p.mode, .string p.uid, .string p.gid, .string p.muid, .int .u32 p.atime, .int .u32 p.mtime, .int .u32 p.vers, .int .u64 p.length, .int .i64 p.opens, .int .i64 p.kids, .bool taken, .bool full]
def Nd.none : Nd := ⟨0, 0, ⟨#[]⟩, 0, ⟨#[]⟩, ⟨#[]⟩, ⟨#[]⟩, 0, 0, 0, 0, 0, 0⟩

/-- The node's mode is a mode; its texts are short. -/
def Nd.ok (n : Nd) : Prop := 0 ≤ n.mode ∧ n.mode < 4294967296 ∧ n.name.size ≤ 16777216 ∧ n.uid.size ≤ 16777216 ∧ n.gid.size ≤ 16777216 ∧ n.muid.size ≤ 16777216

def isB (m b : Int) : Bool := bits .and .u32 m b != 0

/-- The bits of the classes together. -/
def rightsN (own mem : Bool) (m : Nat) : Nat := ((if own then m / 64 % 8 else 0) ||| (if mem then m / 8 % 8 else 0)) ||| m % 8
theorem rightsN_lt (own mem : Bool) (m : Nat) : rightsN own mem m < 8 := by
  unfold rightsN
  refine Nat.or_lt_two_pow (n := 3) (Nat.or_lt_two_pow (n := 3) ?_ ?_) (Nat.mod_lt _ (by omega))
  · split
    · exact Nat.mod_lt _ (by omega)
    · omega
  · split
    · exact Nat.mod_lt _ (by omega)
    · omega
def rights (own mem : Bool) (m : Int) : Int := (rightsN own mem m.toNat : Nat)
theorem rights_lt (own mem : Bool) (m : Int) : 0 ≤ rights own mem m ∧ rights own mem m < 8 := by
  have := rightsN_lt own mem m.toNat
  unfold rights
  omega
def mayB (r right : Int) : Bool := bits .and .u8 r right == right

/-- The program's way: class by class. -/
def acc1 (own : Bool) (m : Nat) : Nat := if own then 0 ||| m / 64 % 8 else 0
def acc2 (own mem : Bool) (m : Nat) : Nat := if mem then acc1 own m ||| m / 8 % 8 else acc1 own m
def accR (own mem : Bool) (m : Nat) : Nat → Nat
  | 0 => 0
  | 1 => acc1 own m
  | 2 => acc2 own mem m
  | _ => acc2 own mem m ||| m % 8
theorem accR_end (own mem : Bool) (m : Nat) : accR own mem m 3 = rightsN own mem m := by
  cases own <;> cases mem <;> simp [accR, acc1, acc2, rightsN]
def insR (own mem : Bool) : Nat → Bool
  | 0 => own
  | 1 => mem
  | _ => true
def shR : Nat → Int
  | 0 => 6
  | 1 => 3
  | _ => 0
theorem acc1_lt (own : Bool) (m : Nat) : acc1 own m < 8 := by
  unfold acc1
  split
  · exact Nat.or_lt_two_pow (n := 3) (by omega) (Nat.mod_lt _ (by omega))
  · omega
theorem acc2_lt (own mem : Bool) (m : Nat) : acc2 own mem m < 8 := by
  unfold acc2
  split
  · exact Nat.or_lt_two_pow (n := 3) (acc1_lt own m) (Nat.mod_lt _ (by omega))
  · exact acc1_lt own m
theorem accR_lt (own mem : Bool) (m k : Nat) (hk : k ≤ 3) : accR own mem m k < 8 := by
  match k, hk with
  | 0, _ => simp [accR]
  | 1, _ => exact acc1_lt own m
  | 2, _ => exact acc2_lt own mem m
  | 3, _ => rw [accR_end]; exact rightsN_lt own mem m
theorem accR_yes {own mem : Bool} {m k : Nat} (hk : k < 3) (h : insR own mem k = true) : accR own mem m (k + 1) = accR own mem m k ||| m / 2 ^ (shR k).toNat % 8 := by
  match k, hk with
  | 0, _ => simp only [insR] at h; simp [accR, acc1, h, shR]
  | 1, _ => simp only [insR] at h; simp [accR, acc2, h, shR]
  | 2, _ => simp [accR, shR]
theorem accR_no {own mem : Bool} {m k : Nat} (hk : k < 3) (h : insR own mem k = false) : accR own mem m (k + 1) = accR own mem m k := by
  match k, hk with
  | 0, _ => simp only [insR] at h; simp [accR, acc1, h]
  | 1, _ => simp only [insR] at h; simp [accR, acc2, h]
  | 2, _ => simp [insR] at h
theorem cls_eq (m s r : Nat) (hr : r < 8) : bits .or .u8 (r : Int) ((m : Int) / 2 ^ s % 8) = ((r ||| m / 2 ^ s % 8 : Nat) : Int) := by
  have h1 : ((m : Int) / 2 ^ s) = ((m / 2 ^ s : Nat) : Int) := by
    rw [Int.natCast_ediv, Int.natCast_pow]
    rfl
  rw [h1, show ((m / 2 ^ s : Nat) : Int) % 8 = ((m / 2 ^ s % 8 : Nat) : Int) from rfl, u8_or_nat r _ (by omega) (by omega)]
/-- The document's way. -/
theorem refRights_eq (own mem : Bool) (m : Nat) : rightsN own mem m = (if mem then (if own then m % 8 ||| m / 64 % 8 else m % 8) ||| m / 8 % 8 else (if own then m % 8 ||| m / 64 % 8 else m % 8)) := by
  unfold rightsN
  have key : ∀ a b c : Nat, (a ||| b) ||| c = (c ||| a) ||| b := fun a b c => by rw [Nat.or_comm (a ||| b) c, Nat.or_assoc]
  cases own <;> cases mem
  · simp
  · simp [Nat.or_comm]
  · simp [Nat.or_comm]
  · exact key _ _ _

/-- What opening so needs; or the error. -/
def wantsP (m : Int) : Int × Int :=
  if (bits .andNot .u8 m 83 != 0) = true then (0, 91) else
  (if (bits .and .u8 m 3 == 0) = true then (if (bits .and .u8 m 16 != 0) = true then bits .or .u8 4 2 else 4)
    else if (bits .and .u8 m 3 == 1) = true then (if (bits .and .u8 m 16 != 0) = true then bits .or .u8 2 2 else 2)
    else if (bits .and .u8 m 3 == 2) = true then (if (bits .and .u8 m 16 != 0) = true then bits .or .u8 6 2 else 6)
    else if (bits .and .u8 m 3 == 3) = true then (if (bits .and .u8 m 16 != 0) = true then bits .or .u8 1 2 else 1)
    else (if (bits .and .u8 m 16 != 0) = true then bits .or .u8 0 2 else 0), 0)
/-- The document's. -/
def wantsR (m : Int) : Int × Int :=
  if (bits .andNot .u8 m 83 != 0) = true then (0, 91) else
  (if (m % 4 == 0) = true then (if (bits .and .u8 m 16 != 0) = true then bits .or .u8 4 2 else 4)
    else if (m % 4 == 1) = true then (if (bits .and .u8 m 16 != 0) = true then bits .or .u8 2 2 else 2)
    else if (m % 4 == 2) = true then (if (bits .and .u8 m 16 != 0) = true then bits .or .u8 6 2 else 6)
    else if (m % 4 == 3) = true then (if (bits .and .u8 m 16 != 0) = true then bits .or .u8 1 2 else 1)
    else (if (bits .and .u8 m 16 != 0) = true then bits .or .u8 0 2 else 0), 0)
theorem wants_eq (m : Int) (h0 : 0 ≤ m) (h1 : m < 256) : wantsP m = wantsR m := by
  have key : ∀ i : Fin 256, wantsP ((i.val : Nat) : Int) = wantsR ((i.val : Nat) : Int) := by decide +kernel
  obtain ⟨k, rfl⟩ := Int.eq_ofNat_of_zero_le h0
  exact key ⟨k, by omega⟩

/-- Can a file be made so? -/
def permS (p : Int) : Int :=
  if (bits .andNot .u32 p 3825205759 != 0) = true then 91
  else if (bits .and .u32 p 2147483648 != 0) = true then (if (bits .and .u32 p 1610612736 != 0) = true then 91 else 0) else 0

def stepS (n : Nd) (r : Int) : Int := if isB n.mode 2147483648 = false then 93 else if mayB r 1 = false then 90 else 0

/-- May it be opened so? wp: what the mode wants; r, rp: the rights on the node and on the parent. -/
def openS (n : Nd) (r rp m : Int) (wp : Int × Int) : Int :=
  if (wp.2 != 0) = true then wp.2
  else if (isB n.mode 2147483648 = true ∧ (m != 0) = true) then 92
  else if mayB r wp.1 = false then 90
  else if ((bits .and .u8 m 64 != 0) = true ∧ mayB rp 2 = false) then 90
  else if (isB n.mode 536870912 = true ∧ 0 < n.opens) then 94 else 0

def removeS (n : Nd) (rp : Int) : Int :=
  if ((n.path == 1) = true ∨ mayB rp 2 = false) then 90 else if (isB n.mode 2147483648 = true ∧ 0 < n.kids) then 96 else 0
end Go.Proofs.YtlenlldiimohjaaDoor
