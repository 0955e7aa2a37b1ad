/-
  Layer 6 in plain words: what a table of users is, and what a text of users reads as. No program in sight.
-/
import Derived.Laws.Strings
import Derived.Laws.RangeAny
namespace Go.Proofs.YtlenlldiimohjaaDoor

/-- An account. -/
structure Acct where
  name : ByteArray
  leader : ByteArray
  members : List ByteArray
  key : ByteArray

theorem beq_str (a b : ByteArray) : (a.toList == b.toList) = decide (a = b) := by
  rw [Bool.eq_iff_iff, beq_iff_eq, decide_eq_true_iff, ByteArray.toList_eq, ByteArray.toList_eq]
  constructor
  · intro h
    apply ByteArray.ext
    exact Array.toList_inj.1 h
  · rintro rfl; rfl
theorem beq_str_t {a b : ByteArray} (h : a = b) : (a.toList == b.toList) = true := by rw [beq_str]; exact decide_eq_true h
theorem beq_str_f {a b : ByteArray} (h : ¬ a = b) : (a.toList == b.toList) = false := by rw [beq_str]; exact decide_eq_false h

def ofL (l : List UInt8) : ByteArray := ⟨l.toArray⟩
theorem ofL_toList (s : ByteArray) : ofL s.data.toList = s := by apply ByteArray.ext; simp [ofL]

/-! ### cutting at a byte -/
def cutL (c : UInt8) : List UInt8 → List (List UInt8)
  | [] => [[]]
  | b :: l => if b = c then [] :: cutL c l else match cutL c l with | [] => [[b]] | h :: t => (b :: h) :: t

theorem cutL_none (c : UInt8) : ∀ (l : List UInt8), (∀ x ∈ l, x ≠ c) → cutL c l = [l]
  | [], _ => rfl
  | b :: l, h => by
    rw [cutL, if_neg (h b List.mem_cons_self), cutL_none c l (fun x hx => h x (List.mem_cons_of_mem _ hx))]
theorem cutL_hit (c : UInt8) (rest : List UInt8) : ∀ (l : List UInt8), (∀ x ∈ l, x ≠ c) → cutL c (l ++ c :: rest) = l :: cutL c rest
  | [], _ => by rw [List.nil_append, cutL, if_pos rfl]
  | b :: l, h => by
    rw [List.cons_append, cutL, if_neg (h b List.mem_cons_self), cutL_hit c rest l (fun x hx => h x (List.mem_cons_of_mem _ hx))]

def cut (c : UInt8) (s : ByteArray) : List ByteArray := (cutL c s.data.toList).map ofL

/-! ### characters -/
/-- From place pos on: are all pieces good (by so many pieces)? -/
def goodFrom (s : ByteArray) : Nat → Nat → Bool
  | 0, _ => true
  | f + 1, pos => if pos < s.size then (if (Utf8.decode s pos).1 = 0 ∨ ((Utf8.decode s pos).1 = 65533 ∧ (Utf8.decode s pos).2 = 1) then false else goodFrom s f (pos + (Utf8.decode s pos).2)) else true
def good (s : ByteArray) : Bool := goodFrom s s.size 0

def byteOk (c : UInt8) : Bool := !(decide (c.toNat < 33) || decide (c.toNat = 127) || decide (c.toNat = 58) || decide (c.toNat = 44) || decide (c.toNat = 35) || decide (c.toNat = 47))
def isName (s : ByteArray) : Bool := decide (1 ≤ s.size) && decide (s.size ≤ 32) && good s && s.data.toList.all byteOk
def keyByte (c : UInt8) : Bool := !(decide (c.toNat < 33) || decide (126 < c.toNat) || decide (c.toNat = 58))
def isKey (s : ByteArray) : Bool := decide (s.size ≤ 32) && s.data.toList.all keyByte

def formed (a : Acct) : Bool := isName a.name && (decide (a.leader.size = 0) || isName a.leader) && a.members.all isName && isKey a.key

/-- A line as an account; none: it is none. -/
def account (line : ByteArray) : Option Acct :=
  match cut 58 line with
  | [a, b, c, d] =>
    let x : Acct := { name := a, leader := b, members := if c.size = 0 then [] else cut 44 c, key := d }
    if formed x then some x else none
  | _ => none

def has (l : List ByteArray) (s : ByteArray) : Bool := l.any (fun y => decide (y = s))
/-- Does one of l from place i on stand ahead of itself? -/
def twiceFrom (all : List ByteArray) : List ByteArray → Nat → Bool
  | [], _ => false
  | x :: l, i => has (all.take i) x || twiceFrom all l (i + 1)
def twice (l : List ByteArray) : Bool := twiceFrom l l 0
def findIx (L : List Acct) (s : ByteArray) : Option Nat := L.findIdx? (fun a => decide (a.name = s))
def known (L : List Acct) (s : ByteArray) : Bool := L.any (fun a => decide (a.name = s))
def knows (L : List Acct) (a : Acct) : Bool := (decide (a.leader.size = 0) || known L a.leader) && a.members.all (known L)

def joinL (sep : List UInt8) : List ByteArray → List UInt8
  | [] => []
  | [x] => x.data.toList
  | x :: y :: l => x.data.toList ++ sep ++ joinL sep (y :: l)
def lineL (a : Acct) : List UInt8 := a.name.data.toList ++ [58] ++ a.leader.data.toList ++ [58] ++ joinL [44] a.members ++ [58] ++ a.key.data.toList ++ [10]
def textL (L : List Acct) : List UInt8 := L.flatMap lineL

/-- The lines, one by one: the accounts and their lines' numbers; or the error and the line. -/
def readLines : List ByteArray → Nat → List Acct → List Nat → Except (Int × Nat) (List Acct × List Nat)
  | [], _, L, P => .ok (L, P)
  | l :: rest, i, L, P =>
    if l.size = 0 ∨ l.data.toList.head? = some 35 then readLines rest (i + 1) L P
    else match account l with
      | none => .error (60, i + 1)
      | some a => if known L a.name ∨ twice a.members then .error (61, i + 1) else readLines rest (i + 1) (L ++ [a]) (P ++ [i + 1])

/-- The first account that names somebody who is none. -/
def checkNames (all : List Acct) : List Acct → List Nat → Option Nat
  | a :: L, p :: P => if knows all a then checkNames all L P else some p
  | _, _ => none

def parse (text : ByteArray) : Except (Int × Nat) (List Acct) :=
  if 65536 < text.size then .error (1, 0)
  else match readLines (cut 10 text) 0 [] [] with
    | .error e => .error e
    | .ok (L, P) => match checkNames L L P with
      | some p => .error (62, p)
      | none => if 65536 < (textL L).length then .error (1, 0) else .ok L

/-! ### what a table tells -/
def isMember (L : List Acct) (u g : ByteArray) : Bool := L.any (fun a => decide (a.name = g) && (decide (u = g) || has a.members u))
def leads (L : List Acct) (u g : ByteArray) : Bool :=
  match L.find? (fun a => decide (a.name = g)) with
  | none => false
  | some a => known L u && (if a.leader.size = 0 then isMember L u g else decide (a.leader = u))
def keyOfUser (L : List Acct) (u : ByteArray) : ByteArray := match L.find? (fun a => decide (a.name = u)) with | none => ⟨#[]⟩ | some a => a.key
end Go.Proofs.YtlenlldiimohjaaDoor
